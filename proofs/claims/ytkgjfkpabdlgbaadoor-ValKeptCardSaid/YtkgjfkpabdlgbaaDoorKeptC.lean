/- The law ValKept holds of every value and byte string that comes in: bytes and values that are handed in stay, and what is told is new memory: writing into it changes nothing else. Conditions: the row's own (the two listed tables of unicode/utf8 read as their initialisers lay them; the card ties them to the program's text). -/
import Derived.Test.YtkgjfkpabdlgbaaDoorKeptL
import Derived.Test.YtkgjfkpabdlgbaaDoorBackC
set_option linter.unusedVariables false
set_option linter.unusedSimpArgs false
namespace Go.Proofs.YtkgjfkpabdlgbaaDoor
open Go.RowKit Go.ChangeShapes Go.ChangeAt Go.Shelf Go.WideShapes Go.Deep

section
variable {H : Type} {enc : TypeId × Value → H} {W : World} {sp : Nat → Bool} {held : Bool}
theorem open_bytes_le {fuel : Nat} {c : Value} {x : DataW H × List MemPlace} (h : DataW.trod enc Tryd.prog W 0 sp held fuel 22 [c] = some x) (hw : ∀ n ∈ x.1.weights Tryd.prog 22, n ≤ reachBytes) :
    ∃ A b cap, c = .slice A b.length cap ∧ b.length ≤ cap ∧ b.length ≤ 140737488351232 ∧ InB W A b := by
  rcases open_slice1 under_u8s cells_u8 h with ⟨hc, hx⟩ | ⟨a, len, cap, m, n, V, D, Pl, hc, hb, hl, hm, hmm, hx, hall⟩
  · injection hc with hc
    subst hc
    exact ⟨none, [], 0, rfl, by simp, by simp, ⟨by simp [u8s], fun h => by simp at h⟩⟩
  · injection hc with hc
    have hmlen : len ≤ m := by rw [hmm]; split <;> omega
    have hV : ∀ i, i < len → ∃ y : UInt8, V i = .int .u8 (y.toNat : Int) := fun i hi => by
      obtain ⟨h1, h2⟩ := hall i (by omega)
      obtain ⟨n', hn, hx', hwf⟩ := DataW.trod_int under_u8 h2
      injection hn with hn
      have hr : 0 ≤ n' ∧ n' < 256 := by
        have h3 : (decide (IntKind.u8.min ≤ n') && decide (n' ≤ IntKind.u8.max)) = true := hwf
        rw [Bool.and_eq_true, decide_eq_true_eq, decide_eq_true_eq] at h3
        have e1 : IntKind.u8.min = 0 := rfl
        have e2 : IntKind.u8.max = 255 := rfl
        rw [e1, e2] at h3
        omega
      refine ⟨UInt8.ofNat n'.toNat, ?_⟩
      rw [hn, UInt8.toNat_ofNat']
      congr 1
      omega
    let y : Nat → UInt8 := fun i => if h : i < len then Classical.choose (hV i h) else 0
    have hy : ∀ i, i < len → V i = .int .u8 ((y i).toNat : Int) := fun i hi => by
      show V i = .int .u8 ((if h : i < len then Classical.choose (hV i h) else 0 : UInt8).toNat : Int)
      rw [dif_pos hi]
      exact Classical.choose_spec (hV i hi)
    have hlb : ((List.range len).map y).length = len := by simp
    have hwt : len ≤ reachBytes := by
      have := hw ((len + (m - len)) * 1) (by rw [hx]; simp [DataW.weights, bytes_u8])
      omega
    have hreach : reachBytes = 140737488351232 := rfl
    refine ⟨some a, (List.range len).map y, cap, by rw [hlb]; exact hc, by rw [hlb]; exact hl, by rw [hlb]; omega, ⟨by rw [u8s_length, Nat.mul_one], fun hn => ?_⟩⟩
    rw [hlb] at hn
    have h0 := (hall 0 (by omega)).1
    rw [addr_add_zero] at h0
    have ha := spot_of_cell h0
    refine ⟨a.block, a.off, by rw [← ha], fun j u hu => ?_⟩
    have hj : j < len := by
      have := (List.getElem?_eq_some_iff.1 hu).1
      rwa [u8s_length, hlb] at this
    have hcell := (hall j (by omega)).1
    rw [ha, add_lit] at hcell
    rw [u8s_get _ j (by rw [hlb]; exact hj)] at hu
    injection hu with hu
    subst hu
    refine ⟨?_, Nat.zero_le _, (show a.block < W.heap.size from World.block_lt_of_cell? W _ h0)⟩
    rw [hcell, hy j hj]
    simp
end

theorem kept_reading (os : Os) {H : Type} (enc : TypeId × Value → H) : ∃ places, DataW.whole enc Tryd.prog ((laidWorld os).forCall (fun _ _ => 0) ⟨#[], #[Cv.zero.agg, .slice none 0 0], []⟩).memory Tryd.f5.params.toList Rows.valKeptSpec.vars false #[Cv.zero.agg, Value.slice none 0 0].toList 8 = some ([zeroD, .nil], [], places) :=
  ⟨[], by kernel_rfl⟩

set_option maxRecDepth 100000 in
set_option maxHeartbeats 1600000 in
theorem kept_lifted (os : Os) (started : os.Started) (H : Type) (enc : TypeId × Value → H) (F : Stop.Interp) :
    ReturnsInHanded {} Tryd.checked os 5 .any ((OpenSpec.ofChange Rows.valKeptSpec).preRow enc Tryd.prog Tryd.f5 Rows.valKeptRow.domain false Rows.valKeptRow.laid) (((OpenSpec.ofChange Rows.valKeptSpec).at F).post enc Tryd.prog Tryd.f5 false true false false) := by
  obtain ⟨places, hx⟩ := kept_reading os enc
  refine returnsInHanded_of_row (C := Tryd.checked) (s := OpenSpec.ofChange Rows.valKeptSpec) own_ started (by kernel_rfl) Tryd.func5
    (witness_row_atRef (enc := enc) (C := Tryd.checked) false (laidWorld os) #[Cv.zero.agg, .slice none 0 0] rfl (by kernel_rfl) (by kernel_rfl) (by kernel_rfl)
      (OpenSpec.preRow_of_cond 8 hx (by kernel_rfl) (fun k hk => by cases hk) (by kernel_rfl) (laid_row os _))) ?_
  intro W base args ds gs before hval0 hW _ _ hsz hL _ _
  have hval : ∀ (j : Nat) t v, Tryd.f5.params[j]? = some t → args[j]? = some v → Value.okWide Tryd.prog W .any base t v := hval0
  have hW' := hW
  obtain ⟨p, q, hA0, hV0, rfl, _, _⟩ := hW
  have hA : DataW.TrodAll enc Tryd.prog W 0 (fun _ => true) true Tryd.f5.params.toList args.toList ds p := hA0
  rw [Tryd.params5] at hA hval
  obtain ⟨v0, v1, d0, d1, p0, p1, rfl, rfl, rfl, h0, h1⟩ := trodAll_two hA
  obtain ⟨rfl, rfl⟩ := trodVars_none hV0
  obtain ⟨x, c, rfl, hin0⟩ := open_arg (hval 0 27 v0 rfl rfl) h0 (fun n hn => by
    have := List.all_eq_true.1 hsz _ (DataW.weights_mem_each (j := 0) (t := 27) (d := d0) (by rw [Tryd.params5]; rfl) rfl n hn)
    simpa using this)
  obtain ⟨A0, len, cap0, rfl⟩ := okWide_slice under_u8s (hval 1 22 v1 rfl rfl)
  have h1k := h1
  obtain ⟨fuel, h1f⟩ := h1
  obtain ⟨A, b, cap, hv, hcap, hl, hin⟩ := open_bytes_le (c := .slice A0 len cap0) h1f (fun n hn => by
    have := List.all_eq_true.1 hsz _ (DataW.weights_mem_each (j := 1) (t := 22) (d := d1) (by rw [Tryd.params5]; rfl) rfl n hn)
    simpa using this)
  rw [hv] at h1k hW' ⊢
  have hlt0 : ∀ x ∈ p0, x.block < W.heap.size := fun x hx => by
    have := hW'.lt x (by simp [hx])
    simpa using this
  have hlt1 : ∀ x ∈ p1, x.block < W.heap.size := fun x hx => by
    have := hW'.lt x (by simp [hx])
    simpa using this
  refine (kept_any x c b A cap W (tabs_row hL) hin0 hin (by omega) hcap).mono ?_
  rintro e W' ⟨rfl, bel⟩
  have e1 : ((OpenSpec.ofChange Rows.valKeptSpec).at F).fn H ([d0, d1] ++ []) = { results := [.lit (.bool true)], args := [d0, d1] } := rfl
  refine ⟨_, rfl, _, _, _, [], p0 ++ p1, [], hW', ?_, ?_, ?_, bel.below.frame _, fun h => by cases h⟩
  · rw [e1]; exact trodAll_mk1 (shut_bool Tryd.underlying4 _)
  · rw [e1]; exact trodAll_mk2 (Below.trod laidOut_ (by kernel_rfl) (of_decide_eq_true (by kernel_rfl)) h0 bel.below hlt0) (Below.trod laidOut_ (by kernel_rfl) (of_decide_eq_true (by kernel_rfl)) h1k bel.below hlt1)
  · rw [e1]; rfl

theorem kept_said : Rows.ValKeptSaid :=
  OpenClaim.holds_of_cond 5 Tryd.f5 rfl rfl rfl rfl rfl rfl rfl ⟨rfl, rfl, rfl, rfl, rfl⟩ rfl rfl rfl rfl rfl (by kernel_rfl) Tryd.func5 (by kernel_rfl)
    (of_decide_eq_true (by kernel_rfl)) (by unfold Func.isWrapper; first | (rw [if_pos (by decide +kernel)]; kernel_rfl) | (rw [if_neg (by decide +kernel)]; exact ⟨rfl, rfl⟩))
    (fun os started H enc _ F => by rw [OpenClaim.pre_eq_preRow]; exact kept_lifted os started H enc F)

theorem kept_plain (f : FuncId) (fn : Func) (hf : Tryd.pinned.checked.prog.funcNamed "muniment/munimentlaw2.ValKept" = some f) (hfn : Tryd.pinned.checked.prog.funcs[f]? = some fn) :
    true = Tryd.pinned.checked.prog.looks [] ∧ ∀ (j : Nat) t, fn.params[j]? = some t → Tryd.pinned.checked.prog.wantsStandIn t = false := by
  obtain rfl : f = 5 := Option.some.inj ((show Tryd.prog.funcNamed "muniment/munimentlaw2.ValKept" = some 5 by kernel_rfl).symm.trans hf) |>.symm
  obtain rfl : fn = Tryd.f5 := (Option.some.inj (Tryd.func5.symm.trans hfn)).symm
  refine ⟨by kernel_rfl, fun j t ht => ?_⟩
  rw [Tryd.params5] at ht
  have hm := Array.mem_of_getElem? ht
  have : t = 27 ∨ t = 22 := by simpa using hm
  rcases this with rfl | rfl
  · exact (show Tryd.prog.wantsStandIn 27 = false by kernel_rfl)
  · exact (show Tryd.prog.wantsStandIn 22 = false by kernel_rfl)

/-- The tied card of ValKept. -/
theorem kept_card : Rows.ValKeptCardSaid :=
  Claim7.holds_tied_plain_at .later [] _ _ _ _ kept_said (fun _ h => by cases h) (by kernel_rfl) (fun _ h => by cases h) valKept_row_tie rfl ⟨rfl, rfl⟩ (by kernel_rfl) rfl kept_plain (by kernel_rfl)
end Go.Proofs.YtkgjfkpabdlgbaaDoor
