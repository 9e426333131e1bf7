/- The law KeyBeyond holds of any two byte strings of bulk at most 1048576: After is above all that begin with the bytes, and nothing lies between but these. Conditions: the bound on the bulk; and the row's own (the two listed tables of unicode/utf8 read as their initialisers lay them; the card ties them to the program's text). -/
import Derived.Test.YticgdjnekbobgaaDoorKeyBd
import Derived.Test.YticgdjnekbobgaaDoorOpenV
set_option linter.unusedVariables false
set_option linter.unusedSimpArgs false
namespace Go.Proofs.YticgdjnekbobgaaDoor
open Go.RowKit Go.ChangeShapes Go.ChangeAt Go.Shelf Go.WideShapes Go.Deep

theorem bulk_pos {H : Type} (d : DataW H) : 1 ≤ Rows.uptoBulk d := by
  cases d with
  | lit l => cases l <;> simp [Rows.uptoBulk]
  | _ => simp [Rows.uptoBulk]
theorem bulk_len {H : Type} : ∀ (l : List (DataW H)), l.length ≤ Rows.uptoBulkAll l
  | [] => Nat.zero_le _
  | d :: r => by
    have h1 := bulk_pos d
    have h2 := bulk_len r
    simp only [Rows.uptoBulkAll, List.length_cons]
    omega
/-- A byte slice is no longer than its bulk. -/
theorem bytes_bulk {H : Type} {enc : TypeId × Value → H} {W : World} {sp : Nat → Bool} {held : Bool} {fuel : Nat} {A : Option Addr} {n cap : Nat} {x : DataW H × List MemPlace} (h : DataW.trod enc Tryd.prog W 0 sp held fuel 23 [.slice A n cap] = some x) : n ≤ Rows.uptoBulk x.1 := by
  rcases open_slice1 under_u8s cells_u8 h with ⟨hc, hx⟩ | ⟨a, len, cap', m, nn, V, D, Pl, hc, hb, hl, hm, hmm, hx, hall⟩
  · injection hc with hc
    injection hc with _ hn _
    omega
  · injection hc with hc
    injection hc with _ hn _
    subst hn
    rw [hx]
    have := bulk_len ((List.range n).map D)
    rw [List.length_map, List.length_range] at this
    simp only [Rows.uptoBulk]
    omega

theorem kbeyond_reading (os : Os) {H : Type} (enc : TypeId × Value → H) : ∃ places, DataW.whole enc Tryd.prog ((laidWorld os).forCall (fun _ _ => 0) ⟨#[], #[.slice none 0 0, .slice none 0 0], []⟩).memory Tryd.f9.params.toList Rows.keyBeyondSpec.vars false (#[.slice none 0 0, .slice none 0 0] : Array Value).toList 8 = some ([.nil, .nil], [], places) :=
  ⟨[], by kernel_rfl⟩

set_option maxRecDepth 100000 in
set_option maxHeartbeats 1600000 in
theorem kbeyond_lifted (os : Os) (started : os.Started) (H : Type) (enc : TypeId × Value → H) (F : Stop.Interp) :
    ReturnsInHanded {} Tryd.checked os 9 .any ((Rows.OpenSpec.upto Rows.keyBeyondSpec).preRow enc Tryd.prog Tryd.f9 Rows.keyBeyondUptoRow.domain false Rows.keyBeyondUptoRow.laid) (((Rows.OpenSpec.upto Rows.keyBeyondSpec).at F).post enc Tryd.prog Tryd.f9 false true false false) := by
  obtain ⟨places, hx⟩ := kbeyond_reading os enc
  refine returnsInHanded_of_row (C := Tryd.checked) (s := Rows.OpenSpec.upto Rows.keyBeyondSpec) own_ started (by kernel_rfl) Tryd.func9
    (witness_row_atRef (enc := enc) (C := Tryd.checked) false (laidWorld os) #[.slice none 0 0, .slice none 0 0] rfl (by kernel_rfl) (by kernel_rfl) (by kernel_rfl)
      (OpenSpec.preRow_of_cond 8 hx (by kernel_rfl) (fun k hk => by cases hk; kernel_rfl) (by kernel_rfl) (laid_row os _))) ?_
  intro W base args ds gs before hval0 hW _ hcond hsz hL _ _
  have hval : ∀ (j : Nat) t v, Tryd.f9.params[j]? = some t → args[j]? = some v → Value.okWide Tryd.prog W .any base t v := hval0
  have hW' := hW
  obtain ⟨p, q, hA0, hV0, rfl, _, _⟩ := hW
  have hA : DataW.TrodAll enc Tryd.prog W 0 (fun _ => true) true Tryd.f9.params.toList args.toList ds p := hA0
  rw [Tryd.params9] at hA hval
  obtain ⟨v0, v1, d0, d1, p0, p1, rfl, rfl, rfl, h0, h1⟩ := trodAll_two hA
  obtain ⟨rfl, rfl⟩ := trodVars_none hV0
  have hbulk : Rows.uptoBulkAll ([d0, d1] ++ []) ≤ 1048576 := of_decide_eq_true (hcond _ rfl)
  obtain ⟨A00, len0, cap00, rfl⟩ := okWide_slice under_u8s (hval 0 23 v0 rfl rfl)
  have h0k := h0
  obtain ⟨fuel0, h0f⟩ := h0
  obtain ⟨A0, b0, cap0, hv0, hcap0, hl0, hin0⟩ := open_bytes (c := .slice A00 len0 cap00) h0f (fun n hn => by
    have := List.all_eq_true.1 hsz _ (DataW.weights_mem_each (j := 0) (t := 23) (d := d0) (by rw [Tryd.params9]; rfl) rfl n hn)
    simpa using this)
  obtain ⟨A01, len1, cap01, rfl⟩ := okWide_slice under_u8s (hval 1 23 v1 rfl rfl)
  have h1k := h1
  obtain ⟨fuel1, h1f⟩ := h1
  obtain ⟨A1, b1, cap1, hv1, hcap1, hl1, hin1⟩ := open_bytes (c := .slice A01 len1 cap01) h1f (fun n hn => by
    have := List.all_eq_true.1 hsz _ (DataW.weights_mem_each (j := 1) (t := 23) (d := d1) (by rw [Tryd.params9]; rfl) rfl n hn)
    simpa using this)
  rw [hv0] at h0k hW' ⊢
  rw [hv1] at h1k hW' ⊢
  have hb20 : b0.length ≤ 1000000000 := by
    obtain ⟨f, hf⟩ := h0k
    have : b0.length ≤ Rows.uptoBulk d0 := bytes_bulk hf
    simp only [List.append_nil, Rows.uptoBulkAll] at hbulk
    omega
  have hb21 : b1.length ≤ 1000000000 := by
    obtain ⟨f, hf⟩ := h1k
    have : b1.length ≤ Rows.uptoBulk d1 := bytes_bulk hf
    simp only [List.append_nil, Rows.uptoBulkAll] at hbulk
    omega
  have hlt0 : ∀ x ∈ p0, x.block < W.heap.size := fun x hx => by
    have := hW'.lt x (by simp [hx])
    simpa using this
  have hlt1 : ∀ x ∈ p1, x.block < W.heap.size := fun x hx => by
    have := hW'.lt x (by simp [hx])
    simpa using this
  refine (kbeyond_any b0 A0 cap0 b1 A1 cap1 W (tabs_row hL) hin0 hb20 hcap0 hin1 hb21 hcap1).mono ?_
  rintro e W' ⟨rfl, bel⟩
  have e1 : ((Rows.OpenSpec.upto Rows.keyBeyondSpec).at F).fn H ([d0, d1] ++ []) = { results := [.lit (.bool true)], args := [d0, d1] } := rfl
  refine ⟨_, rfl, _, _, _, [], p0 ++ p1, [], hW', ?_, ?_, ?_, bel.below.frame _, fun h => by cases h⟩
  · rw [e1]; exact trodAll_mk1 (shut_bool Tryd.underlying4 _)
  · rw [e1]; exact trodAll_mk2 (Below.trod laidOut_ (by kernel_rfl) (of_decide_eq_true (by kernel_rfl)) h0k bel.below hlt0) (Below.trod laidOut_ (by kernel_rfl) (of_decide_eq_true (by kernel_rfl)) h1k bel.below hlt1)
  · rw [e1]; rfl

theorem kbeyond_said : Rows.KeyBeyondUptoSaid :=
  OpenClaim.holds_of_cond 9 Tryd.f9 rfl rfl rfl rfl rfl rfl rfl ⟨rfl, rfl, rfl, rfl, rfl⟩ rfl rfl rfl rfl rfl (by kernel_rfl) Tryd.func9 (by kernel_rfl)
    (of_decide_eq_true (by kernel_rfl)) (by unfold Func.isWrapper; first | (rw [if_pos (by decide +kernel)]; kernel_rfl) | (rw [if_neg (by decide +kernel)]; exact ⟨rfl, rfl⟩))
    (fun os started H enc _ F => by rw [OpenClaim.pre_eq_preRow]; exact kbeyond_lifted os started H enc F)

theorem kbeyond_plain (f : FuncId) (fn : Func) (hf : Tryd.pinned.checked.prog.funcNamed "muniment/munimentlaw4.KeyBeyond" = some f) (hfn : Tryd.pinned.checked.prog.funcs[f]? = some fn) :
    true = Tryd.pinned.checked.prog.looks [] ∧ ∀ (j : Nat) t, fn.params[j]? = some t → Tryd.pinned.checked.prog.wantsStandIn t = false := by
  obtain rfl : f = 9 := Option.some.inj ((show Tryd.prog.funcNamed "muniment/munimentlaw4.KeyBeyond" = some 9 by kernel_rfl).symm.trans hf) |>.symm
  obtain rfl : fn = Tryd.f9 := (Option.some.inj (Tryd.func9.symm.trans hfn)).symm
  refine ⟨by kernel_rfl, fun j t ht => ?_⟩
  rw [Tryd.params9] at ht
  have hm := Array.mem_of_getElem? ht
  have : t = 23 := by simpa using hm
  subst this
  exact (show Tryd.prog.wantsStandIn 23 = false by kernel_rfl)

/-- The tied card of KeyBeyond. -/
theorem kbeyond_card : Rows.KeyBeyondUptoCardSaid :=
  Claim7.holds_tied_plain_at .later [] _ _ _ _ kbeyond_said (fun _ h => by cases h) (by kernel_rfl) (fun _ h => by cases h) keyBeyondUpto_row_tie rfl ⟨rfl, rfl⟩ (by kernel_rfl) rfl kbeyond_plain (by kernel_rfl)
end Go.Proofs.YticgdjnekbobgaaDoor
