/- The law KeyMany holds of any values, any ways and any bytes of bulk at most 1048576 (each value, letter and way counted each time that it is reached): the values' key; the bytes as such a key. Conditions: the bound on the bulk; and the row's own (the two listed tables of unicode/utf8 read as their initialisers lay them; the card ties them to the program's text). -/
import Derived.Test.YtpjhhkndfmcaoaaDoorKeyMa
import Derived.Test.YtpjhhkndfmcaoaaDoorBulkV
set_option linter.unusedVariables false
set_option linter.unusedSimpArgs false
namespace Go.Proofs.YtpjhhkndfmcaoaaDoor
open Go.RowKit Go.ChangeShapes Go.ChangeAt Go.Shelf Go.WideShapes Go.Deep

theorem kmany_reading (os : Os) {H : Type} (enc : TypeId × Value → H) : ∃ places, DataW.whole enc Tryd.prog ((laidWorld os).forCall (fun _ _ => 0) ⟨#[], #[.slice none 0 0, .slice none 0 0, .slice none 0 0], []⟩).memory Tryd.f4.params.toList Rows.keyManySpec.vars false (#[.slice none 0 0, .slice none 0 0, .slice none 0 0] : Array Value).toList 8 = some ([.nil, .nil, .nil], [], places) :=
  ⟨[], by kernel_rfl⟩

set_option maxRecDepth 100000 in
set_option maxHeartbeats 1600000 in
theorem kmany_lifted (os : Os) (started : os.Started) (H : Type) (enc : TypeId × Value → H) (F : Stop.Interp) :
    ReturnsInHanded {} Tryd.checked os 4 .any ((Rows.OpenSpec.upto Rows.keyManySpec).preRow enc Tryd.prog Tryd.f4 Rows.keyManyUptoRow.domain false Rows.keyManyUptoRow.laid) (((Rows.OpenSpec.upto Rows.keyManySpec).at F).post enc Tryd.prog Tryd.f4 false true false false) := by
  obtain ⟨places, hx⟩ := kmany_reading os enc
  refine returnsInHanded_of_row (C := Tryd.checked) (s := Rows.OpenSpec.upto Rows.keyManySpec) own_ started (by kernel_rfl) Tryd.func4
    (witness_row_atRef (enc := enc) (C := Tryd.checked) false (laidWorld os) #[.slice none 0 0, .slice none 0 0, .slice none 0 0] rfl (by kernel_rfl) (by kernel_rfl) (by kernel_rfl)
      (OpenSpec.preRow_of_cond 8 hx (by kernel_rfl) (fun k hk => by cases hk; kernel_rfl) (by kernel_rfl) (laid_row os _))) ?_
  intro W base args ds gs before hval0 hW _ hcond hsz hL _ _
  have hval : ∀ (j : Nat) t v, Tryd.f4.params[j]? = some t → args[j]? = some v → Value.okWide Tryd.prog W .any base t v := hval0
  have hW' := hW
  obtain ⟨p, q, hA0, hV0, rfl, _, _⟩ := hW
  have hA : DataW.TrodAll enc Tryd.prog W 0 (fun _ => true) true Tryd.f4.params.toList args.toList ds p := hA0
  rw [Tryd.params4] at hA hval
  obtain ⟨v0, v1, v2, d0, d1, d2, p0, p1, p2, rfl, rfl, rfl, h0, h1, h2⟩ := trodAll_three hA
  obtain ⟨rfl, rfl⟩ := trodVars_none hV0
  have hbulk : Rows.uptoBulkAll ([d0, d1, d2] ++ []) ≤ 1048576 := of_decide_eq_true (hcond _ rfl)
  obtain ⟨A00, len0, cap00, rfl⟩ := okWide_slice under_vals (hval 0 24 v0 rfl rfl)
  have h0k := h0
  obtain ⟨fuel0, h0f⟩ := h0
  obtain ⟨A0, cap0, vs0, hv0, hin0, hll0, hvb0⟩ := open_valsB (c := .slice A00 len0 cap00) h0f (fun n hn => by
    have := List.all_eq_true.1 hsz _ (DataW.weights_mem_each (j := 0) (t := 24) (d := d0) (by rw [Tryd.params4]; rfl) rfl n hn)
    simpa using this)
  obtain ⟨A01, len1, cap01, rfl⟩ := okWide_slice under_boolsB (hval 1 42 v1 rfl rfl)
  have h1k := h1
  obtain ⟨fuel1, h1f⟩ := h1
  obtain ⟨A1, cap1, ts1, hv1, hin1, hll1⟩ := open_boolsB (c := .slice A01 len1 cap01) h1f (fun n hn => by
    have := List.all_eq_true.1 hsz _ (DataW.weights_mem_each (j := 1) (t := 42) (d := d1) (by rw [Tryd.params4]; rfl) rfl n hn)
    simpa using this)
  obtain ⟨A02, len2, cap02, rfl⟩ := okWide_slice under_u8s (hval 2 23 v2 rfl rfl)
  have h2k := h2
  obtain ⟨fuel2, h2f⟩ := h2
  obtain ⟨A2, b2, cap2, hv2, hcap2, hl2, hin2⟩ := open_bytes (c := .slice A02 len2 cap02) h2f (fun n hn => by
    have := List.all_eq_true.1 hsz _ (DataW.weights_mem_each (j := 2) (t := 23) (d := d2) (by rw [Tryd.params4]; rfl) rfl n hn)
    simpa using this)
  rw [hv0] at h0k hW' ⊢
  rw [hv1] at h1k hW' ⊢
  rw [hv2] at h2k hW' ⊢
  simp only [List.append_nil, Rows.uptoBulkAll] at hbulk
  have hb22 : b2.length ≤ 1000000 * 1000 := by
    obtain ⟨f, hf⟩ := h2k
    have : b2.length ≤ Rows.uptoBulk d2 := bytes_bulk hf
    omega
  have hbv : ∀ v ∈ vs0, v.formed = true → v.bytes.length ≤ 140737488355328 := fun v hv _ => by
    have : v.bytes.length ≤ 16 * Rows.uptoBulk d0 := hvb0 v hv
    omega
  have hll00 : vs0.length ≤ Rows.uptoBulk d0 := hll0
  have hll11 : ts1.length ≤ Rows.uptoBulk d1 := hll1
  have hlt0 : ∀ x ∈ p0, x.block < W.heap.size := fun x hx => by
    have := hW'.lt x (by simp [hx])
    simpa using this
  have hlt1 : ∀ x ∈ p1, x.block < W.heap.size := fun x hx => by
    have := hW'.lt x (by simp [hx])
    simpa using this
  have hlt2 : ∀ x ∈ p2, x.block < W.heap.size := fun x hx => by
    have := hW'.lt x (by simp [hx])
    simpa using this
  refine (kmany_any vs0 A0 cap0 ts1 A1 cap1 b2 A2 cap2 W (tabs_row hL) hin0 (by omega) hbv hin1 (by omega) hin2 hb22 hcap2).mono ?_
  rintro e W' ⟨rfl, bel⟩
  have e1 : ((Rows.OpenSpec.upto Rows.keyManySpec).at F).fn H ([d0, d1, d2] ++ []) = { results := [.lit (.bool true)], args := [d0, d1, d2] } := rfl
  refine ⟨_, rfl, _, _, _, [], p0 ++ (p1 ++ p2), [], hW', ?_, ?_, ?_, bel.below.frame _, fun h => by cases h⟩
  · rw [e1]; exact trodAll_mk1 (shut_bool Tryd.underlying4 _)
  · rw [e1]; exact trodAll_mk3 (Below.trod laidOut_ (by kernel_rfl) (of_decide_eq_true (by kernel_rfl)) h0k bel.below hlt0) (Below.trod laidOut_ (by kernel_rfl) (of_decide_eq_true (by kernel_rfl)) h1k bel.below hlt1) (Below.trod laidOut_ (by kernel_rfl) (of_decide_eq_true (by kernel_rfl)) h2k bel.below hlt2)
  · rw [e1]; rfl

theorem kmany_said : Rows.KeyManyUptoSaid :=
  OpenClaim.holds_of_cond 4 Tryd.f4 rfl rfl rfl rfl rfl rfl rfl ⟨rfl, rfl, rfl, rfl, rfl⟩ rfl rfl rfl rfl rfl (by kernel_rfl) Tryd.func4 (by kernel_rfl)
    (of_decide_eq_true (by kernel_rfl)) (by unfold Func.isWrapper; first | (rw [if_pos (by decide +kernel)]; kernel_rfl) | (rw [if_neg (by decide +kernel)]; exact ⟨rfl, rfl⟩))
    (fun os started H enc _ F => by rw [OpenClaim.pre_eq_preRow]; exact kmany_lifted os started H enc F)

theorem kmany_plain (f : FuncId) (fn : Func) (hf : Tryd.pinned.checked.prog.funcNamed "muniment/munimentlaw4.KeyMany" = some f) (hfn : Tryd.pinned.checked.prog.funcs[f]? = some fn) :
    true = Tryd.pinned.checked.prog.looks [] ∧ ∀ (j : Nat) t, fn.params[j]? = some t → Tryd.pinned.checked.prog.wantsStandIn t = false := by
  obtain rfl : f = 4 := Option.some.inj ((show Tryd.prog.funcNamed "muniment/munimentlaw4.KeyMany" = some 4 by kernel_rfl).symm.trans hf) |>.symm
  obtain rfl : fn = Tryd.f4 := (Option.some.inj (Tryd.func4.symm.trans hfn)).symm
  refine ⟨by kernel_rfl, fun j t ht => ?_⟩
  rw [Tryd.params4] at ht
  have hm := Array.mem_of_getElem? ht
  have : t = 24 ∨ t = 42 ∨ t = 23 := by simpa using hm
  rcases this with rfl | rfl | rfl
  · exact (show Tryd.prog.wantsStandIn 24 = false by kernel_rfl)
  · exact (show Tryd.prog.wantsStandIn 42 = false by kernel_rfl)
  · exact (show Tryd.prog.wantsStandIn 23 = false by kernel_rfl)

/-- The tied card of KeyMany. -/
theorem kmany_card : Rows.KeyManyUptoCardSaid :=
  Claim7.holds_tied_plain_at .later [] _ _ _ _ kmany_said (fun _ h => by cases h) (by kernel_rfl) (fun _ h => by cases h) keyManyUpto_row_tie rfl ⟨rfl, rfl⟩ (by kernel_rfl) rfl kmany_plain (by kernel_rfl)
end Go.Proofs.YtpjhhkndfmcaoaaDoor
