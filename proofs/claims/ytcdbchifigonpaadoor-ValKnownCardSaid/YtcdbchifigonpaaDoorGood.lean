/- Walks: Good, Size, Put of the program. -/
import Derived.Test.YtcdbchifigonpaaDoorFormed
import Derived.Test.YtcdbchifigonpaaDoorVals
import Derived.Test.YtcdbchifigonpaaDoorRefs
namespace Go.Proofs.YtcdbchifigonpaaDoor
open Go.RowKit Go.Shelf

theorem sum_le_mul {α : Type} (l : List α) (p q : α → Nat) (m : Nat) (h : ∀ x ∈ l, p x ≤ q x * m) : (l.map p).sum ≤ (l.map q).sum * m := by
  induction l with
  | nil => simp
  | cons x xs ih =>
    have h1 := h x (by simp)
    have h2 := ih (fun y hy => h y (by simp [hy]))
    simp only [List.map_cons, List.sum_cons, Nat.add_mul]
    omega
theorem foldl_max_sum {α : Type} (l : List α) (p q : α → Nat) (a : Nat) (h : ∀ x ∈ l, p x ≤ q x) : (l.map p).foldl max a ≤ a + (l.map q).sum := by
  induction l generalizing a with
  | nil => simp
  | cons x xs ih =>
    have h1 := h x (by simp)
    have h2 := ih (max a (p x)) (fun y hy => h y (by simp [hy]))
    simp only [List.map_cons, List.foldl_cons, List.sum_cons]
    omega
theorem V.most_over (k : Int) (n : Nat) (b : List UInt8) (l : List V) (f : List (ByteArray × V)) (m : Nat) : (V.mk k n b l f).most ≤ m ↔ l.length ≤ m ∧ f.length ≤ m ∧ (∀ x ∈ l, x.most ≤ m) ∧ ∀ x ∈ f, x.2.most ≤ m := by
  rw [V.most_mk, foldl_max_le, foldl_max_le]
  simp only [List.mem_map, forall_exists_index, and_imp, forall_apply_eq_imp_iff₂]
  constructor
  · rintro ⟨⟨h1, h2⟩, h3⟩; exact ⟨by omega, by omega, h2, h3⟩
  · rintro ⟨h1, h2, h3, h4⟩; exact ⟨⟨by omega, h3⟩, h4⟩
theorem V.depth_le (v : V) : v.depth ≤ v.count := by
  induction v using V.ind with
  | h k n b l f hl hf =>
    rw [V.depth_mk, V.count_mk]
    have h1 := foldl_max_sum l V.depth V.count 0 hl
    have h2 := foldl_max_sum f (fun x => x.2.depth) (fun x => x.2.count) ((l.map V.depth).foldl max 0) hf
    split <;> omega
theorem V.bytes_le (v : V) : ∀ (w : World) (c : Cv), v.formed = true → In w v c → v.bytes.length + 34 ≤ v.count * 140737488355372 := by
  induction v using V.ind with
  | h k n b l f hl hf =>
    intro w c hfm hv
    have hv' := hv
    obtain ⟨aB, aL, aF, cB, cL, cF, hc, h1, h2, h3, h4, h5, h6, h7, h8, h9, hb⟩ := hv'.open
    have hfm' := hfm
    rw [V.formed_mk] at hfm'
    simp only [Bool.and_eq_true, List.all_eq_true] at hfm'
    obtain ⟨⟨⟨_, hfl⟩, hff⟩, _⟩ := hfm'
    have hl' : ∀ x ∈ l, x.bytes.length ≤ x.count * 140737488355372 := fun x hx => by
      obtain ⟨i, hi, rfl⟩ := List.mem_iff_getElem.1 hx
      obtain ⟨bk, o, y, _, _, _, _, _, _, _, hy⟩ := hv.elemL i hi
      have := hl _ hx w y (hfl _ hx) hy
      omega
    have hf' : ∀ x ∈ f, (V.item x.1 x.2.bytes).length ≤ x.2.count * 140737488355372 := fun x hx => by
      have hx0 := hx
      obtain ⟨i, hi, rfl⟩ := List.mem_iff_getElem.1 hx
      obtain ⟨bk, o, y, _, _, _, _, _, _, _, _, _, hy⟩ := hv.elemF i hi
      have := hf _ hx0 w y (hff _ hx0).2 hy
      have hn := (hff _ hx0).1
      simp only [V.name, Bool.and_eq_true, decide_eq_true_eq] at hn
      rw [V.item_length]
      omega
    have sl := sum_le_mul l (fun x => x.bytes.length) V.count 140737488355372 hl'
    have sf := sum_le_mul f (fun x => (V.item x.1 x.2.bytes).length) (fun x => x.2.count) 140737488355372 hf'
    have hcm : (V.mk k n b l f).count * 140737488355372 = 140737488355372 + (l.map V.count).sum * 140737488355372 + (f.map fun x => x.2.count).sum * 140737488355372 := by
      rw [V.count_mk, Nat.add_mul, Nat.add_mul, Nat.one_mul]
    rw [hcm]
    clear hcm
    rcases V.formed_cases hfm with h | ⟨_, _, h⟩ | ⟨_, h⟩ | ⟨_, h⟩ | ⟨_, _, h⟩ | ⟨_, h⟩ | ⟨l', hl', h⟩ | ⟨f', hf', hnd, h⟩
    case inr.inr.inr.inr.inr.inr.inl =>
      cases h
      rw [V.bytes_list, List.length_cons, List.length_cons, List.length_flatten, List.map_map]
      have : (l.map (List.length ∘ V.bytes)).sum = (l.map fun x => x.bytes.length).sum := rfl
      omega
    case inr.inr.inr.inr.inr.inr.inr =>
      cases h
      rw [V.bytes_doc, List.length_cons, List.length_cons, List.length_flatten, List.map_map]
      have : (f.map (List.length ∘ fun x => V.item x.1 x.2.bytes)).sum = (f.map fun x => (V.item x.1 x.2.bytes).length).sum := rfl
      omega
    all_goals
      cases h
      rw [V.bytes_mk]
      simp [toLe]
      try omega
theorem V.bytes_le62 {v : V} {w : World} {c : Cv} (hfm : v.formed = true) (hv : In w v c) (hc : v.count ≤ 20000) : v.bytes.length ≤ 4611686018427387904 := by
  have h1 := V.bytes_le v w c hfm hv
  have h2 : v.count * 140737488355372 ≤ 20000 * 140737488355372 := Nat.mul_le_mul_right _ hc
  omega
theorem V.depth_le40 {v : V} (hc : v.count ≤ 20000) : v.depth ≤ 1099511627776 := by
  have := V.depth_le v
  omega

/-- A value whose depth and bytes fit. -/
def V.mild (v : V) : Prop := v.depth ≤ 1099511627776 ∧ (v.formed = true → v.bytes.length ≤ 4611686018427387904)
theorem V.mild_of {v : V} {w : World} {c : Cv} (hc : v.count ≤ 20000) (hv : In w v c) : v.mild := ⟨V.depth_le40 hc, fun hf => V.bytes_le62 hf hv hc⟩

set_option maxHeartbeats 800000 in
theorem good_anyM (v : V) (w : World) (c : Cv) (hm : v.mild) (hT : Tabs w) (hv : In w v c) :
    Calls Tryd.prog 30 #[c.agg] w fun e w' => e = .returned (.int .i64 v.good) ∧ Grow w w' := by
  have HT := hide hT
  have HV := hide hv
  obtain ⟨ANS, hANS⟩ : ∃ A, v.good = A := ⟨_, rfl⟩
  rw [hANS]
  have HA := hide hANS
  clear hT hv hANS
  go_enter Tryd.func30, Tryd.ntmps30
  go_wp2_with fail
  have HB0 := hide (Blk.new w 37 c.cells)
  have HG0 := hide ((Grow.refl w).alloc (.cells c.cells 37))
  refine (formed_any v _ c (HT.out.grow HG0.out) (HV.out.grow HG0.out)).mono ?_
  rintro e w1 ⟨rfl, hg1⟩
  have hB1 := HB0.out.grow hg1
  have hc := hB1.cell
  have hBl := hB1.lt
  have HB1 := hide hB1
  have HG1 := hide (HG0.out.trans hg1)
  clear hg1 hB1
  obtain ⟨R, hR⟩ : ∃ R, v.formed = R := ⟨_, rfl⟩
  rw [hR]
  have HR := hide hR
  clear hR
  cases R
  · go_wp2_with fail
    go_ret
    exact ⟨ret_int (by rw [← HA.out, V.good, if_pos HR.out]), HG1.out⟩
  obtain ⟨M, hM⟩ : ∃ M, v.most = M := ⟨_, rfl⟩
  have HM := hide hM
  go_wp2_with fail
  refine (most_any v _ c (HV.out.grow HG1.out)).mono ?_
  rintro e w2 ⟨rfl, hg2⟩
  have hB2 := HB1.out.grow hg2
  have hc := hB2.cell
  have hBl := hB2.lt
  have HB2 := hide hB2
  have HG2 := hide (HG1.out.trans hg2)
  clear hg2 hB2
  rw [hM]
  clear hM
  by_cases m1 : 64 < M
  · go_wp2_with fail
    go_ret
    exact ⟨ret_int (by rw [← HA.out, V.good, if_neg (by rw [HR.out]; decide), if_pos (by rw [HM.out]; exact m1)]), HG2.out⟩
  obtain ⟨D, hD⟩ : ∃ D, v.depth = D := ⟨_, rfl⟩
  have HD := hide hD
  go_wp2_with fail
  refine (depth_any v _ c HR.out hm.1 (HV.out.grow HG2.out)).mono ?_
  rintro e w3 ⟨rfl, hg3⟩
  have hB3 := HB2.out.grow hg3
  have hc := hB3.cell
  have hBl := hB3.lt
  have HB3 := hide hB3
  have HG3 := hide (HG2.out.trans hg3)
  clear hg3 hB3
  rw [hD]
  clear hD
  by_cases d1 : 16 < D
  · go_wp2_with fail
    go_ret
    exact ⟨ret_int (by rw [← HA.out, V.good, if_neg (by rw [HR.out]; decide), if_neg (by rw [HM.out]; exact m1), if_pos (by rw [HD.out]; exact d1)]), HG3.out⟩
  obtain ⟨S, hS⟩ : ∃ S, v.bytes.length = S := ⟨_, rfl⟩
  have HS := hide hS
  go_wp2_with fail
  refine (size_any v _ c HR.out (hm.2 HR.out) (HV.out.grow HG3.out)).mono ?_
  rintro e w4 ⟨rfl, hg4⟩
  have hB4 := HB3.out.grow hg4
  have hc := hB4.cell
  have hBl := hB4.lt
  have HB4 := hide hB4
  have HG4 := hide (HG3.out.trans hg4)
  clear hg4 hB4
  rw [hS]
  clear hS
  by_cases s1 : 4096 < S
  · go_wp2_with fail
    go_ret
    exact ⟨ret_int (by rw [← HA.out, V.good, if_neg (by rw [HR.out]; decide), if_neg (by rw [HM.out]; exact m1), if_neg (by rw [HD.out]; exact d1), if_pos (by rw [HS.out]; exact s1)]), HG4.out⟩
  · go_wp2_with fail
    go_ret
    exact ⟨ret_int (by rw [← HA.out, V.good, if_neg (by rw [HR.out]; decide), if_neg (by rw [HM.out]; exact m1), if_neg (by rw [HD.out]; exact d1), if_neg (by rw [HS.out]; exact s1)]), HG4.out⟩

theorem V.good_formed {v : V} (h : v.good = 0) : v.formed = true ∧ v.bytes.length ≤ 4096 := by
  unfold V.good at h
  cases hf : v.formed
  · rw [hf] at h; simp at h
  · rw [hf] at h
    refine ⟨rfl, ?_⟩
    simp only [Bool.true_eq_false, if_false] at h
    split at h
    · omega
    · split at h
      · omega
      · split at h <;> omega

theorem ret_ii {p q : IntKind} {a b c d : Int} (h : a = b) (h' : c = d) : Ending.returned (.tuple #[.int p a, .int q c]) = .returned (.tuple #[.int p b, .int q d]) := by rw [h, h']
theorem ret_vi {q : IntKind} {u v : Value} {c d : Int} (h : u = v) (h' : c = d) : Ending.returned (.tuple #[u, .int q c]) = .returned (.tuple #[v, .int q d]) := by rw [h, h']
theorem good_any (v : V) (w : World) (c : Cv) (hcount : v.count ≤ 20000) (hT : Tabs w) (hv : In w v c) :
    Calls Tryd.prog 30 #[c.agg] w fun e w' => e = .returned (.int .i64 v.good) ∧ Grow w w' := good_anyM v w c (V.mild_of hcount hv) hT hv


set_option maxHeartbeats 800000 in
theorem size_top (v : V) (w : World) (c : Cv) (hcount : v.count ≤ 20000) (hT : Tabs w) (hv : In w v c) :
    Calls Tryd.prog 14 #[c.agg] w fun e w' => e = .returned (.tuple #[.int .i64 (if v.good = 0 then (v.bytes.length : Int) else 0), .int .i64 v.good]) ∧ Grow w w' := by
  have HT := hide hT
  have HV := hide hv
  obtain ⟨G, hG⟩ : ∃ G, v.good = G := ⟨_, rfl⟩
  rw [hG]
  have HG := hide hG
  clear hT hv hG
  go_enter Tryd.func14, Tryd.ntmps14
  go_wp2_with fail
  have HB0 := hide (Blk.new w 37 c.cells)
  have HG0 := hide ((Grow.refl w).alloc (.cells c.cells 37))
  refine (good_any v _ c hcount (HT.out.grow HG0.out) (HV.out.grow HG0.out)).mono ?_
  rintro e w1 ⟨rfl, hg1⟩
  have hB1 := HB0.out.grow hg1
  have hc := hB1.cell
  have hBl := hB1.lt
  have HB1 := hide hB1
  have HG1 := hide (HG0.out.trans hg1)
  clear hg1 hB1
  rw [HG.out]
  by_cases g0 : G = 0
  · subst g0
    obtain ⟨S, hS⟩ : ∃ S, v.bytes.length = S := ⟨_, rfl⟩
    have HS := hide hS
    go_wp2_with fail
    refine (size_any v _ c (V.good_formed HG.out).1 (by have := (V.good_formed HG.out).2; omega) (HV.out.grow HG1.out)).mono ?_
    rintro e w2 ⟨rfl, hg2⟩
    have hB2 := HB1.out.grow hg2
    have hc := hB2.cell
    have hBl := hB2.lt
    have HB2 := hide hB2
    have HG2 := hide (HG1.out.trans hg2)
    clear hg2 hB2
    rw [hS]
    clear hS
    go_wp2_with fail
    go_ret2
    exact ⟨ret_ii (by rw [HS.out]) rfl, HG2.out⟩
  · have g0b : (G != 0) = true := by simpa using g0
    go_wp2_with fail
    go_ret2
    exact ⟨ret_ii rfl rfl, HG1.out⟩


theorem make_u8 (S : Nat) (hS : S ≤ 140737488355328) : ∃ cur : Array Value, cur.size = S ∧ ∀ w : World, (Instr.makeSlice 23 (.int .i64 0) (.int .i64 (S : Int))).run Tryd.prog w = .ok (.slice (some ⟨w.heap.size, 0, none⟩) 0 S) (w.alloc (.cells cur 5)) := by
  obtain ⟨i0, hi0, hz0, hz1, hz2⟩ := info_parts info_u8
  refine ⟨madeCells (Value.int .u8 0).cells (S * i0.size), ?_, fun w => ?_⟩
  · rw [hz1]; simp [madeCells]
  · have h := run_make (P := Tryd.prog) (w := w) 23 5 i0 (.int .u8 0) under_u8s hi0 hz0 .i64 .i64 0 (S : Int) (by omega) (by omega) (by rw [hz2]; omega) (by omega)
    exact h

/-- What Put tells of a good value: its bytes, in new memory. -/
def PutC (w : World) (v : V) (e : Ending) (w' : World) : Prop :=
  ∃ base A c, e = .returned (.tuple #[.slice A v.bytes.length c, .int .i64 0]) ∧ w.heap.size ≤ base ∧ Row w' base (.slice A v.bytes.length c) v.bytes.length v.bytes ∧ Grow w w'
theorem put_bad (v : V) (w : World) (c : Cv) (hcount : v.count ≤ 20000) (hT : Tabs w) (hv : In w v c) (g0 : v.good ≠ 0) :
    Calls Tryd.prog 19 #[c.agg] w fun e w' => e = .returned (.tuple #[.slice none 0 0, .int .i64 v.good]) ∧ Grow w w' := by
  have HT := hide hT
  have HV := hide hv
  obtain ⟨G, hG⟩ : ∃ G, v.good = G := ⟨_, rfl⟩
  rw [hG] at g0 ⊢
  have HG := hide hG
  clear hT hv hG
  have g0b : (G != 0) = true := by simpa using g0
  go_enter Tryd.func19, Tryd.ntmps19
  go_wp2_with fail
  have HG0 := hide ((Grow.refl w).alloc (.cells c.cells 37))
  refine (good_any v _ c hcount (HT.out.grow HG0.out) (HV.out.grow HG0.out)).mono ?_
  rintro e w1 ⟨rfl, hg1⟩
  have HG1 := hide (HG0.out.trans hg1)
  rw [HG.out]
  clear hg1
  go_wp2_with fail
  go_ret2
  exact ⟨rfl, HG1.out⟩
set_option maxRecDepth 100000 in
set_option maxHeartbeats 1600000 in
theorem put_good (v : V) (w : World) (c : Cv) (hcount : v.count ≤ 20000) (hT : Tabs w) (hv : In w v c) (g0 : v.good = 0) :
    Calls Tryd.prog 19 #[c.agg] w (PutC w v) := by
  have HT := hide hT
  have HV := hide hv
  have HG := hide g0
  obtain ⟨hfm, hlen⟩ := V.good_formed g0
  have HF := hide hfm
  clear hT hv g0 hfm
  go_enter Tryd.func19, Tryd.ntmps19
  go_wp2_with fail
  have HB0 := hide (Blk.new w 37 c.cells)
  have HG0 := hide ((Grow.refl w).alloc (.cells c.cells 37))
  refine (good_any v _ c hcount (HT.out.grow HG0.out) (HV.out.grow HG0.out)).mono ?_
  rintro e w1 ⟨rfl, hg1⟩
  have hB1 := HB0.out.grow hg1
  have hc := hB1.cell
  have hBl := hB1.lt
  have HB1 := hide hB1
  have HG1 := hide (HG0.out.trans hg1)
  clear hg1 hB1
  rw [HG.out]
  go_wp2_with fail
  obtain ⟨S, hS⟩ : ∃ S, v.bytes.length = S := ⟨_, rfl⟩
  have HS := hide hS
  rw [hS] at hlen
  clear hS
  obtain ⟨cur, hcur, hmk⟩ := make_u8 S (by omega)
  go_region_held3 (fun w' => ∀ b o, b < w1.heap.size → w'.cell? ⟨b, o, none⟩ = w1.cell? ⟨b, o, none⟩) (first | (exact fun _ _ _ => rfl) | (exact fun b o h => hgr.below.cell (p := ⟨b, o, none⟩) h) | (exact fun b o h => (hgr.alloc _).below.cell (p := ⟨b, o, none⟩) h) | (exact fun b o h => hgr3.below.cell (p := ⟨b, o, none⟩) h))
    (first | (go_at_call 39; refine (size_any v _ c HF.out (by rw [HS.out]; omega) (HV.out.grow HG1.out.drew)).mono ?_; rintro e w2 ⟨rfl, hb2⟩; rw [HS.out]; have hgr : Grow w1 w2 := (Grow.refl w1).drew.trans hb2) | (go_at_call 44; refine (laid_any v HF.out (w2.alloc (.cells cur 5)) c w2.heap.size (some ⟨w2.heap.size, 0, none⟩) S 0 [] ((HV.out.grow (HG1.out.trans hgr)).under.below ((Grow.refl w2).alloc _) (Nat.le_refl _) (Nat.le_refl _)) (Row.made cur S (by simp only [maxLen]; omega) hcur) (by simp) (by rw [HS.out]; omega)).mono ?_; rintro e w3 ⟨A3, c3, rfl, hr3, hg3⟩; have hgr3 : Grow w1 w3 := hgr.trans (Below.trans ((Grow.refl w2).alloc _) (Grew.below hg3 (Row.made cur S (by simp only [maxLen]; omega) hcur) (by simp)))))
  have HR3 := hide hr3
  have HG3 := hide (HG1.out.trans hgr3)
  have hz : w.heap.size ≤ w2.heap.size := (HG1.out.trans hgr).size
  clear hr3 hg3 hgr3 hgr hb2 hc
  go_wp2_with fail
  go_ret2
  refine ⟨w2.heap.size, A3, c3, ret_vi rfl rfl, hz, ?_, HG3.out⟩
  have h := HR3.out
  rwa [Nat.zero_add, List.nil_append] at h
end Go.Proofs.YtcdbchifigonpaaDoor
