/- Walks: key.Of. · Walks: key.All. -/
import Derived.Test.YtpjhhkndfmcaoaaDoorKeyV
import Derived.Deep.RegionHeld3
import Derived.Laws.OwnMore
set_option linter.unusedVariables false
set_option linter.unusedSimpArgs false
namespace Go.Proofs.YtpjhhkndfmcaoaaDoor
open Go.RowKit Go.Shelf Go.WideShapes

theorem keyL_flat (l : List V) (h : ∀ x ∈ l, x.key.length + 1 ≤ 4 * x.bytes.length) : (l.map V.keyL).flatten.length ≤ 4 * (l.map V.bytes).flatten.length := by
  induction l with
  | nil => simp
  | cons x l ih =>
    have h1 := h x List.mem_cons_self
    have h2 := ih (fun y hy => h y (List.mem_cons_of_mem _ hy))
    simp only [List.map_cons, List.flatten_cons, List.length_append, V.keyL, List.length_cons]; omega
theorem keyFd_flat (l : List (ByteArray × V)) (h : ∀ x ∈ l, x.2.key.length + 1 ≤ 4 * x.2.bytes.length) : (l.map V.keyFd).flatten.length ≤ 4 * (l.map fun x => V.item x.1 x.2.bytes).flatten.length := by
  induction l with
  | nil => simp
  | cons x l ih =>
    have h1 := h x List.mem_cons_self
    have h2 := ih (fun y hy => h y (List.mem_cons_of_mem _ hy))
    have h3 := (escB_length x.1.data.toList).2
    have h4 : x.1.data.toList.length = x.1.size := by simp
    simp only [List.map_cons, List.flatten_cons, List.length_append, V.keyFd, List.length_cons, V.item_length, esc, List.length_nil]; omega
theorem key_len (v : V) : v.formed = true → v.key.length + 1 ≤ 4 * v.bytes.length := by
  induction v using V.ind with
  | h k n b l f hl hf =>
    intro hfm
    rcases V.formed_cases hfm with h | ⟨n', hn', h⟩ | ⟨n', h⟩ | ⟨n', h⟩ | ⟨b', hb', h⟩ | ⟨b', h⟩ | ⟨l', hl', h⟩ | ⟨f', hf', hnd, h⟩ <;> cases h
    · rw [V.key_mk, V.bytes_mk]; simp
    · rw [V.key_mk, V.bytes_mk]; simp
    · rw [V.key_mk, V.bytes_mk]; simp [keyInt, be_length, toLe_length]
    · rw [V.key_mk, V.bytes_mk]; simp only [keyFloat]; simp; split <;> simp [be_length, toLe_length]
    · have := (escB_length b).2
      rw [V.key_mk, V.bytes_mk]; simp [esc, toLe_length]; omega
    · have := (escB_length b).2
      rw [V.key_mk, V.bytes_mk]; simp [esc, toLe_length]; omega
    · have := keyL_flat l (fun x hx => hl x hx (hl' x hx))
      have e : (V.mk 7 0 [] l []).key = 96 :: ((l.map V.keyL).flatten ++ [0]) := by rw [V.key_mk]; simp
      rw [e, V.bytes_list]
      simp only [List.length_cons, List.length_append, List.length_nil]
      omega
    · have := keyFd_flat f (fun x hx => hf x hx (hf' x hx).2)
      have e : (V.mk 8 0 [] [] f).key = 112 :: ((f.map V.keyFd).flatten ++ [0]) := by rw [V.key_mk]; simp
      rw [e, V.bytes_doc]
      simp only [List.length_cons, List.length_append, List.length_nil]
      omega

/-- What Of and All tell: bytes of the call's own, and an error. -/
def OfC (w : World) (p : List UInt8 × Int) (e : Ending) (w' : World) : Prop :=
  ∃ base A c, e = .returned (.tuple #[.slice A p.1.length c, .int .i64 p.2]) ∧ w.heap.size ≤ base ∧ Row w' base (.slice A p.1.length c) p.1.length p.1 ∧ Grow w w'
theorem OfC.bad {w w' : World} {e : Int} (h : Grow w w') : OfC w ([], e) (.returned (.tuple #[.slice none 0 0, .int .i64 e])) w' :=
  ⟨w.heap.size, none, 0, rfl, Nat.le_refl _, World.ownsRow_nil _ _ _ _, h⟩
theorem zero_writer (w : World) : True := trivial

set_option maxRecDepth 100000 in
set_option maxHeartbeats 6400000 in
theorem of_anyM (v : V) (c : Cv) (w : World) (hfit : v.fit) (hm : v.mild) (hT : Tabs w) (hv : In w v c) : Calls Tryd.prog 16 #[c.agg] w (OfC w (ofK v)) := by
  have HG0 := hide ((Grow.refl w).alloc (.cells c.cells 27))
  have HB0 := hide (Blk.new w 27 c.cells)
  have hcell := (Blk.new w 27 c.cells).cell
  have HGOOD := hide (good_anyM v _ c hm (hT.grow HG0.out) (hv.grow HG0.out))
  have HV := hide hv
  have HFIT := hide hfit
  obtain ⟨g, hg⟩ : ∃ g, v.good = g := ⟨_, rfl⟩
  rw [hg] at HGOOD
  have HGD := hide hg
  clear hT hv hfit hg
  go_enter Tryd.func16, Tryd.ntmps16
  go_wp2_with fail
  refine HGOOD.out.mono ?_
  rintro e w1 ⟨rfl, hg1⟩
  have hB1 := HB0.out.grow hg1
  have HG1 := hide (HG0.out.trans hg1)
  have HB1 := hide hB1
  have hc1 := hB1.cell
  have hlt1 := hB1.lt
  clear hg1 hB1 hcell
  by_cases h0 : g = 0
  · subst h0
    have hf := V.good_formed HGD.out
    have hkl := key_len v hf.1
    have hkl2 : v.key.length ≤ 16384 := by have := hf.2; omega
    have HF := hide hf
    have hrow : Row (w1.alloc (.cells #[.slice none 0 0] 94)) (w1.heap.size + 1) (.slice none 0 0) 0 [] := World.ownsRow_nil _ _ _ _
    have HC := hide (kw_any v HFIT.out hf.1 w1.heap.size none 0 [] c (w1.alloc (.cells #[.slice none 0 0] 94)) ⟨Blk.new w1 _ _, hrow⟩ (((HV.out.grow HG1.out).under).below (Below.alloc (Below.refl _ w1) (Nat.le_refl _) _) (Nat.le_refl _) (Nat.le_refl _)) (by simp only [List.length_nil]; omega))
    rw [List.nil_append] at HC
    clear hf hrow hkl
    go_wp2_with fail
    refine HC.out.mono ?_
    rintro e w2 ⟨A2, c2, rfl, h1, h2⟩
    obtain ⟨KB, hKB⟩ : ∃ K, v.key = K := ⟨_, rfl⟩
    rw [hKB] at h1 h2 hkl2
    have HKE := hide hKB
    have hcw : w2.cell? ⟨w1.heap.size, 0, none⟩ = some (.slice A2 KB.length c2) := h1.1.cell 0
    have hlw := h1.1.lt
    have HW := hide h1
    have HG12 := hide (show Grow w1 w2 from Below.trans ((Grow.refl w1).alloc (.cells #[.slice none 0 0] 94)) (h2.below (bs := []) ⟨Blk.new w1 _ _, World.ownsRow_nil _ _ _ _⟩))
    clear h1 h2 HC hKB
    by_cases hlen : 96 < KB.length
    · go_wp2_with fail
      go_ret2
      rw [show ofK v = ([], 14) by unfold ofK; rw [if_neg (by have := HGD.out; omega), if_pos (by rw [HKE.out]; exact hlen)]]
      exact OfC.bad (HG1.out.trans HG12.out)
    · obtain ⟨cur, hcur, hmk⟩ := make_u8 KB.length (by omega)
      have HROW := hide (Row.made (w := w2.drew) cur KB.length (by simp only [maxLen]; omega) hcur)
      have HSRC := hide (show Src Tryd.prog 1 23 (.slice A2 KB.length c2) KB.length (u8s KB) (w2.drew.alloc (.cells cur 5)) from Src.ofReads under_u8s (HW.out.2.reads.1.grow ((Grow.refl w2).drew.alloc _)) (u8s_one _))
      have hcw2 : (w2.drew.alloc (.cells cur 5)).cell? ⟨w1.heap.size, 0, none⟩ = some (.slice A2 KB.length c2) := (((Grow.refl w2).drew.alloc (.cells cur 5)).below.cell (p := ⟨w1.heap.size, 0, none⟩) hlw).trans hcw
      go_wp2_with fail
      refine wp_region_noPanic ?_
      refine wp_region_held_drew (S := fun w' => w'.cell? ⟨w1.heap.size, 0, none⟩ = some (.slice A2 KB.length c2)) (by kernel_rfl) (hcw) (fun hHeld => ?_)
      refine wpAnyH_take (i := 0) (v := ?_) (by simp only [List.getElem?_toArray, List.getElem?_cons_succ, List.getElem?_cons_zero]; rfl) (by kernel_rfl) (by kernel_rfl) (by kernel_rfl) (fun _ _ _ h => h) (Or.inl ⟨by rfl, ?_⟩) (by assumption) ?_
      rotate_left 1
      · (intro w hSw; (try dsimp only at hSw); go_simp; try with_reducible rfl)
      try simp only [Act.put, List.setIfInBounds_toArray, List.set_cons_zero, List.set_cons_succ]
      refine wpAnyH_take (i := 1) (v := ?_) (by simp only [List.getElem?_toArray, List.getElem?_cons_succ, List.getElem?_cons_zero]; rfl) (by kernel_rfl) (by kernel_rfl) (by kernel_rfl) (fun _ _ _ h => h) (Or.inl ⟨by rfl, ?_⟩) (by assumption) ?_
      rotate_left 1
      · (intro w hSw; (try dsimp only at hSw); go_simp; try with_reducible rfl)
      try simp only [Act.put, List.setIfInBounds_toArray, List.set_cons_zero, List.set_cons_succ]
      refine wpAnyH_take (i := 2) (v := ?_) (by simp only [List.getElem?_toArray, List.getElem?_cons_succ, List.getElem?_cons_zero]; rfl) (by kernel_rfl) (by kernel_rfl) (by kernel_rfl) (fun _ _ _ h => h) (Or.inl ⟨by rfl, ?_⟩) (by assumption) ?_
      rotate_left 1
      · (intro w hSw; (try dsimp only at hSw); go_simp; try with_reducible rfl)
      try simp only [Act.put, List.setIfInBounds_toArray, List.set_cons_zero, List.set_cons_succ]
      refine wpAnyH_take (i := 3) (v := ?_) (by simp only [List.getElem?_toArray, List.getElem?_cons_succ, List.getElem?_cons_zero]; rfl) (by kernel_rfl) (by kernel_rfl) (by kernel_rfl) (fun _ _ _ h => h) (Or.inl ⟨by rfl, ?_⟩) (by assumption) ?_
      rotate_left 1
      · (intro w hSw; (try dsimp only at hSw); go_simp; try with_reducible rfl)
      try simp only [Act.put, List.setIfInBounds_toArray, List.set_cons_zero, List.set_cons_succ]
      refine wpAnyH_take (i := 4) (v := ?_) (by simp only [List.getElem?_toArray, List.getElem?_cons_succ, List.getElem?_cons_zero]; rfl) (by kernel_rfl) (by kernel_rfl) (by kernel_rfl) (fun _ _ _ h => h) (Or.inl ⟨by rfl, ?_⟩) (by assumption) ?_
      rotate_left 1
      · (intro w hSw; (try dsimp only at hSw); go_simp; try with_reducible rfl)
      try simp only [Act.put, List.setIfInBounds_toArray, List.set_cons_zero, List.set_cons_succ]
      refine wpAnyH_take (i := 6) (v := ?_) (by simp only [List.getElem?_toArray, List.getElem?_cons_succ, List.getElem?_cons_zero]; rfl) (by kernel_rfl) (by kernel_rfl) (by kernel_rfl) (fun _ _ _ h => h) (Or.inl ⟨by rfl, ?_⟩) (by assumption) ?_
      rotate_left 1
      · (intro w hSw; (try dsimp only at hSw); go_simp; try with_reducible rfl)
      try simp only [Act.put, List.setIfInBounds_toArray, List.set_cons_zero, List.set_cons_succ]
      refine wpAnyH_take (i := 7) (v := ?_) (by simp only [List.getElem?_toArray, List.getElem?_cons_succ, List.getElem?_cons_zero]; rfl) (by kernel_rfl) (by kernel_rfl) (by kernel_rfl) (fun _ _ _ h => h) (Or.inl ⟨by rfl, ?_⟩) (by assumption) ?_
      rotate_left 1
      · (intro w hSw; (try dsimp only at hSw); go_simp; try with_reducible rfl)
      try simp only [Act.put, List.setIfInBounds_toArray, List.set_cons_zero, List.set_cons_succ]
      refine wpAnyH_take (i := 8) (v := ?_) (by simp only [List.getElem?_toArray, List.getElem?_cons_succ, List.getElem?_cons_zero]; rfl) (by kernel_rfl) (by kernel_rfl) (by kernel_rfl) (fun _ _ _ h => h) (Or.inl ⟨by rfl, ?_⟩) (by assumption) ?_
      rotate_left 1
      · (intro w hSw; (try dsimp only at hSw); go_simp; try with_reducible rfl)
      try simp only [Act.put, List.setIfInBounds_toArray, List.set_cons_zero, List.set_cons_succ]
      refine wpAnyH_take (i := 9) (v := ?_) (by simp only [List.getElem?_toArray, List.getElem?_cons_succ, List.getElem?_cons_zero]; rfl) (by kernel_rfl) (by kernel_rfl) (by kernel_rfl) (fun _ _ _ h => h) (Or.inl ⟨by rfl, ?_⟩) (by assumption) ?_
      rotate_left 1
      · (intro w hSw; (try dsimp only at hSw); go_simp; try with_reducible rfl)
      try simp only [Act.put, List.setIfInBounds_toArray, List.set_cons_zero, List.set_cons_succ]
      refine wpAnyH_ready (rs := [5]) (by kernel_rfl) (by simp) ?_
      refine AllReadyH.cons (by simp only [List.getElem?_toArray, List.getElem?_cons_succ, List.getElem?_cons_zero]; rfl) (fun K hK => ?_) AllReadyH.nil
      go_simp
      
      refine hK.out _ _ (hcw2) (fun hHeld => ?_)
      clear hK K
      try simp only [Act.put, List.setIfInBounds_toArray, List.set_cons_zero, List.set_cons_succ]
      refine wpAnyH_ready (rs := [10]) (by kernel_rfl) (by simp) ?_
      refine AllReadyH.cons (by simp only [List.getElem?_toArray, List.getElem?_cons_succ, List.getElem?_cons_zero]; rfl) (fun K hK => ?_) AllReadyH.nil
      refine step_app_src (ys := KB) rfl (.tmp 27) (.tmp 31) _ rfl rfl HROW.out _ rfl HSRC.out (by omega) (by simp) ?_
      intro A3 c3 w3 hr3 hg3
      rw [Nat.zero_add, List.nil_append] at hr3
      have HR3 := hide hr3
      have HG3 := hide (show Grow w2 w3 from Below.trans ((Grow.refl w2).drew.alloc _) (Grew.below hg3 HROW.out (by simp)))
      clear hr3 hg3
      refine hK.out _ _ ((HG3.out.below.cell (p := ⟨w1.heap.size, 0, none⟩) hlw).trans hcw) (fun hHeld => ?_)
      clear hK K
      try simp only [Act.put, List.setIfInBounds_toArray, List.set_cons_zero, List.set_cons_succ]
      refine wpAnyH_take (i := 11) (v := ?_) (by simp only [List.getElem?_toArray, List.getElem?_cons_succ, List.getElem?_cons_zero]; rfl) (by kernel_rfl) (by kernel_rfl) (by kernel_rfl) (fun _ _ _ h => h) (Or.inl ⟨by rfl, ?_⟩) (by assumption) ?_
      rotate_left 1
      · (intro w hSw; (try dsimp only at hSw); go_simp; try with_reducible rfl)
      try simp only [Act.put, List.setIfInBounds_toArray, List.set_cons_zero, List.set_cons_succ]
      refine wpAnyH_take (i := 12) (v := ?_) (by simp only [List.getElem?_toArray, List.getElem?_cons_succ, List.getElem?_cons_zero]; rfl) (by kernel_rfl) (by kernel_rfl) (by kernel_rfl) (fun _ _ _ h => h) (Or.inl ⟨by rfl, ?_⟩) (by assumption) ?_
      rotate_left 1
      · (intro w hSw; (try dsimp only at hSw); go_simp; try with_reducible rfl)
      try simp only [Act.put, List.setIfInBounds_toArray, List.set_cons_zero, List.set_cons_succ]
      refine wpAnyH_done (by kernel_rfl) ?_ _
      refine NoPanic.normal ?_
      rw [Nat.zero_add]
      go_wp2_with fail
      go_ret2
      rw [show ofK v = (KB, 0) by unfold ofK; rw [if_neg (by have := HGD.out; omega), if_neg (by rw [HKE.out]; exact hlen), HKE.out]]
      exact ⟨w2.drew.heap.size, A3, c3, rfl, by have := HG1.out.size; have := HG12.out.size; simp; omega, HR3.out, (HG1.out.trans HG12.out).trans HG3.out⟩
  · have h0' : (g == 0) = false := by simpa using h0
    have h0'' : (g != 0) = true := by simpa using h0
    clear h0
    go_wp2_with fail
    go_ret2
    rw [show ofK v = ([], g) by unfold ofK; rw [HGD.out, if_pos (by simpa using h0'')]]
    exact OfC.bad HG1.out
theorem of_any (v : V) (c : Cv) (w : World) (hfit : v.fit) (hcount : v.count ≤ 20000) (hT : Tabs w) (hv : In w v c) : Calls Tryd.prog 16 #[c.agg] w (OfC w (ofK v)) := of_anyM v c w hfit (V.mild_of hcount hv) hT hv
end Go.Proofs.YtpjhhkndfmcaoaaDoor

set_option linter.unusedVariables false
set_option linter.unusedSimpArgs false
namespace Go.Proofs.YtpjhhkndfmcaoaaDoor
open Go.RowKit Go.Shelf Go.WideShapes

/-- Truth values that lie in the world. -/
def InBo (w : World) (A : Option Addr) (ts : List Bool) : Prop := Reads (AtW w 0 w.heap.size) 1 A ts.length (ts.map Value.bool)
theorem InBo.grow {w w' : World} {A : Option Addr} {ts : List Bool} (h : InBo w A ts) (hb : Grow w w') : InBo w' A ts :=
  Reads.mono (AtW.below hb.below (Nat.le_refl _) (Nat.le_refl _) hb.size) h
theorem InL.fitK {w : World} {A : Option Addr} {cap : Nat} {vs : List V} (h : InL w A cap vs) : ∀ v ∈ vs, v.fit := fun v hv => by
  have := IsV.fit _ _ h
  rw [V.fit] at this
  exact this.2.1 v hv
theorem allE_at : ∀ (l : List V) (j : Nat) (h : j < l.length), (∀ i (hi : i < l.length), i < j → (ofK l[i]).2 = 0) → (ofK l[j]).2 ≠ 0 → allE l = (ofK l[j]).2
  | [], j, h, _, _ => by simp at h
  | x :: l, 0, h, _, hn => by rw [allE]; simp only [List.getElem_cons_zero] at hn ⊢; rw [if_pos hn]
  | x :: l, j + 1, h, h0, hn => by
    have hx : (ofK x).2 = 0 := h0 0 (by simp) (by omega)
    rw [allE, if_neg (by simpa using hx)]
    simp only [List.getElem_cons_succ] at hn ⊢
    exact allE_at l j (by simpa using h) (fun i hi hij => h0 (i + 1) (by simpa using hi) (by omega)) hn
theorem allE_none : ∀ (l : List V), (∀ i (hi : i < l.length), (ofK l[i]).2 = 0) → allE l = 0
  | [], _ => rfl
  | x :: l, h => by
    have hx : (ofK x).2 = 0 := h 0 (by simp)
    rw [allE, if_neg (by simpa using hx)]
    exact allE_none l (fun i hi => h (i + 1) (by simpa using hi))
theorem allB_take : ∀ (l : List V) (ts : List Bool) (j : Nat) (h1 : j < l.length) (h2 : j < ts.length), allB (l.take (j + 1)) (ts.take (j + 1)) = allB (l.take j) (ts.take j) ++ flip ts[j] l[j].key
  | [], _, j, h, _ => by simp at h
  | _ :: _, [], j, _, h => by simp at h
  | x :: l, t :: ts, 0, _, _ => by simp [allB]
  | x :: l, t :: ts, j + 1, h1, h2 => by
    simp only [List.take_succ_cons, allB, List.getElem_cons_succ, List.append_assoc]
    rw [allB_take l ts j (by simpa using h1) (by simpa using h2)]
theorem allB_full : ∀ (l : List V) (ts : List Bool), l.length = ts.length → allB (l.take l.length) (ts.take l.length) = allB l ts := fun l ts h => by
  rw [List.take_length, h, List.take_length]
theorem allB_le (l : List V) (ts : List Bool) (h : l.length = ts.length) (j : Nat) : (allB (l.take j) (ts.take j)).length ≤ (allB l ts).length := by
  induction l generalizing ts j with
  | nil => simp [allB]
  | cons x l ih =>
    cases ts with
    | nil => cases h
    | cons t ts =>
      cases j with
      | zero => simp [allB]
      | succ j =>
        simp only [List.take_succ_cons, allB, List.length_append]
        have := ih ts (by simpa using h) j
        omega
theorem ofK_zero {v : V} (h : (ofK v).2 = 0) : ofK v = (v.key, 0) := by
  have hg := ofK_good h
  unfold ofK; rw [if_neg (by omega), if_neg (by omega)]
theorem not8 (n : Nat) (h : n < 256) : 255 ^^^ n = 255 - n := by
  apply Nat.eq_of_testBit_eq
  intro i
  have e1 : (255 : Nat) = 2 ^ 8 - 1 := by decide
  have e2 : 255 - n = 2 ^ 8 - (n + 1) := by rw [e1]; omega
  rw [Nat.testBit_xor, e2, Nat.testBit_two_pow_sub_succ (by exact h), e1, Nat.testBit_two_pow_sub_one]
  by_cases hi : i < 8
  · simp [hi]
  · have : n.testBit i = false := Nat.testBit_lt_two_pow (Nat.lt_of_lt_of_le h (show 2 ^ 8 ≤ 2 ^ i from Nat.pow_le_pow_right (by omega) (by omega)))
    simp [hi, this]
theorem u8_not (x : UInt8) : bits .xor .u8 IntKind.u8.max (x.toNat : Int) = ((flip1 x).toNat : Int) := by
  have hx := x.toNat_lt
  have h2 := u8_xor_nat 255 x.toNat (by omega) hx
  rw [not8 x.toNat hx] at h2
  unfold flip1
  rw [UInt8.toNat_ofNat', Nat.mod_eq_of_lt (by omega)]
  exact h2
/-- One byte of a row turned. -/
theorem Row.setAt {w : World} {base n c g : Nat} {xs : List UInt8} (h : Row w base (.slice (some ⟨g, 0, none⟩) n c) n xs) (j : Nat) (hj : j < n) (y : UInt8) (u : Value) (hu : u = .int .u8 (y.toNat : Int)) :
    Row (w.setCell ⟨g, j, none⟩ u) base (.slice (some ⟨g, 0, none⟩) n c) n (xs.set j y) := by
  subst hu
  have e : u8s (xs.set j y) = (u8s xs).set j (.int .u8 (y.toNat : Int)) := by simp [u8s, List.map_set]
  unfold Row
  rw [e]
  exact (World.ownsRow.stored h j _).1
theorem flip_set (b : List UInt8) (j : Nat) (h : j < b.length) : ((b.take j).map flip1 ++ b.drop j).set j (flip1 b[j]) = (b.take (j + 1)).map flip1 ++ b.drop (j + 1) := by
  rw [List.set_append_right _ _ (by simp; omega), List.length_map, List.length_take, Nat.min_eq_left (by omega), Nat.sub_self, List.drop_eq_getElem_cons h, List.set_cons_zero, take_snoc b j h]
  simp only [List.map_append, List.map_cons, List.map_nil, List.append_assoc, List.cons_append, List.nil_append]
theorem flip_get (b : List UInt8) (j : Nat) (h : j < b.length) : ((b.take j).map flip1 ++ b.drop j)[j]'(by simp; omega) = b[j] := by
  rw [List.getElem_append_right (by simp; omega)]
  simp only [List.getElem_drop, List.length_map, List.length_take]
  congr 1
  omega

theorem allK_len {l : List V} {ts : List Bool} (h : l.length ≠ ts.length) : allK l ts = ([], 1) := by unfold allK; rw [if_pos h]
theorem allK_err {l : List V} {ts : List Bool} (h : l.length = ts.length) {e : Int} (he : e ≠ 0) (j : Nat) (hj : j < l.length) (h0 : ∀ i (hi : i < l.length), i < j → (ofK l[i]).2 = 0) (hx : (ofK l[j]).2 = e) : allK l ts = ([], e) := by
  have := allE_at l j hj h0 (by rw [hx]; exact he)
  unfold allK; rw [if_neg (by omega), this, hx, if_pos he]
theorem allK_big {l : List V} {ts : List Bool} (h : l.length = ts.length) (h0 : ∀ i (hi : i < l.length), (ofK l[i]).2 = 0) (hb : 96 < (allB l ts).length) : allK l ts = ([], 14) := by
  unfold allK; rw [if_neg (by omega), if_neg (by rw [allE_none l h0]; simp), if_pos hb]
theorem allK_good {l : List V} {ts : List Bool} (h : l.length = ts.length) (h0 : ∀ i (hi : i < l.length), (ofK l[i]).2 = 0) (hb : (allB l ts).length ≤ 96) : allK l ts = (allB l ts, 0) := by
  unfold allK; rw [if_neg (by omega), if_neg (by rw [allE_none l h0]; simp), if_neg (by omega)]
/-- What All holds after some values: their bytes, or too many already. -/
def Acc (xs ys : List UInt8) : Prop := (xs = ys ∧ ys.length ≤ 192) ∨ (96 < xs.length ∧ xs.length ≤ 192 ∧ 96 < ys.length)
theorem Acc.le {xs ys : List UInt8} (h : Acc xs ys) : xs.length ≤ 192 := by rcases h with ⟨rfl, h⟩ | h <;> omega
theorem Acc.add {xs ys zs : List UInt8} (h : Acc xs ys) (hx : xs.length ≤ 96) (hz : zs.length ≤ 96) : Acc (xs ++ zs) (ys ++ zs) := by
  rcases h with ⟨rfl, h⟩ | h
  · exact .inl ⟨rfl, by rw [List.length_append]; omega⟩
  · omega
theorem Acc.skip {xs ys zs : List UInt8} (h : Acc xs ys) (hx : 96 < xs.length) : Acc xs (ys ++ zs) := by
  refine .inr ⟨hx, h.le, ?_⟩
  rw [List.length_append]
  rcases h with ⟨rfl, h⟩ | h <;> omega

set_option maxRecDepth 100000 in
set_option maxHeartbeats 6400000 in
theorem all_anyM (l : List V) (ts : List Bool) (A F : Option Addr) (cap fc : Nat) (w : World) (hcount : ∀ v ∈ l, v.mild) (hT : Tabs w) (hv : InL w A cap l) (hf : InBo w F ts) (hts : ts.length ≤ 140737488355328) :
    Calls Tryd.prog 23 #[.slice A l.length cap, .slice F ts.length fc] w (OfC w (allK l ts)) := by
  have hll : l.length ≤ 140737488355328 := by
    obtain ⟨_, _, _, _, _, _, _, _, _, _, _, _, _, hlen, _, _, _⟩ := InU.open hv
    exact hlen
  have HFIT := hide hv.fitK
  have HV := hide hv
  have HF := hide hf
  have HT := hide hT
  have HCNT := hide hcount
  clear hv hf hT hcount
  by_cases hlen : l.length = ts.length
  · have heq : ((l.length : Int) != (ts.length : Int)) = false := by simp [hlen]
    have HLEN := hide hlen
    have HU := hide (fun x : UInt8 => u8_not x)
    clear hlen
    go_enter Tryd.func23, Tryd.ntmps23
    go_wp2_with fail
    go_loopg [6, 7, 8, 9, 10, 11, 19] (l.length + 1) (fun gk o _ _ _ _ _ i wr => ∃ (j : Nat) (xs : List UInt8) (A' : Option Addr) (c' : Nat), j ≤ l.length ∧ gk + j = l.length + 1 ∧ i = .int .i64 j ∧ o = .slice A' xs.length c' ∧ Row wr w.heap.size (.slice A' xs.length c') xs.length xs ∧
      Acc xs (allB (l.take j) (ts.take j)) ∧ (∀ i (hi : i < l.length), i < j → (ofK l[i]).2 = 0) ∧ Grow w wr)
    case atStart => exact ⟨0, [], none, 0, Nat.zero_le _, rfl, rfl, rfl, World.ownsRow_nil _ _ _ _, .inl ⟨by simp [allB], by simp [allB]⟩, fun _ _ h => absurd h (by omega), Grow.refl w⟩
    case round =>
      obtain ⟨j, xs, A', c', hj, hg, rfl, rfl, hr, hacc, hz, hgr⟩ := hrel
      obtain ⟨gk', rfl⟩ : ∃ g, gk = g + 1 := ⟨gk - 1, by omega⟩
      have hxl := hacc.le
      have HR := hide hr
      have HACC := hide hacc
      have HZ := hide hz
      have HG := hide hgr
      have hvr := In.grow HV.out hgr
      clear hr hacc hz hgr
      by_cases hlt : j < l.length
      · obtain ⟨bk, o, x, ha, hbk, e0, e1, e2, e3, e4, hx⟩ := hvr.elemL j hlt
        dsimp only [lcv] at ha
        subst ha
        have HX := hide hx
        have hlt2 : j < ts.length := by have := HLEN.out; omega
        have HOF := hide (of_anyM l[j] x (wr.alloc (.cells x.cells 27)) (HFIT.out _ (List.getElem_mem hlt)) (HCNT.out _ (List.getElem_mem hlt)) (HT.out.grow (HG.out.alloc _)) (HX.out.grow ((Grow.refl wr).alloc _)))
        obtain ⟨KB, ke, hke⟩ : ∃ kb ke, ofK l[j] = (kb, ke) := ⟨_, _, rfl⟩
        rw [hke] at HOF
        have HKE := hide hke
        clear hx hvr hke
        go_wp2_with fail
        refine HOF.out.mono ?_
        rintro e w2 ⟨base2, B, bc, rfl, hb2, hr2, hg2⟩
        dsimp only at hr2 ⊢
        have hb2' := hb2
        have HR2 := hide hr2
        have HG2 := hide ((HG.out.alloc (.cells x.cells 27)).trans hg2)
        have HG12 := hide (((Grow.refl wr).alloc (.cells x.cells 27)).trans hg2)
        clear hr2 hg2 hb2 e0 e1 e2 e3 e4
        by_cases hk0 : ke = 0
        · subst hk0
          have hof := ofK_zero (show (ofK l[j]).2 = 0 by rw [HKE.out])
          have hkb : l[j].key = KB := by have := HKE.out; rw [hof] at this; exact (Prod.ext_iff.1 this).1
          have hk96 : KB.length ≤ 96 := by rw [← hkb]; exact (ofK_good (show (ofK l[j]).2 = 0 by rw [HKE.out])).2
          have HKB := hide hkb
          have HTK := hide (allB_take l ts j hlt hlt2)
          have HZ' := hide (show ∀ i (hi : i < l.length), i < j + 1 → (ofK l[i]).2 = 0 from fun i hi hij => by
            rcases Nat.lt_succ_iff_lt_or_eq.1 hij with h | rfl
            · exact HZ.out i hi h
            · rw [HKE.out])
          obtain ⟨fb, fo, rfl, hfc⟩ := HF.out.2 (by omega)
          have hcf := ((HG2.out.below.cell (hfc j (.bool ts[j]) (by simp [hlt2])).2.2).trans (hfc j (.bool ts[j]) (by simp [hlt2])).1)
          have hfl2 : fb < w2.heap.size := Nat.lt_of_lt_of_le (hfc j (.bool ts[j]) (by simp [hlt2])).2.2 HG2.out.size
          have HRx := hide (HR.out.grow HG12.out)
          clear hof hkb hfc
          cases htj : ts[j] with
          | false =>
            rw [htj] at hcf HTK
            rw [show flip false l[j].key = KB by rw [HKB.out]; rfl] at HTK
            clear htj
            by_cases hx96 : xs.length ≤ 96
            · go_wp2_with (at_builtin; refine app_src (ys := KB) rfl (.tmp 53) (.tmp 54) _ rfl rfl HRx.out _ rfl (Src.ofReads under_u8s HR2.out.reads.1 (u8s_one _)) (by omega) HG2.out.size ?_; intro A3 c3 w3 hr3 hg3; have HR3 := hide hr3; have HG3 := hide (Grew.below hg3 HRx.out HG2.out.size); clear hr3 hg3)
              go_roundg gk'
              case measure => omega
              case rel =>
                have hn : (xs ++ KB).length = xs.length + KB.length := List.length_append
                exact ⟨j + 1, xs ++ KB, A3, c3, by omega, by omega, by go_num, by rw [hn], by rw [hn]; exact HR3.out, by rw [HTK.out]; exact HACC.out.add hx96 hk96, HZ'.out, Below.trans HG2.out HG3.out⟩
            · go_wp2_with fail
              go_roundg gk'
              case measure => omega
              case rel => exact ⟨j + 1, xs, A', c', by omega, by omega, by go_num, rfl, HRx.out, by rw [HTK.out]; exact HACC.out.skip (by omega), HZ'.out, HG2.out⟩
          | true =>
            rw [htj] at hcf HTK
            rw [show flip true l[j].key = KB.map flip1 by rw [HKB.out]; rfl] at HTK
            clear htj
            go_wp2_with fail
            obtain ⟨wo, hwo⟩ : ∃ wo : World, wo = wr := ⟨_, rfl⟩
            subst hwo
            go_loopg [11, 38] (KB.length + 1) (fun gk _ i w3 => ∃ k : Nat, k ≤ KB.length ∧ gk + k = KB.length + 1 ∧ i = .int .i64 k ∧ Row w3 base2 (.slice B KB.length bc) KB.length ((KB.take k).map flip1 ++ KB.drop k) ∧ w2.grownBy w3 (Value.ownBlock (.slice B KB.length bc)))
            case atStart => exact ⟨0, Nat.zero_le _, rfl, rfl, HR2.out, World.grownBy.refl _ _⟩
            case round =>
              obtain ⟨k, hk, hgk, rfl, hr3, hg3⟩ := hrel
              have HR3 := hide hr3
              have HG3 := hide hg3
              clear hr3 hg3
              by_cases hlk : k < KB.length
              · obtain ⟨gk2, rfl⟩ : ∃ g, gk = g + 1 := ⟨gk - 1, by omega⟩
                obtain ⟨gb, gcap, hgv, hgb, hglt⟩ := World.ownsRow.form HR3.out (by omega)
                have hB : B = some ⟨gb, 0, none⟩ := by injection hgv
                subst hB
                have hck := World.ownsRow.cells HR3.out (g := gb) rfl k _ (u8s_get _ k (by simp; omega))
                rw [flip_get KB k hlk] at hck
                have hfz := World.ownsRow.frozenAt HR3.out k
                have hun := HU.out KB[k]
                rw [add_lit, Nat.zero_add] at hck
                have hst := (World.ownsRow.stored HR3.out k (.int .u8 ((flip1 KB[k]).toNat : Int))).2
                have HST := hide hst
                have hbl := KB[k].toNat_lt
                clear hst
                go_wp2_with fail
                go_roundg gk2
                case measure => omega
                case rel => exact ⟨k + 1, by omega, by omega, by go_num, by rw [← flip_set KB k hlk]; exact HR3.out.setAt k hlk _ _ rfl, (show GB w2 wr gb from HG3.out).trans HST.out⟩
              · obtain rfl : k = KB.length := by omega
                rw [List.take_length, List.drop_length, List.append_nil] at HR3
                have hown : ∀ q, Value.ownBlock (.slice B KB.length bc) = some q → wo.heap.size ≤ q := fun q hq => by
                  have := (World.ownsRow.lt HR2.out q hq).1
                  simp at hb2'
                  omega
                have HGa := hide (HG12.out.grown HG3.out hown)
                have HGb := hide (HG2.out.grown HG3.out (fun q hq => Nat.le_trans HG.out.size (hown q hq)))
                have HRy := hide (HR.out.grow HGa.out)
                have hml : (KB.map flip1).length = KB.length := List.length_map _
                have HSRC := hide (show Src Tryd.prog 1 23 (.slice B KB.length bc) (KB.map flip1).length (u8s (KB.map flip1)) wr from by
                  have h := HR3.out.reads.1
                  unfold InB at h
                  rw [hml] at h ⊢
                  exact Src.ofReads under_u8s h (u8s_one _))
                have HML := hide hml
                clear hown hgk hml
                by_cases hx96 : xs.length ≤ 96
                · go_wp2_with (at_builtin; refine app_src (ys := KB.map flip1) rfl (.tmp 53) (.tmp 54) _ rfl rfl HRy.out _ rfl HSRC.out (by rw [HML.out]; omega) HGb.out.size ?_; intro A3 c3 w4 hr4 hg4; have HR4 := hide hr4; have HG4 := hide (Grew.below hg4 HRy.out HGb.out.size); clear hr4 hg4)
                  go_roundg gk'
                  case measure => omega
                  case rel =>
                    have hn : (xs ++ KB.map flip1).length = xs.length + (KB.map flip1).length := List.length_append
                    exact ⟨j + 1, xs ++ KB.map flip1, A3, c3, by omega, by omega, by go_num, by rw [hn, HML.out], by rw [hn]; exact HR4.out, by rw [HTK.out]; exact HACC.out.add hx96 (by rw [HML.out]; exact hk96), HZ'.out, Below.trans HGb.out HG4.out⟩
                · go_wp2_with fail
                  go_roundg gk'
                  case measure => omega
                  case rel => exact ⟨j + 1, xs, A', c', by omega, by omega, by go_num, rfl, HRy.out, by rw [HTK.out]; exact HACC.out.skip (by omega), HZ'.out, HGb.out⟩
        · have hk1 : (ke == 0) = false := by simpa using hk0
          have hk2 : (ke != 0) = true := by simpa using hk0
          have HK0 := hide hk0
          clear hk0
          go_wp2_with fail
          go_ret2
          rw [allK_err HLEN.out HK0.out j hlt HZ.out (by rw [HKE.out])]
          exact OfC.bad HG2.out
      · obtain rfl : j = l.length := by omega
        have hb := allB_full l ts HLEN.out
        rw [hb] at HACC
        have HZ2 := hide (fun i (hi : i < l.length) => HZ.out i hi hi)
        clear hb hvr
        by_cases hx96 : 96 < xs.length
        · go_wp2_with fail
          go_ret2
          have h96 : 96 < (allB l ts).length := by rcases HACC.out with ⟨h, _⟩ | h
                                                   · rw [← h]; exact hx96
                                                   · exact h.2.2
          rw [allK_big HLEN.out HZ2.out h96]
          exact OfC.bad HG.out
        · obtain ⟨cur, hcur, hmk⟩ := make_u8 xs.length (by omega)
          have HROW := hide (Row.made (w := wr) cur xs.length (by simp only [maxLen]; omega) hcur)
          have HSRC := hide (show Src Tryd.prog 1 23 (.slice A' xs.length c') xs.length (u8s xs) (wr.alloc (.cells cur 5)) from Src.ofReads under_u8s (HR.out.reads.1.grow ((Grow.refl wr).alloc _)) (u8s_one _))
          go_wp2_with (at_builtin; refine app_src (ys := xs) rfl (.tmp 62) (.tmp 63) _ rfl rfl HROW.out _ rfl HSRC.out (by omega) (by simp) ?_; intro A3 c3 w3 hr3 hg3; rw [Nat.zero_add, List.nil_append] at hr3; have HR3 := hide hr3; have HG3 := hide (show Grow wr w3 from Below.trans ((Grow.refl wr).alloc _) (Grew.below hg3 HROW.out (by simp))); clear hr3 hg3)
          go_ret2
          have hxs : xs = allB l ts := by rcases HACC.out with ⟨h, _⟩ | h
                                          · exact h
                                          · omega
          rw [allK_good HLEN.out HZ2.out (by rw [← hxs]; omega), ← hxs]
          exact ⟨wr.heap.size, A3, c3, rfl, HG.out.size, HR3.out, HG.out.trans HG3.out⟩
  · have hne : ((l.length : Int) != (ts.length : Int)) = true := by simp; omega
    have HLEN := hide hlen
    clear hlen
    go_enter Tryd.func23, Tryd.ntmps23
    go_wp2_with fail
    go_ret2
    rw [allK_len HLEN.out]
    exact OfC.bad (Grow.refl w)
theorem InL.mildK {w : World} {A : Option Addr} {cap : Nat} {vs : List V} (h : InL w A cap vs) (hc : ∀ v ∈ vs, v.count ≤ 20000) : ∀ v ∈ vs, v.mild := fun v hv => by
  obtain ⟨i, hi, rfl⟩ := List.getElem_of_mem hv
  obtain ⟨bk, o, x, _, _, _, _, _, _, _, hx⟩ := In.elemL h i hi
  exact V.mild_of (hc _ hv) hx
theorem all_any (l : List V) (ts : List Bool) (A F : Option Addr) (cap fc : Nat) (w : World) (hcount : ∀ v ∈ l, v.count ≤ 20000) (hT : Tabs w) (hv : InL w A cap l) (hf : InBo w F ts) (hts : ts.length ≤ 140737488355328) :
    Calls Tryd.prog 23 #[.slice A l.length cap, .slice F ts.length fc] w (OfC w (allK l ts)) := all_anyM l ts A F cap fc w (hv.mildK hcount) hT hv hf hts
end Go.Proofs.YtpjhhkndfmcaoaaDoor
