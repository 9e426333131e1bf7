/- The order of good values, plainly; keys in order; values beside one another in memory. -/
import Derived.Test.YtpjhhkndfmcaoaaDoorKeyLx
import Derived.Test.YtpjhhkndfmcaoaaDoorGood
import Derived.Test.YtpjhhkndfmcaoaaDoorKeyOA
set_option linter.unusedVariables false
set_option linter.unusedSimpArgs false
namespace Go.Proofs.YtpjhhkndfmcaoaaDoor
open Go.RowKit Go.Shelf

/-! The order, plainly. -/

theorem cmpB_vals : ∀ (a b : List UInt8), Lib.compareBytes a b = -1 ∨ Lib.compareBytes a b = 0 ∨ Lib.compareBytes a b = 1 := fun a b => by
  fun_induction Lib.compareBytes a b <;> simp_all
theorem cmpB_trans : ∀ (a b c : List UInt8), Lib.compareBytes a b ≤ 0 → Lib.compareBytes b c ≤ 0 → Lib.compareBytes a c ≤ 0 ∧ (Lib.compareBytes a b < 0 → Lib.compareBytes a c < 0)
  | [], [], c, _, h => ⟨h, fun h => by simp [Lib.compareBytes] at h⟩
  | [], _ :: _, [], _, h => by simp [Lib.compareBytes] at h
  | [], _ :: _, _ :: _, _, _ => by simp [Lib.compareBytes]
  | _ :: _, [], _, h, _ => by simp [Lib.compareBytes] at h
  | _ :: _, _ :: _, [], _, h => by simp [Lib.compareBytes] at h
  | x :: a, y :: b, z :: c, h, k => by
    rw [Lib.compareBytes] at h k ⊢
    simp only [UInt8.lt_iff_toNat_lt] at h k ⊢
    rw [Lib.compareBytes]
    simp only [UInt8.lt_iff_toNat_lt]
    by_cases h1 : x.toNat < y.toNat
    · by_cases k1 : y.toNat < z.toNat
      · rw [if_pos (show x.toNat < z.toNat by omega)]; exact ⟨by decide, fun _ => by decide⟩
      · rw [if_neg k1] at k
        by_cases k2 : z.toNat < y.toNat
        · rw [if_pos k2] at k; exact absurd k (by decide)
        · rw [if_pos (show x.toNat < z.toNat by omega)]; exact ⟨by decide, fun _ => by decide⟩
    · rw [if_neg h1] at h ⊢
      by_cases h2 : y.toNat < x.toNat
      · rw [if_pos h2] at h; exact absurd h (by decide)
      · rw [if_neg h2] at h ⊢
        by_cases k1 : y.toNat < z.toNat
        · rw [if_pos (show x.toNat < z.toNat by omega)]; exact ⟨by decide, fun _ => by decide⟩
        · rw [if_neg k1] at k
          by_cases k2 : z.toNat < y.toNat
          · rw [if_pos k2] at k; exact absurd k (by decide)
          · rw [if_neg k2] at k
            rw [if_neg (show ¬ x.toNat < z.toNat by omega), if_neg (show ¬ z.toNat < x.toNat by omega)]
            exact cmpB_trans a b c h k
/-- A good value as it lies in the world. -/
structure Fine (u : V) : Prop where
  formed : u.formed = true
  fit : u.fit
namespace V
theorem cmp_bytes {u v : V} (hu : Fine u) (hv : Fine v) : cmp u v = Lib.compareBytes u.key v.key := by
  rcases key_diff u v hu.formed hu.fit hv.formed hv.fit with ⟨rfl, h⟩ | h
  · rw [h, cmpB_self]
  · exact h.cmp.symm
theorem cmp_vals {u v : V} (hu : Fine u) (hv : Fine v) : cmp u v = -1 ∨ cmp u v = 0 ∨ cmp u v = 1 := by rw [cmp_bytes hu hv]; exact cmpB_vals _ _
theorem cmp_self {u : V} (hu : Fine u) : cmp u u = 0 := by rw [cmp_bytes hu hu]; exact cmpB_self _
theorem cmp_eq0 {u v : V} (hu : Fine u) (hv : Fine v) : cmp u v = 0 ↔ u = v := by
  rcases key_diff u v hu.formed hu.fit hv.formed hv.fit with ⟨rfl, h⟩ | h
  · exact ⟨fun _ => rfl, fun _ => h⟩
  · exact ⟨fun e => absurd e h.ne0, fun e => by subst e; exact h.irrefl.elim⟩
theorem cmp_swap {u v : V} (hu : Fine u) (hv : Fine v) : cmp v u = -(cmp u v) := by
  rcases key_diff u v hu.formed hu.fit hv.formed hv.fit with ⟨rfl, h⟩ | h
  · rw [h]; rfl
  · rcases key_diff v u hv.formed hv.fit hu.formed hu.fit with ⟨rfl, h'⟩ | h'
    · exact h.irrefl.elim
    · exact h'.uniq h.swap
theorem cmp_trans {u v x : V} (hu : Fine u) (hv : Fine v) (hx : Fine x) (h : cmp u v ≤ 0) (k : cmp v x ≤ 0) : cmp u x ≤ 0 ∧ (cmp u v < 0 → cmp u x < 0) := by
  rw [cmp_bytes hu hv] at h ⊢
  rw [cmp_bytes hv hx] at k
  rw [cmp_bytes hu hx]
  exact cmpB_trans _ _ _ h k
theorem cmp_lists {x u v : V} (hx : Fine x) : cmp (mk 7 0 [] [x, u] []) (mk 7 0 [] [x, v] []) = cmp u v := by
  rw [cmp_mk, if_neg (by simp), if_neg (by decide), if_neg (by decide), if_neg (by decide)]
  have e0 : cmpF [] [] = 0 := rfl
  have e1 : cmpL [x, u] [x, v] = orC (cmp x x) (orC (cmp u v) 0) := rfl
  rw [e0, e1, cmp_self hx, orC_0]
  have e2 : sg (([x, u].length + ([] : List (ByteArray × V)).length : Nat) : Int) (([x, v].length + ([] : List (ByteArray × V)).length : Nat) : Int) = 0 := rfl
  rw [e2]
  unfold orC; repeat' split
  all_goals simp_all
end V

abbrev cells1 (c : Cv) : Array Value := #[.int .i64 c.k, .int .u64 c.n, .slice c.aB c.nB c.cB, .slice c.aL c.nL c.cL, .slice c.aF c.nF c.cF]
/-- Values beside one another in a block of their own: as a list. -/
theorem InL.row1 {w : World} {u : V} {c : Cv} (h : In w u c) : InL (w.alloc (.cells (cells1 c) 27)) (some ⟨w.heap.size, 0, none⟩) 1 [u] := by
  have hg := (Grow.refl w).alloc (.cells (cells1 c) 27)
  have hB := Blk.new w 27 (cells1 c)
  have h' := h.grow hg
  have hlt := hB.lt
  unfold InL In
  rw [IsV]
  refine ⟨rfl, rfl, rfl, rfl, rfl, by decide, by decide, by decide, by simp, by simp, by simp, by simp, by simp, by simp, ⟨rfl, fun h => by simp at h⟩, fun i hi => ?_, fun i hi => by simp at hi⟩
  have hi2 : i = 0 := by simp at hi; omega
  rcases hi2 with rfl
  · exact ⟨w.heap.size, 0, c, rfl, ⟨⟨hB.cell 0, Nat.zero_le _, hlt⟩, ⟨hB.cell 1, Nat.zero_le _, hlt⟩, ⟨hB.cell 2, Nat.zero_le _, hlt⟩, ⟨hB.cell 3, Nat.zero_le _, hlt⟩, ⟨hB.cell 4, Nat.zero_le _, hlt⟩⟩, h'⟩
abbrev cells2 (c d : Cv) : Array Value := #[.int .i64 c.k, .int .u64 c.n, .slice c.aB c.nB c.cB, .slice c.aL c.nL c.cL, .slice c.aF c.nF c.cF, .int .i64 d.k, .int .u64 d.n, .slice d.aB d.nB d.cB, .slice d.aL d.nL d.cL, .slice d.aF d.nF d.cF]
/-- Values beside one another in a block of their own: as a list. -/
theorem InL.row2 {w : World} {u v : V} {c d : Cv} (h : In w u c) (k : In w v d) : InL (w.alloc (.cells (cells2 c d) 27)) (some ⟨w.heap.size, 0, none⟩) 2 [u, v] := by
  have hg := (Grow.refl w).alloc (.cells (cells2 c d) 27)
  have hB := Blk.new w 27 (cells2 c d)
  have h' := h.grow hg
  have k' := k.grow hg
  have hlt := hB.lt
  unfold InL In
  rw [IsV]
  refine ⟨rfl, rfl, rfl, rfl, rfl, by decide, by decide, by decide, by simp, by simp, by simp, by simp, by simp, by simp, ⟨rfl, fun h => by simp at h⟩, fun i hi => ?_, fun i hi => by simp at hi⟩
  have hi2 : i = 0 ∨ i = 1 := by simp at hi; omega
  rcases hi2 with rfl | rfl
  · exact ⟨w.heap.size, 0, c, rfl, ⟨⟨hB.cell 0, Nat.zero_le _, hlt⟩, ⟨hB.cell 1, Nat.zero_le _, hlt⟩, ⟨hB.cell 2, Nat.zero_le _, hlt⟩, ⟨hB.cell 3, Nat.zero_le _, hlt⟩, ⟨hB.cell 4, Nat.zero_le _, hlt⟩⟩, h'⟩
  · exact ⟨w.heap.size, 0, d, rfl, ⟨⟨hB.cell 5, Nat.zero_le _, hlt⟩, ⟨hB.cell 6, Nat.zero_le _, hlt⟩, ⟨hB.cell 7, Nat.zero_le _, hlt⟩, ⟨hB.cell 8, Nat.zero_le _, hlt⟩, ⟨hB.cell 9, Nat.zero_le _, hlt⟩⟩, k'⟩
abbrev cells4 (c d e g : Cv) : Array Value := #[.int .i64 c.k, .int .u64 c.n, .slice c.aB c.nB c.cB, .slice c.aL c.nL c.cL, .slice c.aF c.nF c.cF, .int .i64 d.k, .int .u64 d.n, .slice d.aB d.nB d.cB, .slice d.aL d.nL d.cL, .slice d.aF d.nF d.cF, .int .i64 e.k, .int .u64 e.n, .slice e.aB e.nB e.cB, .slice e.aL e.nL e.cL, .slice e.aF e.nF e.cF, .int .i64 g.k, .int .u64 g.n, .slice g.aB g.nB g.cB, .slice g.aL g.nL g.cL, .slice g.aF g.nF g.cF]
/-- Values beside one another in a block of their own: as a list. -/
theorem InL.row4 {w : World} {u v x y : V} {c d e g : Cv} (h : In w u c) (k : In w v d) (m : In w x e) (q : In w y g) : InL (w.alloc (.cells (cells4 c d e g) 27)) (some ⟨w.heap.size, 0, none⟩) 4 [u, v, x, y] := by
  have hg := (Grow.refl w).alloc (.cells (cells4 c d e g) 27)
  have hB := Blk.new w 27 (cells4 c d e g)
  have h' := h.grow hg
  have k' := k.grow hg
  have m' := m.grow hg
  have q' := q.grow hg
  have hlt := hB.lt
  unfold InL In
  rw [IsV]
  refine ⟨rfl, rfl, rfl, rfl, rfl, by decide, by decide, by decide, by simp, by simp, by simp, by simp, by simp, by simp, ⟨rfl, fun h => by simp at h⟩, fun i hi => ?_, fun i hi => by simp at hi⟩
  have hi2 : i = 0 ∨ i = 1 ∨ i = 2 ∨ i = 3 := by simp at hi; omega
  rcases hi2 with rfl | rfl | rfl | rfl
  · exact ⟨w.heap.size, 0, c, rfl, ⟨⟨hB.cell 0, Nat.zero_le _, hlt⟩, ⟨hB.cell 1, Nat.zero_le _, hlt⟩, ⟨hB.cell 2, Nat.zero_le _, hlt⟩, ⟨hB.cell 3, Nat.zero_le _, hlt⟩, ⟨hB.cell 4, Nat.zero_le _, hlt⟩⟩, h'⟩
  · exact ⟨w.heap.size, 0, d, rfl, ⟨⟨hB.cell 5, Nat.zero_le _, hlt⟩, ⟨hB.cell 6, Nat.zero_le _, hlt⟩, ⟨hB.cell 7, Nat.zero_le _, hlt⟩, ⟨hB.cell 8, Nat.zero_le _, hlt⟩, ⟨hB.cell 9, Nat.zero_le _, hlt⟩⟩, k'⟩
  · exact ⟨w.heap.size, 0, e, rfl, ⟨⟨hB.cell 10, Nat.zero_le _, hlt⟩, ⟨hB.cell 11, Nat.zero_le _, hlt⟩, ⟨hB.cell 12, Nat.zero_le _, hlt⟩, ⟨hB.cell 13, Nat.zero_le _, hlt⟩, ⟨hB.cell 14, Nat.zero_le _, hlt⟩⟩, m'⟩
  · exact ⟨w.heap.size, 0, g, rfl, ⟨⟨hB.cell 15, Nat.zero_le _, hlt⟩, ⟨hB.cell 16, Nat.zero_le _, hlt⟩, ⟨hB.cell 17, Nat.zero_le _, hlt⟩, ⟨hB.cell 18, Nat.zero_le _, hlt⟩, ⟨hB.cell 19, Nat.zero_le _, hlt⟩⟩, q'⟩

/-! Keys in order. -/
namespace V
/-- A good value whose key is short enough. -/
structure Keyed (v : V) : Prop extends Fine v where
  good : v.good = 0
  short : v.key.length ≤ 96
theorem Keyed.of {v : V} (h : (ofK v).2 = 0) (hf : v.fit) : Keyed v := by
  obtain ⟨h1, h2⟩ := ofK_good h
  exact ⟨⟨(good_parts h1).1, hf⟩, h1, h2⟩
theorem Keyed.ofK {v : V} (h : Keyed v) : ofK v = (v.key, 0) := by
  have := h.short
  unfold Proofs.YtpjhhkndfmcaoaaDoor.ofK; rw [if_neg (by rw [h.good]; simp), if_neg (by omega)]
theorem Keyed.kd {v : V} (h : Keyed v) (st : Bool) : kd st 17 v.key = some (v, []) := by
  have := kd_key st v 16 [] h.fit h.formed (good_parts h.good).2
  rwa [List.append_nil] at this
theorem Keyed.back {v : V} (h : Keyed v) : backK (Proofs.YtpjhhkndfmcaoaaDoor.kd false 17) v.key = some v := by
  unfold backK
  rw [h.kd false]
  simp [h.ofK]
theorem flip_length' (t : Bool) (b : List UInt8) : (flip t b).length = b.length := by unfold flip; split <;> simp
theorem Keyed.all {v : V} (h : Keyed v) (t : Bool) : allK [v] [t] = (flip t v.key, 0) := by
  have hs := h.short
  unfold allK
  have e1 : allE [v] = 0 := by unfold allE; rw [h.ofK]; rfl
  have e2 : allB [v] [t] = flip t v.key := by simp [allB]
  rw [if_neg (by simp), if_neg (by rw [e1]; simp), e2, if_neg (by rw [flip_length']; omega)]
theorem Keyed.parts {v : V} (h : Keyed v) (t : Bool) : partsK (Proofs.YtpjhhkndfmcaoaaDoor.kd false 17) [t] (flip t v.key) = some [v] := by
  unfold partsK
  have e : partsRd (Proofs.YtpjhhkndfmcaoaaDoor.kd false 17) [t] (flip t v.key) = some ([v], []) := by
    rw [partsRd, flip_flip, h.kd false]
    simp [partsRd, flip]
  rw [e]
  simp [h.all t]
/-- Turned keys stand the other way. -/
theorem cmp_flip {u v : V} (hu : Fine u) (hv : Fine v) : Lib.compareBytes (flip true u.key) (flip true v.key) = -(cmp u v) := by
  unfold flip
  simp only [if_true]
  rcases key_diff u v hu.formed hu.fit hv.formed hv.fit with ⟨rfl, h⟩ | h
  · rw [h, cmpB_self]; rfl
  · exact h.flip.cmp
/-- How the keys of a way stand. -/
def sgnC (t : Bool) (c : Int) : Int := if t = true then -c else c
theorem way_diff (t : Bool) {u v : V} (hu : Fine u) (hv : Fine v) : (u = v ∧ cmp u v = 0) ∨ Diff (sgnC t (cmp u v)) (flip t u.key) (flip t v.key) := by
  rcases key_diff u v hu.formed hu.fit hv.formed hv.fit with h | h
  · exact .inl h
  · right
    unfold flip sgnC
    cases t
    · exact h
    · exact h.flip
theorem begins_no {u v : V} (hu : Fine u) (hv : Fine v) (h : cmp u v ≠ 0) : ¬ u.key <+: v.key ∧ ¬ v.key <+: u.key := by
  rcases key_diff u v hu.formed hu.fit hv.formed hv.fit with ⟨_, h'⟩ | hd
  · exact absurd h' h
  · exact ⟨hd.not_begins, hd.swap.not_begins⟩
/-- Two keys behind one another, each by its own way. -/
theorem two_cmp (s t : Bool) {a b c d : V} (ha : Fine a) (hb : Fine b) (hc : Fine c) (hd : Fine d) :
    Lib.compareBytes (flip s a.key ++ flip t b.key) (flip s c.key ++ flip t d.key) = orC (sgnC s (cmp a c)) (sgnC t (cmp b d)) := by
  have h0 : ∀ s, sgnC s 0 = 0 := by intro s; cases s <;> rfl
  rcases way_diff s ha hc with ⟨rfl, h⟩ | h
  · rw [h, h0, orC_0, cmpB_left]
    rcases way_diff t hb hd with ⟨rfl, h⟩ | h
    · rw [h, h0, cmpB_self]
    · exact h.cmp
  · rw [orC_n _ h.ne0]
    exact (h.right _ _).cmp
end V
end Go.Proofs.YtpjhhkndfmcaoaaDoor
