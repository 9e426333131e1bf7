/- Keys, plainly: just the byte strings that begin with one lie between it and what After tells. No program in sight. -/
import Derived.Test.YticgdjnekbobgaaDoorKeyH
set_option linter.unusedVariables false
set_option linter.unusedSimpArgs false
namespace Go.Proofs.YticgdjnekbobgaaDoor
open Go.RowKit Go.Shelf Go.WideShapes

theorem ff_le : ∀ (k : Nat) (y : List UInt8), 0 ≤ Lib.compareBytes y (List.replicate k 255) ↔ List.replicate k 255 <+: y
  | 0, y => by cases y <;> simp [Lib.compareBytes]
  | k + 1, [] => by simp [List.replicate_succ, Lib.compareBytes]
  | k + 1, x :: y => by
    rw [List.replicate_succ, Lib.compareBytes, List.cons_prefix_cons]
    have hx := x.toNat_lt
    by_cases h : x < 255
    · rw [if_pos h]
      refine ⟨fun h => absurd h (by decide), fun ⟨e, _⟩ => ?_⟩
      subst e
      exact absurd h (by decide)
    · have e : x = 255 := by
        apply UInt8.toNat_inj.1
        have h2 : ¬ x.toNat < 255 := fun q => h (UInt8.lt_iff_toNat_lt.2 q)
        show x.toNat = 255
        omega
      subst e
      rw [if_neg h, if_neg h, ff_le k y]
      simp
theorem aft_lem (c : UInt8) (hc : c ≠ 255) (k : Nat) : ∀ (p y : List UInt8),
    (Lib.compareBytes y (p ++ [UInt8.ofNat (c.toNat + 1)]) < 0 ∧ 0 ≤ Lib.compareBytes y (p ++ c :: List.replicate k 255)) ↔ (p ++ c :: List.replicate k 255) <+: y
  | [], [] => by simp [Lib.compareBytes]
  | [], d :: y => by
    have hc1 : c.toNat < 255 := by
      have := c.toNat_lt
      have : c.toNat ≠ 255 := fun e => hc (UInt8.toNat_inj.1 e)
      omega
    have hn : (UInt8.ofNat (c.toNat + 1)).toNat = c.toNat + 1 := by rw [UInt8.toNat_ofNat']; omega
    rw [List.nil_append, List.nil_append, Lib.compareBytes, Lib.compareBytes, List.cons_prefix_cons]
    simp only [UInt8.lt_iff_toNat_lt, hn]
    by_cases h1 : d.toNat < c.toNat
    · rw [if_pos (show d.toNat < c.toNat + 1 by omega), if_pos h1]
      refine ⟨fun h => absurd h.2 (by decide), fun ⟨e, _⟩ => ?_⟩
      subst e; omega
    · by_cases h2 : c.toNat < d.toNat
      · rw [if_neg (show ¬ d.toNat < c.toNat + 1 by omega)]
        refine ⟨fun h => ?_, fun ⟨e, _⟩ => by subst e; omega⟩
        exfalso
        have h := h.1
        split at h
        · exact absurd h (by decide)
        · cases y <;> simp [Lib.compareBytes] at h
      · have e : c = d := UInt8.toNat_inj.1 (by omega)
        subst e
        rw [if_pos (show c.toNat < c.toNat + 1 by omega), if_neg h1, if_neg h1, ff_le]
        simp
  | q :: p, [] => by simp [Lib.compareBytes]
  | q :: p, d :: y => by
    rw [List.cons_append, List.cons_append, Lib.compareBytes, Lib.compareBytes, List.cons_prefix_cons]
    by_cases h1 : d < q
    · rw [if_pos h1, if_pos h1]
      refine ⟨fun h => absurd h.2 (by decide), fun ⟨e, _⟩ => ?_⟩
      subst e
      exact absurd h1 (UInt8.lt_irrefl _)
    · by_cases h2 : q < d
      · rw [if_neg h1, if_neg h1, if_pos h2]
        refine ⟨fun h => absurd h.1 (by decide), fun ⟨e, _⟩ => ?_⟩
        subst e
        exact absurd h2 (UInt8.lt_irrefl _)
      · have e : q = d := UInt8.le_antisymm (UInt8.not_lt.1 h1) (UInt8.not_lt.1 h2)
        subst e
        rw [if_neg h1, if_neg h1, if_neg h1, if_neg h1, aft_lem c hc k p y]
        simp
theorem stripN_split (b : List UInt8) : ∀ n, n ≤ b.length → ∃ k, n = stripN b n + k ∧ b.take n = b.take (stripN b n) ++ List.replicate k 255 ∧ (stripN b n = 0 ∨ b[stripN b n - 1]? ≠ some 255)
  | 0, _ => ⟨0, rfl, by simp [stripN], .inl rfl⟩
  | n + 1, h => by
    rw [stripN]
    by_cases h1 : b[n]? = some 255
    · rw [if_pos h1]
      obtain ⟨k, hk, ht, hs⟩ := stripN_split b n (by omega)
      refine ⟨k + 1, by omega, ?_, hs⟩
      rw [List.take_add_one, h1, ht, List.append_assoc, List.replicate_succ']
      rfl
    · rw [if_neg h1]
      exact ⟨0, rfl, by simp, .inr (by simpa using h1)⟩
theorem afterN_cases (b : List UInt8) : (afterN b = ([], false) ∧ b = List.replicate b.length 255) ∨
    ∃ p c k, c ≠ 255 ∧ b = p ++ c :: List.replicate k 255 ∧ afterN b = (p ++ [UInt8.ofNat (c.toNat + 1)], true) := by
  obtain ⟨k, hk, ht, hs⟩ := stripN_split b b.length (Nat.le_refl _)
  rw [List.take_length] at ht
  generalize hg : stripN b b.length = s at hk ht hs
  cases s with
  | zero =>
    left
    refine ⟨by unfold afterN; rw [hg, if_pos rfl], ?_⟩
    have e : k = b.length := by omega
    subst e
    simpa using ht
  | succ s =>
    right
    have hlt : s < b.length := by omega
    have hc : b[s]? = some b[s] := List.getElem?_eq_getElem hlt
    refine ⟨b.take s, b[s], k, ?_, ?_, ?_⟩
    · intro e
      rcases hs with hs | hs
      · omega
      · rw [Nat.add_sub_cancel, hc, e] at hs; exact hs rfl
    · have e2 : b.take (s + 1) = b.take s ++ [b[s]] := by rw [List.take_add_one, hc]; rfl
      rw [e2] at ht
      exact ht.trans (by rw [List.append_assoc]; rfl)
    · unfold afterN
      rw [hg, if_neg (by omega), Nat.add_sub_cancel, List.getD_eq_getElem?_getD, hc, List.take_add_one, hc]
      simp only [Option.getD_some, Option.toList_some]
      rw [List.set_append_right _ _ (by rw [List.length_take]; omega), List.length_take, Nat.min_eq_left (by omega), Nat.sub_self]
      rfl
/-- What is above all that begin so: just those that begin so lie between. -/
theorem after_between {a x : List UInt8} (h : afterN a = (x, true)) (y : List UInt8) : (Lib.compareBytes y x < 0 ∧ 0 ≤ Lib.compareBytes y a) ↔ a <+: y := by
  rcases afterN_cases a with ⟨h1, _⟩ | ⟨p, c, k, hc, hb, h1⟩
  · rw [h1] at h; cases (Prod.ext_iff.1 h).2
  · rw [h1] at h
    injection h with h h2
    rw [← h, hb]
    exact aft_lem c hc k p y
theorem after_len (a : List UInt8) : (afterN a).1.length ≤ a.length := by
  rcases afterN_cases a with ⟨h1, _⟩ | ⟨p, c, k, hc, hb, h1⟩
  · rw [h1]; simp
  · rw [h1, hb]; simp
theorem cmp_neg {a b : List UInt8} (h : Lib.compareBytes a b < 0) : Lib.compareBytes a b = -1 := by
  have : ∀ a b : List UInt8, Lib.compareBytes a b = -1 ∨ 0 ≤ Lib.compareBytes a b := fun a b => by
    fun_induction Lib.compareBytes a b <;> simp_all
  rcases this a b with h1 | h1 <;> omega
theorem escB_pre : ∀ (a b : List UInt8), escB a <+: escB b ++ [0, 0] ↔ a <+: b
  | [], b => by simp [escB]
  | x :: a, [] => by
    by_cases h : x = 0
    · subst h; simp [escB, List.cons_prefix_cons]
    · simp [escB, List.cons_prefix_cons, h]
  | x :: a, y :: b => by
    rw [escB, escB, List.cons_prefix_cons]
    by_cases h : x = 0
    · by_cases h2 : y = 0
      · subst h h2
        simp only [if_pos, List.cons_append, List.cons_prefix_cons, true_and, escB_pre a b]
      · rw [if_pos h, if_neg h2, List.cons_append, List.cons_prefix_cons]
        exact ⟨fun e => absurd e.1.symm h2, fun e => absurd (e.1.symm.trans h) h2⟩
    · by_cases h2 : y = 0
      · rw [if_neg h, if_pos h2, List.cons_append, List.cons_prefix_cons]
        exact ⟨fun e => absurd e.1 h, fun e => absurd (e.1.trans h2) h⟩
      · rw [if_neg h, if_neg h2, List.cons_append, List.cons_prefix_cons, escB_pre a b]
end Go.Proofs.YticgdjnekbobgaaDoor
