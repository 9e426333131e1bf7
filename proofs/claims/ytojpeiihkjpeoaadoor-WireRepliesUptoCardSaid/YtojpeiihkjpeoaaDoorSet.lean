/- Sets of names, plainly. No program in sight. -/
import Derived.Test.YtojpeiihkjpeoaaDoorSpec
import Derived.Maps.OwnSet
namespace Go.Proofs.YtojpeiihkjpeoaaDoor
open Go.RowKit Go.Maps

def nlit (s : ByteArray) : Lit := .string s.data.toList
def NS (l : List ByteArray) : DataW Unit := setOf (.agg []) (l.map nlit)
theorem NS_nil : NS [] = .map [] := rfl
theorem NS_snoc (l : List ByteArray) (s : ByteArray) : NS (l ++ [s]) = (NS l).put (nlit s) (.agg []) := by
  unfold NS
  rw [List.map_append, List.map_singleton, setOf_snoc]
theorem nlit_key (l : List ByteArray) : ∀ x ∈ l.map nlit, WideAt.IsKeyLit x := fun x hx => by
  obtain ⟨s, _, rfl⟩ := List.mem_map.1 hx
  trivial
theorem nlit_inj {a b : ByteArray} (h : nlit a = nlit b) : a = b := by
  injection h with h
  exact ByteArray.ext (Array.ext' h)
theorem has_NS (l : List ByteArray) (s : ByteArray) : Maps.has (NS l) (nlit s) = true ↔ s ∈ l := by
  unfold NS
  rw [has_setOf _ _ _ (nlit_key l), List.any_map, List.any_eq_true]
  constructor
  · rintro ⟨x, hx, h⟩
    by_cases e : nlit x = nlit s
    · rw [← nlit_inj e]; exact hx
    · rw [Function.comp, sameKey_ne e] at h
      exact absurd h Bool.false_ne_true
  · intro h
    exact ⟨s, h, show (nlit s).sameKey (nlit s) = true from WideAt.sameKey_self (a := nlit s) (nlit_key [s] (nlit s) (by simp))⟩
theorem size_NS_old (l : List ByteArray) (s : ByteArray) (h : s ∈ l) : Maps.size (NS (l ++ [s])) = Maps.size (NS l) := by
  rw [NS_snoc, size_put (D := NS l) (tidy_setOf _ _ (nlit_key l)), if_pos ((has_NS l s).2 h)]
theorem size_NS_new (l : List ByteArray) (s : ByteArray) (h : ¬ s ∈ l) : Maps.size (NS (l ++ [s])) = Maps.size (NS l) + 1 := by
  rw [NS_snoc, size_put (D := NS l) (tidy_setOf _ _ (nlit_key l)), if_neg (fun e => h ((has_NS l s).1 e))]
theorem size_NS (l : List ByteArray) : ∀ j, j ≤ l.length → Maps.size (NS (l.take j)) ≤ j ∧ (Maps.size (NS (l.take j)) = j ↔ (l.take j).Nodup) := by
  intro j
  induction j with
  | zero => intro _; exact ⟨Nat.le_of_eq rfl, by simp [NS_nil]; rfl⟩
  | succ j ih =>
    intro h
    obtain ⟨h1, h2⟩ := ih (by omega)
    rw [take_snoc l j (by omega)]
    by_cases hm : l[j] ∈ l.take j
    · rw [size_NS_old _ _ hm]
      refine ⟨by omega, ⟨fun e => by omega, fun hn => ?_⟩⟩
      rw [List.nodup_append] at hn
      exact absurd rfl (hn.2.2 _ hm _ (by simp))
    · rw [size_NS_new _ _ hm]
      refine ⟨by omega, ⟨fun e => ?_, fun hn => ?_⟩⟩
      · rw [List.nodup_append]
        refine ⟨h2.1 (by omega), by simp, fun a ha b hb => ?_⟩
        rw [List.mem_singleton] at hb
        subst hb
        intro e
        subst e
        exact hm ha
      · rw [List.nodup_append] at hn
        have := h2.2 hn.1
        omega
theorem size_NS_all (l : List ByteArray) : (((Maps.size (NS l) : Nat) : Int) == (l.length : Int)) = decide l.Nodup := by
  have := (size_NS l l.length (Nat.le_refl _)).2
  rw [List.take_length] at this
  apply Bool.eq_iff_iff.2
  rw [decide_eq_true_eq, beq_iff_eq, ← this]
  omega
end Go.Proofs.YtojpeiihkjpeoaaDoor
