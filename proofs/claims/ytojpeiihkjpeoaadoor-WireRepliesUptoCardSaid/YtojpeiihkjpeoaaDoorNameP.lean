/- Names, plainly: on UTF-8 a rune that may not be and a byte that may not be are found alike. No program in sight. -/
import Derived.Test.YtojpeiihkjpeoaaDoorUtfP
import Derived.Shelf.Strings.FuncGrows
namespace Go.Proofs.YtojpeiihkjpeoaaDoor
open Go.Lib

def nameByte (c : UInt8) : Bool := decide (32 ≤ c.toNat ∧ c.toNat ≠ 46)
def badRune (x : Nat) : Bool := decide (x < 32 ∨ x = 46)

set_option maxRecDepth 10000 in
set_option maxHeartbeats 1600000 in
theorem dec_class (n b0 b1 b2 b3 : Nat) (_hl : 0 < n) (_h0 : b0 < 256) (h1 : b1 < 256) (h2 : b2 < 256) (h3 : b3 < 256) :
    (b0 < 128 ∧ decodeN n b0 b1 b2 b3 = (b0, 1)) ∨ decodeN n b0 b1 b2 b3 = (65533, 1) ∨
    (∃ r, decodeN n b0 b1 b2 b3 = (r, 2) ∧ 128 ≤ r ∧ 2 ≤ n ∧ 128 ≤ b0 ∧ 128 ≤ b1) ∨
    (∃ r, decodeN n b0 b1 b2 b3 = (r, 3) ∧ 128 ≤ r ∧ 3 ≤ n ∧ 128 ≤ b0 ∧ 128 ≤ b1 ∧ 128 ≤ b2) ∨
    (∃ r, decodeN n b0 b1 b2 b3 = (r, 4) ∧ 128 ≤ r ∧ 4 ≤ n ∧ 128 ≤ b0 ∧ 128 ≤ b1 ∧ 128 ≤ b2 ∧ 128 ≤ b3) := by
  unfold decodeN
  split
  · rename_i h; exact .inl ⟨h, rfl⟩
  · split
    · split
      · rename_i h _ hr; exact .inr (.inr (.inl ⟨_, rfl, by omega⟩))
      · exact .inr (.inl rfl)
    · split
      · split
        · rename_i h _ hr; exact .inr (.inr (.inr (.inl ⟨_, rfl, by omega⟩)))
        · exact .inr (.inl rfl)
      · split
        · split
          · rename_i h _ hr; exact .inr (.inr (.inr (.inr ⟨_, rfl, by omega⟩)))
          · exact .inr (.inl rfl)
        · exact .inr (.inl rfl)

theorem nameByte_big (c : UInt8) (h : 128 ≤ c.toNat) : nameByte c = true := decide_eq_true (by omega)
theorem all_big (l : List UInt8) (k : Nat) (hk : k ≤ l.length) (h : ∀ i, i < k → 128 ≤ (l.getD i 0).toNat) : (l.take k).all nameByte = true := by
  rw [List.all_eq_true]
  intro x hx
  obtain ⟨i, hi, rfl⟩ := List.mem_iff_getElem.1 hx
  have hik : i < k := by rw [List.length_take] at hi; omega
  have := h i hik
  rw [List.getD_eq_getElem?_getD, List.getElem?_eq_getElem (by omega)] at this
  rw [List.getElem_take]
  exact nameByte_big _ this

theorem name_idx (s : ByteArray) : ∀ (f pos : Nat), validD (s.data.toList.drop pos) = true → s.size ≤ pos + f →
    decide (0 ≤ idxFuncFrom badRune true s f pos) = !((s.data.toList.drop pos).all nameByte) := by
  intro f
  induction f with
  | zero =>
    intro pos _ hp
    have : s.data.toList.drop pos = [] := List.drop_eq_nil_of_le (by have : s.data.toList.length = s.size := rfl; omega)
    rw [this]; rfl
  | succ f ih =>
    intro pos hv hp
    by_cases hlt : pos < s.size
    · have hsz : s.data.toList.length = s.size := rfl
      obtain ⟨l, hl⟩ : ∃ l, s.data.toList.drop pos = l := ⟨_, rfl⟩
      have hll : l.length = s.size - pos := by rw [← hl, List.length_drop, hsz]
      have hne : l ≠ [] := fun h => by rw [h] at hll; simp at hll; omega
      have hd : Utf8.decode s pos = decodeL l := by rw [← hl, decodeL_drop]
      have hdrop : ∀ k, s.data.toList.drop (pos + k) = l.drop k := fun k => by rw [← hl, List.drop_drop]
      have hsplit : ∀ k, l.all nameByte = ((l.take k).all nameByte && (l.drop k).all nameByte) := fun k => by rw [← List.all_append, List.take_append_drop]
      have hstep := validD_step l hne
      rw [hl] at hv
      rw [hv] at hstep
      unfold idxFuncFrom
      rw [if_pos hlt, hd, hl]
      rw [decodeL_N] at hstep ⊢
      have big : ∀ (r k : Nat), 0 < k → decodeN l.length (l.getD 0 0).toNat (l.getD 1 0).toNat (l.getD 2 0).toNat (l.getD 3 0).toNat = (r, k) → 128 ≤ r → k ≤ l.length → (∀ i, i < k → 128 ≤ (l.getD i 0).toNat) → (k = 1 → False) →
          decide (0 ≤ if badRune (r, k).1 = true then (pos : Int) else idxFuncFrom badRune true s f (pos + (r, k).2)) = !(l.all nameByte) := by
        intro r k hk0 he hr hk hb hk1
        rw [he, if_neg (fun h => hk1 h.2)] at hstep
        rw [if_neg (by simp [badRune]; omega), hsplit k, all_big l k hk hb, Bool.true_and, ← hdrop]
        exact ih (pos + k) (by rw [hdrop]; exact hstep.symm) (by omega)
      rcases dec_class l.length _ _ _ _ (by omega) (l.getD 0 0).toNat_lt (l.getD 1 0).toNat_lt (l.getD 2 0).toNat_lt (l.getD 3 0).toNat_lt with ⟨h0, e⟩ | e | ⟨r, e, hr, hn, h⟩ | ⟨r, e, hr, hn, h⟩ | ⟨r, e, hr, hn, h⟩
      · rw [e, if_neg (fun h => by have h1 : (l.getD 0 0).toNat = 65533 := h.1; omega)] at hstep
        rw [e]
        match l, hne with
        | c :: t, _ =>
          simp only [List.getD_cons_zero] at h0 ⊢
          by_cases hc : c.toNat < 32 ∨ c.toNat = 46
          · rw [if_pos (by simp [badRune]; omega)]
            have : nameByte c = false := decide_eq_false (by omega)
            rw [List.all_cons, this]
            simp
          · rw [if_neg (by simp [badRune]; omega)]
            have : nameByte c = true := decide_eq_true (by omega)
            rw [List.all_cons, this, Bool.true_and]
            have hd1 := hdrop 1
            have := ih (pos + 1) (by rw [hd1]; exact hstep.symm) (by omega)
            rw [hd1] at this
            exact this
      · rw [e] at hstep
        simp at hstep
      · rw [e]; exact big r 2 (by omega) e hr hn (fun i hi => by match i, hi with | 0, _ => exact h.1 | 1, _ => exact h.2) (by omega)
      · rw [e]; exact big r 3 (by omega) e hr hn (fun i hi => by match i, hi with | 0, _ => exact h.1 | 1, _ => exact h.2.1 | 2, _ => exact h.2.2) (by omega)
      · rw [e]; exact big r 4 (by omega) e hr hn (fun i hi => by match i, hi with | 0, _ => exact h.1 | 1, _ => exact h.2.1 | 2, _ => exact h.2.2.1 | 3, _ => exact h.2.2.2) (by omega)
    · rw [idxFuncFrom_end _ _ _ _ _ hlt]
      have : s.data.toList.drop pos = [] := List.drop_eq_nil_of_le (by have : s.data.toList.length = s.size := rfl; omega)
      rw [this]; rfl

theorem name_of (s : ByteArray) (hv : validD s.data.toList = true) : (!decide (0 ≤ idxFunc badRune true s)) = s.data.toList.all nameByte := by
  have := name_idx s s.size 0 hv (by omega)
  rw [List.drop_zero] at this
  rw [idxFunc, this, Bool.not_not]
end Go.Proofs.YtojpeiihkjpeoaaDoor
