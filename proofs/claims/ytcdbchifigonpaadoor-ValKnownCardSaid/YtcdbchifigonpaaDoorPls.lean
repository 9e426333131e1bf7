/- UTF-8, plainly: what one step of the document's answer decides. No program in sight. · Names, plainly: on UTF-8 a rune that may not be and a byte that may not be are found alike. No program in sight. · Sets of names, plainly. No program in sight. · Values that lie in memory of their own, part by part apart: no program in sight. · The reading of values, plainly. No program in sight. · What is read is what is written, and what is written is read. No program in sight. · A formed value has no more parts than bytes. No program in sight. -/
import Derived.Test.YtcdbchifigonpaaDoorLibs
import Derived.Lib.ValidLaws
import Derived.Lib.TrimUEq
import Derived.Shelf.Strings.FuncGrows
import Derived.Maps.OwnSet
namespace Go.Proofs.YtcdbchifigonpaaDoor
open Go.Lib

theorem utf_ascii (l : List UInt8) (hne : l ≠ []) (h : (l.getD 0 0).toNat < 128) : validD l = validD (l.drop 1) := by
  match l, hne with
  | b :: t, _ => exact validD_cons b t (by simpa using h)
set_option maxRecDepth 10000 in
theorem utf_bad (l : List UInt8) (hne : l ≠ []) (h : 128 ≤ (l.getD 0 0).toNat) (h' : (l.getD 0 0).toNat < 192 ∨ 248 ≤ (l.getD 0 0).toNat) : validD l = false := by
  have hl : 0 < l.length := List.length_pos_iff.2 hne
  have h0 := (l.getD 0 0).toNat_lt
  rw [validD_step l hne, decodeL_N, if_pos]
  unfold decodeN
  rw [if_neg (by omega), if_neg (by omega), if_neg (by omega), if_neg (by omega)]
  exact ⟨rfl, rfl⟩
set_option maxRecDepth 10000 in
set_option maxHeartbeats 800000 in
theorem dec_two (n b0 b1 b2 b3 : Nat) (_hl : 0 < n) (h0 : 192 ≤ b0 ∧ b0 < 224) (h1 : b1 < 256) (_h2 : b2 < 256) (_h3 : b3 < 256) :
    (decodeN n b0 b1 b2 b3 = (65533, 1) ∧ ¬ (2 ≤ n ∧ 128 ≤ b1 ∧ b1 < 192 ∧ 128 + 128 ≤ (b0 - 192) * 64 + b1)) ∨ (∃ r, decodeN n b0 b1 b2 b3 = (r, 2) ∧ (2 ≤ n ∧ 128 ≤ b1 ∧ b1 < 192 ∧ 128 + 128 ≤ (b0 - 192) * 64 + b1)) := by
  unfold decodeN
  rw [if_neg (by omega)]
  by_cases c : b0 / 32 = 6 ∧ (1 < n ∧ b1 / 64 = 2)
  · rw [if_pos c]
    by_cases d : b0 % 32 * 64 + b1 % 64 ≥ 128
    · rw [if_pos d]; exact .inr ⟨_, rfl, by omega⟩
    · rw [if_neg d]; exact .inl ⟨rfl, by omega⟩
  · rw [if_neg c, if_neg (by omega), if_neg (by omega)]; exact .inl ⟨rfl, by omega⟩

theorem utf_two (l : List UInt8) (hne : l ≠ []) (h1 : 192 ≤ (l.getD 0 0).toNat) (h2 : (l.getD 0 0).toNat < 224) :
    validD l = if 2 ≤ l.length ∧ 128 ≤ (l.getD 1 0).toNat ∧ (l.getD 1 0).toNat < 192 ∧ 128 + 128 ≤ ((l.getD 0 0).toNat - 192) * 64 + (l.getD 1 0).toNat then validD (l.drop 2) else false := by
  have hl : 0 < l.length := List.length_pos_iff.2 hne
  rw [validD_step l hne, decodeL_N]
  rcases dec_two l.length _ _ _ _ hl ⟨h1, h2⟩ (l.getD 1 0).toNat_lt (l.getD 2 0).toNat_lt (l.getD 3 0).toNat_lt with ⟨e, hc⟩ | ⟨r, e, hc⟩
  · rw [e, if_pos ⟨rfl, rfl⟩, if_neg hc]
  · rw [e, if_neg (by simp), if_pos hc]
set_option maxRecDepth 10000 in
set_option maxHeartbeats 800000 in
theorem dec_three (n b0 b1 b2 b3 : Nat) (_hl : 0 < n) (h0 : 224 ≤ b0 ∧ b0 < 240) (h1 : b1 < 256) (_h2 : b2 < 256) (_h3 : b3 < 256) :
    (decodeN n b0 b1 b2 b3 = (65533, 1) ∧ ¬ (3 ≤ n ∧ (128 ≤ b1 ∧ b1 < 192) ∧ (128 ≤ b2 ∧ b2 < 192) ∧ 2048 + 8320 ≤ ((b0 - 224) * 64 + b1) * 64 + b2 ∧ ¬ (55296 + 8320 ≤ ((b0 - 224) * 64 + b1) * 64 + b2 ∧ ((b0 - 224) * 64 + b1) * 64 + b2 ≤ 57343 + 8320))) ∨ (∃ r, decodeN n b0 b1 b2 b3 = (r, 3) ∧ (3 ≤ n ∧ (128 ≤ b1 ∧ b1 < 192) ∧ (128 ≤ b2 ∧ b2 < 192) ∧ 2048 + 8320 ≤ ((b0 - 224) * 64 + b1) * 64 + b2 ∧ ¬ (55296 + 8320 ≤ ((b0 - 224) * 64 + b1) * 64 + b2 ∧ ((b0 - 224) * 64 + b1) * 64 + b2 ≤ 57343 + 8320))) := by
  unfold decodeN
  rw [if_neg (by omega)]
  rw [if_neg (by omega)]
  by_cases c : b0 / 16 = 14 ∧ (1 < n ∧ b1 / 64 = 2) ∧ (2 < n ∧ b2 / 64 = 2)
  · rw [if_pos c]
    by_cases d : b0 % 16 * 4096 + b1 % 64 * 64 + b2 % 64 ≥ 2048 ∧ (b0 % 16 * 4096 + b1 % 64 * 64 + b2 % 64 < 55296 ∨ (57344 ≤ b0 % 16 * 4096 + b1 % 64 * 64 + b2 % 64 ∧ b0 % 16 * 4096 + b1 % 64 * 64 + b2 % 64 ≤ 1114111))
    · rw [if_pos d]; exact .inr ⟨_, rfl, by omega⟩
    · rw [if_neg d]; exact .inl ⟨rfl, by omega⟩
  · rw [if_neg c, if_neg (by omega)]; exact .inl ⟨rfl, by omega⟩

theorem utf_three (l : List UInt8) (hne : l ≠ []) (h1 : 224 ≤ (l.getD 0 0).toNat) (h2 : (l.getD 0 0).toNat < 240) :
    validD l = if 3 ≤ l.length ∧ (128 ≤ (l.getD 1 0).toNat ∧ (l.getD 1 0).toNat < 192) ∧ (128 ≤ (l.getD 2 0).toNat ∧ (l.getD 2 0).toNat < 192) ∧ 2048 + 8320 ≤ (((l.getD 0 0).toNat - 224) * 64 + (l.getD 1 0).toNat) * 64 + (l.getD 2 0).toNat ∧ ¬ (55296 + 8320 ≤ (((l.getD 0 0).toNat - 224) * 64 + (l.getD 1 0).toNat) * 64 + (l.getD 2 0).toNat ∧ (((l.getD 0 0).toNat - 224) * 64 + (l.getD 1 0).toNat) * 64 + (l.getD 2 0).toNat ≤ 57343 + 8320) then validD (l.drop 3) else false := by
  have hl : 0 < l.length := List.length_pos_iff.2 hne
  rw [validD_step l hne, decodeL_N]
  rcases dec_three l.length _ _ _ _ hl ⟨h1, h2⟩ (l.getD 1 0).toNat_lt (l.getD 2 0).toNat_lt (l.getD 3 0).toNat_lt with ⟨e, hc⟩ | ⟨r, e, hc⟩
  · rw [e, if_pos ⟨rfl, rfl⟩, if_neg hc]
  · rw [e, if_neg (by simp), if_pos hc]
set_option maxRecDepth 10000 in
set_option maxHeartbeats 800000 in
theorem dec_four (n b0 b1 b2 b3 : Nat) (_hl : 0 < n) (h0 : 240 ≤ b0 ∧ b0 < 248) (h1 : b1 < 256) (_h2 : b2 < 256) (_h3 : b3 < 256) :
    (decodeN n b0 b1 b2 b3 = (65533, 1) ∧ ¬ (4 ≤ n ∧ (128 ≤ b1 ∧ b1 < 192) ∧ (128 ≤ b2 ∧ b2 < 192) ∧ (128 ≤ b3 ∧ b3 < 192) ∧ 65536 + 532608 ≤ (((b0 - 240) * 64 + b1) * 64 + b2) * 64 + b3 ∧ (((b0 - 240) * 64 + b1) * 64 + b2) * 64 + b3 ≤ 1114111 + 532608)) ∨ (∃ r, decodeN n b0 b1 b2 b3 = (r, 4) ∧ (4 ≤ n ∧ (128 ≤ b1 ∧ b1 < 192) ∧ (128 ≤ b2 ∧ b2 < 192) ∧ (128 ≤ b3 ∧ b3 < 192) ∧ 65536 + 532608 ≤ (((b0 - 240) * 64 + b1) * 64 + b2) * 64 + b3 ∧ (((b0 - 240) * 64 + b1) * 64 + b2) * 64 + b3 ≤ 1114111 + 532608)) := by
  unfold decodeN
  rw [if_neg (by omega)]
  rw [if_neg (by omega), if_neg (by omega)]
  by_cases c : b0 / 8 = 30 ∧ (1 < n ∧ b1 / 64 = 2) ∧ (2 < n ∧ b2 / 64 = 2) ∧ (3 < n ∧ b3 / 64 = 2)
  · rw [if_pos c]
    by_cases d : b0 % 8 * 262144 + b1 % 64 * 4096 + b2 % 64 * 64 + b3 % 64 ≥ 65536 ∧ (b0 % 8 * 262144 + b1 % 64 * 4096 + b2 % 64 * 64 + b3 % 64 < 55296 ∨ (57344 ≤ b0 % 8 * 262144 + b1 % 64 * 4096 + b2 % 64 * 64 + b3 % 64 ∧ b0 % 8 * 262144 + b1 % 64 * 4096 + b2 % 64 * 64 + b3 % 64 ≤ 1114111))
    · rw [if_pos d]; exact .inr ⟨_, rfl, by omega⟩
    · rw [if_neg d]; exact .inl ⟨rfl, by omega⟩
  · rw [if_neg c]; exact .inl ⟨rfl, by omega⟩

theorem utf_four (l : List UInt8) (hne : l ≠ []) (h1 : 240 ≤ (l.getD 0 0).toNat) (h2 : (l.getD 0 0).toNat < 248) :
    validD l = if 4 ≤ l.length ∧ (128 ≤ (l.getD 1 0).toNat ∧ (l.getD 1 0).toNat < 192) ∧ (128 ≤ (l.getD 2 0).toNat ∧ (l.getD 2 0).toNat < 192) ∧ (128 ≤ (l.getD 3 0).toNat ∧ (l.getD 3 0).toNat < 192) ∧ 65536 + 532608 ≤ ((((l.getD 0 0).toNat - 240) * 64 + (l.getD 1 0).toNat) * 64 + (l.getD 2 0).toNat) * 64 + (l.getD 3 0).toNat ∧ ((((l.getD 0 0).toNat - 240) * 64 + (l.getD 1 0).toNat) * 64 + (l.getD 2 0).toNat) * 64 + (l.getD 3 0).toNat ≤ 1114111 + 532608 then validD (l.drop 4) else false := by
  have hl : 0 < l.length := List.length_pos_iff.2 hne
  rw [validD_step l hne, decodeL_N]
  rcases dec_four l.length _ _ _ _ hl ⟨h1, h2⟩ (l.getD 1 0).toNat_lt (l.getD 2 0).toNat_lt (l.getD 3 0).toNat_lt with ⟨e, hc⟩ | ⟨r, e, hc⟩
  · rw [e, if_pos ⟨rfl, rfl⟩, if_neg hc]
  · rw [e, if_neg (by simp), if_pos hc]
end Go.Proofs.YtcdbchifigonpaaDoor

namespace Go.Proofs.YtcdbchifigonpaaDoor
open Go.Lib

def nameByte (c : UInt8) : Bool := decide (32 ≤ c.toNat ∧ c.toNat ≠ 46)
def badRune (x : Nat) : Bool := decide (x < 32 ∨ x = 46)

set_option maxRecDepth 10000 in
set_option maxHeartbeats 1600000 in
theorem dec_class (n b0 b1 b2 b3 : Nat) (_hl : 0 < n) (_h0 : b0 < 256) (h1 : b1 < 256) (h2 : b2 < 256) (h3 : b3 < 256) :
    (b0 < 128 ∧ decodeN n b0 b1 b2 b3 = (b0, 1)) ∨ decodeN n b0 b1 b2 b3 = (65533, 1) ∨
    (∃ r, decodeN n b0 b1 b2 b3 = (r, 2) ∧ 128 ≤ r ∧ 2 ≤ n ∧ 128 ≤ b0 ∧ 128 ≤ b1) ∨
    (∃ r, decodeN n b0 b1 b2 b3 = (r, 3) ∧ 128 ≤ r ∧ 3 ≤ n ∧ 128 ≤ b0 ∧ 128 ≤ b1 ∧ 128 ≤ b2) ∨
    (∃ r, decodeN n b0 b1 b2 b3 = (r, 4) ∧ 128 ≤ r ∧ 4 ≤ n ∧ 128 ≤ b0 ∧ 128 ≤ b1 ∧ 128 ≤ b2 ∧ 128 ≤ b3) := by
  unfold decodeN
  split
  · rename_i h; exact .inl ⟨h, rfl⟩
  · split
    · split
      · rename_i h _ hr; exact .inr (.inr (.inl ⟨_, rfl, by omega⟩))
      · exact .inr (.inl rfl)
    · split
      · split
        · rename_i h _ hr; exact .inr (.inr (.inr (.inl ⟨_, rfl, by omega⟩)))
        · exact .inr (.inl rfl)
      · split
        · split
          · rename_i h _ hr; exact .inr (.inr (.inr (.inr ⟨_, rfl, by omega⟩)))
          · exact .inr (.inl rfl)
        · exact .inr (.inl rfl)

theorem nameByte_big (c : UInt8) (h : 128 ≤ c.toNat) : nameByte c = true := decide_eq_true (by omega)
theorem all_big (l : List UInt8) (k : Nat) (hk : k ≤ l.length) (h : ∀ i, i < k → 128 ≤ (l.getD i 0).toNat) : (l.take k).all nameByte = true := by
  rw [List.all_eq_true]
  intro x hx
  obtain ⟨i, hi, rfl⟩ := List.mem_iff_getElem.1 hx
  have hik : i < k := by rw [List.length_take] at hi; omega
  have := h i hik
  rw [List.getD_eq_getElem?_getD, List.getElem?_eq_getElem (by omega)] at this
  rw [List.getElem_take]
  exact nameByte_big _ this

theorem name_idx (s : ByteArray) : ∀ (f pos : Nat), validD (s.data.toList.drop pos) = true → s.size ≤ pos + f →
    decide (0 ≤ idxFuncFrom badRune true s f pos) = !((s.data.toList.drop pos).all nameByte) := by
  intro f
  induction f with
  | zero =>
    intro pos _ hp
    have : s.data.toList.drop pos = [] := List.drop_eq_nil_of_le (by have : s.data.toList.length = s.size := rfl; omega)
    rw [this]; rfl
  | succ f ih =>
    intro pos hv hp
    by_cases hlt : pos < s.size
    · have hsz : s.data.toList.length = s.size := rfl
      obtain ⟨l, hl⟩ : ∃ l, s.data.toList.drop pos = l := ⟨_, rfl⟩
      have hll : l.length = s.size - pos := by rw [← hl, List.length_drop, hsz]
      have hne : l ≠ [] := fun h => by rw [h] at hll; simp at hll; omega
      have hd : Utf8.decode s pos = decodeL l := by rw [← hl, decodeL_drop]
      have hdrop : ∀ k, s.data.toList.drop (pos + k) = l.drop k := fun k => by rw [← hl, List.drop_drop]
      have hsplit : ∀ k, l.all nameByte = ((l.take k).all nameByte && (l.drop k).all nameByte) := fun k => by rw [← List.all_append, List.take_append_drop]
      have hstep := validD_step l hne
      rw [hl] at hv
      rw [hv] at hstep
      unfold idxFuncFrom
      rw [if_pos hlt, hd, hl]
      rw [decodeL_N] at hstep ⊢
      have big : ∀ (r k : Nat), 0 < k → decodeN l.length (l.getD 0 0).toNat (l.getD 1 0).toNat (l.getD 2 0).toNat (l.getD 3 0).toNat = (r, k) → 128 ≤ r → k ≤ l.length → (∀ i, i < k → 128 ≤ (l.getD i 0).toNat) → (k = 1 → False) →
          decide (0 ≤ if badRune (r, k).1 = true then (pos : Int) else idxFuncFrom badRune true s f (pos + (r, k).2)) = !(l.all nameByte) := by
        intro r k hk0 he hr hk hb hk1
        rw [he, if_neg (fun h => hk1 h.2)] at hstep
        rw [if_neg (by simp [badRune]; omega), hsplit k, all_big l k hk hb, Bool.true_and, ← hdrop]
        exact ih (pos + k) (by rw [hdrop]; exact hstep.symm) (by omega)
      rcases dec_class l.length _ _ _ _ (by omega) (l.getD 0 0).toNat_lt (l.getD 1 0).toNat_lt (l.getD 2 0).toNat_lt (l.getD 3 0).toNat_lt with ⟨h0, e⟩ | e | ⟨r, e, hr, hn, h⟩ | ⟨r, e, hr, hn, h⟩ | ⟨r, e, hr, hn, h⟩
      · rw [e, if_neg (fun h => by have h1 : (l.getD 0 0).toNat = 65533 := h.1; omega)] at hstep
        rw [e]
        match l, hne with
        | c :: t, _ =>
          simp only [List.getD_cons_zero] at h0 ⊢
          by_cases hc : c.toNat < 32 ∨ c.toNat = 46
          · rw [if_pos (by simp [badRune]; omega)]
            have : nameByte c = false := decide_eq_false (by omega)
            rw [List.all_cons, this]
            simp
          · rw [if_neg (by simp [badRune]; omega)]
            have : nameByte c = true := decide_eq_true (by omega)
            rw [List.all_cons, this, Bool.true_and]
            have hd1 := hdrop 1
            have := ih (pos + 1) (by rw [hd1]; exact hstep.symm) (by omega)
            rw [hd1] at this
            exact this
      · rw [e] at hstep
        simp at hstep
      · rw [e]; exact big r 2 (by omega) e hr hn (fun i hi => by match i, hi with | 0, _ => exact h.1 | 1, _ => exact h.2) (by omega)
      · rw [e]; exact big r 3 (by omega) e hr hn (fun i hi => by match i, hi with | 0, _ => exact h.1 | 1, _ => exact h.2.1 | 2, _ => exact h.2.2) (by omega)
      · rw [e]; exact big r 4 (by omega) e hr hn (fun i hi => by match i, hi with | 0, _ => exact h.1 | 1, _ => exact h.2.1 | 2, _ => exact h.2.2.1 | 3, _ => exact h.2.2.2) (by omega)
    · rw [idxFuncFrom_end _ _ _ _ _ hlt]
      have : s.data.toList.drop pos = [] := List.drop_eq_nil_of_le (by have : s.data.toList.length = s.size := rfl; omega)
      rw [this]; rfl

theorem name_of (s : ByteArray) (hv : validD s.data.toList = true) : (!decide (0 ≤ idxFunc badRune true s)) = s.data.toList.all nameByte := by
  have := name_idx s s.size 0 hv (by omega)
  rw [List.drop_zero] at this
  rw [idxFunc, this, Bool.not_not]
end Go.Proofs.YtcdbchifigonpaaDoor

namespace Go.Proofs.YtcdbchifigonpaaDoor
open Go.RowKit Go.Maps

def nlit (s : ByteArray) : Lit := .string s.data.toList
def NS (l : List ByteArray) : DataW Unit := setOf (.agg []) (l.map nlit)
theorem NS_nil : NS [] = .map [] := rfl
theorem NS_snoc (l : List ByteArray) (s : ByteArray) : NS (l ++ [s]) = (NS l).put (nlit s) (.agg []) := by
  unfold NS
  rw [List.map_append, List.map_singleton, setOf_snoc]
theorem nlit_key (l : List ByteArray) : ∀ x ∈ l.map nlit, WideAt.IsKeyLit x := fun x hx => by
  obtain ⟨s, _, rfl⟩ := List.mem_map.1 hx
  trivial
theorem nlit_inj {a b : ByteArray} (h : nlit a = nlit b) : a = b := by
  injection h with h
  exact ByteArray.ext (Array.ext' h)
theorem has_NS (l : List ByteArray) (s : ByteArray) : Maps.has (NS l) (nlit s) = true ↔ s ∈ l := by
  unfold NS
  rw [has_setOf _ _ _ (nlit_key l), List.any_map, List.any_eq_true]
  constructor
  · rintro ⟨x, hx, h⟩
    by_cases e : nlit x = nlit s
    · rw [← nlit_inj e]; exact hx
    · rw [Function.comp, sameKey_ne e] at h
      exact absurd h Bool.false_ne_true
  · intro h
    exact ⟨s, h, show (nlit s).sameKey (nlit s) = true from WideAt.sameKey_self (a := nlit s) (nlit_key [s] (nlit s) (by simp))⟩
theorem size_NS_old (l : List ByteArray) (s : ByteArray) (h : s ∈ l) : Maps.size (NS (l ++ [s])) = Maps.size (NS l) := by
  rw [NS_snoc, size_put (D := NS l) (tidy_setOf _ _ (nlit_key l)), if_pos ((has_NS l s).2 h)]
theorem size_NS_new (l : List ByteArray) (s : ByteArray) (h : ¬ s ∈ l) : Maps.size (NS (l ++ [s])) = Maps.size (NS l) + 1 := by
  rw [NS_snoc, size_put (D := NS l) (tidy_setOf _ _ (nlit_key l)), if_neg (fun e => h ((has_NS l s).1 e))]
theorem size_NS (l : List ByteArray) : ∀ j, j ≤ l.length → Maps.size (NS (l.take j)) ≤ j ∧ (Maps.size (NS (l.take j)) = j ↔ (l.take j).Nodup) := by
  intro j
  induction j with
  | zero => intro _; exact ⟨Nat.le_of_eq rfl, by simp [NS_nil]; rfl⟩
  | succ j ih =>
    intro h
    obtain ⟨h1, h2⟩ := ih (by omega)
    rw [take_snoc l j (by omega)]
    by_cases hm : l[j] ∈ l.take j
    · rw [size_NS_old _ _ hm]
      refine ⟨by omega, ⟨fun e => by omega, fun hn => ?_⟩⟩
      rw [List.nodup_append] at hn
      exact absurd rfl (hn.2.2 _ hm _ (by simp))
    · rw [size_NS_new _ _ hm]
      refine ⟨by omega, ⟨fun e => ?_, fun hn => ?_⟩⟩
      · rw [List.nodup_append]
        refine ⟨h2.1 (by omega), by simp, fun a ha b hb => ?_⟩
        rw [List.mem_singleton] at hb
        subst hb
        intro e
        subst e
        exact hm ha
      · rw [List.nodup_append] at hn
        have := h2.2 hn.1
        omega
theorem size_NS_all (l : List ByteArray) : (((Maps.size (NS l) : Nat) : Int) == (l.length : Int)) = decide l.Nodup := by
  have := (size_NS l l.length (Nat.le_refl _)).2
  rw [List.take_length] at this
  apply Bool.eq_iff_iff.2
  rw [decide_eq_true_eq, beq_iff_eq, ← this]
  omega
end Go.Proofs.YtcdbchifigonpaaDoor

set_option linter.unusedVariables false
set_option linter.unusedSimpArgs false
namespace Go.Proofs.YtcdbchifigonpaaDoor
open Go.RowKit

/-- The cell holds u and may be written. -/
def CF (w : World) (p : Addr) (u : Value) : Prop := w.cell? p = some u ∧ w.frozen? p = false
theorem CF.block {w w' : World} {p : Addr} {u : Value} (h : CF w p u) (e : w'.heap[p.block]? = w.heap[p.block]?) : CF w' p u :=
  ⟨(World.cell?_of_block e).trans h.1, (World.frozen?_of_block e).trans h.2⟩
theorem frozen_setCell (w : World) (a : Addr) (v : Value) (p : Addr) : (w.setCell a v).frozen? p = w.frozen? p := by
  unfold World.frozen? World.setCell
  simp only [Array.getElem?_modify]
  by_cases e : a.block = p.block
  · rw [if_pos e]
    cases h : w.heap[p.block]? with
    | none => rfl
    | some o => cases o <;> rfl
  · rw [if_neg e]

/-- The value v lies in blocks of S alone, its parts in blocks of their own. -/
def IsS (C : Addr → Value → Prop) : V → Cv → (Nat → Prop) → Prop
  | .mk k n b l f, c, S => c.k = k ∧ c.n = (n : Int) ∧ c.nB = b.length ∧ c.nL = l.length ∧ c.nF = f.length ∧
      -9223372036854775808 ≤ k ∧ k ≤ 9223372036854775807 ∧ n < 18446744073709551616 ∧
      b.length ≤ c.cB ∧ b.length ≤ 140737488355328 ∧ l.length ≤ c.cL ∧ l.length ≤ 140737488355328 ∧ f.length ≤ c.cF ∧ f.length ≤ 140737488355328 ∧
      Reads (fun p u => C p u ∧ S p.block) 1 c.aB b.length (u8s b) ∧
      (∃ T : Nat → Nat → Prop, (∀ i (h : i < l.length), ∃ bk o x, c.aL = some ⟨bk, o, none⟩ ∧ S bk ∧ ¬ T i bk ∧ (∀ q, T i q → S q) ∧ At5 C bk (o + i * 5) x ∧ IsS C l[i] x (T i)) ∧
        (∀ i j, i < j → j < l.length → ∀ q, T i q → ¬ T j q)) ∧
      (∃ T : Nat → Nat → Prop, (∀ i (h : i < f.length), ∃ bk o x, c.aF = some ⟨bk, o, none⟩ ∧ S bk ∧ ¬ T i bk ∧ (∀ q, T i q → S q) ∧ C ⟨bk, o + i * 6, none⟩ (.string f[i].1) ∧ f[i].1.size ≤ 140737488355328 ∧ At5 C bk (o + i * 6 + 1) x ∧ IsS C f[i].2 x (T i)) ∧
        (∀ i j, i < j → j < f.length → ∀ q, T i q → ¬ T j q))
termination_by v => SizeOf.sizeOf v
decreasing_by
  · exact V.sizeOf_l (List.getElem_mem _)
  · exact V.sizeOf_f (List.getElem_mem _)

theorem At5.mono' {C C' : Addr → Value → Prop} {bk o : Nat} {c : Cv} (h : ∀ p u, C p u → p.block = bk → C' p u) (hc : At5 C bk o c) : At5 C' bk o c :=
  ⟨h _ _ hc.1 rfl, h _ _ hc.2.1 rfl, h _ _ hc.2.2.1 rfl, h _ _ hc.2.2.2.1 rfl, h _ _ hc.2.2.2.2 rfl⟩

theorem IsS.mono {C C' : Addr → Value → Prop} (v : V) : ∀ (c : Cv) (S S' : Nat → Prop), (∀ p u, C p u → S p.block → C' p u) → (∀ q, S q → S' q) → IsS C v c S → IsS C' v c S' := by
  induction v using V.ind with
  | h k n b l f hl hf =>
    intro c S S' hC hS hv
    rw [IsS] at hv ⊢
    obtain ⟨e1, e2, e3, e4, e5, h1, h2, h3, h4, h5, h6, h7, h8, h9, hb, ⟨T, hL, hLd⟩, ⟨U, hF, hFd⟩⟩ := hv
    refine ⟨e1, e2, e3, e4, e5, h1, h2, h3, h4, h5, h6, h7, h8, h9, hb.mono (fun p u h => ⟨hC p u h.1 h.2, hS _ h.2⟩), ⟨T, fun i hi => ?_, hLd⟩, ⟨U, fun i hi => ?_, hFd⟩⟩
    · obtain ⟨bk, o, x, e, s, nt, ts, k0, kv⟩ := hL i hi
      exact ⟨bk, o, x, e, hS _ s, nt, fun q hq => hS _ (ts q hq), k0.mono' (fun p u h e => hC p u h (e ▸ s)), hl _ (List.getElem_mem hi) _ _ _ (fun p u h hq => hC p u h (ts _ hq)) (fun q h => h) kv⟩
    · obtain ⟨bk, o, x, e, s, nt, ts, ks, kz, k0, kv⟩ := hF i hi
      exact ⟨bk, o, x, e, hS _ s, nt, fun q hq => hS _ (ts q hq), hC _ _ ks s, kz, k0.mono' (fun p u h e => hC p u h (e ▸ s)), hf _ (List.getElem_mem hi) _ _ _ (fun p u h hq => hC p u h (ts _ hq)) (fun q h => h) kv⟩

theorem IsS.isV {C : Addr → Value → Prop} (v : V) : ∀ (c : Cv) (S : Nat → Prop), IsS C v c S → IsV (fun p u => C p u ∧ S p.block) v c := by
  induction v using V.ind with
  | h k n b l f hl hf =>
    intro c S hv
    rw [IsS] at hv
    rw [IsV]
    obtain ⟨e1, e2, e3, e4, e5, h1, h2, h3, h4, h5, h6, h7, h8, h9, hb, ⟨T, hL, hLd⟩, ⟨U, hF, hFd⟩⟩ := hv
    refine ⟨e1, e2, e3, e4, e5, h1, h2, h3, h4, h5, h6, h7, h8, h9, hb, fun i hi => ?_, fun i hi => ?_⟩
    · obtain ⟨bk, o, x, e, s, nt, ts, k0, kv⟩ := hL i hi
      exact ⟨bk, o, x, e, k0.mono' (fun p u h e => ⟨h, e ▸ s⟩), IsV.mono (fun p u h => ⟨h.1, ts _ h.2⟩) _ _ (hl _ (List.getElem_mem hi) _ _ kv)⟩
    · obtain ⟨bk, o, x, e, s, nt, ts, ks, kz, k0, kv⟩ := hF i hi
      exact ⟨bk, o, x, e, ⟨ks, s⟩, kz, k0.mono' (fun p u h e => ⟨h, e ▸ s⟩), IsV.mono (fun p u h => ⟨h.1, ts _ h.2⟩) _ _ (hf _ (List.getElem_mem hi) _ _ kv)⟩

/-- A value that holds none. -/
theorem IsS.flat {C C' : Addr → Value → Prop} {v : V} {c : Cv} {S : Nat → Prop} (h0 : v.l = [] ∧ v.f = []) (hC : ∀ p u, C p u → C' p u ∧ S p.block) (hv : IsV C v c) : IsS C' v c S := by
  obtain ⟨k, n, b, l, f⟩ := v
  obtain ⟨e, e'⟩ := h0
  simp only [V.l] at e
  simp only [V.f] at e'
  subst e e'
  rw [IsV] at hv
  rw [IsS]
  obtain ⟨e1, e2, e3, e4, e5, h1, h2, h3, h4, h5, h6, h7, h8, h9, hb, _, _⟩ := hv
  exact ⟨e1, e2, e3, e4, e5, h1, h2, h3, h4, h5, h6, h7, h8, h9, hb.mono hC, ⟨fun _ _ => False, fun i hi => absurd hi (by simp), fun _ _ _ _ _ h => h.elim⟩, ⟨fun _ _ => False, fun i hi => absurd hi (by simp), fun _ _ _ _ _ h => h.elim⟩⟩

/-- The value lies in blocks lo .. hi-1 of the world, its parts apart, and may be written. -/
def InS (w : World) (lo hi : Nat) (v : V) (c : Cv) : Prop := hi ≤ w.heap.size ∧ IsS (CF w) v c (fun q => lo ≤ q ∧ q < hi)
theorem InS.atW {w : World} {lo hi : Nat} {v : V} {c : Cv} (h : InS w lo hi v c) : IsV (AtW w lo hi) v c :=
  IsV.mono (fun _ _ h => ⟨h.1.1, h.2.1, h.2.2⟩) _ _ (h.2.isV v c _)
theorem InS.in_ {w : World} {lo hi : Nat} {v : V} {c : Cv} (h : InS w lo hi v c) : In w v c :=
  IsV.mono (fun _ _ q => ⟨q.1, Nat.zero_le _, Nat.lt_of_lt_of_le q.2.2 h.1⟩) _ _ h.atW
theorem InS.blocks {w w' : World} {lo hi : Nat} {v : V} {c : Cv} (h : InS w lo hi v c) (hz : w.heap.size ≤ w'.heap.size) (hb : ∀ k, lo ≤ k → k < hi → w'.heap[k]? = w.heap[k]?) : InS w' lo hi v c :=
  ⟨Nat.le_trans h.1 hz, IsS.mono v c _ _ (fun _ _ q s => q.block (hb _ s.1 s.2)) (fun _ q => q) h.2⟩
theorem InS.grow {w w' : World} {lo hi : Nat} {v : V} {c : Cv} (h : InS w lo hi v c) (hg : Grow w w') : InS w' lo hi v c :=
  h.blocks hg.size (fun k _ hk => hg.below.block k (Nat.lt_of_lt_of_le hk h.1))
theorem InS.wider {w : World} {lo hi lo' hi' : Nat} {v : V} {c : Cv} (h : InS w lo hi v c) (h1 : lo' ≤ lo) (h2 : hi ≤ hi') (h3 : hi' ≤ w.heap.size) : InS w lo' hi' v c :=
  ⟨h3, IsS.mono v c _ _ (fun _ _ q _ => q) (fun _ q => ⟨Nat.le_trans h1 q.1, Nat.lt_of_lt_of_le q.2 h2⟩) h.2⟩
end Go.Proofs.YtcdbchifigonpaaDoor

namespace Go.Proofs.YtcdbchifigonpaaDoor
open V

abbrev Got := Except Int (V × List UInt8)
/-- n values one behind the other. -/
def rdL (f : List UInt8 → Got) : Nat → List UInt8 → Except Int (List V × List UInt8)
  | 0, bs => .ok ([], bs)
  | n + 1, bs => match f bs with
    | .error e => .error e
    | .ok (x, r) => match rdL f n r with
      | .error e => .error e
      | .ok (l, r') => .ok (x :: l, r')
/-- A name ahead of bytes. -/
def rdN : List UInt8 → Option (ByteArray × List UInt8)
  | [] => none
  | m :: r => if m.toNat ≤ r.length then some (⟨(r.take m.toNat).toArray⟩, r.drop m.toNat) else none
open Classical in
/-- n fields one behind the other, the names not among those met. -/
noncomputable def rdF (f : List UInt8 → Got) : Nat → List ByteArray → List UInt8 → Except Int (List (ByteArray × V) × List UInt8)
  | 0, _, bs => .ok ([], bs)
  | n + 1, met, bs => match rdN bs with
    | none => .error 4
    | some (s, r) => if name s = true ∧ ¬ s ∈ met then
        match f r with
        | .error e => .error e
        | .ok (x, r') => match rdF f n (met ++ [s]) r' with
          | .error e => .error e
          | .ok (l, r'') => .ok ((s, x) :: l, r'')
      else .error 4
/-- A value that holds none. -/
def rdFlat (k : Nat) (bs : List UInt8) : Got :=
  if k = 1 then .ok (mk 1 0 [] [] [], bs)
  else if k = 2 then (match bs with
    | [] => .error 4
    | x :: r => if x.toNat ≤ 1 then .ok (mk 2 x.toNat [] [] [], r) else .error 4)
  else if k = 3 ∨ k = 4 then (if 8 ≤ bs.length then .ok (mk k (le (bs.take 8)) [] [] [], bs.drop 8) else .error 4)
  else if k = 5 ∨ k = 6 then (if 2 ≤ bs.length then
      (if le (bs.take 2) ≤ (bs.drop 2).length then
        (if k = 6 ∨ Lib.validD ((bs.drop 2).take (le (bs.take 2))) = true then .ok (mk k 0 ((bs.drop 2).take (le (bs.take 2))) [] [], (bs.drop 2).drop (le (bs.take 2))) else .error 4)
       else .error 4)
    else .error 4)
  else .error 4
/-- A list's or a document's number of parts. -/
def rdM : List UInt8 → Except Int (Nat × List UInt8)
  | [] => .error 4
  | x :: r => if x.toNat ≤ 64 then .ok (x.toNat, r) else .error 19
/-- One value; 'f' reads those within it, if there may be any. -/
noncomputable def rdStep (f : Option (List UInt8 → Got)) : List UInt8 → Got
  | [] => .error 4
  | k :: bs =>
    if k.toNat = 7 then (match f with
      | none => .error 3
      | some f => match rdM bs with
        | .error e => .error e
        | .ok (n, r) => match rdL f n r with
          | .error e => .error e
          | .ok (l, r') => .ok (mk 7 0 [] l [], r'))
    else if k.toNat = 8 then (match f with
      | none => .error 3
      | some f => match rdM bs with
        | .error e => .error e
        | .ok (n, r) => match rdF f n [] r with
          | .error e => .error e
          | .ok (l, r') => .ok (mk 8 0 [] [] l, r'))
    else rdFlat k.toNat bs
/-- A value with at most g lists and documents within one another. -/
noncomputable def rd : Nat → List UInt8 → Got
  | 0 => rdStep none
  | g + 1 => rdStep (some (rd g))
/-- All bytes as a value. -/
noncomputable def rdAll (bs : List UInt8) : Except Int V :=
  if 4096 < bs.length then .error 2
  else match rd 16 bs with
    | .error e => .error e
    | .ok (v, r) => if r = [] then .ok v else .error 4
end Go.Proofs.YtcdbchifigonpaaDoor

set_option linter.unusedVariables false
set_option linter.unusedSimpArgs false
namespace Go.Proofs.YtcdbchifigonpaaDoor
open V

theorem toLe_cons (k n : Nat) : toLe (k + 1) n = UInt8.ofNat n :: toLe k (n / 256) := by
  unfold toLe
  rw [List.range_succ_eq_map, List.map_cons, List.map_map]
  congr 1
  · simp
  · apply List.map_congr_left
    intro i _
    simp only [Function.comp, Nat.succ_eq_add_one, Nat.pow_succ]
    rw [Nat.mul_comm (256 ^ i) 256, ← Nat.div_div_eq_div_mul]
theorem toLe_le : ∀ (l : List UInt8), toLe l.length (le l) = l
  | [] => rfl
  | x :: r => by
    have hx := x.toNat_lt
    rw [List.length_cons, toLe_cons, le_cons]
    have h1 : UInt8.ofNat (x.toNat + 256 * le r) = x := by
      apply UInt8.toNat_inj.1
      rw [UInt8.toNat_ofNat']
      omega
    rw [h1, show (x.toNat + 256 * le r) / 256 = le r by omega, toLe_le r]

theorem name_size {s : ByteArray} (h : name s = true) : s.size ≤ 32 := by
  simp only [name, Bool.and_eq_true, decide_eq_true_eq] at h
  exact h.1.1.2

theorem rd_flat (g : Nat) (k : UInt8) (bs : List UInt8) (h7 : k.toNat ≠ 7) (h8 : k.toNat ≠ 8) : rd g (k :: bs) = rdFlat k.toNat bs := by
  cases g <;> simp only [rd, rdStep, if_neg h7, if_neg h8]
theorem rd_list (g : Nat) (k : UInt8) (bs : List UInt8) (h7 : k.toNat = 7) : rd (g + 1) (k :: bs) = (match rdM bs with
    | .error e => .error e
    | .ok (n, r) => match rdL (rd g) n r with
      | .error e => .error e
      | .ok (l, r') => .ok (mk 7 0 [] l [], r')) := by
  rw [rd, rdStep, if_pos h7]
  try rfl
theorem rd_doc (g : Nat) (k : UInt8) (bs : List UInt8) (h8 : k.toNat = 8) : rd (g + 1) (k :: bs) = (match rdM bs with
    | .error e => .error e
    | .ok (n, r) => match rdF (rd g) n [] r with
      | .error e => .error e
      | .ok (l, r') => .ok (mk 8 0 [] [] l, r')) := by
  rw [rd, rdStep, if_neg (by omega), if_pos h8]
  try rfl

/-! What is written is read. -/

theorem rdL_all (f : List UInt8 → Got) (l : List V) (r : List UInt8) (h : ∀ x ∈ l, ∀ r, f (x.bytes ++ r) = .ok (x, r)) : rdL f l.length ((l.map V.bytes).flatten ++ r) = .ok (l, r) := by
  induction l with
  | nil => rfl
  | cons x xs ih =>
    rw [List.map_cons, List.flatten_cons, List.append_assoc, List.length_cons, rdL, h x (by simp)]
    simp only
    rw [ih (fun y hy => h y (by simp [hy]))]
theorem rdN_item (s : ByteArray) (t : List UInt8) (h : s.size < 256) : rdN (item s t) = some (s, t) := by
  have hl : s.data.toList.length = s.size := by simp
  have hm : (UInt8.ofNat s.size).toNat = s.size := by rw [UInt8.toNat_ofNat']; omega
  rw [item, rdN, hm, if_pos (by rw [List.length_append, hl]; omega), List.take_left' hl, List.drop_left' hl]
theorem rdF_all (f : List UInt8 → Got) (r : List UInt8) (l : List (ByteArray × V)) : ∀ (met : List ByteArray), (∀ x ∈ l, name x.1 = true ∧ ∀ r, f (x.2.bytes ++ r) = .ok (x.2, r)) → (l.map Prod.fst).Nodup → (∀ x ∈ l, ¬ x.1 ∈ met) →
    rdF f l.length met ((l.map fun x => item x.1 x.2.bytes).flatten ++ r) = .ok (l, r) := by
  induction l with
  | nil => intro met _ _ _; rfl
  | cons x xs ih =>
    intro met h hn hm
    obtain ⟨s, v⟩ := x
    have e : (((s, v) :: xs).map fun x => item x.1 x.2.bytes).flatten ++ r = item s (v.bytes ++ ((xs.map fun x => item x.1 x.2.bytes).flatten ++ r)) := by simp [item]
    have h1 : name s = true := (h (s, v) (by simp)).1
    have h2 : ∀ r, f (v.bytes ++ r) = .ok (v, r) := (h (s, v) (by simp)).2
    have h3 : ¬ s ∈ met := hm (s, v) (by simp)
    have hs := name_size h1
    rw [List.map_cons, List.nodup_cons] at hn
    rw [e, List.length_cons, rdF, rdN_item _ _ (by omega)]
    simp only
    rw [if_pos ⟨h1, h3⟩, h2]
    simp only
    rw [ih (met ++ [s]) (fun y hy => h y (by simp [hy])) hn.2 (fun y hy hin => by
      rcases List.mem_append.1 hin with hin | hin
      · exact hm y (by simp [hy]) hin
      · rw [List.mem_singleton] at hin
        have h9 : y.1 ∈ xs.map Prod.fst := List.mem_map_of_mem hy
        rw [hin] at h9
        exact hn.1 h9)]

/-- All numbers fit into a cell. -/
def V.fit : V → Prop
  | mk _ n _ l f => n < 18446744073709551616 ∧ (∀ x ∈ l, fit x) ∧ (∀ x ∈ f, fit x.2)
termination_by v => SizeOf.sizeOf v
decreasing_by
  · exact sizeOf_l ‹_›
  · exact sizeOf_f ‹_›
theorem IsV.fit {C : Addr → Value → Prop} (v : V) : ∀ c, IsV C v c → v.fit := by
  induction v using V.ind with
  | h k n b l f hl hf =>
    intro c hv
    rw [IsV] at hv
    rw [V.fit]
    obtain ⟨e1, e2, e3, e4, e5, h1, h2, h3, h4, h5, h6, h7, h8, h9, hb, hL, hF⟩ := hv
    refine ⟨h3, fun x hx => ?_, fun x hx => ?_⟩
    · obtain ⟨i, hi, rfl⟩ := List.mem_iff_getElem.1 hx
      obtain ⟨bk, o, y, e, k0, kv⟩ := hL i hi
      exact hl _ hx _ kv
    · obtain ⟨i, hi, rfl⟩ := List.mem_iff_getElem.1 hx
      obtain ⟨bk, o, y, e, ks, kz, k0, kv⟩ := hF i hi
      exact hf _ hx _ kv

theorem most_list {l : List V} {m : Nat} : (mk 7 0 [] l []).most ≤ m ↔ l.length ≤ m ∧ ∀ x ∈ l, x.most ≤ m := by
  rw [most_mk, List.map_nil, List.foldl_nil, foldl_max_le, List.length_nil]
  constructor
  · rintro ⟨h1, h2⟩; exact ⟨by omega, fun x hx => h2 _ (List.mem_map_of_mem hx)⟩
  · rintro ⟨h1, h2⟩; exact ⟨by omega, fun x hx => by obtain ⟨y, hy, rfl⟩ := List.mem_map.1 hx; exact h2 y hy⟩
theorem most_doc {f : List (ByteArray × V)} {m : Nat} : (mk 8 0 [] [] f).most ≤ m ↔ f.length ≤ m ∧ ∀ x ∈ f, x.2.most ≤ m := by
  rw [most_mk, List.map_nil, List.foldl_nil, foldl_max_le, List.length_nil]
  constructor
  · rintro ⟨h1, h2⟩; exact ⟨by omega, fun x hx => h2 _ (List.mem_map_of_mem (f := fun x : ByteArray × V => x.2.most) hx)⟩
  · rintro ⟨h1, h2⟩; exact ⟨by omega, fun x hx => by obtain ⟨y, hy, rfl⟩ := List.mem_map.1 hx; exact h2 y hy⟩
theorem depth_list_le {l : List V} {m : Nat} : (mk 7 0 [] l []).depth ≤ m + 1 ↔ ∀ x ∈ l, x.depth ≤ m := by
  rw [depth_list, show 1 + (l.map depth).foldl max 0 ≤ m + 1 ↔ (l.map depth).foldl max 0 ≤ m by omega, foldl_max_le]
  constructor
  · rintro ⟨_, h2⟩; exact fun x hx => h2 _ (List.mem_map_of_mem hx)
  · intro h2; exact ⟨by omega, fun x hx => by obtain ⟨y, hy, rfl⟩ := List.mem_map.1 hx; exact h2 y hy⟩
theorem depth_doc_le {f : List (ByteArray × V)} {m : Nat} : (mk 8 0 [] [] f).depth ≤ m + 1 ↔ ∀ x ∈ f, x.2.depth ≤ m := by
  rw [depth_doc, show 1 + (f.map fun x => x.2.depth).foldl max 0 ≤ m + 1 ↔ (f.map fun x => x.2.depth).foldl max 0 ≤ m by omega, foldl_max_le]
  constructor
  · rintro ⟨_, h2⟩; exact fun x hx => h2 _ (List.mem_map_of_mem (f := fun x : ByteArray × V => x.2.depth) hx)
  · intro h2; exact ⟨by omega, fun x hx => by obtain ⟨y, hy, rfl⟩ := List.mem_map.1 hx; exact h2 y hy⟩
theorem ofNat_toNat8 (n : Nat) (h : n < 256) : (UInt8.ofNat n).toNat = n := by rw [UInt8.toNat_ofNat']; omega

theorem rd_bytes (v : V) : ∀ (g : Nat) (r : List UInt8), v.fit → v.formed = true → v.most ≤ 64 → v.depth ≤ g → v.bytes.length ≤ 65535 → rd g (v.bytes ++ r) = .ok (v, r) := by
  induction v using V.ind with
  | h k n b l f hl hf =>
    intro g r hfit hfm hmo hde hle
    rcases formed_cases hfm with h | ⟨n', hn', h⟩ | ⟨n', h⟩ | ⟨n', h⟩ | ⟨b', hb', h⟩ | ⟨b', h⟩ | ⟨l', hl', h⟩ | ⟨f', hf', hnd, h⟩ <;> cases h
    · have e : (mk 1 0 [] [] []).bytes ++ r = 1 :: r := by rw [bytes_mk]; simp
      rw [e, rd_flat _ _ _ (by decide) (by decide)]
      rfl
    · have e : (mk 2 n [] [] []).bytes ++ r = 2 :: UInt8.ofNat n :: r := by rw [bytes_mk]; simp
      rw [e, rd_flat _ _ _ (by decide) (by decide)]
      show rdFlat 2 _ = _
      unfold rdFlat
      rw [if_neg (by decide), if_pos rfl]
      simp only
      rw [ofNat_toNat8 n (by omega), if_pos hn']
    · rw [V.fit] at hfit
      have e : (mk 3 n [] [] []).bytes ++ r = 3 :: (toLe 8 n ++ r) := by rw [bytes_mk]; simp
      rw [e, rd_flat _ _ _ (by decide) (by decide)]
      show rdFlat 3 _ = _
      unfold rdFlat
      rw [if_neg (by decide), if_neg (by decide), if_pos (Or.inl rfl), if_pos (by simp [toLe_length]), List.take_left' (toLe_length 8 n), List.drop_left' (toLe_length 8 n), le_toLe, Nat.mod_eq_of_lt (by simpa using hfit.1)]
      rfl
    · rw [V.fit] at hfit
      have e : (mk 4 n [] [] []).bytes ++ r = 4 :: (toLe 8 n ++ r) := by rw [bytes_mk]; simp
      rw [e, rd_flat _ _ _ (by decide) (by decide)]
      show rdFlat 4 _ = _
      unfold rdFlat
      rw [if_neg (by decide), if_neg (by decide), if_pos (Or.inr rfl), if_pos (by simp [toLe_length]), List.take_left' (toLe_length 8 n), List.drop_left' (toLe_length 8 n), le_toLe, Nat.mod_eq_of_lt (by simpa using hfit.1)]
      rfl
    · have e0 : (mk 5 0 b [] []).bytes = 5 :: (toLe 2 b.length ++ b) := by rw [bytes_mk]; simp
      rw [e0, List.length_cons, List.length_append, toLe_length] at hle
      have e : (mk 5 0 b [] []).bytes ++ r = 5 :: (toLe 2 b.length ++ (b ++ r)) := by rw [e0]; simp
      rw [e, rd_flat _ _ _ (by decide) (by decide)]
      show rdFlat 5 _ = _
      unfold rdFlat
      rw [if_neg (by decide), if_neg (by decide), if_neg (by decide), if_pos (Or.inl rfl), if_pos (by simp [toLe_length]), List.take_left' (toLe_length 2 _), List.drop_left' (toLe_length 2 _), le_toLe, Nat.mod_eq_of_lt (by simp; omega),
        if_pos (by simp), List.take_left' rfl, List.drop_left' rfl, if_pos (Or.inr hb')]
      rfl
    · have e0 : (mk 6 0 b [] []).bytes = 6 :: (toLe 2 b.length ++ b) := by rw [bytes_mk]; simp
      rw [e0, List.length_cons, List.length_append, toLe_length] at hle
      have e : (mk 6 0 b [] []).bytes ++ r = 6 :: (toLe 2 b.length ++ (b ++ r)) := by rw [e0]; simp
      rw [e, rd_flat _ _ _ (by decide) (by decide)]
      show rdFlat 6 _ = _
      unfold rdFlat
      rw [if_neg (by decide), if_neg (by decide), if_neg (by decide), if_pos (Or.inr rfl), if_pos (by simp [toLe_length]), List.take_left' (toLe_length 2 _), List.drop_left' (toLe_length 2 _), le_toLe, Nat.mod_eq_of_lt (by simp; omega),
        if_pos (by simp), List.take_left' rfl, List.drop_left' rfl, if_pos (Or.inl rfl)]
      rfl
    · rw [V.fit] at hfit
      obtain ⟨g, rfl⟩ : ∃ g', g = g' + 1 := ⟨g - 1, by rw [depth_list] at hde; omega⟩
      rw [most_list] at hmo
      rw [depth_list_le] at hde
      have e : (mk 7 0 [] l []).bytes ++ r = 7 :: UInt8.ofNat l.length :: ((l.map V.bytes).flatten ++ r) := by rw [bytes_list]; simp
      have hc : ∀ x ∈ l, x.bytes.length ≤ 65535 := fun x hx => by
        have := flat_mem V.bytes l x hx
        rw [bytes_list, List.length_cons, List.length_cons] at hle
        omega
      rw [e, rd_list _ _ _ (by decide), rdM, ofNat_toNat8 _ (by omega), if_pos hmo.1]
      simp only
      rw [rdL_all (rd g) l r (fun x hx r => hl x hx g r (hfit.2.1 x hx) (hl' x hx) (hmo.2 x hx) (hde x hx) (hc x hx))]
    · rw [V.fit] at hfit
      obtain ⟨g, rfl⟩ : ∃ g', g = g' + 1 := ⟨g - 1, by rw [depth_doc] at hde; omega⟩
      rw [most_doc] at hmo
      rw [depth_doc_le] at hde
      have e : (mk 8 0 [] [] f).bytes ++ r = 8 :: UInt8.ofNat f.length :: ((f.map fun x => item x.1 x.2.bytes).flatten ++ r) := by rw [bytes_doc]; simp
      have hc : ∀ x ∈ f, x.2.bytes.length ≤ 65535 := fun x hx => by
        have := flat_mem (fun x : ByteArray × V => item x.1 x.2.bytes) f x hx
        rw [bytes_doc, List.length_cons, List.length_cons] at hle
        rw [item_length] at this
        omega
      rw [e, rd_doc _ _ _ (by decide), rdM, ofNat_toNat8 _ (by omega), if_pos hmo.1]
      simp only
      rw [rdF_all (rd g) r f [] (fun x hx => ⟨(hf' x hx).1, fun r => hf x hx g r (hfit.2.2 x hx) (hf' x hx).2 (hmo.2 x hx) (hde x hx) (hc x hx)⟩) hnd (fun _ _ h => by simp at h)]

/-! What is read is written. -/

theorem rdL_sound {f : List UInt8 → Got} {Q : V → Prop} (hf : ∀ bs v r, f bs = .ok (v, r) → bs = v.bytes ++ r ∧ Q v) : ∀ (n : Nat) (bs : List UInt8) (l : List V) (r : List UInt8), rdL f n bs = .ok (l, r) →
    l.length = n ∧ bs = (l.map V.bytes).flatten ++ r ∧ ∀ x ∈ l, Q x := by
  intro n
  induction n with
  | zero =>
    intro bs l r h
    rw [rdL] at h
    injection h with h
    injection h with h1 h2
    subst h1 h2
    exact ⟨rfl, rfl, fun _ h => by simp at h⟩
  | succ n ih =>
    intro bs l r h
    rw [rdL] at h
    split at h
    · cases h
    · rename_i x r1 e1
      split at h
      · cases h
      · rename_i l1 r2 e2
        injection h with h
        injection h with h1 h2
        subst h1 h2
        obtain ⟨a1, a2⟩ := hf _ _ _ e1
        obtain ⟨b1, b2, b3⟩ := ih _ _ _ e2
        refine ⟨by rw [List.length_cons, b1], by rw [a1, b2, List.map_cons, List.flatten_cons, List.append_assoc], fun y hy => ?_⟩
        rcases List.mem_cons.1 hy with rfl | hy
        · exact a2
        · exact b3 y hy
theorem rdN_sound {bs : List UInt8} {s : ByteArray} {r : List UInt8} (h : rdN bs = some (s, r)) : bs = item s r := by
  cases bs with
  | nil => rw [rdN] at h; cases h
  | cons m t =>
    rw [rdN] at h
    split at h
    · rename_i hm
      injection h with h
      injection h with h1 h2
      subst h1 h2
      have hz : (⟨(t.take m.toNat).toArray⟩ : ByteArray).size = m.toNat := by
        show (t.take m.toNat).toArray.size = _
        rw [List.size_toArray, List.length_take]
        omega
      rw [item, hz]
      simp
    · cases h
theorem rdF_sound {f : List UInt8 → Got} {Q : V → Prop} (hf : ∀ bs v r, f bs = .ok (v, r) → bs = v.bytes ++ r ∧ Q v) : ∀ (n : Nat) (met : List ByteArray) (bs : List UInt8) (l : List (ByteArray × V)) (r : List UInt8), rdF f n met bs = .ok (l, r) →
    l.length = n ∧ bs = (l.map fun x => item x.1 x.2.bytes).flatten ++ r ∧ (∀ x ∈ l, name x.1 = true ∧ ¬ x.1 ∈ met ∧ Q x.2) ∧ (l.map Prod.fst).Nodup := by
  intro n
  induction n with
  | zero =>
    intro met bs l r h
    rw [rdF] at h
    injection h with h
    injection h with h1 h2
    subst h1 h2
    exact ⟨rfl, rfl, fun _ h => by simp at h, by simp⟩
  | succ n ih =>
    intro met bs l r h
    rw [rdF] at h
    split at h
    · cases h
    · rename_i s r0 e0
      split at h
      · rename_i hc
        split at h
        · cases h
        · rename_i x r1 e1
          split at h
          · cases h
          · rename_i l1 r2 e2
            injection h with h
            injection h with h1 h2
            subst h1 h2
            obtain ⟨a1, a2⟩ := hf _ _ _ e1
            obtain ⟨b1, b2, b3, b4⟩ := ih _ _ _ _ e2
            refine ⟨by rw [List.length_cons, b1], ?_, fun y hy => ?_, ?_⟩
            · rw [rdN_sound e0, a1, b2, List.map_cons, List.flatten_cons]
              simp [item]
            · rcases List.mem_cons.1 hy with rfl | hy
              · exact ⟨hc.1, hc.2, a2⟩
              · obtain ⟨c1, c2, c3⟩ := b3 y hy
                exact ⟨c1, fun hin => c2 (List.mem_append.2 (.inl hin)), c3⟩
            · rw [List.map_cons, List.nodup_cons]
              refine ⟨fun hin => ?_, b4⟩
              obtain ⟨y, hy, he⟩ := List.mem_map.1 hin
              exact (b3 y hy).2.1 (by rw [he]; exact List.mem_append.2 (.inr (by simp)))
      · cases h

theorem rdFlat_sound {k : UInt8} {bs : List UInt8} {v : V} {r : List UInt8} (h : rdFlat k.toNat bs = .ok (v, r)) : k :: bs = v.bytes ++ r ∧ v.formed = true ∧ v.most = 0 ∧ v.depth = 0 ∧ v.fit := by
  have hk0 : UInt8.ofNat k.toNat = k := UInt8.ofNat_toNat
  unfold rdFlat at h
  split at h
  · rename_i hk
    injection h with h
    injection h with h1 h2
    subst h1 h2
    rw [hk] at hk0
    refine ⟨?_, by rw [formed_mk]; decide, by rw [most_mk]; rfl, by rw [depth_mk]; rfl, by rw [V.fit]; simp⟩
    rw [bytes_mk, ← hk0]; simp
  split at h
  · rename_i _ hk
    rw [hk] at hk0
    split at h
    · cases h
    · rename_i x r'
      split at h
      · rename_i hx
        injection h with h
        injection h with h1 h2
        subst h1 h2
        refine ⟨?_, by rw [formed_mk]; simp [own, hx], by rw [most_mk]; rfl, by rw [depth_mk]; rfl, by rw [V.fit]; simp; omega⟩
        rw [bytes_mk, ← hk0]; simp
      · cases h
  split at h
  · rename_i _ _ hk
    split at h
    · rename_i hl
      injection h with h
      injection h with h1 h2
      subst h1 h2
      have hlen : (bs.take 8).length = 8 := by rw [List.length_take]; omega
      have hto : toLe 8 (le (bs.take 8)) = bs.take 8 := by
        have := toLe_le (bs.take 8)
        rwa [hlen] at this
      refine ⟨?_, ?_, by rw [most_mk]; rfl, ?_, by rw [V.fit]; have := le_lt (bs.take 8); rw [hlen] at this; simpa using this⟩
      · rw [bytes_mk, Int.toNat_natCast, hk0, if_neg (by omega), if_pos (by omega), hto, List.cons_append, List.take_append_drop]
      · rw [formed_mk]
        rcases hk with hk | hk <;> rw [hk] <;> simp [own]
      · rw [depth_mk, if_neg (by omega)]; rfl
    · cases h
  split at h
  · rename_i _ _ _ hk
    split at h
    · rename_i hl
      split at h
      · rename_i hm
        split at h
        · rename_i hv
          injection h with h
          injection h with h1 h2
          subst h1 h2
          have hlen : (bs.take 2).length = 2 := by rw [List.length_take]; omega
          have hbl : ((bs.drop 2).take (le (bs.take 2))).length = le (bs.take 2) := by rw [List.length_take]; omega
          have hto : toLe 2 (le (bs.take 2)) = bs.take 2 := by
            have := toLe_le (bs.take 2)
            rwa [hlen] at this
          refine ⟨?_, ?_, by rw [most_mk]; rfl, ?_, by rw [V.fit]; simp⟩
          · rw [bytes_mk, Int.toNat_natCast, hk0, if_neg (by omega), if_neg (by omega), if_pos (by omega), hbl, hto, List.cons_append, List.append_assoc, List.take_append_drop, List.take_append_drop]
          · rw [formed_mk]
            rcases hk with hk | hk
            · rw [hk] at hv ⊢
              have := hv.resolve_left (by decide)
              simp [own, this]
            · rw [hk]
              simp [own]
          · rw [depth_mk, if_neg (by omega)]; rfl
        · cases h
      · cases h
    · cases h
  · cases h

theorem rd_sound (g : Nat) : ∀ (bs : List UInt8) (v : V) (r : List UInt8), rd g bs = .ok (v, r) → bs = v.bytes ++ r ∧ v.formed = true ∧ v.most ≤ 64 ∧ v.depth ≤ g ∧ v.fit := by
  induction g with
  | zero =>
    intro bs v r h
    cases bs with
    | nil => rw [rd, rdStep] at h; cases h
    | cons k bs =>
      by_cases h7 : k.toNat = 7
      · rw [rd, rdStep, if_pos h7] at h; cases h
      · by_cases h8 : k.toNat = 8
        · rw [rd, rdStep, if_neg h7, if_pos h8] at h; cases h
        · rw [rd_flat _ _ _ h7 h8] at h
          obtain ⟨a1, a2, a3, a4, a5⟩ := rdFlat_sound h
          exact ⟨a1, a2, by omega, by omega, a5⟩
  | succ g ih =>
    intro bs v r h
    cases bs with
    | nil => rw [rd, rdStep] at h; cases h
    | cons k bs =>
      have hk0 : UInt8.ofNat k.toNat = k := UInt8.ofNat_toNat
      by_cases h7 : k.toNat = 7
      · rw [rd_list _ _ _ h7] at h
        rw [h7] at hk0
        cases bs with
        | nil => rw [rdM] at h; cases h
        | cons m t =>
          rw [rdM] at h
          by_cases hm : m.toNat ≤ 64
          · rw [if_pos hm] at h
            simp only at h
            split at h
            · cases h
            · rename_i l r1 e1
              injection h with h
              injection h with h1 h2
              subst h1 h2
              obtain ⟨a1, a2, a3⟩ := rdL_sound ih _ _ _ _ e1
              refine ⟨?_, ?_, most_list.2 ⟨by omega, fun x hx => (a3 x hx).2.1⟩, depth_list_le.2 fun x hx => (a3 x hx).2.2.1, by rw [V.fit]; exact ⟨by omega, fun x hx => (a3 x hx).2.2.2, fun x hx => by simp at hx⟩⟩
              · rw [bytes_list, a2, a1, UInt8.ofNat_toNat, ← hk0]; rfl
              · rw [formed_mk]
                simp only [own, Bool.and_eq_true, List.all_eq_true]
                exact ⟨⟨⟨by simp, fun x hx => (a3 x hx).1⟩, by simp⟩, by simp⟩
          · rw [if_neg hm] at h; cases h
      · by_cases h8 : k.toNat = 8
        · rw [rd_doc _ _ _ h8] at h
          rw [h8] at hk0
          cases bs with
          | nil => rw [rdM] at h; cases h
          | cons m t =>
            rw [rdM] at h
            by_cases hm : m.toNat ≤ 64
            · rw [if_pos hm] at h
              simp only at h
              split at h
              · cases h
              · rename_i l r1 e1
                injection h with h
                injection h with h1 h2
                subst h1 h2
                obtain ⟨a1, a2, a3, a4⟩ := rdF_sound ih _ _ _ _ _ e1
                refine ⟨?_, ?_, most_doc.2 ⟨by omega, fun x hx => (a3 x hx).2.2.2.1⟩, depth_doc_le.2 fun x hx => (a3 x hx).2.2.2.2.1, by rw [V.fit]; exact ⟨by omega, fun x hx => by simp at hx, fun x hx => (a3 x hx).2.2.2.2.2⟩⟩
                · rw [bytes_doc, a2, a1, UInt8.ofNat_toNat, ← hk0]; rfl
                · rw [formed_mk]
                  simp only [own, Bool.and_eq_true, List.all_eq_true]
                  exact ⟨⟨⟨by simp, by simp⟩, fun x hx => ⟨(a3 x hx).1, (a3 x hx).2.2.1⟩⟩, by simpa using a4⟩
            · rw [if_neg hm] at h; cases h
        · rw [rd_flat _ _ _ h7 h8] at h
          obtain ⟨a1, a2, a3, a4, a5⟩ := rdFlat_sound h
          exact ⟨a1, a2, by omega, by omega, a5⟩

/-! Errors. -/
def Err (e : Int) : Prop := e = 2 ∨ e = 3 ∨ e = 4 ∨ e = 19
theorem rdL_err {f : List UInt8 → Got} (hf : ∀ bs e, f bs = .error e → Err e) : ∀ (n : Nat) (bs : List UInt8) (e : Int), rdL f n bs = .error e → Err e := by
  intro n
  induction n with
  | zero => intro bs e h; rw [rdL] at h; cases h
  | succ n ih =>
    intro bs e h
    rw [rdL] at h
    split at h
    · rename_i e1 h1; injection h with h; subst h; exact hf _ _ h1
    · split at h
      · rename_i e2 h2; injection h with h; subst h; exact ih _ _ h2
      · cases h
theorem rdF_err {f : List UInt8 → Got} (hf : ∀ bs e, f bs = .error e → Err e) : ∀ (n : Nat) (met : List ByteArray) (bs : List UInt8) (e : Int), rdF f n met bs = .error e → Err e := by
  intro n
  induction n with
  | zero => intro met bs e h; rw [rdF] at h; cases h
  | succ n ih =>
    intro met bs e h
    rw [rdF] at h
    split at h
    · injection h with h; subst h; exact .inr (.inr (.inl rfl))
    · split at h
      · split at h
        · rename_i e1 h1; injection h with h; subst h; exact hf _ _ h1
        · split at h
          · rename_i e2 h2; injection h with h; subst h; exact ih _ _ _ h2
          · cases h
      · injection h with h; subst h; exact .inr (.inr (.inl rfl))
theorem rdM_err {bs : List UInt8} {e : Int} (h : rdM bs = .error e) : Err e := by
  cases bs with
  | nil => rw [rdM] at h; injection h with h; subst h; exact .inr (.inr (.inl rfl))
  | cons x r =>
    rw [rdM] at h
    split at h
    · cases h
    · injection h with h; subst h; exact .inr (.inr (.inr rfl))
theorem rdFlat_err {k : Nat} {bs : List UInt8} {e : Int} (h : rdFlat k bs = .error e) : Err e := by
  have h4 : ∀ {e : Int}, (Except.error 4 : Got) = .error e → Err e := fun h => by injection h with h; subst h; exact .inr (.inr (.inl rfl))
  unfold rdFlat at h
  split at h
  · cases h
  split at h
  · split at h
    · exact h4 h
    · split at h
      · cases h
      · exact h4 h
  split at h
  · split at h
    · cases h
    · exact h4 h
  split at h
  · split at h
    · split at h
      · split at h
        · cases h
        · exact h4 h
      · exact h4 h
    · exact h4 h
  · exact h4 h
theorem rd_err (g : Nat) : ∀ (bs : List UInt8) (e : Int), rd g bs = .error e → Err e := by
  induction g with
  | zero =>
    intro bs e h
    cases bs with
    | nil => rw [rd, rdStep] at h; injection h with h; subst h; exact .inr (.inr (.inl rfl))
    | cons k bs =>
      by_cases h7 : k.toNat = 7
      · rw [rd, rdStep, if_pos h7] at h; injection h with h; subst h; exact .inr (.inl rfl)
      · by_cases h8 : k.toNat = 8
        · rw [rd, rdStep, if_neg h7, if_pos h8] at h; injection h with h; subst h; exact .inr (.inl rfl)
        · rw [rd_flat _ _ _ h7 h8] at h; exact rdFlat_err h
  | succ g ih =>
    intro bs e h
    cases bs with
    | nil => rw [rd, rdStep] at h; injection h with h; subst h; exact .inr (.inr (.inl rfl))
    | cons k bs =>
      by_cases h7 : k.toNat = 7
      · rw [rd_list _ _ _ h7] at h
        split at h
        · rename_i e1 h1; injection h with h; subst h; exact rdM_err h1
        · split at h
          · rename_i e1 h1; injection h with h; subst h; exact rdL_err ih _ _ _ h1
          · cases h
      · by_cases h8 : k.toNat = 8
        · rw [rd_doc _ _ _ h8] at h
          split at h
          · rename_i e1 h1; injection h with h; subst h; exact rdM_err h1
          · split at h
            · rename_i e1 h1; injection h with h; subst h; exact rdF_err ih _ _ _ _ h1
            · cases h
        · rw [rd_flat _ _ _ h7 h8] at h; exact rdFlat_err h

/-! All bytes. -/
theorem good_iff {v : V} : v.good = 0 ↔ v.formed = true ∧ v.most ≤ 64 ∧ v.depth ≤ 16 ∧ v.bytes.length ≤ 4096 := by
  unfold V.good
  cases hf : v.formed
  · simp
  · simp only [Bool.true_eq_false, if_false, true_and]
    by_cases h1 : 64 < v.most
    · rw [if_pos h1]; constructor
      · intro h; omega
      · intro h; omega
    · rw [if_neg h1]
      by_cases h2 : 16 < v.depth
      · rw [if_pos h2]; constructor
        · intro h; omega
        · intro h; omega
      · rw [if_neg h2]
        by_cases h3 : 4096 < v.bytes.length
        · rw [if_pos h3]; constructor
          · intro h; omega
          · intro h; omega
        · rw [if_neg h3]; constructor
          · intro _; omega
          · intro _; rfl
theorem rdAll_err {bs : List UInt8} {e : Int} (h : rdAll bs = .error e) : Err e := by
  unfold rdAll at h
  split at h
  · injection h with h; subst h; exact .inl rfl
  · split at h
    · rename_i e1 h1; injection h with h; subst h; exact rd_err _ _ _ h1
    · split at h
      · cases h
      · injection h with h; subst h; exact .inr (.inr (.inl rfl))
theorem rdAll_sound {bs : List UInt8} {v : V} (h : rdAll bs = .ok v) : v.good = 0 ∧ v.bytes = bs := by
  unfold rdAll at h
  split at h
  · cases h
  · rename_i hl
    split at h
    · cases h
    · rename_i v' r h1
      split at h
      · rename_i hr
        injection h with h
        subst h hr
        obtain ⟨a1, a2, a3, a4, _⟩ := rd_sound _ _ _ _ h1
        rw [List.append_nil] at a1
        exact ⟨good_iff.2 ⟨a2, a3, a4, by rw [← a1]; omega⟩, a1.symm⟩
      · cases h
theorem rdAll_good {v : V} (hfit : v.fit) (h : v.good = 0) : rdAll v.bytes = .ok v := by
  obtain ⟨h1, h2, h3, h4⟩ := good_iff.1 h
  have e := rd_bytes v 16 [] hfit h1 h2 h3 (by omega)
  rw [List.append_nil] at e
  unfold rdAll
  rw [if_neg (by omega), e]
  rfl
theorem rdAll_more {v : V} (hfit : v.fit) (h : v.good = 0) (x : UInt8) : ∃ e, rdAll (v.bytes ++ [x]) = .error e := by
  obtain ⟨h1, h2, h3, h4⟩ := good_iff.1 h
  unfold rdAll
  split
  · exact ⟨_, rfl⟩
  · rw [rd_bytes v 16 [x] hfit h1 h2 h3 (by omega)]
    exact ⟨4, rfl⟩
theorem rdAll_less {v : V} (hfit : v.fit) (h : v.good = 0) (k : Nat) (hk : k < v.bytes.length) : ∃ e, rdAll (v.bytes.take k) = .error e := by
  obtain ⟨h1, h2, h3, h4⟩ := good_iff.1 h
  cases hr : rdAll (v.bytes.take k) with
  | error e => exact ⟨e, rfl⟩
  | ok u =>
    exfalso
    unfold rdAll at hr
    split at hr
    · cases hr
    · split at hr
      · cases hr
      · rename_i v' r hr1
        split at hr
        · rename_i hrn
          subst hrn
          obtain ⟨a1, a2, a3, a4, hfit'⟩ := rd_sound _ _ _ _ hr1
          rw [List.append_nil] at a1
          have e1 := rd_bytes v' 16 (v.bytes.drop k) hfit' a2 a3 a4 (by rw [← a1, List.length_take]; omega)
          rw [← a1, List.take_append_drop] at e1
          have e2 := rd_bytes v 16 [] hfit h1 h2 h3 (by omega)
          rw [List.append_nil, e1] at e2
          injection e2 with e2
          injection e2 with _ e2
          have := congrArg List.length e2
          rw [List.length_drop, List.length_nil] at this
          omega
        · cases hr
end Go.Proofs.YtcdbchifigonpaaDoor

set_option linter.unusedVariables false
set_option linter.unusedSimpArgs false
namespace Go.Proofs.YtcdbchifigonpaaDoor
open V

theorem sum_le_flat {α : Type} (g : α → List UInt8) (f : α → Nat) (l : List α) (h : ∀ x ∈ l, f x ≤ (g x).length) : (l.map f).sum ≤ ((l.map g).flatten).length := by
  induction l with
  | nil => simp
  | cons x xs ih =>
    have h1 := h x (by simp)
    have h2 := ih fun y hy => h y (by simp [hy])
    simp only [List.map_cons, List.sum_cons, List.flatten_cons, List.length_append]
    omega

theorem count_le (v : V) : v.formed = true → v.count ≤ v.bytes.length := by
  induction v using V.ind with
  | h k n b l f hl hf =>
    intro hfm
    rcases formed_cases hfm with h | ⟨n', hn', h⟩ | ⟨n', h⟩ | ⟨n', h⟩ | ⟨b', hb', h⟩ | ⟨b', h⟩ | ⟨l', hl', h⟩ | ⟨f', hf', hnd, h⟩ <;> cases h
    · rw [count_mk, bytes_mk]; simp
    · rw [count_mk, bytes_mk]; simp
    · rw [count_mk, bytes_mk]; simp
    · rw [count_mk, bytes_mk]; simp
    · rw [count_mk, bytes_mk]; simp
    · rw [count_mk, bytes_mk]; simp
    · have h1 := sum_le_flat V.bytes V.count l fun x hx => hl x hx (hl' x hx)
      rw [count_mk, bytes_list]
      simp only [List.map_nil, List.sum_nil, List.length_cons]
      omega
    · have h1 := sum_le_flat (fun x : ByteArray × V => item x.1 x.2.bytes) (fun x => x.2.count) f fun x hx => by
        have := hf x hx (hf' x hx).2
        rw [item_length]
        omega
      rw [count_mk, bytes_doc]
      simp only [List.map_nil, List.sum_nil, List.length_cons]
      omega

theorem good_small {v : V} (h : v.good = 0) : v.count ≤ 4096 := by
  obtain ⟨h1, _, _, h4⟩ := good_iff.1 h
  have := count_le v h1
  omega
end Go.Proofs.YtcdbchifigonpaaDoor
