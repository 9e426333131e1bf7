/- UTF-8, plainly: what one step of the document's answer decides. No program in sight. -/
import Derived.Test.YtojpeiihkjpeoaaDoorSpec
import Derived.Lib.ValidLaws
import Derived.Lib.TrimUEq
namespace Go.Proofs.YtojpeiihkjpeoaaDoor
open Go.Lib

theorem utf_ascii (l : List UInt8) (hne : l ≠ []) (h : (l.getD 0 0).toNat < 128) : validD l = validD (l.drop 1) := by
  match l, hne with
  | b :: t, _ => exact validD_cons b t (by simpa using h)
set_option maxRecDepth 10000 in
theorem utf_bad (l : List UInt8) (hne : l ≠ []) (h : 128 ≤ (l.getD 0 0).toNat) (h' : (l.getD 0 0).toNat < 192 ∨ 248 ≤ (l.getD 0 0).toNat) : validD l = false := by
  have hl : 0 < l.length := List.length_pos_iff.2 hne
  have h0 := (l.getD 0 0).toNat_lt
  rw [validD_step l hne, decodeL_N, if_pos]
  unfold decodeN
  rw [if_neg (by omega), if_neg (by omega), if_neg (by omega), if_neg (by omega)]
  exact ⟨rfl, rfl⟩
set_option maxRecDepth 10000 in
set_option maxHeartbeats 800000 in
theorem dec_two (n b0 b1 b2 b3 : Nat) (_hl : 0 < n) (h0 : 192 ≤ b0 ∧ b0 < 224) (h1 : b1 < 256) (_h2 : b2 < 256) (_h3 : b3 < 256) :
    (decodeN n b0 b1 b2 b3 = (65533, 1) ∧ ¬ (2 ≤ n ∧ 128 ≤ b1 ∧ b1 < 192 ∧ 128 + 128 ≤ (b0 - 192) * 64 + b1)) ∨ (∃ r, decodeN n b0 b1 b2 b3 = (r, 2) ∧ (2 ≤ n ∧ 128 ≤ b1 ∧ b1 < 192 ∧ 128 + 128 ≤ (b0 - 192) * 64 + b1)) := by
  unfold decodeN
  rw [if_neg (by omega)]
  by_cases c : b0 / 32 = 6 ∧ (1 < n ∧ b1 / 64 = 2)
  · rw [if_pos c]
    by_cases d : b0 % 32 * 64 + b1 % 64 ≥ 128
    · rw [if_pos d]; exact .inr ⟨_, rfl, by omega⟩
    · rw [if_neg d]; exact .inl ⟨rfl, by omega⟩
  · rw [if_neg c, if_neg (by omega), if_neg (by omega)]; exact .inl ⟨rfl, by omega⟩

theorem utf_two (l : List UInt8) (hne : l ≠ []) (h1 : 192 ≤ (l.getD 0 0).toNat) (h2 : (l.getD 0 0).toNat < 224) :
    validD l = if 2 ≤ l.length ∧ 128 ≤ (l.getD 1 0).toNat ∧ (l.getD 1 0).toNat < 192 ∧ 128 + 128 ≤ ((l.getD 0 0).toNat - 192) * 64 + (l.getD 1 0).toNat then validD (l.drop 2) else false := by
  have hl : 0 < l.length := List.length_pos_iff.2 hne
  rw [validD_step l hne, decodeL_N]
  rcases dec_two l.length _ _ _ _ hl ⟨h1, h2⟩ (l.getD 1 0).toNat_lt (l.getD 2 0).toNat_lt (l.getD 3 0).toNat_lt with ⟨e, hc⟩ | ⟨r, e, hc⟩
  · rw [e, if_pos ⟨rfl, rfl⟩, if_neg hc]
  · rw [e, if_neg (by simp), if_pos hc]
set_option maxRecDepth 10000 in
set_option maxHeartbeats 800000 in
theorem dec_three (n b0 b1 b2 b3 : Nat) (_hl : 0 < n) (h0 : 224 ≤ b0 ∧ b0 < 240) (h1 : b1 < 256) (_h2 : b2 < 256) (_h3 : b3 < 256) :
    (decodeN n b0 b1 b2 b3 = (65533, 1) ∧ ¬ (3 ≤ n ∧ (128 ≤ b1 ∧ b1 < 192) ∧ (128 ≤ b2 ∧ b2 < 192) ∧ 2048 + 8320 ≤ ((b0 - 224) * 64 + b1) * 64 + b2 ∧ ¬ (55296 + 8320 ≤ ((b0 - 224) * 64 + b1) * 64 + b2 ∧ ((b0 - 224) * 64 + b1) * 64 + b2 ≤ 57343 + 8320))) ∨ (∃ r, decodeN n b0 b1 b2 b3 = (r, 3) ∧ (3 ≤ n ∧ (128 ≤ b1 ∧ b1 < 192) ∧ (128 ≤ b2 ∧ b2 < 192) ∧ 2048 + 8320 ≤ ((b0 - 224) * 64 + b1) * 64 + b2 ∧ ¬ (55296 + 8320 ≤ ((b0 - 224) * 64 + b1) * 64 + b2 ∧ ((b0 - 224) * 64 + b1) * 64 + b2 ≤ 57343 + 8320))) := by
  unfold decodeN
  rw [if_neg (by omega)]
  rw [if_neg (by omega)]
  by_cases c : b0 / 16 = 14 ∧ (1 < n ∧ b1 / 64 = 2) ∧ (2 < n ∧ b2 / 64 = 2)
  · rw [if_pos c]
    by_cases d : b0 % 16 * 4096 + b1 % 64 * 64 + b2 % 64 ≥ 2048 ∧ (b0 % 16 * 4096 + b1 % 64 * 64 + b2 % 64 < 55296 ∨ (57344 ≤ b0 % 16 * 4096 + b1 % 64 * 64 + b2 % 64 ∧ b0 % 16 * 4096 + b1 % 64 * 64 + b2 % 64 ≤ 1114111))
    · rw [if_pos d]; exact .inr ⟨_, rfl, by omega⟩
    · rw [if_neg d]; exact .inl ⟨rfl, by omega⟩
  · rw [if_neg c, if_neg (by omega)]; exact .inl ⟨rfl, by omega⟩

theorem utf_three (l : List UInt8) (hne : l ≠ []) (h1 : 224 ≤ (l.getD 0 0).toNat) (h2 : (l.getD 0 0).toNat < 240) :
    validD l = if 3 ≤ l.length ∧ (128 ≤ (l.getD 1 0).toNat ∧ (l.getD 1 0).toNat < 192) ∧ (128 ≤ (l.getD 2 0).toNat ∧ (l.getD 2 0).toNat < 192) ∧ 2048 + 8320 ≤ (((l.getD 0 0).toNat - 224) * 64 + (l.getD 1 0).toNat) * 64 + (l.getD 2 0).toNat ∧ ¬ (55296 + 8320 ≤ (((l.getD 0 0).toNat - 224) * 64 + (l.getD 1 0).toNat) * 64 + (l.getD 2 0).toNat ∧ (((l.getD 0 0).toNat - 224) * 64 + (l.getD 1 0).toNat) * 64 + (l.getD 2 0).toNat ≤ 57343 + 8320) then validD (l.drop 3) else false := by
  have hl : 0 < l.length := List.length_pos_iff.2 hne
  rw [validD_step l hne, decodeL_N]
  rcases dec_three l.length _ _ _ _ hl ⟨h1, h2⟩ (l.getD 1 0).toNat_lt (l.getD 2 0).toNat_lt (l.getD 3 0).toNat_lt with ⟨e, hc⟩ | ⟨r, e, hc⟩
  · rw [e, if_pos ⟨rfl, rfl⟩, if_neg hc]
  · rw [e, if_neg (by simp), if_pos hc]
set_option maxRecDepth 10000 in
set_option maxHeartbeats 800000 in
theorem dec_four (n b0 b1 b2 b3 : Nat) (_hl : 0 < n) (h0 : 240 ≤ b0 ∧ b0 < 248) (h1 : b1 < 256) (_h2 : b2 < 256) (_h3 : b3 < 256) :
    (decodeN n b0 b1 b2 b3 = (65533, 1) ∧ ¬ (4 ≤ n ∧ (128 ≤ b1 ∧ b1 < 192) ∧ (128 ≤ b2 ∧ b2 < 192) ∧ (128 ≤ b3 ∧ b3 < 192) ∧ 65536 + 532608 ≤ (((b0 - 240) * 64 + b1) * 64 + b2) * 64 + b3 ∧ (((b0 - 240) * 64 + b1) * 64 + b2) * 64 + b3 ≤ 1114111 + 532608)) ∨ (∃ r, decodeN n b0 b1 b2 b3 = (r, 4) ∧ (4 ≤ n ∧ (128 ≤ b1 ∧ b1 < 192) ∧ (128 ≤ b2 ∧ b2 < 192) ∧ (128 ≤ b3 ∧ b3 < 192) ∧ 65536 + 532608 ≤ (((b0 - 240) * 64 + b1) * 64 + b2) * 64 + b3 ∧ (((b0 - 240) * 64 + b1) * 64 + b2) * 64 + b3 ≤ 1114111 + 532608)) := by
  unfold decodeN
  rw [if_neg (by omega)]
  rw [if_neg (by omega), if_neg (by omega)]
  by_cases c : b0 / 8 = 30 ∧ (1 < n ∧ b1 / 64 = 2) ∧ (2 < n ∧ b2 / 64 = 2) ∧ (3 < n ∧ b3 / 64 = 2)
  · rw [if_pos c]
    by_cases d : b0 % 8 * 262144 + b1 % 64 * 4096 + b2 % 64 * 64 + b3 % 64 ≥ 65536 ∧ (b0 % 8 * 262144 + b1 % 64 * 4096 + b2 % 64 * 64 + b3 % 64 < 55296 ∨ (57344 ≤ b0 % 8 * 262144 + b1 % 64 * 4096 + b2 % 64 * 64 + b3 % 64 ∧ b0 % 8 * 262144 + b1 % 64 * 4096 + b2 % 64 * 64 + b3 % 64 ≤ 1114111))
    · rw [if_pos d]; exact .inr ⟨_, rfl, by omega⟩
    · rw [if_neg d]; exact .inl ⟨rfl, by omega⟩
  · rw [if_neg c]; exact .inl ⟨rfl, by omega⟩

theorem utf_four (l : List UInt8) (hne : l ≠ []) (h1 : 240 ≤ (l.getD 0 0).toNat) (h2 : (l.getD 0 0).toNat < 248) :
    validD l = if 4 ≤ l.length ∧ (128 ≤ (l.getD 1 0).toNat ∧ (l.getD 1 0).toNat < 192) ∧ (128 ≤ (l.getD 2 0).toNat ∧ (l.getD 2 0).toNat < 192) ∧ (128 ≤ (l.getD 3 0).toNat ∧ (l.getD 3 0).toNat < 192) ∧ 65536 + 532608 ≤ ((((l.getD 0 0).toNat - 240) * 64 + (l.getD 1 0).toNat) * 64 + (l.getD 2 0).toNat) * 64 + (l.getD 3 0).toNat ∧ ((((l.getD 0 0).toNat - 240) * 64 + (l.getD 1 0).toNat) * 64 + (l.getD 2 0).toNat) * 64 + (l.getD 3 0).toNat ≤ 1114111 + 532608 then validD (l.drop 4) else false := by
  have hl : 0 < l.length := List.length_pos_iff.2 hne
  rw [validD_step l hne, decodeL_N]
  rcases dec_four l.length _ _ _ _ hl ⟨h1, h2⟩ (l.getD 1 0).toNat_lt (l.getD 2 0).toNat_lt (l.getD 3 0).toNat_lt with ⟨e, hc⟩ | ⟨r, e, hc⟩
  · rw [e, if_pos ⟨rfl, rfl⟩, if_neg hc]
  · rw [e, if_neg (by simp), if_pos hc]
end Go.Proofs.YtojpeiihkjpeoaaDoor
