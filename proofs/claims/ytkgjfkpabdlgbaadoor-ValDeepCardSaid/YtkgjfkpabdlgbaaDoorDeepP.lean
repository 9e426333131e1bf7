/- The values of the law ValDeep, plainly: what is wrong with each, and what reading its bytes tells. No program in sight. -/
import Derived.Test.YtkgjfkpabdlgbaaDoorCount
import Derived.Laws.Bits128
import Derived.Lib.ValidLaws
set_option linter.unusedVariables false
set_option linter.unusedSimpArgs false
namespace Go.Proofs.YtkgjfkpabdlgbaaDoor
open V

theorem i64_and3 (n : Int) : bits .and .i64 n 3 = n % 4 := by
  have h3 : (BitVec.ofInt 64 3).toNat = 2 ^ 2 - 1 := by decide
  have key : (BitVec.ofInt 64 n &&& BitVec.ofInt 64 3).toNat = (n % ((2 ^ 64 : Nat) : Int)).toNat % 2 ^ 2 := by
    rw [BitVec.toNat_and, BitVec.toNat_ofInt, h3, Nat.and_two_pow_sub_one_eq_mod]
  show IntKind.i64.wrap ((BitVec.ofInt 64 n &&& BitVec.ofInt 64 3).toNat : Nat) = n % 4
  rw [key, IntKind.wrap_i64]
  omega

abbrev one : V := mk 3 1 [] [] []
def deepV : Nat → V
  | 0 => one
  | k + 1 => mk 7 0 [] [deepV k] []
def wideV (k : Nat) : V := mk 7 0 [] ((List.range k).map fun i => mk 3 i [] [] []) []
def rawV (k : Nat) : V := mk 6 0 (List.replicate (4029 + k) 0) [] []
def longS (k : Nat) : ByteArray := ⟨Array.replicate k 110⟩
def nameV (k : Nat) : V := mk 8 0 [] [] [(longS k, one)]

theorem int_bytes (n : Nat) : (mk 3 n [] [] []).bytes = 3 :: toLe 8 n := by rw [bytes_mk]; simp
theorem int_formed (n : Nat) : (mk 3 n [] [] []).formed = true := by rw [formed_mk]; simp [own]
theorem int_most (n : Nat) : (mk 3 n [] [] []).most = 0 := by rw [most_mk]; simp
theorem int_depth (n : Nat) : (mk 3 n [] [] []).depth = 0 := by rw [depth_mk]; simp
theorem int_fit (n : Nat) (h : n < 18446744073709551616) : (mk 3 n [] [] []).fit := by
  rw [fit]; exact ⟨h, by simp, by simp⟩

/-! A value so deep. -/
theorem deep_formed (k : Nat) : (deepV k).formed = true := by
  induction k with
  | zero => exact int_formed 1
  | succ k ih => rw [deepV, formed_mk]; simp [own, ih]
theorem deep_depth (k : Nat) : (deepV k).depth = k := by
  induction k with
  | zero => exact int_depth 1
  | succ k ih => rw [deepV, depth_list]; simp [ih]; omega
theorem deep_most (k : Nat) : (deepV k).most ≤ 1 := by
  induction k with
  | zero => rw [deepV, int_most]; omega
  | succ k ih => rw [deepV]; exact most_list.2 ⟨by simp, by simpa using ih⟩
theorem deep_len (k : Nat) : (deepV k).bytes.length = 2 * k + 9 := by
  induction k with
  | zero => rw [deepV, int_bytes]; simp [toLe_length]
  | succ k ih => rw [deepV, bytes_list]; simp [ih]; omega
theorem deep_count (k : Nat) : (deepV k).count = k + 1 := by
  induction k with
  | zero => rw [deepV, count_mk]; simp
  | succ k ih => rw [deepV, count_mk]; simp [ih]; omega
theorem deep_good (k : Nat) (hk : k ≤ 127) : (deepV k).good = if 16 < k then 3 else 0 := by
  have := deep_most k
  rw [good, deep_formed, deep_depth, deep_len, if_neg (by simp), if_neg (by omega)]
  split
  · rfl
  · rw [if_neg (by omega)]
theorem deep_rd (g : Nat) : ∀ (k : Nat) (r : List UInt8), g < k → rd g ((deepV k).bytes ++ r) = .error 3 := by
  induction g with
  | zero =>
    intro k r hk
    obtain ⟨k, rfl⟩ : ∃ j, k = j + 1 := ⟨k - 1, by omega⟩
    rw [deepV, bytes_list]
    rfl
  | succ g ih =>
    intro k r hk
    obtain ⟨k, rfl⟩ : ∃ j, k = j + 1 := ⟨k - 1, by omega⟩
    rw [deepV, bytes_list]
    simp only [List.cons_append, List.map_cons, List.map_nil, List.flatten_cons, List.flatten_nil, List.append_nil, List.length_cons, List.length_nil]
    rw [rd_list _ _ _ rfl]
    have h1 : rdM (UInt8.ofNat (0 + 1) :: ((deepV k).bytes ++ r)) = .ok (1, (deepV k).bytes ++ r) := rfl
    rw [h1]
    simp only [rdL, ih k r (by omega)]
theorem deep_read (k : Nat) (hk : k ≤ 127) (h : 16 < k) : rdAll (deepV k).bytes = .error 3 := by
  rw [rdAll, if_neg (by rw [deep_len]; omega)]
  have := deep_rd 16 k [] h
  rw [List.append_nil] at this
  rw [this]

/-! A list of so many. -/
theorem wide_formed (k : Nat) : (wideV k).formed = true := by
  rw [wideV, formed_mk]; simp [own, int_formed]
theorem wide_depth (k : Nat) : (wideV k).depth ≤ 1 := by
  rw [wideV]; exact depth_list_le.2 (by simp [int_depth])
theorem wide_most (k m : Nat) : (wideV k).most ≤ m ↔ k ≤ m := by
  rw [wideV, most_list]; simp [int_most]
theorem ints_len (l : List Nat) : ((l.map fun i => mk 3 i [] [] []).map V.bytes).flatten.length = 9 * l.length := by
  induction l with
  | nil => rfl
  | cons x xs ih => simp only [List.map_cons, List.flatten_cons, List.length_append, ih, int_bytes, List.length_cons, toLe_length]; omega
theorem wide_len (k : Nat) : (wideV k).bytes.length = 2 + 9 * k := by
  rw [wideV, bytes_list]; simp only [List.length_cons, ints_len, List.length_range]; omega
theorem ints_count (l : List Nat) : ((l.map fun i => mk 3 i [] [] []).map count).sum = l.length := by
  induction l with
  | nil => rfl
  | cons x xs ih => simp only [List.map_cons, List.sum_cons, ih, count_mk, List.length_cons, List.map_nil, List.sum_nil]; omega
theorem wide_count (k : Nat) : (wideV k).count = 1 + k := by
  rw [wideV, count_mk]; simp only [ints_count, List.length_range, List.map_nil, List.sum_nil, Nat.add_zero]
theorem wide_good (k : Nat) (hk : k ≤ 127) : (wideV k).good = if 64 < k then 19 else 0 := by
  have h1 := wide_depth k
  have h2 := wide_most k 64
  rw [good, wide_formed, wide_len, if_neg (by simp)]
  by_cases h : 64 < k
  · rw [if_pos (by omega), if_pos h]
  · rw [if_neg (by omega), if_neg h, if_neg (by omega), if_neg (by omega)]
theorem wide_read (k : Nat) (hk : k ≤ 127) (h : 64 < k) : rdAll (wideV k).bytes = .error 19 := by
  rw [rdAll, if_neg (by rw [wide_len]; omega), wideV, bytes_list, rd_list _ _ _ rfl, rdM, if_neg]
  simp only [List.length_map, List.length_range]
  rw [UInt8.toNat_ofNat']
  omega

/-! So many bytes. -/
theorem raw_formed (k : Nat) : (rawV k).formed = true := by rw [rawV, formed_mk]; simp [own]
theorem raw_len (k : Nat) : (rawV k).bytes.length = 4032 + k := by rw [rawV, bytes_mk]; simp [toLe_length]; omega
theorem raw_good (k : Nat) (hk : k ≤ 127) : (rawV k).good = if 64 < k then 2 else 0 := by
  have h1 : (rawV k).most = 0 := by rw [rawV, most_mk]; simp
  have h2 : (rawV k).depth = 0 := by rw [rawV, depth_mk]; simp
  rw [good, raw_formed, raw_len, if_neg (by simp), if_neg (by omega), if_neg (by omega)]
  by_cases h : 64 < k
  · rw [if_pos (by omega), if_pos h]
  · rw [if_neg (by omega), if_neg h]
theorem raw_count (k : Nat) : (rawV k).count = 1 := by rw [rawV, count_mk]; simp
theorem raw_read (k : Nat) (h : 64 < k) : rdAll (rawV k).bytes = .error 2 := by
  rw [rdAll, if_pos (by rw [raw_len]; omega)]

/-! So long a name. -/
theorem long_size (k : Nat) : (longS k).size = k := by show (Array.replicate k _).size = k; simp
theorem long_list (k : Nat) : (longS k).data.toList = List.replicate k 110 := by simp [longS]
theorem valid_long (k : Nat) : Lib.validD (List.replicate k (110 : UInt8)) = true := by
  induction k with
  | zero => exact Lib.validD_nil
  | succ k ih => rw [List.replicate_succ, Lib.validD_cons _ _ (by decide)]; exact ih
theorem long_name (k : Nat) : name (longS k) = decide (1 ≤ k ∧ k ≤ 32) := by
  rw [name, long_size, long_list, valid_long]
  simp
theorem name_len (k : Nat) : (nameV k).bytes.length = 12 + k := by
  rw [nameV, bytes_doc]; simp [item_length, long_size, int_bytes, toLe_length]; omega
theorem name_count (k : Nat) : (nameV k).count = 2 := by rw [nameV, count_mk]; simp [count_mk]
theorem name_good (k : Nat) (hk : k ≤ 127) : (nameV k).good = if 1 ≤ k ∧ k ≤ 32 then 0 else 4 := by
  have h1 : (nameV k).formed = decide (1 ≤ k ∧ k ≤ 32) := by
    rw [nameV, formed_mk]; simp [own, int_formed, long_name]
  have h2 : (nameV k).most ≤ 64 := by rw [nameV]; exact most_doc.2 ⟨by simp, by simp [int_most]⟩
  have h3 : (nameV k).depth ≤ 1 := by rw [nameV]; exact depth_doc_le.2 (by simp [int_depth])
  rw [good, h1, name_len]
  by_cases h : 1 ≤ k ∧ k ≤ 32
  · rw [if_neg (by simp [h]), if_pos h, if_neg (by omega), if_neg (by omega), if_neg (by omega)]
  · rw [if_pos (by simp [h]), if_neg h]
theorem name_read (k : Nat) (hk : k ≤ 127) (h : ¬ (1 ≤ k ∧ k ≤ 32)) : rdAll (nameV k).bytes = .error 4 := by
  rw [rdAll, if_neg (by rw [name_len]; omega), nameV, bytes_doc, rd_doc _ _ _ rfl]
  have h1 : rdM (UInt8.ofNat [(longS k, one)].length :: ([(longS k, one)].map fun x => item x.1 x.2.bytes).flatten) = .ok (1, item (longS k) one.bytes ++ []) := rfl
  rw [h1]
  simp only [List.append_nil, rdF]
  rw [rdN_item _ _ (by rw [long_size]; omega)]
  simp only []
  rw [if_neg]
  rw [long_name]
  simp [h]
end Go.Proofs.YtkgjfkpabdlgbaaDoor
