/- Floats in order: a float's exact value, in units of the least place; the order of floats is the order of these. No program in sight. -/
import Derived.Test.YtcdbchifigonpaaDoorKeyF
set_option linter.unusedVariables false
set_option linter.unusedSimpArgs false
namespace Go.Proofs.YtcdbchifigonpaaDoor
open Ieee Go

/-- A rung's value, in units of the least place. -/
def rv (r : Nat) : Nat := if r < 4503599627370496 then r else (4503599627370496 + r % 4503599627370496) * 2 ^ (r / 4503599627370496 - 1)
theorem rv_step (r : Nat) : rv r < rv (r + 1) := by
  unfold rv
  by_cases h1 : r + 1 < 4503599627370496
  · rw [if_pos (by omega), if_pos h1]; omega
  · by_cases h2 : r < 4503599627370496
    · obtain rfl : r = 4503599627370495 := by omega
      rw [if_pos (by omega), if_neg (by omega)]; decide
    · rw [if_neg h2, if_neg h1]
      obtain ⟨e, he⟩ : ∃ e, r / 4503599627370496 = e + 1 := ⟨r / 4503599627370496 - 1, by omega⟩
      have hp : 0 < 2 ^ e := Nat.pow_pos (by omega)
      by_cases h3 : r % 4503599627370496 + 1 < 4503599627370496
      · rw [show (r + 1) / 4503599627370496 = e + 1 by omega, show (r + 1) % 4503599627370496 = r % 4503599627370496 + 1 by omega, he, Nat.add_sub_cancel]
        exact Nat.mul_lt_mul_of_pos_right (by omega) hp
      · rw [show (r + 1) / 4503599627370496 = e + 2 by omega, show (r + 1) % 4503599627370496 = 0 by omega, he, Nat.add_sub_cancel, show e + 2 - 1 = e + 1 by omega, Nat.pow_succ]
        have : (4503599627370496 + r % 4503599627370496) * 2 ^ e < (4503599627370496 * 2) * 2 ^ e := Nat.mul_lt_mul_of_pos_right (by omega) hp
        rw [Nat.add_zero, ← Nat.mul_assoc, Nat.mul_right_comm]
        exact this
theorem rv_mono {a b : Nat} (h : a < b) : rv a < rv b := by
  obtain ⟨d, rfl⟩ : ∃ d, b = a + 1 + d := ⟨b - a - 1, by omega⟩
  clear h
  induction d with
  | zero => exact rv_step a
  | succ d ih => exact Nat.lt_trans ih (rv_step _)
theorem rv_lt {a b : Nat} : rv a < rv b ↔ a < b := by
  constructor
  · intro h
    rcases Nat.lt_trichotomy a b with h1 | h1 | h1
    · exact h1
    · subst h1; omega
    · have := rv_mono h1; omega
  · exact rv_mono
theorem rv_zero : rv 0 = 0 := rfl
theorem rv_pos {r : Nat} (h : 0 < r) : 0 < rv r := by have := rv_mono h; rwa [rv_zero] at this

/-- A float's value (an infinity's: the next one's), in units of the least place; and its place among floats. -/
def sv (n : Nat) : Int := if n < 9223372036854775808 then (rv n : Int) else -(rv (n - 9223372036854775808) : Int)
def sm (n : Nat) : Int := if n < 9223372036854775808 then (n : Int) else -((n - 9223372036854775808 : Nat) : Int)
theorem sv_lt (a b : Nat) : sv a < sv b ↔ sm a < sm b := by
  unfold sv sm
  by_cases ha : a < 9223372036854775808
  · rw [if_pos ha, if_pos ha]
    by_cases hb : b < 9223372036854775808
    · rw [if_pos hb, if_pos hb]
      have := @rv_lt a b
      omega
    · rw [if_neg hb, if_neg hb]; omega
  · rw [if_neg ha, if_neg ha]
    by_cases hb : b < 9223372036854775808
    · rw [if_pos hb, if_pos hb]
      have h1 := @rv_lt 0 (a - 9223372036854775808)
      have h2 := @rv_lt 0 b
      rw [rv_zero] at h1 h2
      omega
    · rw [if_neg hb, if_neg hb]
      have := @rv_lt (b - 9223372036854775808) (a - 9223372036854775808)
      omega
theorem sv_eq (a b : Nat) : sv a = sv b ↔ sm a = sm b := by
  have h1 := sv_lt a b
  have h2 := sv_lt b a
  omega

theorem read_num {n : Nat} (hn : n < 18446744073709551616) (hf : n % 9223372036854775808 < 9218868437227405312) :
    ∃ m p, Ieee.double.read n = .number (decide (9223372036854775808 ≤ n)) m p ∧ -1074 ≤ p ∧ m * 2 ^ (p + 1074).toNat = rv (n % 9223372036854775808) ∧ m < 9007199254740992 ∧ (-1074 < p → 4503599627370496 ≤ m) := by
  have hs : (n / 9223372036854775808 % 2 == 1) = decide (9223372036854775808 ≤ n) := by
    by_cases h : 9223372036854775808 ≤ n
    · rw [decide_eq_true h, show n / 9223372036854775808 % 2 = 1 by omega]; rfl
    · rw [decide_eq_false h, show n / 9223372036854775808 % 2 = 0 by omega]; rfl
  unfold Format.read
  simp only [dbl_sign, dbl_binade, dbl_inf, dbl_least, hs]
  generalize n % 9223372036854775808 = r at hf
  unfold rv
  by_cases h : r < 4503599627370496
  · rw [if_pos h, if_pos h]
    exact ⟨_, _, rfl, by omega, by simp, by omega, fun hh => by omega⟩
  · rw [if_neg h, if_neg h, if_pos hf]
    refine ⟨_, _, rfl, by omega, ?_, by omega, fun _ => by omega⟩
    rw [show (-1074 + ((r / 4503599627370496 - 1 : Nat) : Int) + 1074).toNat = r / 4503599627370496 - 1 by omega]
theorem read_inf {n : Nat} (hn : n < 18446744073709551616) (hf : n % 9223372036854775808 = 9218868437227405312) : Ieee.double.read n = .infinity (decide (9223372036854775808 ≤ n)) := by
  have hs : (n / 9223372036854775808 % 2 == 1) = decide (9223372036854775808 ≤ n) := by
    by_cases h : 9223372036854775808 ≤ n
    · rw [decide_eq_true h, show n / 9223372036854775808 % 2 = 1 by omega]; rfl
    · rw [decide_eq_false h, show n / 9223372036854775808 % 2 = 0 by omega]; rfl
  unfold Format.read
  simp only [dbl_sign, dbl_binade, dbl_inf, dbl_least, hs]
  rw [hf, if_neg (by omega), if_neg (by omega), if_pos rfl]
theorem read_nan {n : Nat} (hf : 9218868437227405312 < n % 9223372036854775808) : ∃ s t, Ieee.double.read n = .nan s t := by
  unfold Format.read
  simp only [dbl_sign, dbl_binade, dbl_inf, dbl_least]
  rw [if_neg (by omega), if_neg (by omega), if_neg (by omega)]
  exact ⟨_, _, rfl⟩
theorem compare_scale (a b : Int) (c : Nat) (hc : 0 < c) : compare (a * (c : Int)) (b * (c : Int)) = compare a b := by
  have hc' : (0 : Int) < (c : Int) := by omega
  rcases Int.lt_trichotomy a b with h | h | h
  · rw [ordInt_lt h, ordInt_lt (Int.mul_lt_mul_of_pos_right h hc')]
  · rw [ordInt_eq h, ordInt_eq (by rw [h])]
  · rw [ordInt_gt h, ordInt_gt (Int.mul_lt_mul_of_pos_right h hc')]
theorem signed_scale (s : Bool) (m : Nat) (p base : Int) (h1 : -1074 ≤ base) (h2 : base ≤ p) : signed s m (p - base).toNat * ((2 ^ (base + 1074).toNat : Nat) : Int) = if s then -((m * 2 ^ (p + 1074).toNat : Nat) : Int) else ((m * 2 ^ (p + 1074).toNat : Nat) : Int) := by
  have e : m * 2 ^ (p - base).toNat * 2 ^ (base + 1074).toNat = m * 2 ^ (p + 1074).toNat := by
    rw [Nat.mul_assoc, ← Nat.pow_add, show (p - base).toNat + (base + 1074).toNat = (p + 1074).toNat by omega]
  unfold signed
  rw [Nat.shiftLeft_eq]
  cases s
  · simp only [Bool.false_eq_true, if_false]; rw [← Int.natCast_mul, e]
  · simp only [if_true]; rw [Int.neg_mul, ← Int.natCast_mul, e]
theorem sv_read {n : Nat} (hn : n < 18446744073709551616) : sv n = if decide (9223372036854775808 ≤ n) = true then -(rv (n % 9223372036854775808) : Int) else (rv (n % 9223372036854775808) : Int) := by
  unfold sv
  by_cases h : 9223372036854775808 ≤ n
  · rw [if_neg (by omega), decide_eq_true h, if_pos rfl, show n % 9223372036854775808 = n - 9223372036854775808 by omega]
  · rw [if_pos (by omega), decide_eq_false h, if_neg (by decide), show n % 9223372036854775808 = n by omega]
/-- The order of floats that are no NaN. -/
theorem order_sv {a b : Nat} (ha : a < 18446744073709551616) (hb : b < 18446744073709551616) (na : a % 9223372036854775808 ≤ 9218868437227405312) (nb : b % 9223372036854775808 ≤ 9218868437227405312) :
    Ieee.double.order a b = some (compare (sv a) (sv b)) := by
  unfold Format.order
  rw [sv_read ha, sv_read hb]
  rcases Nat.lt_or_eq_of_le na with na | na
  · obtain ⟨m, p, h1, h2, h3, -, -⟩ := read_num ha na
    rw [h1]
    rcases Nat.lt_or_eq_of_le nb with nb | nb
    · obtain ⟨m', p', k1, k2, k3, -, -⟩ := read_num hb nb
      rw [k1]
      unfold Datum.order
      simp only
      have hc := compare_scale (signed (decide (9223372036854775808 ≤ a)) m (p - min p p').toNat) (signed (decide (9223372036854775808 ≤ b)) m' (p' - min p p').toNat) (2 ^ (min p p' + 1074).toNat) (Nat.pow_pos (by omega))
      rw [signed_scale _ _ _ _ (by omega) (by omega), signed_scale _ _ _ _ (by omega) (by omega), h3, k3] at hc
      rw [← hc]
    · rw [read_inf hb nb, nb]
      have := rv_mono na
      unfold Datum.order
      simp only
      generalize decide (9223372036854775808 ≤ a) = s
      generalize decide (9223372036854775808 ≤ b) = t
      cases t
      · simp only [Bool.false_eq_true, if_false]
        rw [ordInt_lt (by split <;> omega)]
      · simp only [if_true]
        rw [ordInt_gt (by split <;> omega)]
  · rw [read_inf ha na, na]
    rcases Nat.lt_or_eq_of_le nb with nb | nb
    · obtain ⟨m', p', k1, k2, k3, -, -⟩ := read_num hb nb
      rw [k1]
      have := rv_mono nb
      unfold Datum.order
      simp only
      generalize decide (9223372036854775808 ≤ a) = s
      generalize decide (9223372036854775808 ≤ b) = t
      cases s
      · simp only [Bool.false_eq_true, if_false]
        rw [ordInt_gt (by split <;> omega)]
      · simp only [if_true]
        rw [ordInt_lt (by split <;> omega)]
    · rw [read_inf hb nb, nb]
      unfold Datum.order
      simp only
      have := rv_pos (show 0 < 9218868437227405312 by omega)
      generalize decide (9223372036854775808 ≤ a) = s
      generalize decide (9223372036854775808 ≤ b) = t
      generalize rv 9218868437227405312 = x at this ⊢
      cases s <;> cases t <;> simp only [Bool.false_eq_true, if_false, if_true]
      · rw [ordInt_eq rfl]; rfl
      · rw [ordInt_gt (by omega)]; rfl
      · rw [ordInt_lt (by omega)]; rfl
      · rw [ordInt_eq rfl]; rfl
theorem order_nan_l {a b : Nat} (na : 9218868437227405312 < a % 9223372036854775808) : Ieee.double.order a b = none := by
  obtain ⟨s, t, h⟩ := read_nan na
  unfold Format.order; rw [h]; rfl
theorem order_nan_r {a b : Nat} (nb : 9218868437227405312 < b % 9223372036854775808) : Ieee.double.order a b = none := by
  obtain ⟨s, t, h⟩ := read_nan nb
  unfold Format.order; rw [h]
  cases Ieee.double.read a <;> rfl

/-! An Int's greatest float that is not above it. -/

/-- One, in units of the least place. -/
theorem exU (j : Nat) : ∃ u : Nat, ∀ k, k = j → u = 2 ^ k := ⟨2 ^ j, fun k h => by rw [h]⟩
theorem exU1 : ∃ u : Nat, ∀ k, k = 1074 → u = 2 ^ k := exU 1074
noncomputable def U1 : Nat := Classical.choose exU1
theorem U1_eq (k : Nat) (h : k = 1074) : 2 ^ k = U1 := (Classical.choose_spec exU1 k h).symm
theorem U1_pos : 0 < U1 := by
  obtain ⟨k, hk⟩ : ∃ k, k = 1074 := ⟨_, rfl⟩
  rw [← U1_eq k hk]; exact Nat.pow_pos (by decide)
theorem rv_place (e t : Nat) (h1 : 4503599627370496 ≤ t) (h2 : t ≤ 9007199254740992) : rv (e * 4503599627370496 + t) = t * 2 ^ e := by
  unfold rv
  rw [if_neg (by omega)]
  rcases Nat.lt_or_eq_of_le h2 with h | rfl
  · rw [show (e * 4503599627370496 + t) / 4503599627370496 = e + 1 by omega, show (e * 4503599627370496 + t) % 4503599627370496 = t - 4503599627370496 by omega, Nat.add_sub_cancel, show 4503599627370496 + (t - 4503599627370496) = t by omega]
  · rw [show (e * 4503599627370496 + 9007199254740992) / 4503599627370496 = e + 2 by omega, show (e * 4503599627370496 + 9007199254740992) % 4503599627370496 = 0 by omega, show e + 2 - 1 = e + 1 by omega, Nat.pow_succ]
    omega
theorem sv_word (neg : Bool) (r : Nat) (h : r < 9223372036854775808) : sv (Ieee.double.word neg r) = if neg then -(rv r : Int) else (rv r : Int) := by
  unfold sv Format.word
  rw [dbl_sign]
  cases neg
  · simp only [Bool.false_eq_true, if_false]; rw [if_pos h]
  · simp only [if_true]; rw [if_neg (by omega), show 9223372036854775808 + r - 9223372036854775808 = r by omega]
theorem sm_word (neg : Bool) (r : Nat) (h : r < 9223372036854775808) : sm (Ieee.double.word neg r) = if neg then -(r : Int) else (r : Int) := by
  unfold sm Format.word
  rw [dbl_sign]
  cases neg
  · simp only [Bool.false_eq_true, if_false]; rw [if_pos h]
  · simp only [if_true]; rw [if_neg (by omega), show 9223372036854775808 + r - 9223372036854775808 = r by omega]
/-- A whole amount of at most 53 digits as a float. -/
theorem nearest_sv_small (neg : Bool) (mag : Nat) (h0 : mag ≠ 0) (hL : mag.log2 ≤ 52) : sv (Ieee.double.nearest neg mag 0) = if neg then -((mag * U1 : Nat) : Int) else ((mag * U1 : Nat) : Int) := by
  have hlt := Nat.lt_log2_self (n := mag)
  have hge := Nat.log2_self_le h0
  have hp : 0 < 2 ^ (52 - mag.log2) := Nat.pow_pos (by omega)
  have ha : 4503599627370496 ≤ mag * 2 ^ (52 - mag.log2) := by
    have := Nat.mul_le_mul_right (2 ^ (52 - mag.log2)) hge
    rwa [← Nat.pow_add, show mag.log2 + (52 - mag.log2) = 52 by omega, pow52] at this
  have hb : mag * 2 ^ (52 - mag.log2) < 9007199254740992 := by
    have := Nat.mul_lt_mul_of_pos_right hlt hp
    rwa [← Nat.pow_add, show mag.log2 + 1 + (52 - mag.log2) = 53 by omega, pow53] at this
  rw [nearest_small neg mag h0 hL, sv_word _ _ (by omega), rv_place _ _ ha (by omega), Nat.mul_assoc, ← Nat.pow_add, U1_eq (52 - mag.log2 + (mag.log2 + 1022)) (by omega)]
theorem exact_sv (neg : Bool) (t d : Nat) (hd2 : d ≤ 11) (h1 : 4503599627370496 ≤ t) (h2 : t ≤ 9007199254740992) : sv (Ieee.double.word neg ((d + 1074) * 4503599627370496 + t)) = if neg then -((t * 2 ^ d * U1 : Nat) : Int) else ((t * 2 ^ d * U1 : Nat) : Int) := by
  rw [sv_word _ _ (by omega), rv_place _ _ h1 h2, Nat.pow_add, ← Nat.mul_assoc, U1_eq _ rfl]

/-- The float g is the greatest that is not above i; it lies 'rest' below i. -/
structure Under (i : Int) (g rest : Nat) : Prop where
  bits : g < 18446744073709551616
  fin : g % 9223372036854775808 < 9218868437227405312
  val : sv g = (i - (rest : Int)) * (U1 : Int)
  top : ∀ f : Nat, sv f ≤ i * (U1 : Int) → sv f ≤ sv g
theorem nat_cast3 (a b c : Nat) : ((a * b * c : Nat) : Int) = ((a * b : Nat) : Int) * (c : Int) := Int.natCast_mul _ _
theorem under_exact {i : Int} {g : Nat} (hb : g < 18446744073709551616) (hf : g % 9223372036854775808 < 9218868437227405312) (h : sv g = i * (U1 : Int)) : Under i g 0 :=
  ⟨hb, hf, by rw [h]; simp, fun f hf => by rw [h]; exact hf⟩
theorem word_mod (neg : Bool) (r : Nat) (h : r < 9223372036854775808) : Ieee.double.word neg r % 9223372036854775808 = r := word_lo r h neg
theorem word_64 (neg : Bool) (r : Nat) (h : r < 9223372036854775808) : Ieee.double.word neg r < 18446744073709551616 := by
  unfold Format.word; rw [dbl_sign]; cases neg <;> simp <;> omega
theorem fl_under (i : Int) (h1 : -9223372036854775808 ≤ i) (h2 : i ≤ 9223372036854775807) : Under i (fl i).1 (fl i).2 := by
  by_cases hz : i = 0
  · subst hz
    have e1 : fl 0 = (0, 0) := by decide
    rw [e1]
    exact under_exact (by decide) (by decide) (by simp [sv, rv])
  have hm0 : i.natAbs ≠ 0 := by omega
  by_cases hL : i.natAbs.log2 ≤ 52
  · have hsh : sh i.natAbs = 0 := by unfold sh; omega
    have hfl : fl i = (Ieee.double.nearest (decide (i < 0)) i.natAbs 0, 0) := by
      unfold fl
      by_cases hi : 0 ≤ i
      · have e : i.toNat = i.natAbs := by omega
        rw [if_pos hi, e, hsh]
        simp only [Nat.pow_zero, Nat.div_one, Nat.mul_one, Nat.mod_one, decide_eq_false (show ¬ i < 0 by omega)]
      · rw [if_neg hi, hsh]
        simp only [Nat.pow_zero, Nat.div_one, Nat.mul_one, Nat.sub_self, Nat.add_zero, decide_eq_true (show i < 0 by omega)]
    have hlt := Nat.lt_log2_self (n := i.natAbs)
    have hp : 0 < 2 ^ (52 - i.natAbs.log2) := Nat.pow_pos (by omega)
    have hb : i.natAbs * 2 ^ (52 - i.natAbs.log2) < 9007199254740992 := by
      have := Nat.mul_lt_mul_of_pos_right hlt hp
      rwa [← Nat.pow_add, show i.natAbs.log2 + 1 + (52 - i.natAbs.log2) = 53 by omega, pow53] at this
    have hs := nearest_sv_small (decide (i < 0)) i.natAbs hm0 hL
    have hr : (i.natAbs.log2 + 1022) * 4503599627370496 + i.natAbs * 2 ^ (52 - i.natAbs.log2) < 9218868437227405312 := by omega
    rw [hfl]
    refine under_exact ?_ ?_ ?_
    · rw [nearest_small _ _ hm0 hL]; exact word_64 _ _ (by omega)
    · rw [nearest_small _ _ hm0 hL, word_mod _ _ (by omega)]; exact hr
    · show sv (Ieee.double.nearest (decide (i < 0)) i.natAbs 0) = _
      rw [hs, Int.natCast_mul]
      by_cases hi : i < 0
      · rw [decide_eq_true hi, if_pos rfl, ← Int.neg_mul]; congr 1; omega
      · rw [decide_eq_false hi, if_neg (by decide)]; congr 1; omega
  · obtain ⟨d, hd⟩ : ∃ d, i.natAbs.log2 = 52 + d := ⟨i.natAbs.log2 - 52, by omega⟩
    have hsh : sh i.natAbs = d := by unfold sh; omega
    have hlt := Nat.lt_log2_self (n := i.natAbs)
    have hge := Nat.log2_self_le hm0
    have hd1 : 1 ≤ d := by omega
    have hd2 : d ≤ 11 := by
      rcases Nat.lt_or_ge d 12 with h | h
      · omega
      · have : 2 ^ 64 ≤ 2 ^ i.natAbs.log2 := Nat.pow_le_pow_right (by omega) (by omega)
        have e : (2 : Nat) ^ 64 = 18446744073709551616 := by decide
        omega
    have hp : 0 < 2 ^ d := Nat.pow_pos (by omega)
    obtain ⟨t, ht⟩ : ∃ t, i.natAbs / 2 ^ d = t := ⟨_, rfl⟩
    obtain ⟨r, hr⟩ : ∃ r, i.natAbs % 2 ^ d = r := ⟨_, rfl⟩
    have hdm : i.natAbs = t * 2 ^ d + r := by rw [← ht, ← hr, Nat.mul_comm]; exact (Nat.div_add_mod _ _).symm
    have hrl : r < 2 ^ d := by rw [← hr]; exact Nat.mod_lt _ hp
    have ht1 : 4503599627370496 ≤ t := by
      rw [← ht, Nat.le_div_iff_mul_le hp, ← pow52, ← Nat.pow_add, ← hd]; exact hge
    have ht2 : t < 9007199254740992 := by
      rw [← ht, Nat.div_lt_iff_lt_mul hp, ← pow53, ← Nat.pow_add, show 53 + d = i.natAbs.log2 + 1 by omega]; exact hlt
    have e1 : (t + 1) * 2 ^ d = t * 2 ^ d + 2 ^ d := Nat.succ_mul _ _
    have hu1 := U1_pos
    -- the case d = 11 is -2^63 alone
    by_cases hmin : i = -9223372036854775808
    · subst hmin
      have e1 : fl (-9223372036854775808) = (Ieee.double.word true ((11 + 1074) * 4503599627370496 + 4503599627370496), 0) := by kernel_rfl
      rw [e1]
      have hw := word_64 true ((11 + 1074) * 4503599627370496 + 4503599627370496) (by omega)
      have hm := word_mod true ((11 + 1074) * 4503599627370496 + 4503599627370496) (by omega)
      refine under_exact hw (by rw [hm]; omega) ?_
      rw [show ((Ieee.double.word true ((11 + 1074) * 4503599627370496 + 4503599627370496), 0) : Nat × Nat).1 = Ieee.double.word true ((11 + 1074) * 4503599627370496 + 4503599627370496) from rfl, exact_sv true 4503599627370496 11 (by omega) (by omega) (by omega), if_pos rfl, Int.natCast_mul, ← Int.neg_mul]
      rfl
    have hd10 : d ≤ 10 := by
      rcases Nat.lt_or_ge d 11 with h | h
      · omega
      · have : 2 ^ 63 ≤ 2 ^ i.natAbs.log2 := Nat.pow_le_pow_right (by omega) (by omega)
        have e : (2 : Nat) ^ 63 = 9223372036854775808 := by decide
        omega
    by_cases hi : 0 ≤ i
    · have e : i.toNat = i.natAbs := by omega
      have hfl : fl i = (Ieee.double.word false ((d + 1074) * 4503599627370496 + t), r) := by
        unfold fl
        rw [if_pos hi, e, hsh, ht, hr, nearest_exact false t d hd1 hd10 ht1 (by omega)]
      have hsv := exact_sv false t d hd2 ht1 (by omega)
      have hsv2 := exact_sv false (t + 1) d hd2 (by omega) (by omega)
      rw [if_neg (by decide), Int.natCast_mul] at hsv hsv2
      rw [hfl]
      have hw := word_64 false ((d + 1074) * 4503599627370496 + t) (by omega)
      have hm := word_mod false ((d + 1074) * 4503599627370496 + t) (by omega)
      refine ⟨hw, by rw [hm]; omega, ?_, fun f hf => ?_⟩
      · show sv (Ieee.double.word false ((d + 1074) * 4503599627370496 + t)) = _
        rw [hsv]; congr 1; omega
      · show sv f ≤ sv (Ieee.double.word false ((d + 1074) * 4503599627370496 + t))
        rcases Int.lt_or_le (sv (Ieee.double.word false ((d + 1074) * 4503599627370496 + t))) (sv f) with hlt2 | hle
        · rw [sv_lt, sm_word _ _ (by omega), if_neg (by decide)] at hlt2
          have h3 : ¬ sv f < sv (Ieee.double.word false ((d + 1074) * 4503599627370496 + (t + 1))) := by
            rw [sv_lt, sm_word _ _ (by omega), if_neg (by decide)]; omega
          rw [hsv2] at h3
          have h4 : i * (U1 : Int) < (((t + 1) * 2 ^ d : Nat) : Int) * (U1 : Int) := Int.mul_lt_mul_of_pos_right (by omega) (by omega)
          omega
        · exact hle
    · obtain ⟨u, hu⟩ : ∃ u, (i.natAbs + (2 ^ d - 1)) / 2 ^ d = u := ⟨_, rfl⟩
      have hu2 : u = if r = 0 then t else t + 1 := by
        rw [← hu, hdm, show t * 2 ^ d + r + (2 ^ d - 1) = (r + (2 ^ d - 1)) + t * 2 ^ d by omega, Nat.add_mul_div_right _ _ hp]
        split
        · rw [Nat.div_eq_of_lt (by omega)]; omega
        · rw [Nat.div_eq_of_lt_le (k := 1) (by omega) (by omega)]; omega
      have hut : t ≤ u ∧ u ≤ t + 1 := by rw [hu2]; split <;> omega
      have hfl : fl i = (Ieee.double.word true ((d + 1074) * 4503599627370496 + u), u * 2 ^ d - i.natAbs) := by
        unfold fl
        rw [if_neg hi, hsh, hu, nearest_exact true u d hd1 hd10 (by omega) (by omega)]
      have hum : i.natAbs ≤ u * 2 ^ d := by
        rw [hu2]; split
        · rename_i h; rw [h] at hdm; omega
        · omega
      have hsv := exact_sv true u d hd2 (by omega) (by omega)
      rw [if_pos rfl, Int.natCast_mul, ← Int.neg_mul] at hsv
      rw [hfl]
      by_cases hr0 : r = 0
      · have hut : u = t := by rw [hu2, if_pos hr0]
        rw [hut] at hsv hum ⊢
        have hz : t * 2 ^ d - i.natAbs = 0 := by rw [hdm, hr0]; omega
        rw [hz]
        have hw := word_64 true ((d + 1074) * 4503599627370496 + t) (by omega)
        have hm := word_mod true ((d + 1074) * 4503599627370496 + t) (by omega)
        exact under_exact hw (by rw [hm]; omega) (by rw [show ((Ieee.double.word true ((d + 1074) * 4503599627370496 + t), 0) : Nat × Nat).1 = Ieee.double.word true ((d + 1074) * 4503599627370496 + t) from rfl, hsv]; congr 1; omega)
      · have hut : u = t + 1 := by rw [hu2, if_neg hr0]
        subst hut
        have hsv2 := exact_sv true t d hd2 (by omega) (by omega)
        rw [if_pos rfl, Int.natCast_mul, ← Int.neg_mul] at hsv2
        have hw := word_64 true ((d + 1074) * 4503599627370496 + (t + 1)) (by omega)
        have hm := word_mod true ((d + 1074) * 4503599627370496 + (t + 1)) (by omega)
        refine ⟨hw, by rw [hm]; omega, ?_, fun f hf => ?_⟩
        · show sv (Ieee.double.word true ((d + 1074) * 4503599627370496 + (t + 1))) = _
          rw [hsv]; congr 1; simp only; omega
        · show sv f ≤ sv (Ieee.double.word true ((d + 1074) * 4503599627370496 + (t + 1)))
          rcases Int.lt_or_le (sv (Ieee.double.word true ((d + 1074) * 4503599627370496 + (t + 1)))) (sv f) with hlt2 | hle
          · rw [sv_lt, sm_word _ _ (by omega), if_pos rfl] at hlt2
            have h3 : ¬ sv f < sv (Ieee.double.word true ((d + 1074) * 4503599627370496 + t)) := by
              rw [sv_lt, sm_word _ _ (by omega), if_pos rfl]; omega
            rw [hsv2] at h3
            have h4 : i * (U1 : Int) < -((t * 2 ^ d : Nat) : Int) * (U1 : Int) := Int.mul_lt_mul_of_pos_right (by omega) (by omega)
            omega
          · exact hle

/-! The whole part of a float. -/

/-- A whole amount that a float has. -/
theorem whole_float (neg : Bool) (mag : Nat) (h : mag.log2 ≤ 52 ∨ ∃ t d, 1 ≤ d ∧ d ≤ 10 ∧ 4503599627370496 ≤ t ∧ t ≤ 9007199254740992 ∧ mag = t * 2 ^ d) (hr : mag ≤ 9223372036854775808) (hn : neg = false → mag < 9223372036854775808) :
    Ieee.double.nearest neg mag 0 < 18446744073709551616 ∧ Ieee.double.nearest neg mag 0 % 9223372036854775808 < 9218868437227405312 ∧
    sv (Ieee.double.nearest neg mag 0) = (if neg then -(mag : Int) else (mag : Int)) * (U1 : Int) ∧ floatToIntVal .f64 (Ieee.double.nearest neg mag 0) .i64 = some (if neg then -(mag : Int) else (mag : Int)) := by
  by_cases h0 : mag = 0
  · subst h0
    have e : Ieee.double.nearest neg 0 0 = Ieee.double.word neg 0 := by unfold Format.nearest; rw [if_pos rfl]
    rw [e]
    refine ⟨word_64 _ _ (by omega), by rw [word_mod _ _ (by omega)]; omega, by rw [sv_word _ _ (by omega), rv_zero]; cases neg <;> simp, ?_⟩
    have hr : Ieee.double.read (Ieee.double.word neg 0) = .number neg 0 (-1074) := by cases neg <;> decide
    exact toIntVal_of hr (by cases neg <;> decide) (by cases neg <;> simp) (by cases neg <;> simp)
  by_cases hL : mag.log2 ≤ 52
  · obtain ⟨a1, a2, -, -⟩ := small_facts neg mag h0 hL _ rfl _ rfl
    have hs := nearest_sv_small neg mag h0 hL
    have hlt := Nat.lt_log2_self (n := mag)
    have hp : 0 < 2 ^ (52 - mag.log2) := Nat.pow_pos (by omega)
    have hb : mag * 2 ^ (52 - mag.log2) < 9007199254740992 := by
      have := Nat.mul_lt_mul_of_pos_right hlt hp
      rwa [← Nat.pow_add, show mag.log2 + 1 + (52 - mag.log2) = 53 by omega, pow53] at this
    have hm := word_mod neg ((mag.log2 + 1022) * 4503599627370496 + mag * 2 ^ (52 - mag.log2)) (by omega)
    refine ⟨a1, by rw [nearest_small _ _ h0 hL, hm]; omega, ?_, a2⟩
    rw [hs, Int.natCast_mul]
    cases neg
    · simp only [Bool.false_eq_true, if_false]
    · simp only [if_true]; rw [Int.neg_mul]
  · obtain ⟨t, d, hd1, hd2, ht1, ht2, rfl⟩ := h.resolve_left hL
    rw [nearest_exact neg t d hd1 hd2 ht1 ht2]
    have hs := exact_sv neg t d (by omega) ht1 ht2
    have hm := word_mod neg ((d + 1074) * 4503599627370496 + t) (by omega)
    obtain ⟨-, v2, v3, v4⟩ := val_facts neg t d hd2 ht1 ht2 hr _ rfl _ rfl
    refine ⟨v2, by rw [hm]; omega, ?_, ?_⟩
    · rw [hs, Int.natCast_mul]
      cases neg
      · simp only [Bool.false_eq_true, if_false]
      · simp only [if_true]; rw [Int.neg_mul]
    · cases neg
      · simp only [Bool.false_eq_true, if_false]; exact ((v4 rfl).2 (hn rfl)).1
      · simp only [if_true]; exact (v3 rfl).1
theorem cut_down_false (m q : Nat) : Toward.down.cut false m q * 2 ^ q ≤ m ∧ m < (Toward.down.cut false m q + 1) * 2 ^ q := by
  have hc : Toward.down.cut false m q = m / 2 ^ q := by
    unfold Toward.cut
    simp only [Bool.false_and, Bool.toNat_false, Nat.add_zero, shl_one]
    rcases Nat.lt_or_ge (m.log2 + 2) q with hq | hq
    · have := Nat.lt_log2_self (n := m)
      rw [Nat.min_eq_right (by omega), Nat.div_eq_of_lt (Nat.lt_of_lt_of_le this (Nat.pow_le_pow_right (by omega) (by omega))), Nat.div_eq_of_lt (Nat.lt_of_lt_of_le this (Nat.pow_le_pow_right (by omega) (by omega)))]
    · rw [Nat.min_eq_left (by omega)]
  have hp : 0 < 2 ^ q := Nat.pow_pos (by omega)
  rw [hc]
  exact ⟨Nat.div_mul_le_self _ _, by rw [Nat.succ_mul]; have := Nat.div_add_mod m (2 ^ q); have := Nat.mod_lt m hp; rw [Nat.mul_comm]; omega⟩
theorem cut_down_true (m q : Nat) : m ≤ Toward.down.cut true m q * 2 ^ q ∧ Toward.down.cut true m q * 2 ^ q < m + 2 ^ q := by
  have hp : 0 < 2 ^ q := Nat.pow_pos (by omega)
  by_cases hq : m.log2 + 2 < q
  · have hlt := Nat.lt_log2_self (n := m)
    have h1 : m < 2 ^ (m.log2 + 2) := Nat.lt_of_lt_of_le hlt (Nat.pow_le_pow_right (by omega) (by omega))
    have h2 : m < 2 ^ q := Nat.lt_of_lt_of_le hlt (Nat.pow_le_pow_right (by omega) (by omega))
    have hc : Toward.down.cut true m q = (m != 0).toNat := by
      unfold Toward.cut
      simp only [Bool.true_and, shl_one, Nat.min_eq_right (show m.log2 + 2 ≤ q by omega)]
      rw [Nat.div_eq_of_lt h1, Nat.mod_eq_of_lt h1, Nat.zero_add]
    rw [hc]
    by_cases h0 : m = 0
    · subst h0; simp; exact hp
    · have : (m != 0) = true := by simpa using h0
      rw [this]; simp only [Bool.toNat_true, Nat.one_mul]; omega
  · have hc : Toward.down.cut true m q = m / 2 ^ q + (m % 2 ^ q != 0).toNat := by
      unfold Toward.cut
      simp only [Bool.true_and, shl_one, Nat.min_eq_left (show q ≤ m.log2 + 2 by omega)]
    rw [hc, Nat.add_mul]
    have h1 := Nat.div_add_mod m (2 ^ q)
    have h2 := Nat.mod_lt m hp
    rw [Nat.mul_comm] at h1
    by_cases h0 : m % 2 ^ q = 0
    · have : (m % 2 ^ q != 0) = false := by simp [h0]
      rw [this]; simp only [Bool.toNat_false, Nat.zero_mul]; omega
    · have : (m % 2 ^ q != 0) = true := by simpa using h0
      rw [this]; simp only [Bool.toNat_true, Nat.one_mul]; omega
/-- What math.Floor makes of a float. -/
def floorF (f : Nat) : Nat := Ieee.double.write ((Ieee.double.read f).integral .down)
theorem log2_le52 (c : Nat) (h : c < 9007199254740992) : c.log2 ≤ 52 := by
  by_cases h0 : c = 0
  · subst h0; decide
  · have := (Nat.log2_lt h0 (k := 53)).2 (by rw [pow53]; exact h)
    omega
theorem floor_facts (f : Nat) (hf : f < 18446744073709551616) (fin : f % 9223372036854775808 < 9218868437227405312) (hlo : -9223372036854775808 * (U1 : Int) ≤ sv f) (hhi : sv f < 9223372036854775808 * (U1 : Int)) :
    ∃ k : Int, floorF f < 18446744073709551616 ∧ floorF f % 9223372036854775808 < 9218868437227405312 ∧ sv (floorF f) = k * (U1 : Int) ∧ floatToIntVal .f64 (floorF f) .i64 = some k ∧ k * (U1 : Int) ≤ sv f ∧ sv f < (k + 1) * (U1 : Int) := by
  have hu := U1_pos
  obtain ⟨m, p, h1, h2, h3, h4, h5⟩ := read_num hf fin
  have hsv := sv_read hf
  rw [← h3] at hsv
  generalize decide (9223372036854775808 ≤ f) = s at h1 hsv
  unfold floorF
  rw [h1]
  unfold Datum.integral
  simp only
  unfold Format.write
  simp only
  rcases Int.lt_or_le p 0 with hp | hp
  · obtain ⟨q, rfl⟩ : ∃ q : Nat, p = -(q : Int) := ⟨(-p).toNat, by omega⟩
    have e1 : (-(q : Int)).toNat = 0 := by omega
    have e2 : (- -(q : Int)).toNat = q := by omega
    rw [e1, e2, Nat.shiftLeft_zero]
    obtain ⟨P, hP⟩ : ∃ P, 2 ^ (-(q : Int) + 1074).toNat = P := ⟨_, rfl⟩
    have hPp : 0 < P := by rw [← hP]; exact Nat.pow_pos (by omega)
    have hU : U1 = 2 ^ q * P := by rw [← hP, ← Nat.pow_add, U1_eq _ (by omega)]
    rw [hP] at hsv
    have hq : 2 ^ 1 ≤ 2 ^ q := Nat.pow_le_pow_right (by omega) (by omega)
    cases s
    · have hc := cut_down_false m q
      obtain ⟨c, hcc⟩ : ∃ c, Toward.down.cut false m q = c := ⟨_, rfl⟩
      rw [hcc] at hc ⊢
      have hc2 : c < 9007199254740992 := by
        rcases Nat.lt_or_ge c 9007199254740992 with h | h
        · exact h
        · have := Nat.mul_le_mul h hq; omega
      obtain ⟨w1, w2, w3, w4⟩ := whole_float false c (.inl (log2_le52 c hc2)) (by omega) (fun _ => by omega)
      simp only [Bool.false_eq_true, if_false] at w3 w4 hsv
      refine ⟨c, w1, w2, w3, w4, ?_, ?_⟩
      · rw [hsv, hU, ← Int.natCast_mul]
        have := Nat.mul_le_mul_right P hc.1
        rw [Nat.mul_assoc] at this
        omega
      · rw [hsv, hU]
        have := Nat.mul_lt_mul_of_pos_right hc.2 hPp
        rw [Nat.mul_assoc] at this
        have e : ((c : Int) + 1) * ((2 ^ q * P : Nat) : Int) = (((c + 1) * (2 ^ q * P) : Nat) : Int) := by rw [Int.natCast_mul]; rfl
        rw [e]; omega
    · have hc := cut_down_true m q
      obtain ⟨c, hcc⟩ : ∃ c, Toward.down.cut true m q = c := ⟨_, rfl⟩
      rw [hcc] at hc ⊢
      have hc2 : c < 9007199254740992 := by
        rcases Nat.lt_or_ge c 9007199254740992 with h | h
        · exact h
        · have h3 := Nat.mul_le_mul_right (2 ^ q) h
          have : 9007199254740991 * 2 ^ q + 2 ^ q = 9007199254740992 * 2 ^ q := by omega
          have := Nat.mul_le_mul_left 9007199254740991 hq
          omega
      obtain ⟨w1, w2, w3, w4⟩ := whole_float true c (.inl (log2_le52 c hc2)) (by omega) (fun h => by cases h)
      simp only [if_true] at w3 w4 hsv
      refine ⟨-(c : Int), w1, w2, w3, w4, ?_, ?_⟩
      · rw [hsv, hU, Int.neg_mul, ← Int.natCast_mul]
        have := Nat.mul_le_mul_right P hc.1
        rw [Nat.mul_assoc] at this
        omega
      · rw [hsv, hU, Int.add_mul, Int.neg_mul, ← Int.natCast_mul, Int.one_mul]
        have := Nat.mul_lt_mul_of_pos_right hc.2 hPp
        rw [Nat.mul_assoc, Nat.add_mul] at this
        omega
  · obtain ⟨d, rfl⟩ : ∃ d : Nat, p = (d : Int) := ⟨p.toNat, by omega⟩
    have e1 : ((d : Int)).toNat = d := by omega
    have e2 : (-(d : Int)).toNat = 0 := by omega
    have e3 : ((d : Int) + 1074).toNat = d + 1074 := by omega
    have hm := h5 (by omega)
    rw [e1, e2, cut_zero_drop, Nat.shiftLeft_eq]
    rw [e3, Nat.pow_add, ← Nat.mul_assoc, U1_eq _ rfl, Int.natCast_mul] at hsv
    obtain ⟨x, hx⟩ : ∃ x, m * 2 ^ d = x := ⟨_, rfl⟩
    rw [hx] at hsv ⊢
    have hx1 : x ≤ 9223372036854775808 := by
      cases s
      · simp only [Bool.false_eq_true, if_false] at hsv
        rw [hsv] at hhi
        have := Int.lt_of_mul_lt_mul_right hhi (by omega); omega
      · simp only [if_true] at hsv
        rw [hsv, ← Int.neg_mul] at hlo
        have := Int.le_of_mul_le_mul_right hlo (by omega); omega
    have hx2 : s = false → x < 9223372036854775808 := by
      intro e; subst e
      simp only [Bool.false_eq_true, if_false] at hsv
      rw [hsv] at hhi
      have := Int.lt_of_mul_lt_mul_right hhi (by omega); omega
    have hd : d ≤ 11 := by
      rcases Nat.lt_or_ge d 12 with h | h
      · omega
      · have h6 : 2 ^ 12 ≤ 2 ^ d := Nat.pow_le_pow_right (by omega) h
        have h7 := Nat.mul_le_mul hm h6
        have e12 : (2 : Nat) ^ 12 = 4096 := by decide
        rw [hx] at h7; omega
    have hform : x.log2 ≤ 52 ∨ ∃ t d, 1 ≤ d ∧ d ≤ 10 ∧ 4503599627370496 ≤ t ∧ t ≤ 9007199254740992 ∧ x = t * 2 ^ d := by
      by_cases hd0 : d = 0
      · subst hd0
        refine .inl (log2_le52 x ?_)
        rw [← hx]; simp; omega
      · by_cases hd11 : d = 11
        · subst hd11
          have e11 : (2 : Nat) ^ 11 = 2048 := by decide
          refine .inr ⟨9007199254740992, 10, by omega, by omega, by omega, by omega, ?_⟩
          have e10 : (2 : Nat) ^ 10 = 1024 := by decide
          omega
        · exact .inr ⟨m, d, by omega, by omega, hm, by omega, hx.symm⟩
    obtain ⟨w1, w2, w3, w4⟩ := whole_float s x hform hx1 hx2
    refine ⟨_, w1, w2, w3, w4, ?_, ?_⟩
    · rw [hsv]; cases s
      · simp only [Bool.false_eq_true, if_false]; omega
      · simp only [if_true]; rw [Int.neg_mul]; omega
    · rw [hsv]; cases s
      · simp only [Bool.false_eq_true, if_false]; rw [Int.add_mul, Int.one_mul]; omega
      · simp only [if_true]; rw [Int.add_mul, Int.neg_mul, Int.one_mul]; omega
end Go.Proofs.YtcdbchifigonpaaDoor
