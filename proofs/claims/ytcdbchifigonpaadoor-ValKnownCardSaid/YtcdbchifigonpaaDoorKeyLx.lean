/- The order of values, plainly: numbers by their exact values, the rest part by part; keys stand to one another as their values. No program in sight. -/
import Derived.Test.YtcdbchifigonpaaDoorKeyPQ
import Derived.Test.YtcdbchifigonpaaDoorFlO
import Derived.Lib.Bytealg
set_option linter.unusedVariables false
set_option linter.unusedSimpArgs false
namespace Go.Proofs.YtcdbchifigonpaaDoor
open Ieee Go

/-- The sign of a difference. -/
def sg (a b : Int) : Int := if a < b then -1 else if b < a then 1 else 0
theorem sg_lt {a b : Int} (h : a < b) : sg a b = -1 := by unfold sg; rw [if_pos h]
theorem sg_gt {a b : Int} (h : b < a) : sg a b = 1 := by unfold sg; rw [if_neg (by omega), if_pos h]
theorem sg_eq {a b : Int} (h : a = b) : sg a b = 0 := by unfold sg; rw [if_neg (by omega), if_neg (by omega)]
/-- An Int against a Float that is no NaN: their exact values; of the same value -0.0, the Int, the Float. -/
noncomputable def mixC (i : Int) (f : Nat) : Int := if i * (U1 : Int) < sv f then -1 else if sv f < i * (U1 : Int) then 1 else if f = 9223372036854775808 then 1 else -1
/-- Two numbers. -/
noncomputable def numC (k : Int) (n : Nat) (k' : Int) (n' : Nat) : Int :=
  if k = 3 then (if k' = 3 then sg (i64 n) (i64 n') else if nanB n' = true then 1 else mixC (i64 n) n')
  else if nanB n = true then (if k' = 3 then -1 else if nanB n' = true then sg n n' else -1)
  else if k' = 3 then -(mixC (i64 n') n)
  else if nanB n' = true then 1
  else if sv n < sv n' then -1 else if sv n' < sv n then 1 else sg ((n' / 9223372036854775808 : Nat) : Int) ((n / 9223372036854775808 : Nat) : Int)
/-- The first that is not nought. -/
def orC (a b : Int) : Int := if a = 0 then b else a
def foldC : List Int → Int
  | [] => 0
  | x :: r => orC x (foldC r)
def cls (k : Int) : Int := if k = 4 then 3 else k
namespace V
/-- Two good values. -/
noncomputable def cmp : V → V → Int
  | mk k n b l f, mk k' n' b' l' f' =>
    if cls k ≠ cls k' then sg (cls k) (cls k')
    else if k = 2 then sg n n'
    else if k = 3 ∨ k = 4 then numC k n k' n'
    else if k = 5 ∨ k = 6 then Lib.compareBytes b b'
    else orC (orC (foldC (((l.attach).zip l').map fun p => cmp p.1.1 p.2)) (foldC (((f.attach).zip f').map fun p => orC (Lib.compareBytes p.1.1.1.data.toList p.2.1.data.toList) (cmp p.1.1.2 p.2.2)))) (sg ((l.length + f.length : Nat) : Int) ((l'.length + f'.length : Nat) : Int))
termination_by v => SizeOf.sizeOf v
decreasing_by
  · exact sizeOf_l p.1.2
  · exact sizeOf_f p.1.2
noncomputable def cmpL (l l' : List V) : Int := foldC ((l.zip l').map fun p => cmp p.1 p.2)
noncomputable def cmpP (x y : ByteArray × V) : Int := orC (Lib.compareBytes x.1.data.toList y.1.data.toList) (cmp x.2 y.2)
noncomputable def cmpF (f f' : List (ByteArray × V)) : Int := foldC ((f.zip f').map fun p => cmpP p.1 p.2)
theorem attach_zip {α β γ : Type} (g : α → β → γ) (l : List α) (l' : List β) : ((l.attach.zip l').map fun p => g p.1.1 p.2) = (l.zip l').map fun p => g p.1 p.2 := by
  have h : l.zip l' = (l.attach.map Subtype.val).zip l' := by rw [List.attach_map_subtype_val]
  rw [h, List.zip_map_left, List.map_map]
  rfl
theorem cmp_mk (k : Int) (n : Nat) (b : List UInt8) (l : List V) (f : List (ByteArray × V)) (k' : Int) (n' : Nat) (b' : List UInt8) (l' : List V) (f' : List (ByteArray × V)) : cmp (mk k n b l f) (mk k' n' b' l' f') =
    if cls k ≠ cls k' then sg (cls k) (cls k')
    else if k = 2 then sg n n'
    else if k = 3 ∨ k = 4 then numC k n k' n'
    else if k = 5 ∨ k = 6 then Lib.compareBytes b b'
    else orC (orC (cmpL l l') (cmpF f f')) (sg ((l.length + f.length : Nat) : Int) ((l'.length + f'.length : Nat) : Int)) := by
  rw [cmp]
  have e1 : (((l.attach).zip l').map fun p => cmp p.1.1 p.2) = (l.zip l').map fun p => cmp p.1 p.2 := attach_zip cmp l l'
  have e2 : (((f.attach).zip f').map fun p => orC (Lib.compareBytes p.1.1.1.data.toList p.2.1.data.toList) (cmp p.1.1.2 p.2.2)) = (f.zip f').map fun p => cmpP p.1 p.2 := attach_zip cmpP f f'
  rw [e1, e2]
  rfl
end V

/-! Bytes that differ somewhere. -/

/-- Neither begins the other, and at the first place that differs they stand so. -/
def Diff (c : Int) (a b : List UInt8) : Prop := ∃ p x y a' b', a = p ++ x :: a' ∧ b = p ++ y :: b' ∧ x ≠ y ∧ c = sg (x.toNat : Int) (y.toNat : Int)
theorem Diff.right {c : Int} {a b : List UInt8} (h : Diff c a b) (r s : List UInt8) : Diff c (a ++ r) (b ++ s) := by
  obtain ⟨p, x, y, a', b', rfl, rfl, h1, h2⟩ := h
  exact ⟨p, x, y, a' ++ r, b' ++ s, by simp, by simp, h1, h2⟩
theorem Diff.left {c : Int} {a b : List UInt8} (h : Diff c a b) (q : List UInt8) : Diff c (q ++ a) (q ++ b) := by
  obtain ⟨p, x, y, a', b', rfl, rfl, h1, h2⟩ := h
  exact ⟨q ++ p, x, y, a', b', by simp, by simp, h1, h2⟩
theorem Diff.cons {c : Int} {a b : List UInt8} (h : Diff c a b) (q : UInt8) : Diff c (q :: a) (q :: b) := h.left [q]
theorem Diff.here {x y : UInt8} (h : x ≠ y) (a b : List UInt8) : Diff (sg (x.toNat : Int) (y.toNat : Int)) (x :: a) (y :: b) := ⟨[], x, y, a, b, rfl, rfl, h, rfl⟩
theorem toNat_ne {x y : UInt8} (h : x ≠ y) : x.toNat ≠ y.toNat := fun e => h (UInt8.toNat_inj.1 e)
theorem sg_swap (a b : Int) : sg b a = -(sg a b) := by unfold sg; repeat' split
                                                       all_goals omega
theorem sg_ne {a b : Int} (h : a ≠ b) : sg a b ≠ 0 := by unfold sg; repeat' split
                                                         all_goals omega
theorem sg_vals (a b : Int) : sg a b = -1 ∨ sg a b = 0 ∨ sg a b = 1 := by unfold sg; repeat' split
                                                                          all_goals omega
theorem Diff.swap {c : Int} {a b : List UInt8} (h : Diff c a b) : Diff (-c) b a := by
  obtain ⟨p, x, y, a', b', rfl, rfl, h1, rfl⟩ := h
  exact ⟨p, y, x, b', a', rfl, rfl, fun e => h1 e.symm, (sg_swap _ _).symm⟩
theorem Diff.ne0 {c : Int} {a b : List UInt8} (h : Diff c a b) : c ≠ 0 := by
  obtain ⟨p, x, y, a', b', rfl, rfl, h1, rfl⟩ := h
  have := toNat_ne h1
  exact sg_ne (by omega)
theorem cmpB_left (p a b : List UInt8) : Lib.compareBytes (p ++ a) (p ++ b) = Lib.compareBytes a b := by
  induction p with
  | nil => rfl
  | cons x p ih => rw [List.cons_append, List.cons_append, Lib.compareBytes, if_neg (by simp), if_neg (by simp), ih]
theorem Diff.cmp {c : Int} {a b : List UInt8} (h : Diff c a b) : Lib.compareBytes a b = c := by
  obtain ⟨p, x, y, a', b', rfl, rfl, h1, rfl⟩ := h
  rw [cmpB_left, Lib.compareBytes]
  have := toNat_ne h1
  simp only [UInt8.lt_iff_toNat_lt]
  by_cases h : x.toNat < y.toNat
  · rw [if_pos h, sg_lt (by omega)]
  · rw [if_neg h, if_pos (show y.toNat < x.toNat by omega), sg_gt (by omega)]
theorem Diff.uniq {c c' : Int} {a b : List UInt8} (h : Diff c a b) (h' : Diff c' a b) : c = c' := h.cmp.symm.trans h'.cmp
theorem Diff.irrefl {c : Int} {a : List UInt8} (h : Diff c a a) : False := by
  obtain ⟨p, x, y, a', b', e1, e2, h1, rfl⟩ := h
  rw [e1] at e2
  have := List.append_cancel_left e2
  injection this with h _
  exact h1 h
theorem Diff.not_begins {c : Int} {a b : List UInt8} (h : Diff c a b) : ¬ a <+: b := by
  rintro ⟨t, rfl⟩
  obtain ⟨p, x, y, a', b', rfl, e2, h1, rfl⟩ := h
  rw [List.append_assoc] at e2
  have := List.append_cancel_left e2
  injection this with h _
  exact h1 h
theorem flip1_nat (x : UInt8) : (flip1 x).toNat = 255 - x.toNat := by unfold flip1; exact ofNat_toNat8 _ (by have := x.toNat_lt; omega)
theorem flip1_ne {x y : UInt8} (h : x ≠ y) : flip1 x ≠ flip1 y := by
  intro e
  have := congrArg UInt8.toNat e
  rw [flip1_nat, flip1_nat] at this
  have h1 := x.toNat_lt
  have h2 := y.toNat_lt
  have := toNat_ne h
  omega
theorem Diff.flip {c : Int} {a b : List UInt8} (h : Diff c a b) : Diff (-c) (a.map flip1) (b.map flip1) := by
  obtain ⟨p, x, y, a', b', rfl, rfl, h1, rfl⟩ := h
  refine ⟨p.map flip1, flip1 x, flip1 y, a'.map flip1, b'.map flip1, by simp, by simp, flip1_ne h1, ?_⟩
  rw [flip1_nat, flip1_nat]
  have h1 := x.toNat_lt
  have h2 := y.toNat_lt
  unfold sg
  repeat' split
  all_goals omega

/-! Numbers' keys. -/

theorem be_mod (k a : Nat) : be k (a % 256 ^ k) = be k a := by
  unfold be toLe
  congr 1
  refine List.map_congr_left fun i hi => ?_
  have hik : i < k := List.mem_range.1 hi
  apply UInt8.toNat_inj.1
  rw [UInt8.toNat_ofNat', UInt8.toNat_ofNat']
  have e : 256 ^ k = 256 ^ i * 256 ^ (k - i) := by rw [← Nat.pow_add, show i + (k - i) = k by omega]
  rw [e, Nat.mod_mul_right_div_self]
  have e2 : 256 ^ (k - i) = 256 * 256 ^ (k - i - 1) := by rw [Nat.mul_comm, ← Nat.pow_succ, show (k - i - 1).succ = k - i by omega]
  show a / 256 ^ i % 256 ^ (k - i) % 256 = a / 256 ^ i % 256
  rw [e2, Nat.mod_mul_right_mod]
theorem be_diff : ∀ (k a b : Nat), a < 256 ^ k → b < 256 ^ k → a < b → Diff (-1) (be k a) (be k b)
  | 0, a, b, ha, hb, h => by simp at ha hb; omega
  | k + 1, a, b, ha, hb, h => by
    rw [be_succ, be_succ]
    have hp : 0 < 256 ^ k := Nat.pow_pos (by omega)
    have h1 : a / 256 ^ k < 256 := by rw [Nat.div_lt_iff_lt_mul hp, Nat.mul_comm, ← Nat.pow_succ]; exact ha
    have h2 : b / 256 ^ k < 256 := by rw [Nat.div_lt_iff_lt_mul hp, Nat.mul_comm, ← Nat.pow_succ]; exact hb
    have hle : a / 256 ^ k ≤ b / 256 ^ k := Nat.div_le_div_right (by omega)
    have ea := Nat.div_add_mod a (256 ^ k)
    have eb := Nat.div_add_mod b (256 ^ k)
    by_cases he : a / 256 ^ k = b / 256 ^ k
    · rw [he]
      have hm : a % 256 ^ k < b % 256 ^ k := by rw [he] at ea; omega
      have ih := be_diff k (a % 256 ^ k) (b % 256 ^ k) (Nat.mod_lt _ hp) (Nat.mod_lt _ hp) hm
      rw [be_mod, be_mod] at ih
      exact ih.cons _
    · have hlt : a / 256 ^ k < b / 256 ^ k := by omega
      have e1 : (UInt8.ofNat (a / 256 ^ k)).toNat = a / 256 ^ k := ofNat_toNat8 _ h1
      have e2 : (UInt8.ofNat (b / 256 ^ k)).toNat = b / 256 ^ k := ofNat_toNat8 _ h2
      have hd := Diff.here (x := UInt8.ofNat (a / 256 ^ k)) (y := UInt8.ofNat (b / 256 ^ k)) (fun e => by have := congrArg UInt8.toNat e; omega) (be k a) (be k b)
      rw [e1, e2, sg_lt (by omega)] at hd
      exact hd
theorem be_cmp (k a b : Nat) (ha : a < 256 ^ k) (hb : b < 256 ^ k) (h : a ≠ b) : Diff (sg a b) (be k a) (be k b) := by
  rcases Nat.lt_or_ge a b with h1 | h1
  · rw [sg_lt (by omega)]; exact be_diff k a b ha hb h1
  · rw [sg_gt (by omega)]
    have := (be_diff k b a hb ha (by omega)).swap
    simpa using this
theorem pow8 : (256 : Nat) ^ 8 = 18446744073709551616 := by decide
theorem nanB_eq {n : Nat} (hn : n < 18446744073709551616) : nanB n = decide (9218868437227405312 < n % 9223372036854775808) := by
  unfold nanB
  by_cases h : 9218868437227405312 < n % 9223372036854775808
  · rw [order_nan_l h, decide_eq_true h]; rfl
  · rw [order_sv hn hn (by omega) (by omega), ordInt_eq rfl, decide_eq_false h]; rfl
theorem turn_sm {a b : Nat} (ha : a < 18446744073709551616) (hb : b < 18446744073709551616) (h : sm a < sm b) : turnN a < turnN b := by
  unfold sm at h
  unfold turnN
  repeat' split
  all_goals (repeat' split at h)
  all_goals omega
theorem sm_eq {a b : Nat} (ha : a < 18446744073709551616) (hb : b < 18446744073709551616) (h : sm a = sm b) (hne : a ≠ b) : (a = 9223372036854775808 ∧ b = 0) ∨ (a = 0 ∧ b = 9223372036854775808) := by
  unfold sm at h
  repeat' split at h
  all_goals omega
/-- Floats that are no NaN, by their bits' keys. -/
theorem turn_cmp {a b : Nat} (ha : a < 18446744073709551616) (hb : b < 18446744073709551616) (hne : a ≠ b) : turnN a ≠ turnN b := by
  intro e
  have h1 := back_turn a ha
  have h2 := back_turn b hb
  rw [e] at h1
  exact hne (h1.symm.trans h2)
theorem turn_diff {a b : Nat} (ha : a < 18446744073709551616) (hb : b < 18446744073709551616) (hlt : turnN a < turnN b) : Diff (-1) (be 8 (turnN a)) (be 8 (turnN b)) :=
  be_diff 8 _ _ (by rw [pow8]; exact turn_lt a ha) (by rw [pow8]; exact turn_lt b hb) hlt
theorem turn_diff' {a b : Nat} (ha : a < 18446744073709551616) (hb : b < 18446744073709551616) (hlt : turnN b < turnN a) : Diff 1 (be 8 (turnN a)) (be 8 (turnN b)) := by
  have := (turn_diff hb ha hlt).swap
  simpa using this
theorem sv_neg0 : sv 9223372036854775808 = 0 := by unfold sv; rw [if_neg (by omega)]; decide
theorem sv_0 : sv 0 = 0 := by unfold sv; rw [if_pos (by omega)]; decide
theorem turn_neg0 : turnN 9223372036854775808 < turnN 0 := by decide
theorem fl_pos (i : Int) (h : 0 ≤ i) : (fl i).1 < 9223372036854775808 := by
  unfold fl
  rw [if_pos h]
  show Ieee.double.nearest false _ 0 < _
  unfold Format.nearest
  split
  · unfold Format.word; simp
  · unfold Format.word
    simp only [Bool.false_eq_true, if_false, dbl_inf]
    exact Nat.lt_of_le_of_lt (Nat.min_le_right _ _) (by omega)
theorem mul_pos_lt {i j : Int} (h : i < j) : i * (U1 : Int) < j * (U1 : Int) := Int.mul_lt_mul_of_pos_right h (by have := U1_pos; omega)
theorem mul_inj {i j : Int} (h : i * (U1 : Int) = j * (U1 : Int)) : i = j := by
  rcases Int.lt_trichotomy i j with h1 | h1 | h1
  · have := mul_pos_lt h1; omega
  · exact h1
  · have := mul_pos_lt h1; omega
theorem fl_nz (i : Int) (h1 : -9223372036854775808 ≤ i) (h2 : i ≤ 9223372036854775807) : (fl i).1 ≠ 9223372036854775808 := by
  intro e
  by_cases h : 0 ≤ i
  · have := fl_pos i h; omega
  · have hu := fl_under i h1 h2
    have hv := hu.val
    rw [e, sv_neg0] at hv
    have := mul_inj (i := 0) (j := i - ((fl i).2 : Int)) (by rw [Int.zero_mul]; exact hv)
    omega
/-- Two Ints' keys. -/
theorem int_diff (a b : Nat) (ha : a < 18446744073709551616) (hb : b < 18446744073709551616) (h : i64 a < i64 b) : Diff (-1) (keyInt a) (keyInt b) := by
  have ra := i64_range a ha
  have rb := i64_range b hb
  have ua := fl_under _ ra.1 ra.2
  have ub := fl_under _ rb.1 rb.2
  have na := fl_nz _ ra.1 ra.2
  have nb := fl_nz _ rb.1 rb.2
  have sa := (floor_cases _ ra.1 ra.2).small
  have sb := (floor_cases _ rb.1 rb.2).small
  unfold keyInt
  generalize (fl (i64 a)).1 = F at ua na ⊢
  generalize (fl (i64 a)).2 = r at ua sa ⊢
  generalize (fl (i64 b)).1 = G at ub nb ⊢
  generalize (fl (i64 b)).2 = s at ub sb ⊢
  refine Diff.cons ?_ 1
  have h1 : sv F ≤ sv G := ub.top F (by rw [ua.val]; have := mul_pos_lt h; have : (i64 a - (r : Int)) * (U1 : Int) ≤ i64 a * (U1 : Int) := Int.mul_le_mul_of_nonneg_right (by omega) (by omega); omega)
  rcases Int.lt_or_eq_of_le h1 with h1 | h1
  · exact (turn_diff ua.bits ub.bits (turn_sm ua.bits ub.bits ((sv_lt _ _).1 h1))).right _ _
  · have hFG : F = G := by
      refine Decidable.byContradiction fun hne => ?_
      rcases sm_eq ua.bits ub.bits ((sv_eq _ _).1 h1) hne with ⟨e, _⟩ | ⟨_, e⟩
      · exact na e
      · exact nb e
    subst hFG
    have e := mul_inj (ua.val.symm.trans ub.val)
    refine Diff.left (Diff.right (be_diff 2 r s (by omega) (by omega) (by omega)) _ _) _
/-- An Int's key and a Float's. -/
theorem mix_diff (a f : Nat) (ha : a < 18446744073709551616) (hf : f < 18446744073709551616) : Diff (mixC (i64 a) f) (keyInt a) (1 :: (be 8 (turnN f) ++ [0, 0, 1])) := by
  have ra := i64_range a ha
  have ua := fl_under _ ra.1 ra.2
  have na := fl_nz _ ra.1 ra.2
  have sa := (floor_cases _ ra.1 ra.2).small
  unfold keyInt
  generalize i64 a = i at ua na sa ra ⊢
  generalize (fl i).1 = F at ua na ⊢
  generalize (fl i).2 = r at ua sa ⊢
  refine Diff.cons ?_ 1
  have hle : sv F ≤ i * (U1 : Int) := by rw [ua.val]; exact Int.mul_le_mul_of_nonneg_right (by omega) (by omega)
  unfold mixC
  by_cases c1 : i * (U1 : Int) < sv f
  · rw [if_pos c1]
    exact (turn_diff ua.bits hf (turn_sm ua.bits hf ((sv_lt _ _).1 (by omega)))).right _ _
  rw [if_neg c1]
  have hfF := ua.top f (by omega)
  by_cases c2 : sv f < sv F
  · have hd := (turn_diff' ua.bits hf (turn_sm hf ua.bits ((sv_lt _ _).1 c2)))
    rw [if_pos (by omega)]
    exact hd.right _ _
  have heq : sv f = sv F := by omega
  by_cases c3 : f = F
  · subst c3
    by_cases hr : r = 0
    · subst hr
      have : sv f = i * (U1 : Int) := by rw [ua.val]; simp
      rw [if_neg (by omega), if_neg na]
      have e : (be 2 0 ++ [0] : List UInt8) = [0, 0] ++ [0] := by decide
      rw [e]
      exact Diff.left (Diff.left (Diff.here (x := 0) (y := 1) (by decide) [] []) [0, 0]) _
    · have hlt : sv f < i * (U1 : Int) := by rw [ua.val]; exact mul_pos_lt (by omega)
      rw [if_pos hlt]
      have hd := (be_diff 2 0 r (by omega) (by omega) (by omega)).swap
      have e : be 2 0 = [0, 0] := by decide
      rw [e] at hd
      have := (Diff.right hd [0] [1]).left (be 8 (turnN f))
      simpa using this
  · rcases sm_eq hf ua.bits ((sv_eq _ _).1 heq) c3 with ⟨e1, e2⟩ | ⟨_, e⟩
    · subst e1 e2
      have hd := (turn_diff' ua.bits hf turn_neg0).right (be 2 r ++ [0]) [0, 0, 1]
      split
      · exact hd
      · rw [if_pos rfl]; exact hd
    · exact absurd e na
theorem float_diff (a b : Nat) (ha : a < 18446744073709551616) (hb : b < 18446744073709551616) (hne : a ≠ b) :
    Diff (if sv a < sv b then -1 else if sv b < sv a then 1 else sg ((b / 9223372036854775808 : Nat) : Int) ((a / 9223372036854775808 : Nat) : Int)) (be 8 (turnN a) ++ [0, 0, 1]) (be 8 (turnN b) ++ [0, 0, 1]) := by
  by_cases c1 : sv a < sv b
  · rw [if_pos c1]; exact (turn_diff ha hb (turn_sm ha hb ((sv_lt _ _).1 c1))).right _ _
  rw [if_neg c1]
  by_cases c2 : sv b < sv a
  · rw [if_pos c2]; exact (turn_diff' ha hb (turn_sm hb ha ((sv_lt _ _).1 c2))).right _ _
  rw [if_neg c2]
  rcases sm_eq ha hb ((sv_eq _ _).1 (by omega)) hne with ⟨e1, e2⟩ | ⟨e1, e2⟩
  · subst e1 e2; exact (turn_diff ha hb turn_neg0).right _ _
  · subst e1 e2; exact (turn_diff' ha hb turn_neg0).right _ _
/-- A number's key. -/
def numKey (k : Int) (n : Nat) : List UInt8 := if k = 3 then keyInt n else keyFloat n
theorem i64_inj {a b : Nat} (ha : a < 18446744073709551616) (hb : b < 18446744073709551616) (h : i64 a = i64 b) : a = b := by
  unfold i64 at h
  repeat' split at h
  all_goals omega
theorem num_diff (k k' : Int) (a b : Nat) (hk : k = 3 ∨ k = 4) (hk' : k' = 3 ∨ k' = 4) (ha : a < 18446744073709551616) (hb : b < 18446744073709551616) :
    (k = k' ∧ a = b ∧ numC k a k' b = 0) ∨ Diff (numC k a k' b) (numKey k a) (numKey k' b) := by
  have h43 : ¬ (4 : Int) = 3 := by decide
  have hneg : sg 1 0 = 1 := by decide
  unfold numC numKey
  rcases hk with rfl | rfl
  · simp only [if_true]
    rcases hk' with rfl | rfl
    · simp only [if_true]
      rcases Int.lt_trichotomy (i64 a) (i64 b) with h | h | h
      · rw [sg_lt h]; exact .inr (int_diff a b ha hb h)
      · exact .inl ⟨trivial, i64_inj ha hb h, sg_eq h⟩
      · rw [sg_gt h]; right; have := (int_diff b a hb ha h).swap; simpa using this
    · simp only [if_neg h43]
      right
      unfold keyFloat
      by_cases hn : nanB b = true
      · simp only [if_pos hn]; exact Diff.here (x := 1) (y := 0) (by decide) _ _
      · simp only [if_neg hn]; exact mix_diff a b ha hb
  · simp only [if_neg h43]
    unfold keyFloat
    by_cases hn : nanB a = true
    · simp only [if_pos hn]
      rcases hk' with rfl | rfl
      · simp only [if_true]; right; exact Diff.here (x := 0) (y := 1) (by decide) _ _
      · simp only [if_neg h43]
        by_cases hm : nanB b = true
        · simp only [if_pos hm]
          by_cases hab : a = b
          · subst hab; exact .inl ⟨trivial, rfl, sg_eq rfl⟩
          · right; exact (be_cmp 8 a b (by rw [pow8]; exact ha) (by rw [pow8]; exact hb) hab).cons 0
        · simp only [if_neg hm]; right; exact Diff.here (x := 0) (y := 1) (by decide) _ _
    · simp only [if_neg hn]
      rcases hk' with rfl | rfl
      · simp only [if_true]; right; exact (mix_diff b a hb ha).swap
      · simp only [if_neg h43]
        by_cases hm : nanB b = true
        · simp only [if_pos hm]; right; exact Diff.here (x := 1) (y := 0) (by decide) _ _
        · simp only [if_neg hm]
          by_cases hab : a = b
          · subst hab
            refine .inl ⟨trivial, rfl, ?_⟩
            rw [if_neg (by omega), if_neg (by omega)]; exact sg_eq rfl
          · right; exact (float_diff a b ha hb hab).cons 1

/-! Texts and parts. -/

theorem orC_0 (b : Int) : orC 0 b = b := rfl
theorem orC_n {a : Int} (b : Int) (h : a ≠ 0) : orC a b = a := by unfold orC; rw [if_neg h]
theorem cmpB_eq0 : ∀ {a b : List UInt8}, Lib.compareBytes a b = 0 → a = b
  | [], [], _ => rfl
  | [], _ :: _, h => by simp [Lib.compareBytes] at h
  | _ :: _, [], h => by simp [Lib.compareBytes] at h
  | x :: a, y :: b, h => by
    rw [Lib.compareBytes] at h
    split at h
    · cases h
    · split at h
      · cases h
      · rename_i h1 h2
        simp only [UInt8.lt_iff_toNat_lt] at h1 h2
        have : x = y := UInt8.toNat_inj.1 (by omega)
        rw [this, cmpB_eq0 h]
theorem cmpB_self : ∀ a : List UInt8, Lib.compareBytes a a = 0
  | [] => rfl
  | x :: a => by rw [Lib.compareBytes, if_neg (by simp), if_neg (by simp), cmpB_self a]
/-- Bytes whose end is told. -/
theorem esc_diff : ∀ (a b : List UInt8), a ≠ b → Diff (Lib.compareBytes a b) (esc a) (esc b)
  | [], [], h => absurd rfl h
  | [], y :: b, _ => by
    have e : esc ([] : List UInt8) = [0, 0] := rfl
    rw [e]
    unfold esc
    rw [escB]
    split
    · rename_i h; subst h
      exact (Diff.here (x := 0) (y := 255) (by decide) [] _).cons 0
    · rename_i h
      have hy : 0 < y.toNat := Nat.pos_of_ne_zero (fun e => h (UInt8.toNat_inj.1 e))
      have := Diff.here (x := 0) (y := y) (fun e => h e.symm) [0] (escB b ++ [0, 0])
      rw [show ((0 : UInt8).toNat : Int) = 0 from rfl, sg_lt (by omega)] at this
      exact this
  | x :: a, [], _ => by
    have e : esc ([] : List UInt8) = [0, 0] := rfl
    rw [e]
    unfold esc
    rw [escB]
    split
    · rename_i h; subst h
      exact (Diff.here (x := 255) (y := 0) (by decide) _ []).cons 0
    · rename_i h
      have hy : 0 < x.toNat := Nat.pos_of_ne_zero (fun e => h (UInt8.toNat_inj.1 e))
      have := Diff.here (x := x) (y := 0) h (escB a ++ [0, 0]) [0]
      rw [show ((0 : UInt8).toNat : Int) = 0 from rfl, sg_gt (by omega)] at this
      exact this
  | x :: a, y :: b, h => by
    by_cases hxy : x = y
    · subst hxy
      have hab : a ≠ b := fun e => h (by rw [e])
      have ih := esc_diff a b hab
      have e : Lib.compareBytes (x :: a) (x :: b) = Lib.compareBytes a b := cmpB_left [x] a b
      rw [e]
      unfold esc at ih ⊢
      rw [escB, escB]
      split
      · exact (ih.cons 255).cons 0
      · exact ih.cons x
    · have hc : Lib.compareBytes (x :: a) (y :: b) = sg (x.toNat : Int) (y.toNat : Int) := (Diff.here hxy a b).cmp
      rw [hc]
      unfold esc
      rw [escB, escB]
      by_cases hx : x = 0
      · subst hx
        rw [if_pos rfl, if_neg (fun e => hxy e.symm)]
        exact Diff.here hxy _ _
      · rw [if_neg hx]
        by_cases hy : y = 0
        · subst hy; rw [if_pos rfl]; exact Diff.here hxy _ _
        · rw [if_neg hy]; exact Diff.here hxy _ _

namespace V
/-- How two good values' keys stand to each other. -/
def KD (u v : V) : Prop := (u = v ∧ cmp u v = 0) ∨ Diff (cmp u v) u.key v.key
theorem list_diff : ∀ (l l' : List V), (∀ x ∈ l, ∀ y ∈ l', KD x y) →
    (l = l' ∧ cmpL l l' = 0) ∨ Diff (orC (cmpL l l') (sg (l.length : Int) (l'.length : Int))) ((l.map keyL).flatten ++ [0]) ((l'.map keyL).flatten ++ [0])
  | [], [], _ => .inl ⟨rfl, rfl⟩
  | [], y :: l', _ => by
    right
    have e : orC (cmpL [] (y :: l')) (sg (([] : List V).length : Int) ((y :: l').length : Int)) = -1 := by
      show orC 0 _ = _; rw [orC_0]; exact sg_lt (by simp)
    rw [e]
    exact Diff.here (x := 0) (y := 1) (by decide) [] _
  | x :: l, [], _ => by
    right
    have e : orC (cmpL (x :: l) []) (sg ((x :: l).length : Int) (([] : List V).length : Int)) = 1 := by
      show orC 0 _ = _; rw [orC_0]; exact sg_gt (by simp)
    rw [e]
    exact Diff.here (x := 1) (y := 0) (by decide) _ []
  | x :: l, y :: l', h => by
    have e : cmpL (x :: l) (y :: l') = orC (cmp x y) (cmpL l l') := rfl
    have k1 : ((x :: l).map keyL).flatten ++ [0] = 1 :: (x.key ++ ((l.map keyL).flatten ++ [0])) := by simp [keyL]
    have k2 : ((y :: l').map keyL).flatten ++ [0] = 1 :: (y.key ++ ((l'.map keyL).flatten ++ [0])) := by simp [keyL]
    rw [e, k1, k2]
    rcases h x List.mem_cons_self y List.mem_cons_self with ⟨rfl, h0⟩ | hd
    · rw [h0, orC_0]
      rcases list_diff l l' (fun a ha b hb => h a (List.mem_cons_of_mem _ ha) b (List.mem_cons_of_mem _ hb)) with ⟨rfl, h1⟩ | hd
      · exact .inl ⟨rfl, h1⟩
      · right
        have e : sg ((x :: l).length : Int) ((x :: l').length : Int) = sg (l.length : Int) (l'.length : Int) := by unfold sg; simp
        rw [e]
        exact (hd.left x.key).cons 1
    · right
      rw [orC_n _ hd.ne0, orC_n _ hd.ne0]
      exact (hd.right _ _).cons 1
theorem toList_inj {a b : ByteArray} (h : a.data.toList = b.data.toList) : a = b := by
  cases a; cases b; simp at h; rw [h]
theorem doc_diff : ∀ (l l' : List (ByteArray × V)), (∀ x ∈ l, ∀ y ∈ l', KD x.2 y.2) →
    (l = l' ∧ cmpF l l' = 0) ∨ Diff (orC (cmpF l l') (sg (l.length : Int) (l'.length : Int))) ((l.map keyFd).flatten ++ [0]) ((l'.map keyFd).flatten ++ [0])
  | [], [], _ => .inl ⟨rfl, rfl⟩
  | [], y :: l', _ => by
    right
    have e : orC (cmpF [] (y :: l')) (sg (([] : List (ByteArray × V)).length : Int) ((y :: l').length : Int)) = -1 := by
      show orC 0 _ = _; rw [orC_0]; exact sg_lt (by simp)
    rw [e]
    exact Diff.here (x := 0) (y := 1) (by decide) [] _
  | x :: l, [], _ => by
    right
    have e : orC (cmpF (x :: l) []) (sg ((x :: l).length : Int) (([] : List (ByteArray × V)).length : Int)) = 1 := by
      show orC 0 _ = _; rw [orC_0]; exact sg_gt (by simp)
    rw [e]
    exact Diff.here (x := 1) (y := 0) (by decide) _ []
  | (s, x) :: l, (t, y) :: l', h => by
    have e : cmpF ((s, x) :: l) ((t, y) :: l') = orC (orC (Lib.compareBytes s.data.toList t.data.toList) (cmp x y)) (cmpF l l') := rfl
    have k1 : (((s, x) :: l).map keyFd).flatten ++ [0] = 1 :: (esc s.data.toList ++ (x.key ++ ((l.map keyFd).flatten ++ [0]))) := by simp [keyFd]
    have k2 : (((t, y) :: l').map keyFd).flatten ++ [0] = 1 :: (esc t.data.toList ++ (y.key ++ ((l'.map keyFd).flatten ++ [0]))) := by simp [keyFd]
    rw [e, k1, k2]
    by_cases hst : s.data.toList = t.data.toList
    · obtain rfl := toList_inj hst
      rw [cmpB_self, orC_0]
      rcases h (s, x) List.mem_cons_self (s, y) List.mem_cons_self with ⟨h00, h0⟩ | hd
      · simp only at h00 h0
        subst h00
        rw [h0, orC_0]
        rcases doc_diff l l' (fun a ha b hb => h a (List.mem_cons_of_mem _ ha) b (List.mem_cons_of_mem _ hb)) with ⟨rfl, h1⟩ | hd
        · exact .inl ⟨rfl, h1⟩
        · right
          have e : sg (((s, x) :: l).length : Int) (((s, x) :: l').length : Int) = sg (l.length : Int) (l'.length : Int) := by unfold sg; simp
          rw [e]
          exact ((hd.left x.key).left (esc s.data.toList)).cons 1
      · right
        simp only at hd
        rw [orC_n _ hd.ne0, orC_n _ hd.ne0]
        exact ((hd.right _ _).left (esc s.data.toList)).cons 1
    · right
      have hd := esc_diff _ _ hst
      rw [orC_n (cmp x y) hd.ne0, orC_n _ hd.ne0, orC_n _ hd.ne0]
      exact (hd.right _ _).cons 1
theorem head_diff {x y : UInt8} {a b : List UInt8} {c : Int} (h : x ≠ y) (hc : c = sg (x.toNat : Int) (y.toNat : Int)) : Diff c (x :: a) (y :: b) := hc ▸ Diff.here h a b
theorem ofNat8_inj {a b : Nat} (ha : a < 256) (hb : b < 256) (h : UInt8.ofNat a = UInt8.ofNat b) : a = b := by
  have := congrArg UInt8.toNat h
  rwa [ofNat_toNat8 a ha, ofNat_toNat8 b hb] at this
/-- The number of a value's class in its key. -/
def hd (k : Int) : UInt8 := if k = 1 then 16 else if k = 2 then 32 else if k = 3 then 48 else if k = 4 then 48 else if k = 5 then 64 else if k = 6 then 80 else if k = 7 then 96 else 112
theorem key_hd {k : Int} {n : Nat} {b : List UInt8} {l : List V} {f : List (ByteArray × V)} (h : (mk k n b l f).formed = true) : (1 ≤ k ∧ k ≤ 8) ∧ ∃ r, (mk k n b l f).key = hd k :: r := by
  rcases formed_cases h with h | ⟨n', hn', h⟩ | ⟨n', h⟩ | ⟨n', h⟩ | ⟨b', hb', h⟩ | ⟨b', h⟩ | ⟨l', hl', h⟩ | ⟨f', hf', hnd, h⟩ <;> cases h <;> exact ⟨by decide, _, by rw [key_mk]; rfl⟩
theorem hd_cls {k k' : Int} (h : 1 ≤ k ∧ k ≤ 8) (h' : 1 ≤ k' ∧ k' ≤ 8) (hne : cls k ≠ cls k') : hd k ≠ hd k' ∧ sg (cls k) (cls k') = sg ((hd k).toNat : Int) ((hd k').toNat : Int) := by
  have a : k = 1 ∨ k = 2 ∨ k = 3 ∨ k = 4 ∨ k = 5 ∨ k = 6 ∨ k = 7 ∨ k = 8 := by omega
  have b : k' = 1 ∨ k' = 2 ∨ k' = 3 ∨ k' = 4 ∨ k' = 5 ∨ k' = 6 ∨ k' = 7 ∨ k' = 8 := by omega
  rcases a with rfl | rfl | rfl | rfl | rfl | rfl | rfl | rfl <;> rcases b with rfl | rfl | rfl | rfl | rfl | rfl | rfl | rfl <;> first | exact absurd rfl hne | exact ⟨by decide, by decide⟩
theorem number_key {k : Int} (hk : k = 3 ∨ k = 4) (n : Nat) : (mk k n [] [] []).key = 48 :: numKey k n := by
  rcases hk with rfl | rfl
  · rw [key_mk]; rfl
  · rw [key_mk]; rfl
theorem number_cmp {k k' : Int} (hk : k = 3 ∨ k = 4) (hk' : k' = 3 ∨ k' = 4) (n n' : Nat) : cmp (mk k n [] [] []) (mk k' n' [] [] []) = numC k n k' n' := by
  rw [cmp_mk, if_neg, if_neg (by omega), if_pos hk]
  rcases hk with rfl | rfl <;> rcases hk' with rfl | rfl <;> decide
theorem number_KD {k k' : Int} (hk : k = 3 ∨ k = 4) (hk' : k' = 3 ∨ k' = 4) {n n' : Nat} (ha : n < 18446744073709551616) (hb : n' < 18446744073709551616) : KD (mk k n [] [] []) (mk k' n' [] [] []) := by
  unfold KD
  rw [number_key hk, number_key hk', number_cmp hk hk']
  rcases num_diff k k' n n' hk hk' ha hb with ⟨rfl, rfl, h⟩ | h
  · exact .inl ⟨rfl, h⟩
  · exact .inr (h.cons 48)
theorem flat_KD {k : Int} (hk : k = 5 ∨ k = 6) (b b' : List UInt8) : KD (mk k 0 b [] []) (mk k 0 b' [] []) := by
  have e : ∀ b, (mk k 0 b [] []).key = hd k :: esc b := by intro b; rcases hk with rfl | rfl <;> rw [key_mk] <;> rfl
  have c : cmp (mk k 0 b [] []) (mk k 0 b' [] []) = Lib.compareBytes b b' := by
    rw [cmp_mk, if_neg (by simp), if_neg (by omega), if_neg (by omega), if_pos hk]
  unfold KD
  rw [e, e, c]
  by_cases h : b = b'
  · subst h; exact .inl ⟨rfl, cmpB_self b⟩
  · exact .inr ((esc_diff b b' h).cons _)
/-- Good values stand to one another as their keys; these differ somewhere. -/
theorem key_diff (u : V) : ∀ v : V, u.formed = true → u.fit → v.formed = true → v.fit → KD u v := by
  induction u using V.ind with
  | h k n b l f hl hf =>
    intro v hu fu hv fv
    obtain ⟨k', n', b', l', f'⟩ := v
    by_cases hcl : cls k ≠ cls k'
    · obtain ⟨r1, q1, e1⟩ := key_hd hu
      obtain ⟨r2, q2, e2⟩ := key_hd hv
      obtain ⟨h1, h2⟩ := hd_cls r1 r2 hcl
      right
      rw [cmp_mk, if_pos hcl, e1, e2]
      exact head_diff h1 h2
    have hcl : cls k = cls k' := Decidable.byContradiction hcl
    have hu' := hu
    have hv' := hv
    rw [V.fit] at fu fv
    rcases formed_cases hu with h | ⟨m, hm, h⟩ | ⟨m, h⟩ | ⟨m, h⟩ | ⟨m, hm, h⟩ | ⟨m, h⟩ | ⟨m, hm, h⟩ | ⟨m, hm, hnd, h⟩ <;> cases h <;>
    rcases formed_cases hv with h | ⟨m', hm', h⟩ | ⟨m', h⟩ | ⟨m', h⟩ | ⟨m', hm', h⟩ | ⟨m', h⟩ | ⟨m', hm', h⟩ | ⟨m', hm', hnd', h⟩ <;> cases h <;>
    first
    | exact absurd hcl (by decide)
    | exact number_KD (by decide) (by decide) fu.1 fv.1
    | exact flat_KD (by decide) _ _
    | skip
    · exact .inl ⟨rfl, by rw [cmp_mk]; rfl⟩
    · have e : ∀ n : Nat, (mk 2 n [] [] []).key = [32, UInt8.ofNat n] := by intro n; rw [key_mk]; rfl
      have c : cmp (mk 2 n [] [] []) (mk 2 n' [] [] []) = sg n n' := by rw [cmp_mk]; rfl
      unfold KD
      rw [e, e, c]
      by_cases h : n = n'
      · subst h; exact .inl ⟨rfl, sg_eq rfl⟩
      · right
        refine Diff.cons (head_diff (fun e => h (ofNat8_inj (by omega) (by omega) e)) ?_) 32
        rw [ofNat_toNat8 n (by omega), ofNat_toNat8 n' (by omega)]
    · have e : ∀ l : List V, (mk 7 0 [] l []).key = 96 :: ((l.map keyL).flatten ++ [0]) := by intro l; rw [key_mk]; rfl
      have c : cmp (mk 7 0 [] l []) (mk 7 0 [] l' []) = orC (cmpL l l') (sg (l.length : Int) (l'.length : Int)) := by
        rw [cmp_mk, if_neg (by simp), if_neg (by decide), if_neg (by decide), if_neg (by decide)]
        have : cmpF [] [] = 0 := rfl
        rw [this]
        simp only [List.length_nil, Nat.add_zero]
        congr 1
        unfold orC; split <;> simp_all
      unfold KD
      rw [e, e, c]
      rcases list_diff l l' (fun x hx y hy => hl x hx y (hm x hx) (fu.2.1 x hx) (hm' y hy) (fv.2.1 y hy)) with ⟨rfl, h⟩ | h
      · left; refine ⟨rfl, ?_⟩; rw [h, orC_0]; exact sg_eq rfl
      · exact .inr (h.cons 96)
    · have e : ∀ l : List (ByteArray × V), (mk 8 0 [] [] l).key = 112 :: ((l.map keyFd).flatten ++ [0]) := by intro l; rw [key_mk]; rfl
      have c : cmp (mk 8 0 [] [] f) (mk 8 0 [] [] f') = orC (cmpF f f') (sg (f.length : Int) (f'.length : Int)) := by
        rw [cmp_mk, if_neg (by simp), if_neg (by decide), if_neg (by decide), if_neg (by decide)]
        have : cmpL [] [] = 0 := rfl
        rw [this, orC_0]
        simp only [List.length_nil, Nat.zero_add]
      unfold KD
      rw [e, e, c]
      rcases doc_diff f f' (fun x hx y hy => hf x hx y.2 (hm x hx).2 (fu.2.2 x hx) (hm' y hy).2 (fv.2.2 y hy)) with ⟨rfl, h⟩ | h
      · left; refine ⟨rfl, ?_⟩; rw [h, orC_0]; exact sg_eq rfl
      · exact .inr (h.cons 112)
end V
end Go.Proofs.YtcdbchifigonpaaDoor
