/- The plain sum of bytes, and the frame at some bytes' beginning: what is written is found, a beginning wants more, a turned bit is seen. No program in sight. -/
import Derived.Test.YtojpeiihkjpeoaaDoorRd
set_option linter.unusedVariables false
set_option linter.unusedSimpArgs false
namespace Go.Proofs.YtojpeiihkjpeoaaDoor
open V

/-- One bit on. -/
def crcBit (r : Nat) : Nat := if r % 2 = 1 then (r / 2) ^^^ 3988292384 else r / 2
def crcBits : Nat → Nat → Nat
  | 0, r => r
  | k + 1, r => crcBits k (crcBit r)
/-- One byte on. -/
def crcByte (r : Nat) (x : UInt8) : Nat := crcBits 8 (r ^^^ x.toNat)
def crcMore (r : Nat) (b : List UInt8) : Nat := b.foldl crcByte r
/-- The sum of bytes. -/
def crc (b : List UInt8) : Nat := crcMore 4294967295 b ^^^ 4294967295

theorem xor_lt32 {a b : Nat} (ha : a < 4294967296) (hb : b < 4294967296) : a ^^^ b < 4294967296 := Nat.xor_lt_two_pow (n := 32) (by simpa using ha) (by simpa using hb)
theorem crcBit_lt {r : Nat} (h : r < 4294967296) : crcBit r < 4294967296 := by
  unfold crcBit
  split
  · exact xor_lt32 (by omega) (by decide)
  · omega
theorem crcBits_lt : ∀ (k : Nat) {r : Nat}, r < 4294967296 → crcBits k r < 4294967296
  | 0, _, h => h
  | k + 1, _, h => crcBits_lt k (crcBit_lt h)
theorem crcByte_lt {r : Nat} (h : r < 4294967296) (x : UInt8) : crcByte r x < 4294967296 := crcBits_lt 8 (xor_lt32 h (by have := x.toNat_lt; omega))
theorem crcMore_lt : ∀ (b : List UInt8) {r : Nat}, r < 4294967296 → crcMore r b < 4294967296
  | [], _, h => h
  | x :: b, _, h => crcMore_lt b (crcByte_lt h x)
theorem crcBits_succ (k r : Nat) : crcBits (k + 1) r = crcBit (crcBits k r) := by
  induction k generalizing r with
  | zero => rfl
  | succ k ih => rw [crcBits, ih, crcBits]
theorem crc_lt (b : List UInt8) : crc b < 4294967296 := xor_lt32 (crcMore_lt b (by decide)) (by decide)

/-! The sum tells bytes apart that differ in one. -/
theorem xor_cancel {a b c : Nat} (h : a ^^^ c = b ^^^ c) : a = b := by
  have := congrArg (· ^^^ c) h
  simpa [Nat.xor_assoc] using this
theorem crcBit_inj {r s : Nat} (hr : r < 4294967296) (hs : s < 4294967296) (h : crcBit r = crcBit s) : r = s := by
  have top : ∀ x : Nat, x < 4294967296 → ((x / 2) ^^^ 3988292384).testBit 31 = true := fun x hx => by
    rw [Nat.testBit_xor, Nat.testBit_lt_two_pow (show x / 2 < 2 ^ 31 by omega)]
    decide
  have low : ∀ x : Nat, x < 4294967296 → (x / 2).testBit 31 = false := fun x hx => Nat.testBit_lt_two_pow (show x / 2 < 2 ^ 31 by omega)
  unfold crcBit at h
  split at h <;> split at h
  · have := xor_cancel h; omega
  · have h1 := top r hr; have h2 := low s hs; rw [h] at h1; rw [h1] at h2; cases h2
  · have h1 := top s hs; have h2 := low r hr; rw [← h] at h1; rw [h1] at h2; cases h2
  · omega
theorem crcBits_inj : ∀ (k : Nat) {r s : Nat}, r < 4294967296 → s < 4294967296 → crcBits k r = crcBits k s → r = s
  | 0, _, _, _, _, h => h
  | k + 1, _, _, hr, hs, h => crcBit_inj hr hs (crcBits_inj k (crcBit_lt hr) (crcBit_lt hs) h)
theorem crcMore_inj : ∀ (b : List UInt8) {r s : Nat}, r < 4294967296 → s < 4294967296 → crcMore r b = crcMore s b → r = s
  | [], _, _, _, _, h => h
  | x :: b, r, s, hr, hs, h => by
    have hx : x.toNat < 4294967296 := by have := x.toNat_lt; omega
    have h1 := crcMore_inj b (crcByte_lt hr x) (crcByte_lt hs x) h
    exact xor_cancel (crcBits_inj 8 (xor_lt32 hr hx) (xor_lt32 hs hx) h1)
theorem crc_set (b : List UInt8) (i : Nat) (hi : i < b.length) (y : UInt8) (hy : y ≠ b[i]) : crc (b.set i y) ≠ crc b := by
  intro h
  have h := xor_cancel h
  have e1 : b = b.take i ++ b[i] :: b.drop (i + 1) := by rw [List.getElem_cons_drop, List.take_append_drop]
  have e2 : b.set i y = b.take i ++ y :: b.drop (i + 1) := by rw [List.set_eq_take_append_cons_drop, if_pos hi]
  rw [e2] at h
  have h2 : crcMore 4294967295 b = crcMore 4294967295 (b.take i ++ b[i] :: b.drop (i + 1)) := by rw [← e1]
  rw [h2] at h
  unfold crcMore at h
  rw [List.foldl_append, List.foldl_append, List.foldl_cons, List.foldl_cons] at h
  have hr : (b.take i).foldl crcByte 4294967295 < 4294967296 := crcMore_lt (b.take i) (by decide)
  have h3 := crcMore_inj (b.drop (i + 1)) (crcByte_lt hr y) (crcByte_lt hr b[i]) h
  have hx : ∀ z : UInt8, z.toNat < 4294967296 := fun z => by have := z.toNat_lt; omega
  have h4 := crcBits_inj 8 (xor_lt32 hr (hx y)) (xor_lt32 hr (hx b[i])) h3
  rw [Nat.xor_comm _ y.toNat, Nat.xor_comm _ b[i].toNat] at h4
  exact hy (UInt8.toNat_inj.1 (xor_cancel h4))

/-! Frames. -/
/-- A frame's bytes ahead of its sum. -/
def opened (body : List UInt8) : List UInt8 := 77 :: 68 :: (toLe 2 body.length ++ body)
/-- The frame of a body. -/
def frameOf (body : List UInt8) : List UInt8 := opened body ++ toLe 4 (crc (opened body))
theorem opened_length (body : List UInt8) : (opened body).length = body.length + 4 := by simp [opened, toLe_length]; omega
theorem frameOf_length (body : List UInt8) : (frameOf body).length = body.length + 8 := by simp [frameOf, toLe_length, opened_length]

/-- The frame at some bytes' beginning: its number of bytes; the error. -/
def headN (b : List UInt8) : Nat := le ((b.drop 2).take 2)
def head (b : List UInt8) : Nat × Int :=
  if (b.take 2).isPrefixOf [77, 68] = false then (0, 4)
  else if b.length < 4 then (0, 17)
  else if 12000 < headN b then (0, 2)
  else if b.length < headN b + 8 then (0, 17)
  else (headN b + 8, if le ((b.drop (headN b + 4)).take 4) = crc (b.take (headN b + 4)) then 0 else 8)

theorem le2 (n : Nat) (h : n < 65536) : le (toLe 2 n) = n := by rw [le_toLe]; omega
theorem le4 (n : Nat) (h : n < 4294967296) : le (toLe 4 n) = n := by rw [le_toLe]; omega
theorem headN_opened (l body : List UInt8) (h : l.length = 2) (x y : UInt8) : headN (x :: y :: (l ++ body)) = le l := by
  rw [headN, List.drop_succ_cons, List.drop_succ_cons, List.drop_zero, List.take_left' h]
/-- Bytes of a frame's form. -/
theorem head_form (n : Nat) (P S : List UInt8) (hP : P.length = n + 4) (h2 : P.take 2 = [77, 68]) (hn : headN P = n) (hl : n ≤ 12000) (hS : 4 ≤ S.length) : head (P ++ S) = (n + 8, if le (S.take 4) = crc P then 0 else 8) := by
  have e1 : (P ++ S).take 2 = [77, 68] := by rw [List.take_append_of_le_length (by omega), h2]
  have e2 : headN (P ++ S) = n := by
    rw [← hn]; unfold headN
    rw [List.drop_append_of_le_length (by omega), List.take_append_of_le_length (by rw [List.length_drop]; omega)]
  have e3 : (P ++ S).length = n + 4 + S.length := by rw [List.length_append, hP]
  unfold head
  rw [e1, e2, if_neg (by decide), if_neg (by omega), if_neg (by omega), if_neg (by omega), List.take_left' hP, List.drop_left' hP]
theorem opened_take (body : List UInt8) : (opened body).take 2 = [77, 68] := rfl
theorem opened_headN (body : List UInt8) (h : body.length ≤ 12000) : headN (opened body) = body.length := by
  unfold opened
  rw [headN_opened _ _ (toLe_length _ _), le2 _ (by omega)]
theorem head_frame (body t : List UInt8) (h : body.length ≤ 12000) : head (frameOf body ++ t) = (body.length + 8, 0) := by
  unfold frameOf
  rw [List.append_assoc, head_form body.length _ _ (opened_length _) (opened_take _) (opened_headN _ h) h (by simp [toLe_length]), List.take_left' (toLe_length _ _), le4 _ (crc_lt _), if_pos rfl]
theorem frame_body (body t : List UInt8) : ((frameOf body ++ t).drop 4).take body.length = body := by
  have e : frameOf body ++ t = (77 :: 68 :: toLe 2 body.length) ++ (body ++ (toLe 4 (crc (opened body)) ++ t)) := by simp [frameOf, opened]
  rw [e, List.drop_left' (by simp [toLe_length]), List.take_left' rfl]
theorem head_less (body : List UInt8) (k : Nat) (h : body.length ≤ 12000) (hk : k < body.length + 8) : head ((frameOf body).take k) = (0, 17) := by
  have hl : ((frameOf body).take k).length = k := by rw [List.length_take, frameOf_length]; omega
  have hp : (((frameOf body).take k).take 2).isPrefixOf [77, 68] = true := by
    rw [List.take_take]
    have e : frameOf body = 77 :: 68 :: (toLe 2 body.length ++ (body ++ toLe 4 (crc (opened body)))) := by simp [frameOf, opened]
    rw [e]
    have : min 2 k = 0 ∨ min 2 k = 1 ∨ min 2 k = 2 := by omega
    rcases this with h | h | h <;> rw [h] <;> rfl
  unfold head
  rw [hp, if_neg (by decide), hl]
  by_cases h4 : k < 4
  · rw [if_pos h4]
  · have hn : headN ((frameOf body).take k) = body.length := by
      unfold headN
      rw [List.drop_take, List.take_take, show min 2 (k - 2) = 2 by omega]
      have e : frameOf body = 77 :: 68 :: (toLe 2 body.length ++ (body ++ toLe 4 (crc (opened body)))) := by simp [frameOf, opened]
      rw [e, List.drop_succ_cons, List.drop_succ_cons, List.drop_zero, List.take_left' (toLe_length _ _), le2 _ (by omega)]
    rw [if_neg h4, hn, if_neg (by omega), if_pos hk]

theorem toLe_inj {k n : Nat} {l : List UInt8} (hl : l.length = k) (hn : n < 256 ^ k) (h : le l = n) : l = toLe k n := by
  subst h; subst hl; exact (toLe_le l).symm
theorem set_ne {l : List UInt8} {i : Nat} {y : UInt8} (hi : i < l.length) (hy : y ≠ l[i]) : l.set i y ≠ l := by
  intro h
  have : (l.set i y)[i]? = l[i]? := by rw [h]
  rw [List.getElem?_set_self hi, List.getElem?_eq_getElem hi] at this
  injection this with this
  exact hy this

/-- With one byte turned a frame is none, or a shorter one. -/
theorem head_turned (body : List UInt8) (h : body.length ≤ 12000) (i : Nat) (y : UInt8) (hi : i < (frameOf body).length) (hy : y ≠ (frameOf body)[i]) :
    (head ((frameOf body).set i y)).2 ≠ 0 ∨ ∃ n, n < body.length ∧ head ((frameOf body).set i y) = (n + 8, 0) ∧ (((frameOf body).set i y).drop 4).take n = body.take n := by
  have hF : frameOf body = opened body ++ toLe 4 (crc (opened body)) := rfl
  have hO : opened body = 77 :: 68 :: (toLe 2 body.length ++ body) := rfl
  by_cases h4 : body.length + 4 ≤ i
  · left
    have hset : (frameOf body).set i y = opened body ++ (toLe 4 (crc (opened body))).set (i - (opened body).length) y := by
      rw [hF, List.set_append, if_neg (by rw [opened_length]; omega)]
    have hj : i - (opened body).length < (toLe 4 (crc (opened body))).length := by rw [toLe_length, opened_length]; rw [frameOf_length] at hi; omega
    have hy' : y ≠ (toLe 4 (crc (opened body)))[i - (opened body).length] := by
      intro e; apply hy; rw [e]; simp only [hF]; rw [List.getElem_append_right (by rw [opened_length]; omega)]
    rw [hset, head_form body.length _ _ (opened_length _) (opened_take _) (opened_headN _ h) h (by rw [List.length_set, toLe_length]; omega)]
    have hl : ((toLe 4 (crc (opened body))).set (i - (opened body).length) y).length = 4 := by rw [List.length_set, toLe_length]
    rw [List.take_of_length_le (by rw [hl]; omega), if_neg]
    · show (8 : Int) ≠ 0; decide
    · intro e
      exact set_ne hj hy' (toLe_inj hl (by have := crc_lt (opened body); omega) e)
  by_cases h2 : i < 4
  · have hset : (frameOf body).set i y = (opened body).set i y ++ toLe 4 (crc (opened body)) := by
      rw [hF, List.set_append, if_pos (by rw [opened_length]; omega)]
    have hi' : i < (opened body).length := by rw [opened_length]; omega
    have hy' : y ≠ (opened body)[i] := by
      intro e; apply hy; rw [e]; simp only [hF]; rw [List.getElem_append_left hi']
    by_cases h0 : i = 0
    · subst h0
      left
      have hne : y ≠ 77 := hy'
      have : (((frameOf body).set 0 y).take 2).isPrefixOf [77, 68] = false := by
        rw [hF, hO]; show (y == 77 && _) = false; rw [beq_false_of_ne hne]; rfl
      unfold head
      rw [this, if_pos rfl]
      decide
    by_cases h1 : i = 1
    · subst h1
      left
      have hne : y ≠ 68 := hy'
      have : (((frameOf body).set 1 y).take 2).isPrefixOf [77, 68] = false := by
        rw [hF, hO]; show ((77 : UInt8) == 77 && (y == 68 && _)) = false; rw [beq_false_of_ne hne]; rfl
      unfold head
      rw [this, if_pos rfl]
      decide
    obtain ⟨j, rfl⟩ : ∃ j, i = j + 2 := ⟨i - 2, by omega⟩
    have hset2 : (opened body).set (j + 2) y = 77 :: 68 :: ((toLe 2 body.length).set j y ++ body) := by
      rw [hO, List.set_cons_succ, List.set_cons_succ, List.set_append, if_pos (by rw [toLe_length]; omega)]
    have hj : j < (toLe 2 body.length).length := by rw [toLe_length]; omega
    have hyj : y ≠ (toLe 2 body.length)[j] := by
      intro e; apply hy'; rw [e]; simp only [hO]; rw [List.getElem_cons_succ, List.getElem_cons_succ, List.getElem_append_left hj]
    have hl2 : ((toLe 2 body.length).set j y).length = 2 := by rw [List.length_set, toLe_length]
    have hlen : (frameOf body).length = body.length + 8 := frameOf_length body
    have hne : le ((toLe 2 body.length).set j y) ≠ body.length := fun e => set_ne hj hyj (toLe_inj hl2 (by omega) e)
    obtain ⟨n', hn'⟩ : ∃ n, le ((toLe 2 body.length).set j y) = n := ⟨_, rfl⟩
    rw [hn'] at hne
    have hN : headN ((frameOf body).set (j + 2) y) = n' := by
      rw [hset, hset2, List.cons_append, List.cons_append, List.append_assoc, headN_opened _ _ hl2, hn']
    have hP : (((frameOf body).set (j + 2) y).take 2).isPrefixOf [77, 68] = true := by rw [hset, hset2]; rfl
    unfold head
    rw [hP, hN, List.length_set, hlen, if_neg (by decide), if_neg (by omega)]
    by_cases a1 : 12000 < n'
    · left; rw [if_pos a1]; decide
    rw [if_neg a1]
    by_cases a2 : body.length + 8 < n' + 8
    · left; rw [if_pos a2]; decide
    rw [if_neg a2]
    split
    · right
      refine ⟨n', by omega, rfl, ?_⟩
      have e : (frameOf body).set (j + 2) y = (77 :: 68 :: (toLe 2 body.length).set j y) ++ (body ++ toLe 4 (crc (opened body))) := by rw [hset, hset2]; simp
      rw [e, List.drop_left' (by simp [hl2]), List.take_append_of_le_length (by omega)]
    · left; show (8 : Int) ≠ 0; decide
  · left
    have hi' : i < (opened body).length := by rw [opened_length]; omega
    have hset : (frameOf body).set i y = (opened body).set i y ++ toLe 4 (crc (opened body)) := by
      rw [hF, List.set_append, if_pos hi']
    have hy' : y ≠ (opened body)[i] := by
      intro e; apply hy; rw [e]; simp only [hF]; rw [List.getElem_append_left hi']
    obtain ⟨j, rfl⟩ : ∃ j, i = j + 2 := ⟨i - 2, by omega⟩
    have hset2 : (opened body).set (j + 2) y = 77 :: 68 :: (toLe 2 body.length ++ body.set (j - 2) y) := by
      rw [hO, List.set_cons_succ, List.set_cons_succ, List.set_append, if_neg (by rw [toLe_length]; omega), toLe_length]
    have hN : headN ((opened body).set (j + 2) y) = body.length := by rw [hset2, headN_opened _ _ (toLe_length _ _), le2 _ (by omega)]
    rw [hset, head_form body.length _ _ (by rw [List.length_set, opened_length]) (by rw [hset2]; rfl) hN h (by rw [toLe_length]; omega)]
    rw [List.take_of_length_le (by rw [toLe_length]; omega), le4 _ (crc_lt _), if_neg]
    · show (8 : Int) ≠ 0; decide
    · exact fun e => crc_set _ _ hi' y hy' e.symm

/-- What stands at the beginning, if there is a frame. -/
theorem head_sound {b : List UInt8} {m : Nat} (h : head b = (m, 0)) : ∃ body rest, b = frameOf body ++ rest ∧ m = body.length + 8 ∧ body.length ≤ 12000 ∧ (b.drop 4).take (m - 8) = body := by
  unfold head at h
  split at h
  · cases h
  split at h
  · cases h
  split at h
  · cases h
  split at h
  · cases h
  rename_i h1 h2 h3 h4
  injection h with hm he
  split at he
  case isFalse => cases he
  rename_i hc
  obtain ⟨x, y, r, rfl⟩ : ∃ x y r, b = x :: y :: r := by
    match b, h2 with
    | [], h2 => simp at h2
    | [x], h2 => simp at h2
    | x :: y :: r, _ => exact ⟨x, y, r, rfl⟩
  have hxy : x = 77 ∧ y = 68 := by simpa using h1
  obtain ⟨rfl, rfl⟩ := hxy
  obtain ⟨n, hn⟩ : ∃ n, headN (77 :: 68 :: r) = n := ⟨_, rfl⟩
  rw [hn] at h3 h4 hc hm
  have hr : 2 ≤ r.length := by simp at h2; omega
  have hl : (r.take 2).length = 2 := by rw [List.length_take]; omega
  have hn2 : le (r.take 2) = n := by rw [← hn]; rfl
  have hlen : n + 6 ≤ r.length := by simp at h4; omega
  have hbl : ((r.drop 2).take n).length = n := by rw [List.length_take, List.length_drop]; omega
  have e1 : r.take 2 = toLe 2 n := toLe_inj hl (by omega) hn2
  have hO : (77 :: 68 :: r).take (n + 4) = opened ((r.drop 2).take n) := by
    unfold opened
    rw [hbl, ← e1, List.take_succ_cons, List.take_succ_cons]
    congr 2
    rw [show n + 2 = 2 + n by omega, List.take_add]
  have hC : ((77 :: 68 :: r).drop (n + 4)).take 4 = toLe 4 (crc (opened ((r.drop 2).take n))) := by
    refine toLe_inj ?_ (by have := crc_lt (opened ((r.drop 2).take n)); omega) (by rw [hc, hO])
    rw [List.length_take, List.length_drop, List.length_cons, List.length_cons]; omega
  refine ⟨(r.drop 2).take n, (77 :: 68 :: r).drop (n + 8), ?_, by rw [hbl]; exact hm.symm, by rw [hbl]; omega, ?_⟩
  · unfold frameOf
    have e2 := List.take_append_drop 4 ((77 :: 68 :: r).drop (n + 4))
    rw [List.drop_drop] at e2
    rw [← hC, ← hO, List.append_assoc, e2, List.take_append_drop]
  · rw [← hm, Nat.add_sub_cancel]; rfl
theorem head_fit {b : List UInt8} (h : (head b).2 = 0) : 8 ≤ (head b).1 ∧ (head b).1 ≤ b.length := by
  obtain ⟨body, rest, hb, hm, _, _⟩ := head_sound (b := b) (m := (head b).1) (by rw [← h])
  have : b.length = body.length + 8 + rest.length := by rw [hb, List.length_append, frameOf_length]
  omega

/-- How many frames stand at the beginning, what is left, why. -/
def split (b : List UInt8) : Nat × Nat × Int :=
  if hb : b = [] then (0, 0, 0)
  else if he : (head b).2 = 0 then ((split (b.drop (head b).1)).1 + 1, (split (b.drop (head b).1)).2) else (0, b.length, (head b).2)
termination_by b.length
decreasing_by
  all_goals
    have := head_fit he
    have hp : 0 < b.length := List.length_pos_iff.2 hb
    rw [List.length_drop]; omega
theorem split_nil : split [] = (0, 0, 0) := by rw [split, dif_pos rfl]
theorem split_step {b : List UInt8} (hb : b ≠ []) (he : (head b).2 = 0) : split b = ((split (b.drop (head b).1)).1 + 1, (split (b.drop (head b).1)).2) := by rw [split, dif_neg hb, dif_pos he]
theorem split_end {b : List UInt8} (hb : b ≠ []) (he : (head b).2 ≠ 0) : split b = (0, b.length, (head b).2) := by rw [split, dif_neg hb, dif_neg he]
theorem split_frames : ∀ (l : List (List UInt8)), (∀ x ∈ l, x.length ≤ 12000) → split (l.map frameOf).flatten = (l.length, 0, 0)
  | [], _ => split_nil
  | x :: l, h => by
    have hx := h x (by simp)
    have hh := head_frame x (l.map frameOf).flatten hx
    rw [List.map_cons, List.flatten_cons, split_step (by intro e; have := congrArg List.length e; rw [List.length_append, frameOf_length] at this; simp at this) (by rw [hh]), hh]
    rw [List.drop_left' (frameOf_length x), split_frames l (fun y hy => h y (by simp [hy]))]
    rfl
end Go.Proofs.YtojpeiihkjpeoaaDoor
