/- The plain sum of bytes, and the frame at some bytes' beginning: what is written is found, a beginning wants more, a turned bit is seen. No program in sight. · The bodies of requests and replies, plainly: what is written is read, what is read was written. No program in sight. · Plain: the lengths of a written request; a written reply is read back. No program in sight. -/
import Derived.Test.YtcdbchifigonpaaDoorPls
set_option linter.unusedVariables false
set_option linter.unusedSimpArgs false
namespace Go.Proofs.YtcdbchifigonpaaDoor
open V

/-- One bit on. -/
def crcBit (r : Nat) : Nat := if r % 2 = 1 then (r / 2) ^^^ 3988292384 else r / 2
def crcBits : Nat → Nat → Nat
  | 0, r => r
  | k + 1, r => crcBits k (crcBit r)
/-- One byte on. -/
def crcByte (r : Nat) (x : UInt8) : Nat := crcBits 8 (r ^^^ x.toNat)
def crcMore (r : Nat) (b : List UInt8) : Nat := b.foldl crcByte r
/-- The sum of bytes. -/
def crc (b : List UInt8) : Nat := crcMore 4294967295 b ^^^ 4294967295

theorem xor_lt32 {a b : Nat} (ha : a < 4294967296) (hb : b < 4294967296) : a ^^^ b < 4294967296 := Nat.xor_lt_two_pow (n := 32) (by simpa using ha) (by simpa using hb)
theorem crcBit_lt {r : Nat} (h : r < 4294967296) : crcBit r < 4294967296 := by
  unfold crcBit
  split
  · exact xor_lt32 (by omega) (by decide)
  · omega
theorem crcBits_lt : ∀ (k : Nat) {r : Nat}, r < 4294967296 → crcBits k r < 4294967296
  | 0, _, h => h
  | k + 1, _, h => crcBits_lt k (crcBit_lt h)
theorem crcByte_lt {r : Nat} (h : r < 4294967296) (x : UInt8) : crcByte r x < 4294967296 := crcBits_lt 8 (xor_lt32 h (by have := x.toNat_lt; omega))
theorem crcMore_lt : ∀ (b : List UInt8) {r : Nat}, r < 4294967296 → crcMore r b < 4294967296
  | [], _, h => h
  | x :: b, _, h => crcMore_lt b (crcByte_lt h x)
theorem crcBits_succ (k r : Nat) : crcBits (k + 1) r = crcBit (crcBits k r) := by
  induction k generalizing r with
  | zero => rfl
  | succ k ih => rw [crcBits, ih, crcBits]
theorem crc_lt (b : List UInt8) : crc b < 4294967296 := xor_lt32 (crcMore_lt b (by decide)) (by decide)

/-! The sum tells bytes apart that differ in one. -/
theorem xor_cancel {a b c : Nat} (h : a ^^^ c = b ^^^ c) : a = b := by
  have := congrArg (· ^^^ c) h
  simpa [Nat.xor_assoc] using this
theorem crcBit_inj {r s : Nat} (hr : r < 4294967296) (hs : s < 4294967296) (h : crcBit r = crcBit s) : r = s := by
  have top : ∀ x : Nat, x < 4294967296 → ((x / 2) ^^^ 3988292384).testBit 31 = true := fun x hx => by
    rw [Nat.testBit_xor, Nat.testBit_lt_two_pow (show x / 2 < 2 ^ 31 by omega)]
    decide
  have low : ∀ x : Nat, x < 4294967296 → (x / 2).testBit 31 = false := fun x hx => Nat.testBit_lt_two_pow (show x / 2 < 2 ^ 31 by omega)
  unfold crcBit at h
  split at h <;> split at h
  · have := xor_cancel h; omega
  · have h1 := top r hr; have h2 := low s hs; rw [h] at h1; rw [h1] at h2; cases h2
  · have h1 := top s hs; have h2 := low r hr; rw [← h] at h1; rw [h1] at h2; cases h2
  · omega
theorem crcBits_inj : ∀ (k : Nat) {r s : Nat}, r < 4294967296 → s < 4294967296 → crcBits k r = crcBits k s → r = s
  | 0, _, _, _, _, h => h
  | k + 1, _, _, hr, hs, h => crcBit_inj hr hs (crcBits_inj k (crcBit_lt hr) (crcBit_lt hs) h)
theorem crcMore_inj : ∀ (b : List UInt8) {r s : Nat}, r < 4294967296 → s < 4294967296 → crcMore r b = crcMore s b → r = s
  | [], _, _, _, _, h => h
  | x :: b, r, s, hr, hs, h => by
    have hx : x.toNat < 4294967296 := by have := x.toNat_lt; omega
    have h1 := crcMore_inj b (crcByte_lt hr x) (crcByte_lt hs x) h
    exact xor_cancel (crcBits_inj 8 (xor_lt32 hr hx) (xor_lt32 hs hx) h1)
theorem crc_set (b : List UInt8) (i : Nat) (hi : i < b.length) (y : UInt8) (hy : y ≠ b[i]) : crc (b.set i y) ≠ crc b := by
  intro h
  have h := xor_cancel h
  have e1 : b = b.take i ++ b[i] :: b.drop (i + 1) := by rw [List.getElem_cons_drop, List.take_append_drop]
  have e2 : b.set i y = b.take i ++ y :: b.drop (i + 1) := by rw [List.set_eq_take_append_cons_drop, if_pos hi]
  rw [e2] at h
  have h2 : crcMore 4294967295 b = crcMore 4294967295 (b.take i ++ b[i] :: b.drop (i + 1)) := by rw [← e1]
  rw [h2] at h
  unfold crcMore at h
  rw [List.foldl_append, List.foldl_append, List.foldl_cons, List.foldl_cons] at h
  have hr : (b.take i).foldl crcByte 4294967295 < 4294967296 := crcMore_lt (b.take i) (by decide)
  have h3 := crcMore_inj (b.drop (i + 1)) (crcByte_lt hr y) (crcByte_lt hr b[i]) h
  have hx : ∀ z : UInt8, z.toNat < 4294967296 := fun z => by have := z.toNat_lt; omega
  have h4 := crcBits_inj 8 (xor_lt32 hr (hx y)) (xor_lt32 hr (hx b[i])) h3
  rw [Nat.xor_comm _ y.toNat, Nat.xor_comm _ b[i].toNat] at h4
  exact hy (UInt8.toNat_inj.1 (xor_cancel h4))

/-! Frames. -/
/-- A frame's bytes ahead of its sum. -/
def opened (body : List UInt8) : List UInt8 := 77 :: 68 :: (toLe 2 body.length ++ body)
/-- The frame of a body. -/
def frameOf (body : List UInt8) : List UInt8 := opened body ++ toLe 4 (crc (opened body))
theorem opened_length (body : List UInt8) : (opened body).length = body.length + 4 := by simp [opened, toLe_length]; omega
theorem frameOf_length (body : List UInt8) : (frameOf body).length = body.length + 8 := by simp [frameOf, toLe_length, opened_length]

/-- The frame at some bytes' beginning: its number of bytes; the error. -/
def headN (b : List UInt8) : Nat := le ((b.drop 2).take 2)
def head (b : List UInt8) : Nat × Int :=
  if (b.take 2).isPrefixOf [77, 68] = false then (0, 4)
  else if b.length < 4 then (0, 17)
  else if 12000 < headN b then (0, 2)
  else if b.length < headN b + 8 then (0, 17)
  else (headN b + 8, if le ((b.drop (headN b + 4)).take 4) = crc (b.take (headN b + 4)) then 0 else 8)

theorem le2 (n : Nat) (h : n < 65536) : le (toLe 2 n) = n := by rw [le_toLe]; omega
theorem le4 (n : Nat) (h : n < 4294967296) : le (toLe 4 n) = n := by rw [le_toLe]; omega
theorem headN_opened (l body : List UInt8) (h : l.length = 2) (x y : UInt8) : headN (x :: y :: (l ++ body)) = le l := by
  rw [headN, List.drop_succ_cons, List.drop_succ_cons, List.drop_zero, List.take_left' h]
/-- Bytes of a frame's form. -/
theorem head_form (n : Nat) (P S : List UInt8) (hP : P.length = n + 4) (h2 : P.take 2 = [77, 68]) (hn : headN P = n) (hl : n ≤ 12000) (hS : 4 ≤ S.length) : head (P ++ S) = (n + 8, if le (S.take 4) = crc P then 0 else 8) := by
  have e1 : (P ++ S).take 2 = [77, 68] := by rw [List.take_append_of_le_length (by omega), h2]
  have e2 : headN (P ++ S) = n := by
    rw [← hn]; unfold headN
    rw [List.drop_append_of_le_length (by omega), List.take_append_of_le_length (by rw [List.length_drop]; omega)]
  have e3 : (P ++ S).length = n + 4 + S.length := by rw [List.length_append, hP]
  unfold head
  rw [e1, e2, if_neg (by decide), if_neg (by omega), if_neg (by omega), if_neg (by omega), List.take_left' hP, List.drop_left' hP]
theorem opened_take (body : List UInt8) : (opened body).take 2 = [77, 68] := rfl
theorem opened_headN (body : List UInt8) (h : body.length ≤ 12000) : headN (opened body) = body.length := by
  unfold opened
  rw [headN_opened _ _ (toLe_length _ _), le2 _ (by omega)]
theorem head_frame (body t : List UInt8) (h : body.length ≤ 12000) : head (frameOf body ++ t) = (body.length + 8, 0) := by
  unfold frameOf
  rw [List.append_assoc, head_form body.length _ _ (opened_length _) (opened_take _) (opened_headN _ h) h (by simp [toLe_length]), List.take_left' (toLe_length _ _), le4 _ (crc_lt _), if_pos rfl]
theorem frame_body (body t : List UInt8) : ((frameOf body ++ t).drop 4).take body.length = body := by
  have e : frameOf body ++ t = (77 :: 68 :: toLe 2 body.length) ++ (body ++ (toLe 4 (crc (opened body)) ++ t)) := by simp [frameOf, opened]
  rw [e, List.drop_left' (by simp [toLe_length]), List.take_left' rfl]
theorem head_less (body : List UInt8) (k : Nat) (h : body.length ≤ 12000) (hk : k < body.length + 8) : head ((frameOf body).take k) = (0, 17) := by
  have hl : ((frameOf body).take k).length = k := by rw [List.length_take, frameOf_length]; omega
  have hp : (((frameOf body).take k).take 2).isPrefixOf [77, 68] = true := by
    rw [List.take_take]
    have e : frameOf body = 77 :: 68 :: (toLe 2 body.length ++ (body ++ toLe 4 (crc (opened body)))) := by simp [frameOf, opened]
    rw [e]
    have : min 2 k = 0 ∨ min 2 k = 1 ∨ min 2 k = 2 := by omega
    rcases this with h | h | h <;> rw [h] <;> rfl
  unfold head
  rw [hp, if_neg (by decide), hl]
  by_cases h4 : k < 4
  · rw [if_pos h4]
  · have hn : headN ((frameOf body).take k) = body.length := by
      unfold headN
      rw [List.drop_take, List.take_take, show min 2 (k - 2) = 2 by omega]
      have e : frameOf body = 77 :: 68 :: (toLe 2 body.length ++ (body ++ toLe 4 (crc (opened body)))) := by simp [frameOf, opened]
      rw [e, List.drop_succ_cons, List.drop_succ_cons, List.drop_zero, List.take_left' (toLe_length _ _), le2 _ (by omega)]
    rw [if_neg h4, hn, if_neg (by omega), if_pos hk]

theorem toLe_inj {k n : Nat} {l : List UInt8} (hl : l.length = k) (hn : n < 256 ^ k) (h : le l = n) : l = toLe k n := by
  subst h; subst hl; exact (toLe_le l).symm
theorem set_ne {l : List UInt8} {i : Nat} {y : UInt8} (hi : i < l.length) (hy : y ≠ l[i]) : l.set i y ≠ l := by
  intro h
  have : (l.set i y)[i]? = l[i]? := by rw [h]
  rw [List.getElem?_set_self hi, List.getElem?_eq_getElem hi] at this
  injection this with this
  exact hy this

/-- With one byte turned a frame is none, or a shorter one. -/
theorem head_turned (body : List UInt8) (h : body.length ≤ 12000) (i : Nat) (y : UInt8) (hi : i < (frameOf body).length) (hy : y ≠ (frameOf body)[i]) :
    (head ((frameOf body).set i y)).2 ≠ 0 ∨ ∃ n, n < body.length ∧ head ((frameOf body).set i y) = (n + 8, 0) ∧ (((frameOf body).set i y).drop 4).take n = body.take n := by
  have hF : frameOf body = opened body ++ toLe 4 (crc (opened body)) := rfl
  have hO : opened body = 77 :: 68 :: (toLe 2 body.length ++ body) := rfl
  by_cases h4 : body.length + 4 ≤ i
  · left
    have hset : (frameOf body).set i y = opened body ++ (toLe 4 (crc (opened body))).set (i - (opened body).length) y := by
      rw [hF, List.set_append, if_neg (by rw [opened_length]; omega)]
    have hj : i - (opened body).length < (toLe 4 (crc (opened body))).length := by rw [toLe_length, opened_length]; rw [frameOf_length] at hi; omega
    have hy' : y ≠ (toLe 4 (crc (opened body)))[i - (opened body).length] := by
      intro e; apply hy; rw [e]; simp only [hF]; rw [List.getElem_append_right (by rw [opened_length]; omega)]
    rw [hset, head_form body.length _ _ (opened_length _) (opened_take _) (opened_headN _ h) h (by rw [List.length_set, toLe_length]; omega)]
    have hl : ((toLe 4 (crc (opened body))).set (i - (opened body).length) y).length = 4 := by rw [List.length_set, toLe_length]
    rw [List.take_of_length_le (by rw [hl]; omega), if_neg]
    · show (8 : Int) ≠ 0; decide
    · intro e
      exact set_ne hj hy' (toLe_inj hl (by have := crc_lt (opened body); omega) e)
  by_cases h2 : i < 4
  · have hset : (frameOf body).set i y = (opened body).set i y ++ toLe 4 (crc (opened body)) := by
      rw [hF, List.set_append, if_pos (by rw [opened_length]; omega)]
    have hi' : i < (opened body).length := by rw [opened_length]; omega
    have hy' : y ≠ (opened body)[i] := by
      intro e; apply hy; rw [e]; simp only [hF]; rw [List.getElem_append_left hi']
    by_cases h0 : i = 0
    · subst h0
      left
      have hne : y ≠ 77 := hy'
      have : (((frameOf body).set 0 y).take 2).isPrefixOf [77, 68] = false := by
        rw [hF, hO]; show (y == 77 && _) = false; rw [beq_false_of_ne hne]; rfl
      unfold head
      rw [this, if_pos rfl]
      decide
    by_cases h1 : i = 1
    · subst h1
      left
      have hne : y ≠ 68 := hy'
      have : (((frameOf body).set 1 y).take 2).isPrefixOf [77, 68] = false := by
        rw [hF, hO]; show ((77 : UInt8) == 77 && (y == 68 && _)) = false; rw [beq_false_of_ne hne]; rfl
      unfold head
      rw [this, if_pos rfl]
      decide
    obtain ⟨j, rfl⟩ : ∃ j, i = j + 2 := ⟨i - 2, by omega⟩
    have hset2 : (opened body).set (j + 2) y = 77 :: 68 :: ((toLe 2 body.length).set j y ++ body) := by
      rw [hO, List.set_cons_succ, List.set_cons_succ, List.set_append, if_pos (by rw [toLe_length]; omega)]
    have hj : j < (toLe 2 body.length).length := by rw [toLe_length]; omega
    have hyj : y ≠ (toLe 2 body.length)[j] := by
      intro e; apply hy'; rw [e]; simp only [hO]; rw [List.getElem_cons_succ, List.getElem_cons_succ, List.getElem_append_left hj]
    have hl2 : ((toLe 2 body.length).set j y).length = 2 := by rw [List.length_set, toLe_length]
    have hlen : (frameOf body).length = body.length + 8 := frameOf_length body
    have hne : le ((toLe 2 body.length).set j y) ≠ body.length := fun e => set_ne hj hyj (toLe_inj hl2 (by omega) e)
    obtain ⟨n', hn'⟩ : ∃ n, le ((toLe 2 body.length).set j y) = n := ⟨_, rfl⟩
    rw [hn'] at hne
    have hN : headN ((frameOf body).set (j + 2) y) = n' := by
      rw [hset, hset2, List.cons_append, List.cons_append, List.append_assoc, headN_opened _ _ hl2, hn']
    have hP : (((frameOf body).set (j + 2) y).take 2).isPrefixOf [77, 68] = true := by rw [hset, hset2]; rfl
    unfold head
    rw [hP, hN, List.length_set, hlen, if_neg (by decide), if_neg (by omega)]
    by_cases a1 : 12000 < n'
    · left; rw [if_pos a1]; decide
    rw [if_neg a1]
    by_cases a2 : body.length + 8 < n' + 8
    · left; rw [if_pos a2]; decide
    rw [if_neg a2]
    split
    · right
      refine ⟨n', by omega, rfl, ?_⟩
      have e : (frameOf body).set (j + 2) y = (77 :: 68 :: (toLe 2 body.length).set j y) ++ (body ++ toLe 4 (crc (opened body))) := by rw [hset, hset2]; simp
      rw [e, List.drop_left' (by simp [hl2]), List.take_append_of_le_length (by omega)]
    · left; show (8 : Int) ≠ 0; decide
  · left
    have hi' : i < (opened body).length := by rw [opened_length]; omega
    have hset : (frameOf body).set i y = (opened body).set i y ++ toLe 4 (crc (opened body)) := by
      rw [hF, List.set_append, if_pos hi']
    have hy' : y ≠ (opened body)[i] := by
      intro e; apply hy; rw [e]; simp only [hF]; rw [List.getElem_append_left hi']
    obtain ⟨j, rfl⟩ : ∃ j, i = j + 2 := ⟨i - 2, by omega⟩
    have hset2 : (opened body).set (j + 2) y = 77 :: 68 :: (toLe 2 body.length ++ body.set (j - 2) y) := by
      rw [hO, List.set_cons_succ, List.set_cons_succ, List.set_append, if_neg (by rw [toLe_length]; omega), toLe_length]
    have hN : headN ((opened body).set (j + 2) y) = body.length := by rw [hset2, headN_opened _ _ (toLe_length _ _), le2 _ (by omega)]
    rw [hset, head_form body.length _ _ (by rw [List.length_set, opened_length]) (by rw [hset2]; rfl) hN h (by rw [toLe_length]; omega)]
    rw [List.take_of_length_le (by rw [toLe_length]; omega), le4 _ (crc_lt _), if_neg]
    · show (8 : Int) ≠ 0; decide
    · exact fun e => crc_set _ _ hi' y hy' e.symm

/-- What stands at the beginning, if there is a frame. -/
theorem head_sound {b : List UInt8} {m : Nat} (h : head b = (m, 0)) : ∃ body rest, b = frameOf body ++ rest ∧ m = body.length + 8 ∧ body.length ≤ 12000 ∧ (b.drop 4).take (m - 8) = body := by
  unfold head at h
  split at h
  · cases h
  split at h
  · cases h
  split at h
  · cases h
  split at h
  · cases h
  rename_i h1 h2 h3 h4
  injection h with hm he
  split at he
  case isFalse => cases he
  rename_i hc
  obtain ⟨x, y, r, rfl⟩ : ∃ x y r, b = x :: y :: r := by
    match b, h2 with
    | [], h2 => simp at h2
    | [x], h2 => simp at h2
    | x :: y :: r, _ => exact ⟨x, y, r, rfl⟩
  have hxy : x = 77 ∧ y = 68 := by simpa using h1
  obtain ⟨rfl, rfl⟩ := hxy
  obtain ⟨n, hn⟩ : ∃ n, headN (77 :: 68 :: r) = n := ⟨_, rfl⟩
  rw [hn] at h3 h4 hc hm
  have hr : 2 ≤ r.length := by simp at h2; omega
  have hl : (r.take 2).length = 2 := by rw [List.length_take]; omega
  have hn2 : le (r.take 2) = n := by rw [← hn]; rfl
  have hlen : n + 6 ≤ r.length := by simp at h4; omega
  have hbl : ((r.drop 2).take n).length = n := by rw [List.length_take, List.length_drop]; omega
  have e1 : r.take 2 = toLe 2 n := toLe_inj hl (by omega) hn2
  have hO : (77 :: 68 :: r).take (n + 4) = opened ((r.drop 2).take n) := by
    unfold opened
    rw [hbl, ← e1, List.take_succ_cons, List.take_succ_cons]
    congr 2
    rw [show n + 2 = 2 + n by omega, List.take_add]
  have hC : ((77 :: 68 :: r).drop (n + 4)).take 4 = toLe 4 (crc (opened ((r.drop 2).take n))) := by
    refine toLe_inj ?_ (by have := crc_lt (opened ((r.drop 2).take n)); omega) (by rw [hc, hO])
    rw [List.length_take, List.length_drop, List.length_cons, List.length_cons]; omega
  refine ⟨(r.drop 2).take n, (77 :: 68 :: r).drop (n + 8), ?_, by rw [hbl]; exact hm.symm, by rw [hbl]; omega, ?_⟩
  · unfold frameOf
    have e2 := List.take_append_drop 4 ((77 :: 68 :: r).drop (n + 4))
    rw [List.drop_drop] at e2
    rw [← hC, ← hO, List.append_assoc, e2, List.take_append_drop]
  · rw [← hm, Nat.add_sub_cancel]; rfl
theorem head_fit {b : List UInt8} (h : (head b).2 = 0) : 8 ≤ (head b).1 ∧ (head b).1 ≤ b.length := by
  obtain ⟨body, rest, hb, hm, _, _⟩ := head_sound (b := b) (m := (head b).1) (by rw [← h])
  have : b.length = body.length + 8 + rest.length := by rw [hb, List.length_append, frameOf_length]
  omega

/-- How many frames stand at the beginning, what is left, why. -/
def split (b : List UInt8) : Nat × Nat × Int :=
  if hb : b = [] then (0, 0, 0)
  else if he : (head b).2 = 0 then ((split (b.drop (head b).1)).1 + 1, (split (b.drop (head b).1)).2) else (0, b.length, (head b).2)
termination_by b.length
decreasing_by
  all_goals
    have := head_fit he
    have hp : 0 < b.length := List.length_pos_iff.2 hb
    rw [List.length_drop]; omega
theorem split_nil : split [] = (0, 0, 0) := by rw [split, dif_pos rfl]
theorem split_step {b : List UInt8} (hb : b ≠ []) (he : (head b).2 = 0) : split b = ((split (b.drop (head b).1)).1 + 1, (split (b.drop (head b).1)).2) := by rw [split, dif_neg hb, dif_pos he]
theorem split_end {b : List UInt8} (hb : b ≠ []) (he : (head b).2 ≠ 0) : split b = (0, b.length, (head b).2) := by rw [split, dif_neg hb, dif_neg he]
theorem split_frames : ∀ (l : List (List UInt8)), (∀ x ∈ l, x.length ≤ 12000) → split (l.map frameOf).flatten = (l.length, 0, 0)
  | [], _ => split_nil
  | x :: l, h => by
    have hx := h x (by simp)
    have hh := head_frame x (l.map frameOf).flatten hx
    rw [List.map_cons, List.flatten_cons, split_step (by intro e; have := congrArg List.length e; rw [List.length_append, frameOf_length] at this; simp at this) (by rw [hh]), hh]
    rw [List.drop_left' (frameOf_length x), split_frames l (fun y hy => h y (by simp [hy]))]
    rfl
end Go.Proofs.YtcdbchifigonpaaDoor

set_option linter.unusedVariables false
set_option linter.unusedSimpArgs false
namespace Go.Proofs.YtcdbchifigonpaaDoor
open V

/-- A request. -/
structure Rq where
  do_ : Int
  coll : ByteArray
  index : ByteArray
  path : ByteArray
  unique : Bool
  key : V
  low : V
  high : V
  doc : V
  n : Int
def Rq.zero : Rq := ⟨0, ⟨#[]⟩, ⟨#[]⟩, ⟨#[]⟩, false, V.zero, V.zero, V.zero, V.zero, 0⟩
/-- A reply. -/
structure Rp where
  e : Int
  n : Int
  docs : List V
  cursor : Int
def Rp.zero : Rp := ⟨0, 0, [], 0⟩

/-- A text's bytes. -/
def textB (s : ByteArray) : List UInt8 := UInt8.ofNat s.size :: s.data.toList
/-- A value's bytes, behind their number. -/
def valB (v : V) : List UInt8 := toLe 2 v.bytes.length ++ v.bytes
/-- A value that may be none. -/
def mayB (v : V) : List UInt8 := if v.k = 0 then [0] else 1 :: valB v
def mayGood (v : V) : Int := if v.k = 0 then 0 else v.good
/-- A number's 32 bits. -/
def u32 (n : Int) : Nat := (n % 4294967296).toNat
/-- What is wrong with a request. -/
def Rq.args (r : Rq) : Prop := r.do_ < 0 ∨ 255 < r.do_ ∨ r.n < -2147483648 ∨ 2147483647 < r.n ∨ 200 < r.coll.size ∨ 200 < r.index.size ∨ 200 < r.path.size
instance (r : Rq) : Decidable r.args := by unfold Rq.args; exact inferInstance
/-- The first of four that is not good. -/
def firstBad : List V → Int
  | [] => 0
  | v :: l => if v.good = 0 then firstBad l else v.good
def firstMay : List V → Int
  | [] => 0
  | v :: l => if mayGood v = 0 then firstMay l else mayGood v
def Rq.vals (r : Rq) : List V := [r.key, r.low, r.high, r.doc]
def Rq.err (r : Rq) : Int := if r.args then 1 else firstMay r.vals
def Rq.headB (r : Rq) : List UInt8 := [UInt8.ofNat r.do_.toNat, if r.unique then 1 else 0] ++ textB r.coll ++ textB r.index ++ textB r.path ++ toLe 4 (u32 r.n)
def Rq.body (r : Rq) : List UInt8 := r.headB ++ (r.vals.map mayB).flatten
def Rp.args (r : Rp) : Prop := r.e < 0 ∨ 255 < r.e ∨ r.n < 0 ∨ 2147483647 < r.n ∨ r.cursor < 0 ∨ 2147483647 < r.cursor ∨ 64 < r.docs.length
instance (r : Rp) : Decidable r.args := by unfold Rp.args; exact inferInstance
def Rp.err (r : Rp) : Int := if r.args then 1 else firstBad r.docs
def Rp.headB (r : Rp) : List UInt8 := [UInt8.ofNat r.e.toNat] ++ toLe 4 r.n.toNat ++ toLe 4 r.cursor.toNat ++ [UInt8.ofNat r.docs.length]
def Rp.body (r : Rp) : List UInt8 := r.headB ++ (r.docs.map valB).flatten
/-- A frame of a body, if there is nothing wrong. -/
def putOf (err : Int) (body : List UInt8) : List UInt8 × Int := if err ≠ 0 then ([], err) else if 12000 < body.length then ([], 2) else (frameOf body, 0)
def Rq.put (r : Rq) : List UInt8 × Int := putOf r.err r.body
def Rp.put (r : Rp) : List UInt8 × Int := putOf r.err r.body

/-! Reading. -/
abbrev P (α : Type) := Option (α × List UInt8)
def pTake (n : Nat) (bs : List UInt8) : P (List UInt8) := if n ≤ bs.length then some (bs.take n, bs.drop n) else none
def pNum (n : Nat) (bs : List UInt8) : P Nat := match pTake n bs with | none => none | some (x, r) => some (le x, r)
def pText (bs : List UInt8) : P ByteArray := match pNum 1 bs with
  | none => none
  | some (n, r) => if n ≤ 200 then (match pTake n r with | none => none | some (x, r') => some (⟨x.toArray⟩, r')) else none
noncomputable def pVal (bs : List UInt8) : P V := match pNum 2 bs with
  | none => none
  | some (n, r) => match pTake n r with
    | none => none
    | some (x, r') => match rdAll x with | .error _ => none | .ok v => some (v, r')
def pFlag (bs : List UInt8) : P Bool := match pNum 1 bs with
  | none => none
  | some (k, r) => if k ≤ 1 then some (decide (k = 1), r) else none
noncomputable def pMay (bs : List UInt8) : P V := match pFlag bs with
  | none => none
  | some (b, r) => if b = true then pVal r else some (V.zero, r)
/-- A number of 32 bits that may be below 0. -/
def pInt (bs : List UInt8) : P Int := match pNum 4 bs with
  | none => none
  | some (k, r) => some (if k < 2147483648 then (k : Int) else (k : Int) - 4294967296, r)
def pCount (bs : List UInt8) : P Int := match pNum 4 bs with
  | none => none
  | some (k, r) => if k ≤ 2147483647 then some ((k : Int), r) else none
/-- One part, and what is made of it and the rest. -/
def pBind {α β : Type} (p : P α) (f : α → List UInt8 → P β) : P β := match p with
  | none => none
  | some (x, r) => f x r
theorem pBind_some {α β : Type} {p : P α} {f : α → List UInt8 → P β} {y : β × List UInt8} (h : pBind p f = some y) : ∃ x r, p = some (x, r) ∧ f x r = some y := by
  match p, h with
  | none, h => cases h
  | some (x, r), h => exact ⟨x, r, rfl, h⟩
noncomputable def pReq (bs : List UInt8) : P Rq :=
  pBind (pNum 1 bs) fun d r1 => pBind (pFlag r1) fun u r2 => pBind (pText r2) fun c r3 => pBind (pText r3) fun i r4 => pBind (pText r4) fun p r5 =>
  pBind (pInt r5) fun n r6 => pBind (pMay r6) fun k r7 => pBind (pMay r7) fun l r8 => pBind (pMay r8) fun h r9 => pBind (pMay r9) fun x r10 =>
  some (⟨(d : Int), c, i, p, u, k, l, h, x, n⟩, r10)
noncomputable def pVals : Nat → List UInt8 → P (List V)
  | 0, bs => some ([], bs)
  | n + 1, bs => match pVal bs with
    | none => none
    | some (v, r) => match pVals n r with
      | none => none
      | some (l, r') => some (v :: l, r')
noncomputable def pRep (bs : List UInt8) : P Rp :=
  pBind (pNum 1 bs) fun e r1 => pBind (pCount r1) fun n r2 => pBind (pCount r2) fun c r3 => pBind (pNum 1 r3) fun k r4 =>
  if 64 < k then none else pBind (pVals k r4) fun l r5 => some (⟨(e : Int), n, l, c⟩, r5)
/-- All of a frame's body, read. -/
noncomputable def getOf {α : Type} (zero : α) (p : List UInt8 → P α) (b : List UInt8) : α × Nat × Int :=
  if (head b).2 ≠ 0 then (zero, head b) else
  match p ((b.drop 4).take ((head b).1 - 8)) with
  | none => (zero, (head b).1, 4)
  | some (x, r) => if r = [] then (x, (head b).1, 0) else (zero, (head b).1, 4)
noncomputable def getReq (b : List UInt8) : Rq × Nat × Int := getOf Rq.zero pReq b
noncomputable def getRep (b : List UInt8) : Rp × Nat × Int := getOf Rp.zero pRep b

/-! What is written is read. -/
theorem pTake_app (x r : List UInt8) {n : Nat} (h : x.length = n) : pTake n (x ++ r) = some (x, r) := by
  rw [pTake, if_pos (by rw [List.length_append]; omega), List.take_left' h, List.drop_left' h]
theorem pNum_le (k n : Nat) (r : List UInt8) (h : n < 256 ^ k) : pNum k (toLe k n ++ r) = some (n, r) := by
  rw [pNum, pTake_app _ _ (toLe_length _ _)]
  simp only
  rw [le_toLe, Nat.mod_eq_of_lt h]
theorem pNum1 (n : Nat) (r : List UInt8) (h : n < 256) : pNum 1 (UInt8.ofNat n :: r) = some (n, r) := by
  have := pNum_le 1 n r (by omega)
  simpa [toLe] using this
theorem pText_app (s : ByteArray) (r : List UInt8) (h : s.size ≤ 200) : pText (textB s ++ r) = some (s, r) := by
  have hl : s.data.toList.length = s.size := by simp
  rw [textB, List.cons_append, pText, pNum1 _ _ (by omega)]
  simp only
  rw [if_pos h, pTake_app _ _ hl]
theorem pVal_app (v : V) (r : List UInt8) (h : rdAll v.bytes = .ok v) : pVal (valB v ++ r) = some (v, r) := by
  have hl : v.bytes.length ≤ 4096 := by
    rcases Nat.lt_or_ge 4096 v.bytes.length with h4 | h4
    · rw [rdAll, if_pos h4] at h; cases h
    · exact h4
  rw [valB, List.append_assoc, pVal, pNum_le 2 _ _ (by omega)]
  simp only
  rw [pTake_app _ _ rfl]
  simp only
  rw [h]
theorem pFlag_app (b : Bool) (r : List UInt8) : pFlag ((if b then 1 else 0) :: r) = some (b, r) := by
  have h : ∀ x : Nat, x ≤ 1 → pNum 1 (UInt8.ofNat x :: r) = some (x, r) := fun x hx => pNum1 x r (by omega)
  cases b
  · have := h 0 (by omega)
    rw [pFlag, show ((if false = true then (1 : UInt8) else 0) :: r) = UInt8.ofNat 0 :: r from rfl, this]; rfl
  · have := h 1 (by omega)
    rw [pFlag, show ((if true = true then (1 : UInt8) else 0) :: r) = UInt8.ofNat 1 :: r from rfl, this]; rfl
/-- A value as it is read: none, or a good one. -/
def MayOk (v : V) : Prop := v = V.zero ∨ (v.k ≠ 0 ∧ rdAll v.bytes = .ok v)
theorem pMay_app (v : V) (r : List UInt8) (h : MayOk v) : pMay (mayB v ++ r) = some (v, r) := by
  rcases h with rfl | ⟨hk, h⟩
  · rw [mayB, if_pos (show V.zero.k = 0 from rfl)]
    have := pFlag_app false r
    rw [pMay, show ([0] ++ r : List UInt8) = (if false = true then 1 else 0) :: r from rfl, this]; rfl
  · rw [mayB, if_neg hk]
    have := pFlag_app true (valB v ++ r)
    rw [pMay, show (1 :: valB v ++ r : List UInt8) = (if true = true then 1 else 0) :: (valB v ++ r) from rfl, this]
    simp only [if_true]
    exact pVal_app v r h
theorem u32_lt (n : Int) : u32 n < 4294967296 := by unfold u32; omega
theorem pInt_app (n : Int) (r : List UInt8) (h1 : -2147483648 ≤ n) (h2 : n ≤ 2147483647) : pInt (toLe 4 (u32 n) ++ r) = some (n, r) := by
  rw [pInt, pNum_le 4 _ _ (u32_lt n)]
  simp only
  congr 2
  unfold u32
  split <;> omega
theorem pCount_app (n : Int) (r : List UInt8) (h1 : 0 ≤ n) (h2 : n ≤ 2147483647) : pCount (toLe 4 n.toNat ++ r) = some (n, r) := by
  rw [pCount, pNum_le 4 _ _ (by omega)]
  simp only
  rw [if_pos (by omega)]
  congr 2
  omega
/-- A request as it is read. -/
structure Rq.Ok (q : Rq) : Prop where
  args : ¬ q.args
  key : MayOk q.key
  low : MayOk q.low
  high : MayOk q.high
  doc : MayOk q.doc
theorem pReq_app (q : Rq) (r : List UInt8) (h : q.Ok) : pReq (q.body ++ r) = some (q, r) := by
  obtain ⟨ha, h1, h2, h3, h4⟩ := h
  obtain ⟨d, c, i, p, u, k, l, hi, x, n⟩ := q
  unfold Rq.args at ha
  dsimp only at ha h1 h2 h3 h4
  unfold Rq.body Rq.headB Rq.vals
  simp only [List.map_cons, List.map_nil, List.flatten_cons, List.flatten_nil, List.append_nil, List.append_assoc, List.cons_append, List.nil_append]
  unfold pReq
  rw [pNum1 _ _ (by omega)]
  simp only [pBind]
  rw [pFlag_app]
  simp only
  rw [pText_app _ _ (by omega)]
  simp only
  rw [pText_app _ _ (by omega)]
  simp only
  rw [pText_app _ _ (by omega)]
  simp only
  rw [pInt_app _ _ (by omega) (by omega)]
  simp only
  rw [pMay_app _ _ h1]
  simp only
  rw [pMay_app _ _ h2]
  simp only
  rw [pMay_app _ _ h3]
  simp only
  rw [pMay_app _ _ h4]
  simp only
  rw [Int.toNat_of_nonneg (by omega)]
theorem pVals_app : ∀ (l : List V) (r : List UInt8), (∀ v ∈ l, rdAll v.bytes = .ok v) → pVals l.length ((l.map valB).flatten ++ r) = some (l, r)
  | [], r, _ => rfl
  | v :: l, r, h => by
    rw [List.map_cons, List.flatten_cons, List.append_assoc, List.length_cons, pVals, pVal_app v _ (h v (by simp))]
    simp only
    rw [pVals_app l r (fun x hx => h x (by simp [hx]))]
structure Rp.Ok (q : Rp) : Prop where
  args : ¬ q.args
  docs : ∀ v ∈ q.docs, rdAll v.bytes = .ok v
theorem pRep_app (q : Rp) (r : List UInt8) (h : q.Ok) : pRep (q.body ++ r) = some (q, r) := by
  obtain ⟨ha, h1⟩ := h
  obtain ⟨e, n, l, c⟩ := q
  unfold Rp.args at ha
  dsimp only at ha h1
  unfold Rp.body Rp.headB
  simp only [List.append_assoc, List.cons_append, List.nil_append]
  unfold pRep
  rw [pNum1 _ _ (by omega)]
  simp only [pBind]
  rw [pCount_app _ _ (by omega) (by omega)]
  simp only
  rw [pCount_app _ _ (by omega) (by omega)]
  simp only
  rw [pNum1 _ _ (by omega)]
  simp only
  rw [if_neg (by omega), pVals_app _ _ h1]
  simp only
  rw [Int.toNat_of_nonneg (by omega)]

/-! What is read was written. -/
theorem pTake_some {n : Nat} {bs x r : List UInt8} (h : pTake n bs = some (x, r)) : bs = x ++ r ∧ x.length = n := by
  unfold pTake at h
  split at h
  · injection h with h; injection h with h1 h2; subst h1 h2
    exact ⟨(List.take_append_drop n bs).symm, by rw [List.length_take]; omega⟩
  · cases h
theorem pNum_some {k n : Nat} {bs r : List UInt8} (h : pNum k bs = some (n, r)) : bs = toLe k n ++ r ∧ n < 256 ^ k := by
  unfold pNum at h
  split at h
  · cases h
  · rename_i x r' hx
    injection h with h; injection h with h1 h2; subst h1 h2
    obtain ⟨rfl, hl⟩ := pTake_some hx
    subst hl
    exact ⟨by rw [toLe_le], le_lt x⟩
theorem pNum1_some {n : Nat} {bs r : List UInt8} (h : pNum 1 bs = some (n, r)) : bs = UInt8.ofNat n :: r ∧ n < 256 := by
  obtain ⟨rfl, h2⟩ := pNum_some h
  exact ⟨by simp [toLe], by omega⟩
theorem pText_some {bs r : List UInt8} {s : ByteArray} (h : pText bs = some (s, r)) : bs = textB s ++ r ∧ s.size ≤ 200 := by
  unfold pText at h
  split at h
  · cases h
  · rename_i n r' hn
    obtain ⟨rfl, hn2⟩ := pNum1_some hn
    split at h
    · split at h
      · cases h
      · rename_i h2 x r'' hx
        injection h with h; injection h with h1 h3; subst h1 h3
        obtain ⟨rfl, hl⟩ := pTake_some hx
        have hs : (⟨x.toArray⟩ : ByteArray).size = n := by show x.toArray.size = n; simpa using hl
        refine ⟨?_, by omega⟩
        unfold textB
        rw [hs]
        simp
    · cases h
theorem pVal_some {bs r : List UInt8} {v : V} (h : pVal bs = some (v, r)) : bs = valB v ++ r ∧ rdAll v.bytes = .ok v := by
  unfold pVal at h
  split at h
  · cases h
  · rename_i n r' hn
    obtain ⟨rfl, hn2⟩ := pNum_some hn
    split at h
    · cases h
    · rename_i x r'' hx
      obtain ⟨rfl, hl⟩ := pTake_some hx
      split at h
      · cases h
      · rename_i w hw
        injection h with h; injection h with h1 h3; subst h1 h3
        have hb := (rdAll_sound hw).2
        unfold valB
        rw [hb, hl, List.append_assoc]
        exact ⟨rfl, hw⟩
theorem pFlag_some {bs r : List UInt8} {b : Bool} (h : pFlag bs = some (b, r)) : bs = (if b then 1 else 0) :: r := by
  unfold pFlag at h
  split at h
  · cases h
  · rename_i k r' hk
    obtain ⟨rfl, _⟩ := pNum1_some hk
    split at h
    · rename_i h1
      injection h with h; injection h with h2 h3; subst h2 h3
      have : k = 0 ∨ k = 1 := by omega
      rcases this with rfl | rfl <;> rfl
    · cases h
theorem pMay_some {bs r : List UInt8} {v : V} (h : pMay bs = some (v, r)) : bs = mayB v ++ r ∧ MayOk v := by
  unfold pMay at h
  split at h
  · cases h
  · rename_i b r' hb
    have hb := pFlag_some hb
    subst hb
    split at h
    · rename_i hb
      subst hb
      obtain ⟨rfl, hv⟩ := pVal_some h
      have hk : v.k ≠ 0 := by
        have hf := (good_iff.1 (rdAll_sound hv).1).1
        obtain ⟨k, n, b, l, f⟩ := v
        rw [formed_mk] at hf
        simp only [own, Bool.and_eq_true, decide_eq_true_eq] at hf
        show k ≠ 0
        omega
      exact ⟨by rw [mayB, if_neg hk]; rfl, .inr ⟨hk, hv⟩⟩
    · rename_i hb
      injection h with h; injection h with h2 h3; subst h2 h3
      have : b = false := by simpa using hb
      subst this
      exact ⟨rfl, .inl rfl⟩
theorem pInt_some {bs r : List UInt8} {n : Int} (h : pInt bs = some (n, r)) : bs = toLe 4 (u32 n) ++ r ∧ -2147483648 ≤ n ∧ n ≤ 2147483647 := by
  unfold pInt at h
  split at h
  · cases h
  · rename_i k r' hk
    obtain ⟨rfl, hk2⟩ := pNum_some hk
    injection h with h; injection h with h2 h3; subst h2 h3
    have hk3 : k < 4294967296 := hk2
    have : u32 (if k < 2147483648 then (k : Int) else (k : Int) - 4294967296) = k := by unfold u32; split <;> omega
    rw [this]
    exact ⟨rfl, by split <;> omega, by split <;> omega⟩
theorem pCount_some {bs r : List UInt8} {n : Int} (h : pCount bs = some (n, r)) : bs = toLe 4 n.toNat ++ r ∧ 0 ≤ n ∧ n ≤ 2147483647 := by
  unfold pCount at h
  split at h
  · cases h
  · rename_i k r' hk
    obtain ⟨rfl, hk2⟩ := pNum_some hk
    split at h
    · injection h with h; injection h with h2 h3; subst h2 h3
      exact ⟨rfl, by omega, by omega⟩
    · cases h
theorem pReq_some {bs r : List UInt8} {q : Rq} (h : pReq bs = some (q, r)) : bs = q.body ++ r ∧ q.Ok := by
  unfold pReq at h
  obtain ⟨d, r1, e1, h⟩ := pBind_some h
  obtain ⟨u, r2, e2, h⟩ := pBind_some h
  obtain ⟨c, r3, e3, h⟩ := pBind_some h
  obtain ⟨i, r4, e4, h⟩ := pBind_some h
  obtain ⟨p, r5, e5, h⟩ := pBind_some h
  obtain ⟨n, r6, e6, h⟩ := pBind_some h
  obtain ⟨k, r7, e7, h⟩ := pBind_some h
  obtain ⟨l, r8, e8, h⟩ := pBind_some h
  obtain ⟨hh, r9, e9, h⟩ := pBind_some h
  obtain ⟨x, r10, e10, h⟩ := pBind_some h
  injection h with h; injection h with h1 h2; subst h1 h2
  obtain ⟨rfl, k1⟩ := pNum1_some e1
  obtain rfl := pFlag_some e2
  obtain ⟨rfl, k3⟩ := pText_some e3
  obtain ⟨rfl, k4⟩ := pText_some e4
  obtain ⟨rfl, k5⟩ := pText_some e5
  obtain ⟨rfl, k6, k6'⟩ := pInt_some e6
  obtain ⟨rfl, k7⟩ := pMay_some e7
  obtain ⟨rfl, k8⟩ := pMay_some e8
  obtain ⟨rfl, k9⟩ := pMay_some e9
  obtain ⟨rfl, k10⟩ := pMay_some e10
  refine ⟨?_, ?_, k7, k8, k9, k10⟩
  · unfold Rq.body Rq.headB Rq.vals
    simp only [List.map_cons, List.map_nil, List.flatten_cons, List.flatten_nil, List.append_nil, List.append_assoc, List.cons_append, List.nil_append, Int.toNat_natCast]
  · unfold Rq.args
    dsimp only
    omega
theorem pVals_some : ∀ {n : Nat} {bs r : List UInt8} {l : List V}, pVals n bs = some (l, r) → bs = (l.map valB).flatten ++ r ∧ l.length = n ∧ ∀ v ∈ l, rdAll v.bytes = .ok v
  | 0, bs, r, l, h => by
    rw [pVals] at h
    injection h with h; injection h with h1 h2; subst h1 h2
    exact ⟨rfl, rfl, by simp⟩
  | n + 1, bs, r, l, h => by
    rw [pVals] at h
    split at h
    · cases h
    rename_i v r1 e1
    split at h
    · cases h
    rename_i l' r2 e2
    injection h with h; injection h with h1 h2; subst h1 h2
    obtain ⟨rfl, k1⟩ := pVal_some e1
    obtain ⟨rfl, k2, k3⟩ := pVals_some e2
    refine ⟨by simp, by simp [k2], fun x hx => ?_⟩
    rcases List.mem_cons.1 hx with rfl | hx
    · exact k1
    · exact k3 x hx
theorem pRep_some {bs r : List UInt8} {q : Rp} (h : pRep bs = some (q, r)) : bs = q.body ++ r ∧ q.Ok := by
  unfold pRep at h
  obtain ⟨e, r1, e1, h⟩ := pBind_some h
  obtain ⟨n, r2, e2, h⟩ := pBind_some h
  obtain ⟨c, r3, e3, h⟩ := pBind_some h
  obtain ⟨k, r4, e4, h⟩ := pBind_some h
  split at h
  · cases h
  rename_i h64
  obtain ⟨l, r5, e5, h⟩ := pBind_some h
  injection h with h; injection h with h1 h2; subst h1 h2
  obtain ⟨rfl, k1⟩ := pNum1_some e1
  obtain ⟨rfl, k2, k2'⟩ := pCount_some e2
  obtain ⟨rfl, k3, k3'⟩ := pCount_some e3
  obtain ⟨rfl, k4⟩ := pNum1_some e4
  obtain ⟨rfl, k5, k6⟩ := pVals_some e5
  refine ⟨?_, ?_, k6⟩
  · unfold Rp.body Rp.headB
    simp only [List.append_assoc, List.cons_append, List.nil_append, Int.toNat_natCast, k5]
  · unfold Rp.args
    dsimp only
    omega

/-! What follows of both. -/
/-- A value of Kind 0 is none. -/
def norm (v : V) : V := if v.k = 0 then V.zero else v
def Rq.norm (r : Rq) : Rq := { r with key := norm0 r.key, low := norm0 r.low, high := norm0 r.high, doc := norm0 r.doc }
  where norm0 := Go.Proofs.YtcdbchifigonpaaDoor.norm
theorem norm_body (v : V) : mayB (norm v) = mayB v := by
  unfold norm
  by_cases h : v.k = 0
  · rw [if_pos h]; unfold mayB; rw [if_pos h]; rfl
  · rw [if_neg h]
theorem Rq.norm_body (r : Rq) : r.norm.body = r.body := by
  show _ ++ [mayB (Go.Proofs.YtcdbchifigonpaaDoor.norm r.key), mayB (Go.Proofs.YtcdbchifigonpaaDoor.norm r.low), mayB (Go.Proofs.YtcdbchifigonpaaDoor.norm r.high), mayB (Go.Proofs.YtcdbchifigonpaaDoor.norm r.doc)].flatten = _
  simp only [Go.Proofs.YtcdbchifigonpaaDoor.norm_body]
  rfl
theorem norm_ok {v : V} (hf : v.fit) (h : mayGood v = 0) : MayOk (norm v) := by
  unfold norm mayGood at *
  by_cases hk : v.k = 0
  · rw [if_pos hk]; exact .inl rfl
  · rw [if_neg hk] at h ⊢; exact .inr ⟨hk, rdAll_good hf h⟩
structure Rq.Fit (r : Rq) : Prop where
  key : r.key.fit
  low : r.low.fit
  high : r.high.fit
  doc : r.doc.fit
theorem Rq.ok_of {r : Rq} (hf : r.Fit) (h : r.err = 0) : r.norm.Ok := by
  unfold Rq.err at h
  by_cases ha : r.args
  · rw [if_pos ha] at h; cases h
  rw [if_neg ha] at h
  unfold Rq.vals at h
  simp only [firstMay] at h
  have e1 : mayGood r.key = 0 := by split at h <;> first | assumption | (exact absurd h (by assumption))
  rw [if_pos e1] at h
  have e2 : mayGood r.low = 0 := by split at h <;> first | assumption | (exact absurd h (by assumption))
  rw [if_pos e2] at h
  have e3 : mayGood r.high = 0 := by split at h <;> first | assumption | (exact absurd h (by assumption))
  rw [if_pos e3] at h
  have e4 : mayGood r.doc = 0 := by split at h <;> first | assumption | (exact absurd h (by assumption))
  exact ⟨ha, norm_ok hf.key e1, norm_ok hf.low e2, norm_ok hf.high e3, norm_ok hf.doc e4⟩
theorem firstBad_all : ∀ {l : List V}, firstBad l = 0 → ∀ v ∈ l, v.good = 0
  | [], _, v, hv => by simp at hv
  | x :: l, h, v, hv => by
    rw [firstBad] at h
    by_cases hx : x.good = 0
    · rw [if_pos hx] at h
      rcases List.mem_cons.1 hv with rfl | hv
      · exact hx
      · exact firstBad_all h v hv
    · rw [if_neg hx] at h; exact absurd h hx
theorem Rp.ok_of {r : Rp} (hf : ∀ v ∈ r.docs, v.fit) (h : r.err = 0) : r.Ok := by
  unfold Rp.err at h
  by_cases ha : r.args
  · rw [if_pos ha] at h; cases h
  rw [if_neg ha] at h
  exact ⟨ha, fun v hv => rdAll_good (hf v hv) (firstBad_all h v hv)⟩
theorem putOf_ok {err : Int} {body p : List UInt8} (h : putOf err body = (p, 0)) : err = 0 ∧ body.length ≤ 12000 ∧ p = frameOf body := by
  unfold putOf at h
  split at h
  · rename_i h1; injection h with _ h2; exact absurd h2 h1
  split at h
  · injection h with _ h2; cases h2
  · rename_i h1 h2
    injection h with h3 _
    exact ⟨by simpa using h1, by omega, h3.symm⟩
theorem putOf_bad {err : Int} {body p : List UInt8} {e : Int} (h : putOf err body = (p, e)) (he : e ≠ 0) : p = [] := by
  unfold putOf at h
  split at h
  · injection h with h1 _; exact h1.symm
  split at h
  · injection h with h1 _; exact h1.symm
  · injection h with _ h2; exact absurd h2.symm he
/-- A frame, whatever stands behind, is read. -/
theorem getOf_frame {α : Type} {zero x : α} {p : List UInt8 → P α} {body : List UInt8} (hl : body.length ≤ 12000) (hp : p body = some (x, [])) (t : List UInt8) : getOf zero p (frameOf body ++ t) = (x, body.length + 8, 0) := by
  unfold getOf
  rw [head_frame body t hl, if_neg (by simp)]
  simp only [Nat.add_sub_cancel]
  rw [frame_body, hp]
  simp
theorem getOf_less {α : Type} {zero : α} {p : List UInt8 → P α} {body : List UInt8} (hl : body.length ≤ 12000) (k : Nat) (hk : k < body.length + 8) : getOf zero p ((frameOf body).take k) = (zero, 0, 17) := by
  unfold getOf
  rw [head_less body k hl hk, if_pos (by simp)]
theorem getOf_turned {α : Type} {zero x : α} {p : List UInt8 → P α} {body : List UInt8} (hl : body.length ≤ 12000) (hp : p body = some (x, [])) (hmore : ∀ a t y, p a = some (y, []) → p (a ++ t) = some (y, t)) (i : Nat) (y : UInt8) (hi : i < (frameOf body).length) (hy : y ≠ (frameOf body)[i]) :
    (getOf zero p ((frameOf body).set i y)).1 = zero ∧ (getOf zero p ((frameOf body).set i y)).2.2 ≠ 0 := by
  rcases head_turned body hl i y hi hy with h | ⟨n, hn, hh, hb⟩
  · unfold getOf
    rw [if_pos h]
    exact ⟨rfl, h⟩
  · unfold getOf
    rw [hh, if_neg (by simp)]
    simp only [Nat.add_sub_cancel]
    rw [hb]
    cases hq : p (body.take n) with
    | none => exact ⟨rfl, by show (4 : Int) ≠ 0; decide⟩
    | some q =>
      obtain ⟨z, r⟩ := q
      simp only
      by_cases hr : r = []
      · subst hr
        have h2 := hmore _ (body.drop n) z hq
        rw [List.take_append_drop, hp] at h2
        injection h2 with h2
        injection h2 with _ h2
        have : (body.drop n).length = 0 := by rw [← h2]; rfl
        rw [List.length_drop] at this
        omega
      · rw [if_neg hr]; exact ⟨rfl, by show (4 : Int) ≠ 0; decide⟩
theorem pReq_more (a t : List UInt8) (y : Rq) (h : pReq a = some (y, [])) : pReq (a ++ t) = some (y, t) := by
  obtain ⟨ha, hy⟩ := pReq_some h
  rw [ha, List.append_nil]
  exact pReq_app y t hy
/-- What is read of any bytes is written as the bytes that were read. -/
theorem getReq_back {b : List UInt8} {q : Rq} {m : Nat} (h : getReq b = (q, m, 0)) : q.put = (b.take m, 0) ∧ m ≤ b.length := by
  unfold getReq getOf at h
  split at h
  · rename_i h0
    injection h with _ h
    exact absurd (congrArg Prod.snd h) h0
  rename_i h0
  have h0 : (head b).2 = 0 := by simpa using h0
  obtain ⟨body, rest, hb, hm, hl, hbody⟩ := head_sound (b := b) (m := (head b).1) (by rw [← h0])
  split at h
  · injection h with _ h; injection h with _ h; cases h
  rename_i x r hx
  rw [hbody] at hx
  split at h
  · rename_i hr
    subst hr
    injection h with h1 h; injection h with h2 _
    subst h1 h2
    obtain ⟨hB, hok⟩ := pReq_some hx
    rw [List.append_nil] at hB
    have herr : x.err = 0 := by
      have mg : ∀ v, MayOk v → mayGood v = 0 := fun v hv => by
        rcases hv with rfl | ⟨hk, hv⟩
        · rfl
        · rw [mayGood, if_neg hk]; exact (rdAll_sound hv).1
      unfold Rq.err Rq.vals
      rw [if_neg hok.args]
      simp only [firstMay]
      rw [if_pos (mg _ hok.key), if_pos (mg _ hok.low), if_pos (mg _ hok.high), if_pos (mg _ hok.doc)]
    refine ⟨?_, by have := congrArg List.length hb; rw [List.length_append, frameOf_length] at this; omega⟩
    unfold Rq.put putOf
    rw [herr, if_neg (by simp), ← hB, if_neg (by omega), hm]
    have e : b.take (body.length + 8) = frameOf body := by
      rw [hb, List.take_left' (frameOf_length body)]
    rw [e]
  · injection h with _ h; injection h with _ h; cases h
end Go.Proofs.YtcdbchifigonpaaDoor

set_option linter.unusedVariables false
set_option linter.unusedSimpArgs false
namespace Go.Proofs.YtcdbchifigonpaaDoor

/-- The bytes of a value that may be none. -/
def maySize (v : V) : Nat := if v.k = 0 then 1 else 3 + v.bytes.length
theorem mayB_length (v : V) : (mayB v).length = maySize v := by
  unfold mayB maySize
  split
  · rfl
  · simp only [valB, List.length_cons, List.length_append, toLe_length]; omega
theorem mayS_flat : ∀ l : List V, (l.map mayB).flatten.length = (l.map maySize).sum
  | [] => rfl
  | v :: l => by simp only [List.map_cons, List.flatten_cons, List.length_append, mayB_length, mayS_flat l, List.sum_cons]
theorem textB_length (s : ByteArray) : (textB s).length = 1 + s.size := by
  simp [textB, Nat.add_comm]
theorem Rq.body_length (q : Rq) : q.body.length = 9 + q.coll.size + q.index.size + q.path.size + (q.vals.map maySize).sum := by
  unfold Rq.body Rq.headB
  rw [List.length_append, mayS_flat]
  simp only [List.length_append, List.length_cons, List.length_nil, textB_length, toLe_length]
  omega
theorem firstMay_all : ∀ {l : List V}, firstMay l = 0 → ∀ v ∈ l, mayGood v = 0
  | [], _, v, h => by cases h
  | x :: l, h, v, hv => by
    unfold firstMay at h
    by_cases hx : mayGood x = 0
    · rw [if_pos hx] at h
      rcases List.mem_cons.1 hv with rfl | hv
      · exact hx
      · exact firstMay_all h v hv
    · rw [if_neg hx] at h; exact absurd h hx
/-- What a written request tells. -/
theorem Rq.put_told {q : Rq} {b : List UInt8} (h : q.put = (b, 0)) : b.length = 17 + q.coll.size + q.index.size + q.path.size + (q.vals.map maySize).sum ∧ (∀ v ∈ q.vals, mayGood v = 0) ∧ q.coll.size ≤ 200 ∧ q.index.size ≤ 200 ∧ q.path.size ≤ 200 ∧ b.length ≤ 12008 := by
  obtain ⟨h1, h2, rfl⟩ := putOf_ok h
  have ha : ¬ q.args := fun ha => by rw [Rq.err, if_pos ha] at h1; cases h1
  rw [Rq.err, if_neg ha] at h1
  have hb := q.body_length
  unfold Rq.args at ha
  rw [frameOf_length]
  refine ⟨by omega, firstMay_all h1, by omega, by omega, by omega, by omega⟩
/-- What a written reply gives when it is read, whatever follows. -/
theorem Rp.put_back {q : Rp} {b : List UInt8} (hf : ∀ v ∈ q.docs, v.fit) (h : q.put = (b, 0)) (t : List UInt8) : getRep (b ++ t) = (q, b.length, 0) ∧ b.length ≤ 12008 := by
  obtain ⟨h1, h2, rfl⟩ := putOf_ok h
  have hp : pRep q.body = some (q, []) := by
    have := pRep_app q [] (Rp.ok_of hf h1)
    rwa [List.append_nil] at this
  refine ⟨?_, by rw [frameOf_length]; omega⟩
  unfold getRep
  rw [getOf_frame h2 hp t, frameOf_length]
theorem Rp.put_split {q : Rp} {b : List UInt8} {e : Int} (h : q.put = (b, e)) (he : e ≠ 0) : b = [] := putOf_bad h he
theorem Rq.put_split {q : Rq} {b : List UInt8} {e : Int} (h : q.put = (b, e)) (he : e ≠ 0) : b = [] := putOf_bad h he
end Go.Proofs.YtcdbchifigonpaaDoor
