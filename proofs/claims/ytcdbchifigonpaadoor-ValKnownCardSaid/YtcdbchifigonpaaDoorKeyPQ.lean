/- Keys, plainly: a value's key, the reading of one, what is written is read. No program in sight. · Keys, plainly: what is read of any bytes; keys one behind the other; what is above all that begin so. No program in sight. -/
import Derived.Test.YtcdbchifigonpaaDoorKeyF
import Derived.Test.YtcdbchifigonpaaDoorPls
set_option linter.unusedVariables false
set_option linter.unusedSimpArgs false
namespace Go.Proofs.YtcdbchifigonpaaDoor
open V

/-- A number's bytes, the highest first. -/
def be (k n : Nat) : List UInt8 := (toLe k n).reverse
/-- A number of bytes, the highest first. -/
def ofBe (l : List UInt8) : Nat := le l.reverse
theorem be_length (k n : Nat) : (be k n).length = k := by rw [be, List.length_reverse, toLe_length]
theorem ofBe_be (k n : Nat) : ofBe (be k n) = n % 256 ^ k := by rw [ofBe, be, List.reverse_reverse, le_toLe]
theorem be_succ (k n : Nat) : be (k + 1) n = UInt8.ofNat (n / 256 ^ k) :: be k n := by rw [be, toLe_succ, List.reverse_append]; rfl
theorem ofBe_lt (l : List UInt8) : ofBe l < 256 ^ l.length := by have := le_lt l.reverse; rwa [List.length_reverse] at this
theorem ofBe_snoc (l : List UInt8) (x : UInt8) : ofBe (l ++ [x]) = x.toNat + 256 * ofBe l := by rw [ofBe, List.reverse_append]; rfl

/-- A float's bits, in order; and back. -/
def turnN (n : Nat) : Nat := if n < 9223372036854775808 then n + 9223372036854775808 else 18446744073709551615 - n
def backN (n : Nat) : Nat := if n < 9223372036854775808 then 18446744073709551615 - n else n - 9223372036854775808
theorem turn_lt (n : Nat) (h : n < 18446744073709551616) : turnN n < 18446744073709551616 := by unfold turnN; split <;> omega
theorem back_turn (n : Nat) (h : n < 18446744073709551616) : backN (turnN n) = n := by unfold turnN backN; repeat' split
                                                                                       all_goals omega
/-- Are the bits no number? -/
def nanB (n : Nat) : Bool := Ieee.double.order n n != some .eq
def i64 (n : Nat) : Int := if n < 9223372036854775808 then (n : Int) else (n : Int) - 18446744073709551616
/-- Bytes whose end is told. -/
def escB : List UInt8 → List UInt8
  | [] => []
  | x :: r => if x = 0 then 0 :: 255 :: escB r else x :: escB r
def esc (b : List UInt8) : List UInt8 := escB b ++ [0, 0]
theorem escB_snoc (b : List UInt8) (x : UInt8) : escB (b ++ [x]) = escB b ++ (if x = 0 then [0, 255] else [x]) := by
  induction b with
  | nil => simp only [List.nil_append, escB]
  | cons y b ih => simp only [List.cons_append, escB, ih]; split <;> simp
theorem escB_length (b : List UInt8) : b.length ≤ (escB b).length ∧ (escB b).length ≤ 2 * b.length := by
  induction b with
  | nil => simp [escB]
  | cons x b ih => simp only [escB]; split <;> simp only [List.length_cons] <;> omega
/-- A number's key, behind its class. -/
def keyInt (n : Nat) : List UInt8 := 1 :: (be 8 (turnN (fl (i64 n)).1) ++ (be 2 (fl (i64 n)).2 ++ [0]))
def keyFloat (n : Nat) : List UInt8 := if nanB n = true then 0 :: be 8 n else 1 :: (be 8 (turnN n) ++ [0, 0, 1])
namespace V
/-- A good value's key. -/
def key : V → List UInt8
  | mk k n b l f =>
    if k = 1 then [16] else if k = 2 then [32, UInt8.ofNat n] else if k = 3 then 48 :: keyInt n else if k = 4 then 48 :: keyFloat n
    else if k = 5 then 64 :: esc b else if k = 6 then 80 :: esc b
    else if k = 7 then 96 :: ((l.attach.map fun x => 1 :: key x.1).flatten ++ [0])
    else if k = 8 then 112 :: ((f.attach.map fun x => 1 :: (esc x.1.1.data.toList ++ key x.1.2)).flatten ++ [0]) else []
termination_by v => SizeOf.sizeOf v
decreasing_by
  · exact sizeOf_l x.2
  · exact sizeOf_f x.2
def keyL (x : V) : List UInt8 := 1 :: key x
def keyFd (x : ByteArray × V) : List UInt8 := 1 :: (esc x.1.data.toList ++ key x.2)
theorem key_mk (k : Int) (n : Nat) (b : List UInt8) (l : List V) (f : List (ByteArray × V)) : (mk k n b l f).key =
    if k = 1 then [16] else if k = 2 then [32, UInt8.ofNat n] else if k = 3 then 48 :: keyInt n else if k = 4 then 48 :: keyFloat n
    else if k = 5 then 64 :: esc b else if k = 6 then 80 :: esc b
    else if k = 7 then 96 :: ((l.map keyL).flatten ++ [0])
    else if k = 8 then 112 :: ((f.map keyFd).flatten ++ [0]) else [] := by
  rw [key]
  have e1 : (l.attach.map fun x => 1 :: key x.1) = l.map keyL := by show l.attach.map (fun x => keyL x.1) = _; simp only [List.map_attach_eq_pmap, List.pmap_eq_map]
  have e2 : (f.attach.map fun x => 1 :: (esc x.1.1.data.toList ++ key x.1.2)) = f.map keyFd := by show f.attach.map (fun x => keyFd x.1) = _; simp only [List.map_attach_eq_pmap, List.pmap_eq_map]
  rw [e1, e2]
end V

/-! The reading. 'st': strictly, as the document's answer does. -/

def unesc (st : Bool) : List UInt8 → Option (List UInt8 × List UInt8)
  | [] => none
  | [_] => none
  | x :: y :: r => if x = 0 then (if y = 255 then (unesc st r).map (fun p => (0 :: p.1, p.2)) else if st = true ∧ y ≠ 0 then none else some ([], r))
      else (unesc st (y :: r)).map (fun p => (x :: p.1, p.2))
abbrev KGot := Option (V × List UInt8)
def kdL (st : Bool) (f : List UInt8 → KGot) : Nat → List UInt8 → Option (List V × List UInt8)
  | 0, _ => none
  | _ + 1, [] => none
  | n + 1, y :: r => if y = 0 then some ([], r) else if st = true ∧ y ≠ 1 then none else
    match f r with
    | none => none
    | some (v, r') => (kdL st f n r').map (fun p => (v :: p.1, p.2))
def kdF (st : Bool) (f : List UInt8 → KGot) : Nat → List UInt8 → Option (List (ByteArray × V) × List UInt8)
  | 0, _ => none
  | _ + 1, [] => none
  | n + 1, y :: r => if y = 0 then some ([], r) else if st = true ∧ y ≠ 1 then none else
    match unesc st r with
    | none => none
    | some (t, r1) => match f r1 with
      | none => none
      | some (v, r') => (kdF st f n r').map (fun p => ((⟨t.toArray⟩, v) :: p.1, p.2))
/-- A number, behind its class. -/
def kdN : List UInt8 → KGot
  | [] => none
  | y :: r =>
    if y = 0 then (if 8 ≤ r.length then some (mk 4 (ofBe (r.take 8)) [] [] [], r.drop 8) else none)
    else if 11 ≤ r.length then
      (if r[10]? = some 1 then some (mk 4 (backN (ofBe (r.take 8))) [] [] [], r.drop 11)
       else if (Ieee.double.order (backN (ofBe (r.take 8))) 14114281232179134464 = some .gt ∨ Ieee.double.order (backN (ofBe (r.take 8))) 14114281232179134464 = some .eq) ∧ Ieee.double.order (backN (ofBe (r.take 8))) 4890909195324358656 = some .lt then
        (match Go.floatToIntVal .f64 (backN (ofBe (r.take 8))) .i64 with
         | some n => some (mk 3 ((n + (ofBe ((r.drop 8).take 2) : Int)) % 18446744073709551616).toNat [] [] [], r.drop 11)
         | none => none)
       else none)
    else none
def kd (st : Bool) : Nat → List UInt8 → KGot
  | 0, _ => none
  | _ + 1, [] => none
  | g + 1, c :: r =>
    if c.toNat = 16 then some (mk 1 0 [] [] [], r)
    else if c.toNat = 32 then (match r with | [] => none | y :: r' => some (mk 2 y.toNat [] [] [], r'))
    else if c.toNat = 48 then kdN r
    else if c.toNat = 64 then (unesc st r).map (fun p => (mk 5 0 p.1 [] [], p.2))
    else if c.toNat = 80 then (unesc st r).map (fun p => (mk 6 0 p.1 [] [], p.2))
    else if c.toNat = 96 then (kdL st (kd st g) (r.length + 1) r).map (fun p => (mk 7 0 [] p.1 [], p.2))
    else if c.toNat = 112 then (kdF st (kd st g) (r.length + 1) r).map (fun p => (mk 8 0 [] [] p.1, p.2))
    else none
theorem kd_cons (st : Bool) (g : Nat) (c : UInt8) (r : List UInt8) : kd st (g + 1) (c :: r) =
    if c.toNat = 16 then some (mk 1 0 [] [] [], r)
    else if c.toNat = 32 then (match r with | [] => none | y :: r' => some (mk 2 y.toNat [] [] [], r'))
    else if c.toNat = 48 then kdN r
    else if c.toNat = 64 then (unesc st r).map (fun p => (mk 5 0 p.1 [] [], p.2))
    else if c.toNat = 80 then (unesc st r).map (fun p => (mk 6 0 p.1 [] [], p.2))
    else if c.toNat = 96 then (kdL st (kd st g) (r.length + 1) r).map (fun p => (mk 7 0 [] p.1 [], p.2))
    else if c.toNat = 112 then (kdF st (kd st g) (r.length + 1) r).map (fun p => (mk 8 0 [] [] p.1, p.2))
    else none := by
  rw [kd.eq_def]

/-! What is written is read. -/

theorem unesc_esc (st : Bool) (b r : List UInt8) : unesc st (esc b ++ r) = some (b, r) := by
  induction b with
  | nil => simp [esc, escB, unesc]
  | cons x b ih =>
    by_cases h : x = 0
    · subst h
      have e : esc (0 :: b) ++ r = 0 :: 255 :: (esc b ++ r) := by simp [esc, escB]
      rw [e, unesc, if_pos rfl, if_pos rfl, ih]; rfl
    · have e : esc (x :: b) ++ r = x :: (esc b ++ r) := by simp [esc, escB, h]
      rw [e]
      obtain ⟨y, t, ht⟩ : ∃ y t, esc b ++ r = y :: t := by
        cases hq : esc b ++ r with
        | nil => simp [esc] at hq
        | cons y t => exact ⟨y, t, rfl⟩
      rw [ht] at ih ⊢
      rw [unesc, if_neg h, ih]; rfl
theorem kdL_all (st : Bool) (f : List UInt8 → KGot) (r : List UInt8) : ∀ (l : List V) (n : Nat), l.length < n → (∀ x ∈ l, ∀ r, f (x.key ++ r) = some (x, r)) →
    kdL st f n ((l.map V.keyL).flatten ++ 0 :: r) = some (l, r)
  | [], n, hn, _ => by
    obtain ⟨n, rfl⟩ : ∃ m, n = m + 1 := ⟨n - 1, by omega⟩
    simp [kdL]
  | x :: l, n, hn, h => by
    obtain ⟨n, rfl⟩ : ∃ m, n = m + 1 := ⟨n - 1, by simp at hn; omega⟩
    have ih := kdL_all st f r l n (by simp at hn; omega) (fun y hy => h y (List.mem_cons_of_mem _ hy))
    have e : ((x :: l).map V.keyL).flatten ++ 0 :: r = 1 :: (x.key ++ ((l.map V.keyL).flatten ++ 0 :: r)) := by simp [V.keyL]
    rw [e, kdL, if_neg (by decide), if_neg (by simp), h x List.mem_cons_self]
    simp only [ih]; rfl
theorem kdF_all (st : Bool) (f : List UInt8 → KGot) (r : List UInt8) : ∀ (l : List (ByteArray × V)) (n : Nat), l.length < n → (∀ x ∈ l, ∀ r, f (x.2.key ++ r) = some (x.2, r)) →
    kdF st f n ((l.map V.keyFd).flatten ++ 0 :: r) = some (l, r)
  | [], n, hn, _ => by
    obtain ⟨n, rfl⟩ : ∃ m, n = m + 1 := ⟨n - 1, by omega⟩
    simp [kdF]
  | x :: l, n, hn, h => by
    obtain ⟨n, rfl⟩ : ∃ m, n = m + 1 := ⟨n - 1, by simp at hn; omega⟩
    have ih := kdF_all st f r l n (by simp at hn; omega) (fun y hy => h y (List.mem_cons_of_mem _ hy))
    have e : ((x :: l).map V.keyFd).flatten ++ 0 :: r = 1 :: (esc x.1.data.toList ++ (x.2.key ++ ((l.map V.keyFd).flatten ++ 0 :: r))) := by simp [V.keyFd]
    rw [e, kdF, if_neg (by decide), if_neg (by simp), unesc_esc]
    simp only
    rw [h x List.mem_cons_self]
    simp only [ih]; rfl
theorem i64_range (n : Nat) (h : n < 18446744073709551616) : -9223372036854775808 ≤ i64 n ∧ i64 n ≤ 9223372036854775807 := by unfold i64; split <;> omega
theorem kdN_int (n : Nat) (r : List UInt8) (h : n < 18446744073709551616) : kdN (keyInt n ++ r) = some (mk 3 n [] [] [], r) := by
  have hi := i64_range n h
  have hc := floor_cases (i64 n) hi.1 hi.2
  unfold keyInt
  obtain ⟨g, hg⟩ : ∃ g, (fl (i64 n)).1 = g := ⟨_, rfl⟩
  obtain ⟨rest, hrest⟩ : ∃ g, (fl (i64 n)).2 = g := ⟨_, rfl⟩
  rw [hg, hrest] at hc ⊢
  have hl := be_length 8 (turnN g)
  have hl2 := be_length 2 rest
  have e : (1 : UInt8) :: (be 8 (turnN g) ++ (be 2 rest ++ [0])) ++ r = 1 :: (be 8 (turnN g) ++ (be 2 rest ++ (0 :: r))) := by simp
  have e10 : (be 8 (turnN g) ++ (be 2 rest ++ (0 :: r)))[10]? = some 0 := by
    rw [List.getElem?_append_right (by omega), hl, List.getElem?_append_right (by omega), hl2]; rfl
  rw [e, kdN, if_neg (by decide), if_pos (by simp only [List.length_append, List.length_cons]; omega), e10, if_neg (by decide), List.take_left' hl, List.drop_left' hl, List.take_left' hl2, ofBe_be, ofBe_be,
    Nat.mod_eq_of_lt (by simpa using turn_lt g hc.bits), Nat.mod_eq_of_lt (show rest < 256 ^ 2 by have := hc.small; omega), back_turn g hc.bits, if_pos ⟨hc.ge, hc.lt⟩, hc.val]
  simp only
  have e3 : (be 8 (turnN g) ++ (be 2 rest ++ (0 :: r))).drop 11 = r := by
    rw [List.drop_append, hl, List.drop_eq_nil_of_le (by omega), List.drop_append, hl2, List.drop_eq_nil_of_le (by omega)]; rfl
  have e4 : ((i64 n - (rest : Int) + (rest : Int)) % 18446744073709551616).toNat = n := by unfold i64; split <;> omega
  rw [e3, e4]
theorem kdN_float (n : Nat) (r : List UInt8) (h : n < 18446744073709551616) : kdN (keyFloat n ++ r) = some (mk 4 n [] [] [], r) := by
  unfold keyFloat
  by_cases hn : nanB n = true
  · rw [if_pos hn, List.cons_append, kdN, if_pos rfl, if_pos (by simp [be_length]), List.take_left' (be_length 8 n), List.drop_left' (be_length 8 n), ofBe_be, Nat.mod_eq_of_lt (by simpa using h)]
  · rw [if_neg hn, List.cons_append, kdN, if_neg (by decide), if_pos (by simp [be_length]; omega)]
    have e : be 8 (turnN n) ++ [0, 0, 1] ++ r = be 8 (turnN n) ++ (0 :: 0 :: 1 :: r) := by simp
    have hl := be_length 8 (turnN n)
    rw [e, if_pos (by rw [List.getElem?_append_right (by omega), hl]; rfl), List.take_left' hl, ofBe_be, Nat.mod_eq_of_lt (by simpa using turn_lt n h), back_turn n h]
    rw [List.drop_append, hl, List.drop_eq_nil_of_le (by omega)]; rfl

theorem keyL_len (l : List V) : l.length ≤ ((l.map V.keyL).flatten).length := by
  induction l with
  | nil => simp
  | cons x l ih => simp only [List.map_cons, List.flatten_cons, List.length_append, V.keyL, List.length_cons]; omega
theorem keyFd_len (l : List (ByteArray × V)) : l.length ≤ ((l.map V.keyFd).flatten).length := by
  induction l with
  | nil => simp
  | cons x l ih => simp only [List.map_cons, List.flatten_cons, List.length_append, V.keyFd, List.length_cons]; omega

/-- A value's key is read as the value. -/
theorem kd_key (st : Bool) (v : V) : ∀ (g : Nat) (r : List UInt8), v.fit → v.formed = true → v.depth ≤ g → kd st (g + 1) (v.key ++ r) = some (v, r) := by
  induction v using V.ind with
  | h k n b l f hl hf =>
    intro g r hfit hfm hde
    rcases formed_cases hfm with h | ⟨n', hn', h⟩ | ⟨n', h⟩ | ⟨n', h⟩ | ⟨b', hb', h⟩ | ⟨b', h⟩ | ⟨l', hl', h⟩ | ⟨f', hf', hnd, h⟩ <;> cases h
    · rw [key_mk, if_pos rfl]; rfl
    · have e : (mk 2 n [] [] []).key ++ r = 32 :: UInt8.ofNat n :: r := by rw [key_mk]; simp
      rw [e, kd_cons, if_neg (by decide), if_pos (by decide)]
      show some (mk 2 (UInt8.ofNat n).toNat [] [] [], r) = _
      rw [ofNat_toNat8 n (by omega)]
    · rw [V.fit] at hfit
      have e : (mk 3 n [] [] []).key ++ r = 48 :: (keyInt n ++ r) := by rw [key_mk]; simp
      rw [e, kd_cons, if_neg (by decide), if_neg (by decide), if_pos (by decide), kdN_int n r hfit.1]
    · rw [V.fit] at hfit
      have e : (mk 4 n [] [] []).key ++ r = 48 :: (keyFloat n ++ r) := by rw [key_mk]; simp
      rw [e, kd_cons, if_neg (by decide), if_neg (by decide), if_pos (by decide), kdN_float n r hfit.1]
    · have e : (mk 5 0 b [] []).key ++ r = 64 :: (esc b ++ r) := by rw [key_mk]; simp
      rw [e, kd_cons, if_neg (by decide), if_neg (by decide), if_neg (by decide), if_pos (by decide), unesc_esc]; rfl
    · have e : (mk 6 0 b [] []).key ++ r = 80 :: (esc b ++ r) := by rw [key_mk]; simp
      rw [e, kd_cons, if_neg (by decide), if_neg (by decide), if_neg (by decide), if_neg (by decide), if_pos (by decide), unesc_esc]; rfl
    · rw [V.fit] at hfit
      obtain ⟨g, rfl⟩ : ∃ g', g = g' + 1 := ⟨g - 1, by rw [depth_list] at hde; omega⟩
      rw [depth_list_le] at hde
      have e : (mk 7 0 [] l []).key ++ r = 96 :: ((l.map V.keyL).flatten ++ 0 :: r) := by rw [key_mk]; simp
      have hlen := keyL_len l
      rw [e, kd_cons, if_neg (by decide), if_neg (by decide), if_neg (by decide), if_neg (by decide), if_neg (by decide), if_pos (by decide),
        kdL_all st _ r l _ (by rw [List.length_append, List.length_cons]; omega) (fun x hx r => hl x hx g r (hfit.2.1 x hx) (hl' x hx) (hde x hx))]; rfl
    · rw [V.fit] at hfit
      obtain ⟨g, rfl⟩ : ∃ g', g = g' + 1 := ⟨g - 1, by rw [depth_doc] at hde; omega⟩
      rw [depth_doc_le] at hde
      have e : (mk 8 0 [] [] f).key ++ r = 112 :: ((f.map V.keyFd).flatten ++ 0 :: r) := by rw [key_mk]; simp
      have hlen := keyFd_len f
      rw [e, kd_cons, if_neg (by decide), if_neg (by decide), if_neg (by decide), if_neg (by decide), if_neg (by decide), if_neg (by decide), if_pos (by decide),
        kdF_all st _ r f _ (by rw [List.length_append, List.length_cons]; omega) (fun x hx r => hf x hx g r (hfit.2.2 x hx) (hf' x hx).2 (hde x hx))]; rfl

/-- What Of tells. -/
def ofK (v : V) : List UInt8 × Int := if v.good ≠ 0 then ([], v.good) else if 96 < v.key.length then ([], 14) else (v.key, 0)
/-- What a reader of keys makes of bytes: the value whose key they are. -/
def backK (kd : List UInt8 → KGot) (b : List UInt8) : Option V :=
  match kd b with
  | none => none
  | some (v, r) => if r = [] ∧ ofK v = (b, 0) then some v else none
theorem ofK_ok {v : V} {b : List UInt8} (h : ofK v = (b, 0)) : v.good = 0 ∧ v.key = b ∧ b.length ≤ 96 := by
  unfold ofK at h
  split at h
  · rename_i hg; exact absurd (Prod.ext_iff.1 h).2 hg
  · split at h
    · cases (Prod.ext_iff.1 h).2
    · rename_i h0 h1
      have e : v.key = b := (Prod.ext_iff.1 h).1
      exact ⟨by omega, e, by rw [← e]; omega⟩
theorem good_parts {v : V} (h : v.good = 0) : v.formed = true ∧ v.depth ≤ 16 := by have := good_iff.1 h; exact ⟨this.1, this.2.2.1⟩
/-- Both readers make the same of bytes. -/
theorem backK_same (g : Nat) (hg : 16 ≤ g) (b : List UInt8) (hfit : ∀ st g v r, kd st g b = some (v, r) → v.fit) : backK (kd false 17) b = backK (kd true (g + 1)) b := by
  have hcomp : ∀ st st' g g', 16 ≤ g' → ∀ v r, kd st g b = some (v, r) → ofK v = (b, 0) → kd st' (g' + 1) b = some (v, []) := by
    intro st st' g g' hg v r hk ho
    obtain ⟨h1, h2, h3⟩ := ofK_ok ho
    have hp := good_parts h1
    have := kd_key st' v g' [] (hfit st g v r hk) hp.1 (by omega)
    rwa [List.append_nil, h2] at this
  have key : ∀ st st' g g', 16 ≤ g → 16 ≤ g' → ∀ v, backK (kd st (g + 1)) b = some v → backK (kd st' (g' + 1)) b = some v := by
    intro st st' g g' hg hg' v h
    unfold backK at h
    split at h
    · cases h
    · rename_i v' r hk
      split at h
      · rename_i hc
        injection h with h
        subst h
        unfold backK
        rw [hcomp st st' (g + 1) g' hg' _ r hk hc.2]
        simp [hc.2]
      · cases h
  cases h1 : backK (kd false 17) b with
  | some v => exact (key false true 16 g (by omega) hg v h1).symm
  | none =>
    cases h2 : backK (kd true (g + 1)) b with
    | none => rfl
    | some v => rw [key true false g 16 hg (by omega) v h2] at h1; cases h1
end Go.Proofs.YtcdbchifigonpaaDoor

set_option linter.unusedVariables false
set_option linter.unusedSimpArgs false
namespace Go.Proofs.YtcdbchifigonpaaDoor
open V

theorem unesc_tail (st : Bool) (b : List UInt8) : ∀ t r, unesc st b = some (t, r) → ∃ p, b = p ++ r ∧ 2 ≤ p.length ∧ t.length ≤ p.length := by
  fun_induction unesc st b with
  | case1 => intro t r h; cases h
  | case2 => intro t r h; cases h
  | case3 r ih =>
    intro t r' h
    rw [Option.map_eq_some_iff] at h
    obtain ⟨⟨t1, r1⟩, h1, h2⟩ := h
    obtain ⟨p, h3, h4, h5⟩ := ih _ _ h1
    injection h2 with h2 h6
    subst h2 h6
    exact ⟨_ :: _ :: p, by rw [h3]; rfl, by simp, by simp; omega⟩
  | case4 => intro t r' h; cases h
  | case5 y r h1 h2 =>
    intro t r' h
    injection h with h
    injection h with h3 h4
    subst h3 h4
    exact ⟨[_, _], rfl, by simp, by simp⟩
  | case6 x y r hx ih =>
    intro t r' h
    rw [Option.map_eq_some_iff] at h
    obtain ⟨⟨t1, r1⟩, h1, h2⟩ := h
    obtain ⟨p, h3, h4, h5⟩ := ih _ _ h1
    injection h2 with h2 h6
    subst h2 h6
    exact ⟨_ :: p, by rw [h3]; rfl, by simp; omega, by simp; omega⟩

theorem kdL_tail {st : Bool} {f : List UInt8 → KGot} {Q : V → Prop} (hf : ∀ bs v r, f bs = some (v, r) → (∃ p, bs = p ++ r) ∧ Q v) : ∀ (n : Nat) (bs : List UInt8) (l : List V) (r : List UInt8), kdL st f n bs = some (l, r) →
    (∃ p, bs = p ++ r ∧ l.length + 1 ≤ p.length) ∧ ∀ x ∈ l, Q x
  | 0, bs, l, r, h => by cases h
  | n + 1, [], l, r, h => by cases h
  | n + 1, y :: bs, l, r, h => by
    rw [kdL] at h
    split at h
    · injection h with h; injection h with h1 h2; subst h1 h2; exact ⟨⟨[y], rfl, by simp⟩, by simp⟩
    · split at h
      · cases h
      · split at h
        · cases h
        · rename_i v r' hv
          rw [Option.map_eq_some_iff] at h
          obtain ⟨⟨l1, r1⟩, h1, h2⟩ := h
          injection h2 with h2 h3
          subst h2 h3
          obtain ⟨⟨p, hp⟩, hq⟩ := hf _ _ _ hv
          obtain ⟨⟨p2, hp2, hl2⟩, hQ⟩ := kdL_tail hf n r' l1 r1 h1
          refine ⟨⟨y :: (p ++ p2), ?_, ?_⟩, ?_⟩
          · rw [hp, hp2]; simp
          · simp only [List.length_cons, List.length_append]; omega
          · intro x hx
            rcases List.mem_cons.1 hx with rfl | hx
            · exact hq
            · exact hQ x hx
theorem kdF_tail {st : Bool} {f : List UInt8 → KGot} {Q : V → Prop} (hf : ∀ bs v r, f bs = some (v, r) → (∃ p, bs = p ++ r) ∧ Q v) : ∀ (n : Nat) (bs : List UInt8) (l : List (ByteArray × V)) (r : List UInt8), kdF st f n bs = some (l, r) →
    (∃ p, bs = p ++ r ∧ l.length + 1 ≤ p.length) ∧ ∀ x ∈ l, Q x.2
  | 0, bs, l, r, h => by cases h
  | n + 1, [], l, r, h => by cases h
  | n + 1, y :: bs, l, r, h => by
    rw [kdF] at h
    split at h
    · injection h with h; injection h with h1 h2; subst h1 h2; exact ⟨⟨[y], rfl, by simp⟩, by simp⟩
    · split at h
      · cases h
      · split at h
        · cases h
        · rename_i t r0 ht
          split at h
          · cases h
          · rename_i v r' hv
            rw [Option.map_eq_some_iff] at h
            obtain ⟨⟨l1, r1⟩, h1, h2⟩ := h
            injection h2 with h2 h3
            subst h2 h3
            obtain ⟨p0, hp0, hl0, _⟩ := unesc_tail _ _ _ _ ht
            obtain ⟨⟨p, hp⟩, hq⟩ := hf _ _ _ hv
            obtain ⟨⟨p2, hp2, hl2⟩, hQ⟩ := kdF_tail hf n r' l1 r1 h1
            refine ⟨⟨y :: (p0 ++ (p ++ p2)), ?_, ?_⟩, ?_⟩
            · rw [hp0, hp, hp2]; simp
            · simp only [List.length_cons, List.length_append]; omega
            · intro x hx
              rcases List.mem_cons.1 hx with rfl | hx
              · exact hq
              · exact hQ x hx
theorem ofBe8 (l : List UInt8) (h : 8 ≤ l.length) : ofBe (l.take 8) < 18446744073709551616 := by
  have := ofBe_lt (l.take 8)
  rw [List.length_take, Nat.min_eq_left h] at this
  simpa using this
theorem backN_lt (n : Nat) (h : n < 18446744073709551616) : backN n < 18446744073709551616 := by unfold backN; split <;> omega
theorem kdN_tail {bs : List UInt8} {v : V} {r : List UInt8} (h : kdN bs = some (v, r)) : (∃ p, bs = p ++ r ∧ 1 ≤ p.length) ∧ v.fit := by
  cases bs with
  | nil => cases h
  | cons y b =>
    rw [kdN] at h
    have hd : ∀ k, ∃ p, y :: b = p ++ b.drop k ∧ 1 ≤ p.length := fun k => ⟨y :: b.take k, by rw [List.cons_append, List.take_append_drop], by simp⟩
    split at h
    · split at h
      · rename_i hl
        injection h with h; injection h with h1 h2; subst h1 h2
        exact ⟨hd 8, by rw [V.fit]; exact ⟨ofBe8 b hl, by simp, by simp⟩⟩
      · cases h
    · split at h
      · rename_i hl
        split at h
        · injection h with h; injection h with h1 h2; subst h1 h2
          exact ⟨hd 11, by rw [V.fit]; exact ⟨backN_lt _ (ofBe8 b (by omega)), by simp, by simp⟩⟩
        · split at h
          · split at h
            · injection h with h; injection h with h1 h2; subst h1 h2
              exact ⟨hd 11, by rw [V.fit]; exact ⟨by omega, by simp, by simp⟩⟩
            · cases h
          · cases h
      · cases h
theorem kd_tail (st : Bool) (g : Nat) : ∀ (bs : List UInt8) (v : V) (r : List UInt8), kd st g bs = some (v, r) → (∃ p, bs = p ++ r ∧ 1 ≤ p.length) ∧ v.fit := by
  induction g with
  | zero => intro bs v r h; cases bs <;> cases h
  | succ g ih =>
    intro bs v r h
    cases bs with
    | nil => cases h
    | cons c b =>
      rw [kd_cons] at h
      have h0 : ∀ {p : List UInt8}, b = p ++ r → ∃ p, c :: b = p ++ r ∧ 1 ≤ p.length := fun {p} e => ⟨c :: p, by rw [e]; rfl, by simp⟩
      split at h
      · injection h with h; injection h with h1 h2; subst h1 h2
        exact ⟨⟨[c], rfl, by simp⟩, by rw [V.fit]; simp⟩
      split at h
      · cases b with
        | nil => cases h
        | cons y b =>
          injection h with h; injection h with h1 h2; subst h1 h2
          exact ⟨⟨[c, y], rfl, by simp⟩, by rw [V.fit]; have := y.toNat_lt; simp; omega⟩
      split at h
      · obtain ⟨⟨p, hp, _⟩, hfit⟩ := kdN_tail h
        exact ⟨h0 hp, hfit⟩
      split at h
      · rw [Option.map_eq_some_iff] at h
        obtain ⟨⟨t, r1⟩, h1, h2⟩ := h
        obtain ⟨p, hp, _⟩ := unesc_tail _ _ _ _ h1
        injection h2 with h2 h3; subst h2 h3
        exact ⟨h0 hp, by rw [V.fit]; simp⟩
      split at h
      · rw [Option.map_eq_some_iff] at h
        obtain ⟨⟨t, r1⟩, h1, h2⟩ := h
        obtain ⟨p, hp, _⟩ := unesc_tail _ _ _ _ h1
        injection h2 with h2 h3; subst h2 h3
        exact ⟨h0 hp, by rw [V.fit]; simp⟩
      have ih' : ∀ bs v r, kd st g bs = some (v, r) → (∃ p, bs = p ++ r) ∧ v.fit := fun bs v r h => by
        obtain ⟨⟨p, hp, _⟩, hf⟩ := ih bs v r h
        exact ⟨⟨p, hp⟩, hf⟩
      split at h
      · rw [Option.map_eq_some_iff] at h
        obtain ⟨⟨t, r1⟩, h1, h2⟩ := h
        obtain ⟨⟨p, hp, _⟩, hq⟩ := kdL_tail (Q := V.fit) ih' _ _ _ _ h1
        injection h2 with h2 h3; subst h2 h3
        exact ⟨h0 hp, by rw [V.fit]; exact ⟨by omega, hq, by simp⟩⟩
      split at h
      · rw [Option.map_eq_some_iff] at h
        obtain ⟨⟨t, r1⟩, h1, h2⟩ := h
        obtain ⟨⟨p, hp, _⟩, hq⟩ := kdF_tail (Q := V.fit) ih' _ _ _ _ h1
        injection h2 with h2 h3; subst h2 h3
        exact ⟨h0 hp, by rw [V.fit]; exact ⟨by omega, by simp, hq⟩⟩
      · cases h

/-! Keys one behind the other. -/

def flip1 (x : UInt8) : UInt8 := UInt8.ofNat (255 - x.toNat)
theorem flip1_flip1 (x : UInt8) : flip1 (flip1 x) = x := by
  apply UInt8.toNat_inj.1
  have := x.toNat_lt
  unfold flip1
  rw [UInt8.toNat_ofNat', UInt8.toNat_ofNat']; omega
/-- The bytes, turned where t says so. -/
def flip (t : Bool) (b : List UInt8) : List UInt8 := if t = true then b.map flip1 else b
theorem flip_flip (t : Bool) (b : List UInt8) : flip t (flip t b) = b := by
  unfold flip
  split
  · rw [List.map_map]; conv => rhs; rw [← List.map_id b]
    congr 1; funext x; exact flip1_flip1 x
  · rfl
theorem flip_append (t : Bool) (a b : List UInt8) : flip t (a ++ b) = flip t a ++ flip t b := by unfold flip; split <;> simp
theorem flip_length (t : Bool) (b : List UInt8) : (flip t b).length = b.length := by unfold flip; split <;> simp
/-- The first fault of values. -/
def allE : List V → Int
  | [] => 0
  | v :: l => if (ofK v).2 ≠ 0 then (ofK v).2 else allE l
def allB : List V → List Bool → List UInt8
  | v :: l, t :: ts => flip t v.key ++ allB l ts
  | _, _ => []
/-- What All tells. -/
def allK (l : List V) (ts : List Bool) : List UInt8 × Int :=
  if l.length ≠ ts.length then ([], 1) else if allE l ≠ 0 then ([], allE l) else if 96 < (allB l ts).length then ([], 14) else (allB l ts, 0)
/-- Keys read one behind the other. -/
def partsRd (kd : List UInt8 → KGot) : List Bool → List UInt8 → Option (List V × List UInt8)
  | [], b => some ([], b)
  | t :: ts, b => match kd (flip t b) with
    | none => none
    | some (v, r) => (partsRd kd ts (flip t r)).map fun p => (v :: p.1, p.2)
/-- What Parts makes of bytes. -/
def partsK (kd : List UInt8 → KGot) (ts : List Bool) (b : List UInt8) : Option (List V) :=
  match partsRd kd ts b with
  | none => none
  | some (l, r) => if r = [] ∧ allK l ts = (b, 0) then some l else none
theorem ofK_good {v : V} (h : (ofK v).2 = 0) : v.good = 0 ∧ v.key.length ≤ 96 := by
  unfold ofK at h
  split at h
  · rename_i h0; exact absurd h h0
  · split at h
    · cases h
    · exact ⟨by omega, by omega⟩
theorem allE_ok : ∀ {l : List V}, allE l = 0 → ∀ v ∈ l, (ofK v).2 = 0
  | [], _, v, hv => by cases hv
  | x :: l, h, v, hv => by
    rw [allE] at h
    split at h
    · rename_i h0; exact absurd h h0
    · rcases List.mem_cons.1 hv with rfl | hv
      · rename_i h0; simpa using h0
      · exact allE_ok h v hv
theorem allK_ok {l : List V} {ts : List Bool} {b : List UInt8} (h : allK l ts = (b, 0)) : l.length = ts.length ∧ (∀ v ∈ l, v.good = 0) ∧ allB l ts = b ∧ b.length ≤ 96 := by
  unfold allK at h
  split at h
  · cases (Prod.ext_iff.1 h).2
  split at h
  · rename_i h0; exact absurd (Prod.ext_iff.1 h).2 h0
  split at h
  · cases (Prod.ext_iff.1 h).2
  · rename_i h0 h1 h2
    have e : allB l ts = b := (Prod.ext_iff.1 h).1
    exact ⟨by omega, fun v hv => (ofK_good (allE_ok (by omega) v hv)).1, e, by rw [← e]; omega⟩
theorem partsRd_all (st : Bool) (g : Nat) (hg : 16 ≤ g) (r : List UInt8) : ∀ (l : List V) (ts : List Bool), l.length = ts.length → (∀ v ∈ l, v.good = 0 ∧ v.fit) →
    partsRd (kd st (g + 1)) ts (allB l ts ++ r) = some (l, r)
  | [], [], _, _ => rfl
  | [], _ :: _, h, _ => by cases h
  | _ :: _, [], h, _ => by cases h
  | v :: l, t :: ts, h, hv => by
    have hp := good_parts (hv v List.mem_cons_self).1
    have ih := partsRd_all st g hg r l ts (by simpa using h) (fun x hx => hv x (List.mem_cons_of_mem _ hx))
    rw [partsRd, allB, List.append_assoc, flip_append, flip_flip, kd_key st v g _ (hv v List.mem_cons_self).2 hp.1 (by omega)]
    simp only [flip_flip, ih]; rfl
theorem partsRd_fit {st : Bool} {g : Nat} : ∀ {ts : List Bool} {b : List UInt8} {l : List V} {r : List UInt8}, partsRd (kd st g) ts b = some (l, r) → ∀ v ∈ l, v.fit
  | [], b, l, r, h, v, hv => by injection h with h; injection h with h1 h2; subst h1; cases hv
  | t :: ts, b, l, r, h, v, hv => by
    rw [partsRd] at h
    split at h
    · cases h
    · rename_i x r1 hx
      rw [Option.map_eq_some_iff] at h
      obtain ⟨⟨l1, r2⟩, h1, h2⟩ := h
      injection h2 with h2 h3; subst h2 h3
      rcases List.mem_cons.1 hv with rfl | hv
      · exact (kd_tail _ _ _ _ _ hx).2
      · exact partsRd_fit h1 v hv
/-- What is read and told again, whatever is left, is all there is. -/
theorem partsK_of {st : Bool} {g : Nat} {ts : List Bool} {b : List UInt8} {l : List V} {r : List UInt8} (h : partsRd (kd st g) ts b = some (l, r)) (hk : allK l ts = (b, 0)) (st' : Bool) (g' : Nat) (hg : 16 ≤ g') :
    partsRd (kd st' (g' + 1)) ts b = some (l, []) := by
  obtain ⟨h1, h2, h3, h4⟩ := allK_ok hk
  have := partsRd_all st' g' hg [] l ts h1 (fun v hv => ⟨h2 v hv, partsRd_fit h v hv⟩)
  rwa [List.append_nil, h3] at this
theorem partsK_same (g : Nat) (hg : 16 ≤ g) (ts : List Bool) (b : List UInt8) : partsK (kd false 17) ts b = partsK (kd true (g + 1)) ts b := by
  have key : ∀ st st' g g', 16 ≤ g' → ∀ l, partsK (kd st g) ts b = some l → partsK (kd st' (g' + 1)) ts b = some l := by
    intro st st' g g' hg' l h
    unfold partsK at h
    split at h
    · cases h
    · rename_i l' r hk
      split at h
      · rename_i hc
        injection h with h
        subst h
        unfold partsK
        rw [partsK_of hk hc.2 st' g' hg']
        simp [hc.2]
      · cases h
  cases h1 : partsK (kd false 17) ts b with
  | some v => exact (key false true 17 g hg v h1).symm
  | none =>
    cases h2 : partsK (kd true (g + 1)) ts b with
    | none => rfl
    | some v => rw [key true false (g + 1) 16 (by omega) v h2] at h1; cases h1
/-- One key. -/
theorem allK_one (v : V) : allK [v] [false] = ofK v := by
  have e : allB [v] [false] = v.key := by simp [allB, flip]
  have e2 : allE [v] = (ofK v).2 := by
    unfold allE allE
    split
    · rfl
    · rename_i h; exact (Decidable.of_not_not h).symm
  unfold allK
  rw [if_neg (by simp), e, e2]
  by_cases h0 : (ofK v).2 = 0
  · have hg := ofK_good h0
    have : ofK v = (v.key, 0) := by unfold ofK; rw [if_neg (by omega), if_neg (by omega)]
    rw [this, if_neg (by simp), if_neg (by omega)]
  · rw [if_pos h0]
    unfold ofK at h0 ⊢
    split
    · rfl
    · rename_i h1
      rw [if_neg h1] at h0
      split
      · rfl
      · rename_i h2; rw [if_neg h2] at h0; exact absurd rfl h0
theorem partsK_one (kd : List UInt8 → KGot) (b : List UInt8) : partsK kd [false] b = (backK kd b).map fun v => [v] := by
  unfold partsK backK
  simp only [partsRd, flip]
  cases hk : kd b with
  | none => simp [hk]
  | some p =>
    obtain ⟨v, r⟩ := p
    simp only [Bool.false_eq_true, if_false, hk, Option.map_some, allK_one]
    split <;> rfl

/-! What is above all that begin so. -/

/-- The bytes without the 255s at their end. -/
def strip (b : List UInt8) : List UInt8 := (b.reverse.dropWhile (· == 255)).reverse
/-- The last byte one higher. -/
def bump : List UInt8 → List UInt8
  | [] => []
  | [x] => [UInt8.ofNat (x.toNat + 1)]
  | x :: r => x :: bump r
def afterK (b : List UInt8) : List UInt8 × Bool := if strip b = [] then ([], false) else (bump (strip b), true)
end Go.Proofs.YtcdbchifigonpaaDoor
