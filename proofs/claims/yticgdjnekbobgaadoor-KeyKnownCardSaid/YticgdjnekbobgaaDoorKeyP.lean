/- Keys, plainly: a value's key, the reading of one, what is written is read. No program in sight. -/
import Derived.Test.YticgdjnekbobgaaDoorKeyF
import Derived.Test.YticgdjnekbobgaaDoorPls
set_option linter.unusedVariables false
set_option linter.unusedSimpArgs false
namespace Go.Proofs.YticgdjnekbobgaaDoor
open V

/-- A number's bytes, the highest first. -/
def be (k n : Nat) : List UInt8 := (toLe k n).reverse
/-- A number of bytes, the highest first. -/
def ofBe (l : List UInt8) : Nat := le l.reverse
theorem be_length (k n : Nat) : (be k n).length = k := by rw [be, List.length_reverse, toLe_length]
theorem ofBe_be (k n : Nat) : ofBe (be k n) = n % 256 ^ k := by rw [ofBe, be, List.reverse_reverse, le_toLe]
theorem be_succ (k n : Nat) : be (k + 1) n = UInt8.ofNat (n / 256 ^ k) :: be k n := by rw [be, toLe_succ, List.reverse_append]; rfl
theorem ofBe_lt (l : List UInt8) : ofBe l < 256 ^ l.length := by have := le_lt l.reverse; rwa [List.length_reverse] at this
theorem ofBe_snoc (l : List UInt8) (x : UInt8) : ofBe (l ++ [x]) = x.toNat + 256 * ofBe l := by rw [ofBe, List.reverse_append]; rfl

/-- A float's bits, in order; and back. -/
def turnN (n : Nat) : Nat := if n < 9223372036854775808 then n + 9223372036854775808 else 18446744073709551615 - n
def backN (n : Nat) : Nat := if n < 9223372036854775808 then 18446744073709551615 - n else n - 9223372036854775808
theorem turn_lt (n : Nat) (h : n < 18446744073709551616) : turnN n < 18446744073709551616 := by unfold turnN; split <;> omega
theorem back_turn (n : Nat) (h : n < 18446744073709551616) : backN (turnN n) = n := by unfold turnN backN; repeat' split
                                                                                       all_goals omega
/-- Are the bits no number? -/
def nanB (n : Nat) : Bool := Ieee.double.order n n != some .eq
def i64 (n : Nat) : Int := if n < 9223372036854775808 then (n : Int) else (n : Int) - 18446744073709551616
/-- Bytes whose end is told. -/
def escB : List UInt8 → List UInt8
  | [] => []
  | x :: r => if x = 0 then 0 :: 255 :: escB r else x :: escB r
def esc (b : List UInt8) : List UInt8 := escB b ++ [0, 0]
theorem escB_snoc (b : List UInt8) (x : UInt8) : escB (b ++ [x]) = escB b ++ (if x = 0 then [0, 255] else [x]) := by
  induction b with
  | nil => simp only [List.nil_append, escB]
  | cons y b ih => simp only [List.cons_append, escB, ih]; split <;> simp
theorem escB_length (b : List UInt8) : b.length ≤ (escB b).length ∧ (escB b).length ≤ 2 * b.length := by
  induction b with
  | nil => simp [escB]
  | cons x b ih => simp only [escB]; split <;> simp only [List.length_cons] <;> omega
/-- A number's key, behind its class. -/
def keyInt (n : Nat) : List UInt8 := 1 :: (be 8 (turnN (fl (i64 n)).1) ++ (be 2 (fl (i64 n)).2 ++ [0]))
def keyFloat (n : Nat) : List UInt8 := if nanB n = true then 0 :: be 8 n else 1 :: (be 8 (turnN n) ++ [0, 0, 1])
namespace V
/-- A good value's key. -/
def key : V → List UInt8
  | mk k n b l f =>
    if k = 1 then [16] else if k = 2 then [32, UInt8.ofNat n] else if k = 3 then 48 :: keyInt n else if k = 4 then 48 :: keyFloat n
    else if k = 5 then 64 :: esc b else if k = 6 then 80 :: esc b
    else if k = 7 then 96 :: ((l.attach.map fun x => 1 :: key x.1).flatten ++ [0])
    else if k = 8 then 112 :: ((f.attach.map fun x => 1 :: (esc x.1.1.data.toList ++ key x.1.2)).flatten ++ [0]) else []
termination_by v => SizeOf.sizeOf v
decreasing_by
  · exact sizeOf_l x.2
  · exact sizeOf_f x.2
def keyL (x : V) : List UInt8 := 1 :: key x
def keyFd (x : ByteArray × V) : List UInt8 := 1 :: (esc x.1.data.toList ++ key x.2)
theorem key_mk (k : Int) (n : Nat) (b : List UInt8) (l : List V) (f : List (ByteArray × V)) : (mk k n b l f).key =
    if k = 1 then [16] else if k = 2 then [32, UInt8.ofNat n] else if k = 3 then 48 :: keyInt n else if k = 4 then 48 :: keyFloat n
    else if k = 5 then 64 :: esc b else if k = 6 then 80 :: esc b
    else if k = 7 then 96 :: ((l.map keyL).flatten ++ [0])
    else if k = 8 then 112 :: ((f.map keyFd).flatten ++ [0]) else [] := by
  rw [key]
  have e1 : (l.attach.map fun x => 1 :: key x.1) = l.map keyL := by show l.attach.map (fun x => keyL x.1) = _; simp only [List.map_attach_eq_pmap, List.pmap_eq_map]
  have e2 : (f.attach.map fun x => 1 :: (esc x.1.1.data.toList ++ key x.1.2)) = f.map keyFd := by show f.attach.map (fun x => keyFd x.1) = _; simp only [List.map_attach_eq_pmap, List.pmap_eq_map]
  rw [e1, e2]
end V

/-! The reading. 'st': strictly, as the document's answer does. -/

def unesc (st : Bool) : List UInt8 → Option (List UInt8 × List UInt8)
  | [] => none
  | [_] => none
  | x :: y :: r => if x = 0 then (if y = 255 then (unesc st r).map (fun p => (0 :: p.1, p.2)) else if st = true ∧ y ≠ 0 then none else some ([], r))
      else (unesc st (y :: r)).map (fun p => (x :: p.1, p.2))
abbrev KGot := Option (V × List UInt8)
def kdL (st : Bool) (f : List UInt8 → KGot) : Nat → List UInt8 → Option (List V × List UInt8)
  | 0, _ => none
  | _ + 1, [] => none
  | n + 1, y :: r => if y = 0 then some ([], r) else if st = true ∧ y ≠ 1 then none else
    match f r with
    | none => none
    | some (v, r') => (kdL st f n r').map (fun p => (v :: p.1, p.2))
def kdF (st : Bool) (f : List UInt8 → KGot) : Nat → List UInt8 → Option (List (ByteArray × V) × List UInt8)
  | 0, _ => none
  | _ + 1, [] => none
  | n + 1, y :: r => if y = 0 then some ([], r) else if st = true ∧ y ≠ 1 then none else
    match unesc st r with
    | none => none
    | some (t, r1) => match f r1 with
      | none => none
      | some (v, r') => (kdF st f n r').map (fun p => ((⟨t.toArray⟩, v) :: p.1, p.2))
/-- A number, behind its class. -/
def kdN : List UInt8 → KGot
  | [] => none
  | y :: r =>
    if y = 0 then (if 8 ≤ r.length then some (mk 4 (ofBe (r.take 8)) [] [] [], r.drop 8) else none)
    else if 11 ≤ r.length then
      (if r[10]? = some 1 then some (mk 4 (backN (ofBe (r.take 8))) [] [] [], r.drop 11)
       else if (Ieee.double.order (backN (ofBe (r.take 8))) 14114281232179134464 = some .gt ∨ Ieee.double.order (backN (ofBe (r.take 8))) 14114281232179134464 = some .eq) ∧ Ieee.double.order (backN (ofBe (r.take 8))) 4890909195324358656 = some .lt then
        (match Go.floatToIntVal .f64 (backN (ofBe (r.take 8))) .i64 with
         | some n => some (mk 3 ((n + (ofBe ((r.drop 8).take 2) : Int)) % 18446744073709551616).toNat [] [] [], r.drop 11)
         | none => none)
       else none)
    else none
def kd (st : Bool) : Nat → List UInt8 → KGot
  | 0, _ => none
  | _ + 1, [] => none
  | g + 1, c :: r =>
    if c.toNat = 16 then some (mk 1 0 [] [] [], r)
    else if c.toNat = 32 then (match r with | [] => none | y :: r' => some (mk 2 y.toNat [] [] [], r'))
    else if c.toNat = 48 then kdN r
    else if c.toNat = 64 then (unesc st r).map (fun p => (mk 5 0 p.1 [] [], p.2))
    else if c.toNat = 80 then (unesc st r).map (fun p => (mk 6 0 p.1 [] [], p.2))
    else if c.toNat = 96 then (kdL st (kd st g) (r.length + 1) r).map (fun p => (mk 7 0 [] p.1 [], p.2))
    else if c.toNat = 112 then (kdF st (kd st g) (r.length + 1) r).map (fun p => (mk 8 0 [] [] p.1, p.2))
    else none
theorem kd_cons (st : Bool) (g : Nat) (c : UInt8) (r : List UInt8) : kd st (g + 1) (c :: r) =
    if c.toNat = 16 then some (mk 1 0 [] [] [], r)
    else if c.toNat = 32 then (match r with | [] => none | y :: r' => some (mk 2 y.toNat [] [] [], r'))
    else if c.toNat = 48 then kdN r
    else if c.toNat = 64 then (unesc st r).map (fun p => (mk 5 0 p.1 [] [], p.2))
    else if c.toNat = 80 then (unesc st r).map (fun p => (mk 6 0 p.1 [] [], p.2))
    else if c.toNat = 96 then (kdL st (kd st g) (r.length + 1) r).map (fun p => (mk 7 0 [] p.1 [], p.2))
    else if c.toNat = 112 then (kdF st (kd st g) (r.length + 1) r).map (fun p => (mk 8 0 [] [] p.1, p.2))
    else none := by
  rw [kd.eq_def]

/-! What is written is read. -/

theorem unesc_esc (st : Bool) (b r : List UInt8) : unesc st (esc b ++ r) = some (b, r) := by
  induction b with
  | nil => simp [esc, escB, unesc]
  | cons x b ih =>
    by_cases h : x = 0
    · subst h
      have e : esc (0 :: b) ++ r = 0 :: 255 :: (esc b ++ r) := by simp [esc, escB]
      rw [e, unesc, if_pos rfl, if_pos rfl, ih]; rfl
    · have e : esc (x :: b) ++ r = x :: (esc b ++ r) := by simp [esc, escB, h]
      rw [e]
      obtain ⟨y, t, ht⟩ : ∃ y t, esc b ++ r = y :: t := by
        cases hq : esc b ++ r with
        | nil => simp [esc] at hq
        | cons y t => exact ⟨y, t, rfl⟩
      rw [ht] at ih ⊢
      rw [unesc, if_neg h, ih]; rfl
theorem kdL_all (st : Bool) (f : List UInt8 → KGot) (r : List UInt8) : ∀ (l : List V) (n : Nat), l.length < n → (∀ x ∈ l, ∀ r, f (x.key ++ r) = some (x, r)) →
    kdL st f n ((l.map V.keyL).flatten ++ 0 :: r) = some (l, r)
  | [], n, hn, _ => by
    obtain ⟨n, rfl⟩ : ∃ m, n = m + 1 := ⟨n - 1, by omega⟩
    simp [kdL]
  | x :: l, n, hn, h => by
    obtain ⟨n, rfl⟩ : ∃ m, n = m + 1 := ⟨n - 1, by simp at hn; omega⟩
    have ih := kdL_all st f r l n (by simp at hn; omega) (fun y hy => h y (List.mem_cons_of_mem _ hy))
    have e : ((x :: l).map V.keyL).flatten ++ 0 :: r = 1 :: (x.key ++ ((l.map V.keyL).flatten ++ 0 :: r)) := by simp [V.keyL]
    rw [e, kdL, if_neg (by decide), if_neg (by simp), h x List.mem_cons_self]
    simp only [ih]; rfl
theorem kdF_all (st : Bool) (f : List UInt8 → KGot) (r : List UInt8) : ∀ (l : List (ByteArray × V)) (n : Nat), l.length < n → (∀ x ∈ l, ∀ r, f (x.2.key ++ r) = some (x.2, r)) →
    kdF st f n ((l.map V.keyFd).flatten ++ 0 :: r) = some (l, r)
  | [], n, hn, _ => by
    obtain ⟨n, rfl⟩ : ∃ m, n = m + 1 := ⟨n - 1, by omega⟩
    simp [kdF]
  | x :: l, n, hn, h => by
    obtain ⟨n, rfl⟩ : ∃ m, n = m + 1 := ⟨n - 1, by simp at hn; omega⟩
    have ih := kdF_all st f r l n (by simp at hn; omega) (fun y hy => h y (List.mem_cons_of_mem _ hy))
    have e : ((x :: l).map V.keyFd).flatten ++ 0 :: r = 1 :: (esc x.1.data.toList ++ (x.2.key ++ ((l.map V.keyFd).flatten ++ 0 :: r))) := by simp [V.keyFd]
    rw [e, kdF, if_neg (by decide), if_neg (by simp), unesc_esc]
    simp only
    rw [h x List.mem_cons_self]
    simp only [ih]; rfl
theorem i64_range (n : Nat) (h : n < 18446744073709551616) : -9223372036854775808 ≤ i64 n ∧ i64 n ≤ 9223372036854775807 := by unfold i64; split <;> omega
theorem kdN_int (n : Nat) (r : List UInt8) (h : n < 18446744073709551616) : kdN (keyInt n ++ r) = some (mk 3 n [] [] [], r) := by
  have hi := i64_range n h
  have hc := floor_cases (i64 n) hi.1 hi.2
  unfold keyInt
  obtain ⟨g, hg⟩ : ∃ g, (fl (i64 n)).1 = g := ⟨_, rfl⟩
  obtain ⟨rest, hrest⟩ : ∃ g, (fl (i64 n)).2 = g := ⟨_, rfl⟩
  rw [hg, hrest] at hc ⊢
  have hl := be_length 8 (turnN g)
  have hl2 := be_length 2 rest
  have e : (1 : UInt8) :: (be 8 (turnN g) ++ (be 2 rest ++ [0])) ++ r = 1 :: (be 8 (turnN g) ++ (be 2 rest ++ (0 :: r))) := by simp
  have e10 : (be 8 (turnN g) ++ (be 2 rest ++ (0 :: r)))[10]? = some 0 := by
    rw [List.getElem?_append_right (by omega), hl, List.getElem?_append_right (by omega), hl2]; rfl
  rw [e, kdN, if_neg (by decide), if_pos (by simp only [List.length_append, List.length_cons]; omega), e10, if_neg (by decide), List.take_left' hl, List.drop_left' hl, List.take_left' hl2, ofBe_be, ofBe_be,
    Nat.mod_eq_of_lt (by simpa using turn_lt g hc.bits), Nat.mod_eq_of_lt (show rest < 256 ^ 2 by have := hc.small; omega), back_turn g hc.bits, if_pos ⟨hc.ge, hc.lt⟩, hc.val]
  simp only
  have e3 : (be 8 (turnN g) ++ (be 2 rest ++ (0 :: r))).drop 11 = r := by
    rw [List.drop_append, hl, List.drop_eq_nil_of_le (by omega), List.drop_append, hl2, List.drop_eq_nil_of_le (by omega)]; rfl
  have e4 : ((i64 n - (rest : Int) + (rest : Int)) % 18446744073709551616).toNat = n := by unfold i64; split <;> omega
  rw [e3, e4]
theorem kdN_float (n : Nat) (r : List UInt8) (h : n < 18446744073709551616) : kdN (keyFloat n ++ r) = some (mk 4 n [] [] [], r) := by
  unfold keyFloat
  by_cases hn : nanB n = true
  · rw [if_pos hn, List.cons_append, kdN, if_pos rfl, if_pos (by simp [be_length]), List.take_left' (be_length 8 n), List.drop_left' (be_length 8 n), ofBe_be, Nat.mod_eq_of_lt (by simpa using h)]
  · rw [if_neg hn, List.cons_append, kdN, if_neg (by decide), if_pos (by simp [be_length]; omega)]
    have e : be 8 (turnN n) ++ [0, 0, 1] ++ r = be 8 (turnN n) ++ (0 :: 0 :: 1 :: r) := by simp
    have hl := be_length 8 (turnN n)
    rw [e, if_pos (by rw [List.getElem?_append_right (by omega), hl]; rfl), List.take_left' hl, ofBe_be, Nat.mod_eq_of_lt (by simpa using turn_lt n h), back_turn n h]
    rw [List.drop_append, hl, List.drop_eq_nil_of_le (by omega)]; rfl

theorem keyL_len (l : List V) : l.length ≤ ((l.map V.keyL).flatten).length := by
  induction l with
  | nil => simp
  | cons x l ih => simp only [List.map_cons, List.flatten_cons, List.length_append, V.keyL, List.length_cons]; omega
theorem keyFd_len (l : List (ByteArray × V)) : l.length ≤ ((l.map V.keyFd).flatten).length := by
  induction l with
  | nil => simp
  | cons x l ih => simp only [List.map_cons, List.flatten_cons, List.length_append, V.keyFd, List.length_cons]; omega

/-- A value's key is read as the value. -/
theorem kd_key (st : Bool) (v : V) : ∀ (g : Nat) (r : List UInt8), v.fit → v.formed = true → v.depth ≤ g → kd st (g + 1) (v.key ++ r) = some (v, r) := by
  induction v using V.ind with
  | h k n b l f hl hf =>
    intro g r hfit hfm hde
    rcases formed_cases hfm with h | ⟨n', hn', h⟩ | ⟨n', h⟩ | ⟨n', h⟩ | ⟨b', hb', h⟩ | ⟨b', h⟩ | ⟨l', hl', h⟩ | ⟨f', hf', hnd, h⟩ <;> cases h
    · rw [key_mk, if_pos rfl]; rfl
    · have e : (mk 2 n [] [] []).key ++ r = 32 :: UInt8.ofNat n :: r := by rw [key_mk]; simp
      rw [e, kd_cons, if_neg (by decide), if_pos (by decide)]
      show some (mk 2 (UInt8.ofNat n).toNat [] [] [], r) = _
      rw [ofNat_toNat8 n (by omega)]
    · rw [V.fit] at hfit
      have e : (mk 3 n [] [] []).key ++ r = 48 :: (keyInt n ++ r) := by rw [key_mk]; simp
      rw [e, kd_cons, if_neg (by decide), if_neg (by decide), if_pos (by decide), kdN_int n r hfit.1]
    · rw [V.fit] at hfit
      have e : (mk 4 n [] [] []).key ++ r = 48 :: (keyFloat n ++ r) := by rw [key_mk]; simp
      rw [e, kd_cons, if_neg (by decide), if_neg (by decide), if_pos (by decide), kdN_float n r hfit.1]
    · have e : (mk 5 0 b [] []).key ++ r = 64 :: (esc b ++ r) := by rw [key_mk]; simp
      rw [e, kd_cons, if_neg (by decide), if_neg (by decide), if_neg (by decide), if_pos (by decide), unesc_esc]; rfl
    · have e : (mk 6 0 b [] []).key ++ r = 80 :: (esc b ++ r) := by rw [key_mk]; simp
      rw [e, kd_cons, if_neg (by decide), if_neg (by decide), if_neg (by decide), if_neg (by decide), if_pos (by decide), unesc_esc]; rfl
    · rw [V.fit] at hfit
      obtain ⟨g, rfl⟩ : ∃ g', g = g' + 1 := ⟨g - 1, by rw [depth_list] at hde; omega⟩
      rw [depth_list_le] at hde
      have e : (mk 7 0 [] l []).key ++ r = 96 :: ((l.map V.keyL).flatten ++ 0 :: r) := by rw [key_mk]; simp
      have hlen := keyL_len l
      rw [e, kd_cons, if_neg (by decide), if_neg (by decide), if_neg (by decide), if_neg (by decide), if_neg (by decide), if_pos (by decide),
        kdL_all st _ r l _ (by rw [List.length_append, List.length_cons]; omega) (fun x hx r => hl x hx g r (hfit.2.1 x hx) (hl' x hx) (hde x hx))]; rfl
    · rw [V.fit] at hfit
      obtain ⟨g, rfl⟩ : ∃ g', g = g' + 1 := ⟨g - 1, by rw [depth_doc] at hde; omega⟩
      rw [depth_doc_le] at hde
      have e : (mk 8 0 [] [] f).key ++ r = 112 :: ((f.map V.keyFd).flatten ++ 0 :: r) := by rw [key_mk]; simp
      have hlen := keyFd_len f
      rw [e, kd_cons, if_neg (by decide), if_neg (by decide), if_neg (by decide), if_neg (by decide), if_neg (by decide), if_neg (by decide), if_pos (by decide),
        kdF_all st _ r f _ (by rw [List.length_append, List.length_cons]; omega) (fun x hx r => hf x hx g r (hfit.2.2 x hx) (hf' x hx).2 (hde x hx))]; rfl

/-- What Of tells. -/
def ofK (v : V) : List UInt8 × Int := if v.good ≠ 0 then ([], v.good) else if 96 < v.key.length then ([], 14) else (v.key, 0)
/-- What a reader of keys makes of bytes: the value whose key they are. -/
def backK (kd : List UInt8 → KGot) (b : List UInt8) : Option V :=
  match kd b with
  | none => none
  | some (v, r) => if r = [] ∧ ofK v = (b, 0) then some v else none
theorem ofK_ok {v : V} {b : List UInt8} (h : ofK v = (b, 0)) : v.good = 0 ∧ v.key = b ∧ b.length ≤ 96 := by
  unfold ofK at h
  split at h
  · rename_i hg; exact absurd (Prod.ext_iff.1 h).2 hg
  · split at h
    · cases (Prod.ext_iff.1 h).2
    · rename_i h0 h1
      have e : v.key = b := (Prod.ext_iff.1 h).1
      exact ⟨by omega, e, by rw [← e]; omega⟩
theorem good_parts {v : V} (h : v.good = 0) : v.formed = true ∧ v.depth ≤ 16 := by have := good_iff.1 h; exact ⟨this.1, this.2.2.1⟩
/-- Both readers make the same of bytes. -/
theorem backK_same (g : Nat) (hg : 16 ≤ g) (b : List UInt8) (hfit : ∀ st g v r, kd st g b = some (v, r) → v.fit) : backK (kd false 17) b = backK (kd true (g + 1)) b := by
  have hcomp : ∀ st st' g g', 16 ≤ g' → ∀ v r, kd st g b = some (v, r) → ofK v = (b, 0) → kd st' (g' + 1) b = some (v, []) := by
    intro st st' g g' hg v r hk ho
    obtain ⟨h1, h2, h3⟩ := ofK_ok ho
    have hp := good_parts h1
    have := kd_key st' v g' [] (hfit st g v r hk) hp.1 (by omega)
    rwa [List.append_nil, h2] at this
  have key : ∀ st st' g g', 16 ≤ g → 16 ≤ g' → ∀ v, backK (kd st (g + 1)) b = some v → backK (kd st' (g' + 1)) b = some v := by
    intro st st' g g' hg hg' v h
    unfold backK at h
    split at h
    · cases h
    · rename_i v' r hk
      split at h
      · rename_i hc
        injection h with h
        subst h
        unfold backK
        rw [hcomp st st' (g + 1) g' hg' _ r hk hc.2]
        simp [hc.2]
      · cases h
  cases h1 : backK (kd false 17) b with
  | some v => exact (key false true 16 g (by omega) hg v h1).symm
  | none =>
    cases h2 : backK (kd true (g + 1)) b with
    | none => rfl
    | some v => rw [key true false g 16 hg (by omega) v h2] at h1; cases h1
end Go.Proofs.YticgdjnekbobgaaDoor
