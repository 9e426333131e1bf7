/- The plain functions: what the program and the document's answer compute, in plain Lean. No program in sight. -/
import Derived.Test.YtojpeiihkjpeoaaDoorBase
import Derived.Laws.BitsAllLaws
import Derived.Laws.Bits64
import Derived.Lib.ValidU
namespace Go.Proofs.YtojpeiihkjpeoaaDoor
open Go.RowKit

/-- A number of bytes, the lowest first. -/
def le : List UInt8 → Nat
  | [] => 0
  | x :: r => x.toNat + 256 * le r
/-- A number's bytes, the lowest first. -/
def toLe (k n : Nat) : List UInt8 := (List.range k).map fun i => UInt8.ofNat (n / 256 ^ i)

theorem le_lt : ∀ (l : List UInt8), le l < 256 ^ l.length
  | [] => by simp [le]
  | x :: r => by
    have := le_lt r
    have := x.toNat_lt
    simp only [le, List.length_cons, Nat.pow_succ]
    omega
theorem le_snoc : ∀ (l : List UInt8) (x : UInt8), le (l ++ [x]) = le l + x.toNat * 256 ^ l.length
  | [], x => by simp [le]
  | y :: r, x => by
    simp only [List.cons_append, le, le_snoc r x, List.length_cons, Nat.pow_succ]
    rw [Nat.mul_add, ← Nat.add_assoc]
    congr 1
    rw [Nat.mul_comm 256, Nat.mul_assoc]
theorem le_cons (x : UInt8) (r : List UInt8) : le (x :: r) = x.toNat + 256 * le r := rfl
theorem toLe_length (k n : Nat) : (toLe k n).length = k := by simp [toLe]
theorem toLe_succ (k n : Nat) : toLe (k + 1) n = toLe k n ++ [UInt8.ofNat (n / 256 ^ k)] := by simp [toLe, List.range_succ]
theorem toLe_zero (n : Nat) : toLe 0 n = [] := rfl
theorem le_toLe (k n : Nat) : le (toLe k n) = n % 256 ^ k := by
  induction k with
  | zero => simp [toLe, le, Nat.mod_one]
  | succ k ih =>
    rw [toLe_succ, le_snoc, ih, toLe_length, Nat.pow_succ, UInt8.toNat_ofNat', Nat.mod_mul]
    rw [Nat.mul_comm (256 ^ k)]
theorem take_snoc {α : Type} (l : List α) (k : Nat) (h : k < l.length) : l.take (k + 1) = l.take k ++ [l[k]] := List.take_succ_eq_append_getElem h

theorem pow256 (j : Nat) : (2 : Nat) ^ (8 * j) = 256 ^ j := by rw [Nat.pow_mul]
theorem pow256_le (j : Nat) (h : j ≤ 8) : (256 : Nat) ^ j ≤ 18446744073709551616 := by
  have : (256 : Nat) ^ j ≤ 256 ^ 8 := Nat.pow_le_pow_right (by omega) h
  simpa using this

/-- One byte more above: 'n |= uint64(x) << (8 * i)'. -/
theorem word_step (L x j : Nat) (hj : j < 8) (hL : L < 256 ^ j) (hx : x < 256) :
    bits .or .u64 (L : Int) (IntKind.u64.wrap ((x : Int) * 2 ^ (8 * j))) = ((L + x * 256 ^ j : Nat) : Int) := by
  have hp : x * 256 ^ j < 18446744073709551616 := by
    have h1 : x * 256 ^ j < 256 * 256 ^ j := Nat.mul_lt_mul_of_pos_right hx (Nat.pow_pos (by omega))
    have h2 := pow256_le (j + 1) (by omega)
    rw [Nat.pow_succ] at h2; omega
  have hL2 : L < 18446744073709551616 := by have := pow256_le j (by omega); omega
  have e : (x : Int) * 2 ^ (8 * j) = ((x * 256 ^ j : Nat) : Int) := by rw [← pow256]; push_cast; rfl
  rw [e, IntKind.wrap_u64, Int.emod_eq_of_lt (by omega) (by omega), u64_or_nat _ _ hL2 hp]
  congr 1
  rw [Nat.or_comm, nat_join (8 * j) (x * 256 ^ j) L (by rw [pow256]; exact Nat.mul_mod_left _ _) (by rw [pow256]; exact hL), Nat.add_comm]

/-- One byte more below: 'n = n<<8 | uint64(x)'. -/
theorem word_down (L x j : Nat) (hj : j < 8) (hL : L < 256 ^ j) (hx : x < 256) :
    bits .or .u64 (IntKind.u64.wrap ((L : Int) * 256)) (x : Int) = ((x + 256 * L : Nat) : Int) := by
  have hp : L * 256 < 18446744073709551616 := by
    have h2 := pow256_le (j + 1) (by omega)
    rw [Nat.pow_succ] at h2; omega
  have e : (L : Int) * 256 = ((L * 256 : Nat) : Int) := (Int.natCast_mul L 256).symm
  rw [e, IntKind.wrap_u64, Int.emod_eq_of_lt (by omega) (by omega), u64_or_nat _ _ hp (by omega)]
  congr 1
  rw [nat_join 8 (L * 256) x (by rw [show (2 : Nat) ^ 8 = 256 from rfl]; exact Nat.mul_mod_left _ _) (by rw [show (2 : Nat) ^ 8 = 256 from rfl]; exact hx)]
  omega

theorem byte_of (n j : Nat) : ((UInt8.ofNat (n / 256 ^ j)).toNat : Int) = ((n / 256 ^ j % 256 : Nat) : Int) := by rw [UInt8.toNat_ofNat']

/-! The values. -/

theorem foldl_max_take {α : Type} (g : α → Nat) (l : List α) (m k : Nat) (h : k < l.length) : ((l.take (k + 1)).map g).foldl max m = max (((l.take k).map g).foldl max m) (g l[k]) := by
  rw [take_snoc l k h, List.map_append, List.foldl_append]; rfl
theorem foldl_max_le (l : List Nat) (m k : Nat) : l.foldl max m ≤ k ↔ m ≤ k ∧ ∀ x ∈ l, x ≤ k := by
  induction l generalizing m with
  | nil => simp
  | cons y l ih =>
    simp only [List.foldl_cons, ih, List.mem_cons, forall_eq_or_imp]
    constructor
    · rintro ⟨h1, h2⟩; exact ⟨by omega, by omega, h2⟩
    · rintro ⟨h1, h2, h3⟩; exact ⟨by omega, h3⟩

theorem flat_take {α : Type} (g : α → List UInt8) (l : List α) (j : Nat) (h : j < l.length) : ((l.take (j + 1)).map g).flatten = ((l.take j).map g).flatten ++ g l[j] := by
  rw [take_snoc l j h, List.map_append, List.flatten_append]; simp only [List.map_cons, List.map_nil, List.flatten_cons, List.flatten_nil, List.append_nil]
theorem flat_le {α : Type} (g : α → List UInt8) (l : List α) (j : Nat) : ((l.take j).map g).flatten.length ≤ (l.map g).flatten.length := by
  have : l.map g = (l.take j).map g ++ (l.drop j).map g := by rw [← List.map_append, List.take_append_drop]
  rw [this, List.flatten_append, List.length_append]; omega
theorem flat_mem {α : Type} (g : α → List UInt8) (l : List α) (x : α) (h : x ∈ l) : (g x).length ≤ (l.map g).flatten.length := by
  obtain ⟨a, b, rfl⟩ := List.append_of_mem h
  simp; omega
theorem attach_all {α : Type} (l : List α) (p : α → Bool) : (l.attach.all fun x => p x.1) = l.all p := by rw [Bool.eq_iff_iff]; simp
namespace V
/-- How many parts, by all ways. -/
def count : V → Nat
  | mk _ _ _ l f => 1 + (l.attach.map fun x => count x.1).sum + (f.attach.map fun x => count x.1.2).sum
termination_by v => SizeOf.sizeOf v
decreasing_by
  · exact sizeOf_l x.2
  · exact sizeOf_f x.2
theorem count_mk (k : Int) (n : Nat) (b : List UInt8) (l : List V) (f : List (ByteArray × V)) : (mk k n b l f).count = 1 + (l.map count).sum + (f.map fun x => x.2.count).sum := by
  rw [count]; simp only [List.map_attach_eq_pmap, List.pmap_eq_map]

/-- The most values or fields of one within. -/
def most : V → Nat
  | mk _ _ _ l f => (f.attach.map fun x => most x.1.2).foldl max ((l.attach.map fun x => most x.1).foldl max (max l.length f.length))
termination_by v => SizeOf.sizeOf v
decreasing_by
  · exact sizeOf_l x.2
  · exact sizeOf_f x.2
theorem most_mk (k : Int) (n : Nat) (b : List UInt8) (l : List V) (f : List (ByteArray × V)) : (mk k n b l f).most = (f.map fun x => x.2.most).foldl max ((l.map most).foldl max (max l.length f.length)) := by
  rw [most]; simp only [List.map_attach_eq_pmap, List.pmap_eq_map]

/-- Lists and documents within one another. -/
def depth : V → Nat
  | mk k _ _ l f => (if k = 7 ∨ k = 8 then 1 else 0) + (f.attach.map fun x => depth x.1.2).foldl max ((l.attach.map fun x => depth x.1).foldl max 0)
termination_by v => SizeOf.sizeOf v
decreasing_by
  · exact sizeOf_l x.2
  · exact sizeOf_f x.2
theorem depth_mk (k : Int) (n : Nat) (b : List UInt8) (l : List V) (f : List (ByteArray × V)) : (mk k n b l f).depth = (if k = 7 ∨ k = 8 then 1 else 0) + (f.map fun x => x.2.depth).foldl max ((l.map depth).foldl max 0) := by
  rw [depth]; simp only [List.map_attach_eq_pmap, List.pmap_eq_map]

/-- The bytes of a field: the name's length, the name, the value's. -/
def item (s : ByteArray) (r : List UInt8) : List UInt8 := UInt8.ofNat s.size :: (s.data.toList ++ r)
/-- A value's bytes. -/
def bytes : V → List UInt8
  | mk k n b l f => UInt8.ofNat k.toNat ::
      (if k = 2 then [UInt8.ofNat n] else if k = 3 ∨ k = 4 then toLe 8 n else if k = 5 ∨ k = 6 then toLe 2 b.length ++ b
       else if k = 7 then UInt8.ofNat l.length :: (l.attach.map fun x => bytes x.1).flatten
       else if k = 8 then UInt8.ofNat f.length :: (f.attach.map fun x => item x.1.1 (bytes x.1.2)).flatten else [])
termination_by v => SizeOf.sizeOf v
decreasing_by
  · exact sizeOf_l x.2
  · exact sizeOf_f x.2
theorem bytes_mk (k : Int) (n : Nat) (b : List UInt8) (l : List V) (f : List (ByteArray × V)) : (mk k n b l f).bytes = UInt8.ofNat k.toNat ::
      (if k = 2 then [UInt8.ofNat n] else if k = 3 ∨ k = 4 then toLe 8 n else if k = 5 ∨ k = 6 then toLe 2 b.length ++ b
       else if k = 7 then UInt8.ofNat l.length :: (l.map bytes).flatten
       else if k = 8 then UInt8.ofNat f.length :: (f.map fun x => item x.1 x.2.bytes).flatten else []) := by
  rw [bytes]; simp only [List.map_attach_eq_pmap, List.pmap_eq_map]

/-- Is a text a name? -/
def name (s : ByteArray) : Bool := decide (1 ≤ s.size ∧ s.size ≤ 32) && s.data.toList.all (fun c => decide (32 ≤ c.toNat ∧ c.toNat ≠ 46)) && Lib.validD s.data.toList
/-- What a value's own cells must be. -/
def own (k : Int) (n : Nat) (b : List UInt8) (nl nf : Nat) : Bool :=
  decide (1 ≤ k ∧ k ≤ 8) && decide (k = 2 ∨ k = 3 ∨ k = 4 ∨ n = 0) && decide (k = 2 → n ≤ 1) && decide (k = 5 ∨ k = 6 ∨ b.length = 0) && (decide (k ≠ 5) || Lib.validD b) && decide (k = 7 ∨ nl = 0) && decide (k = 8 ∨ nf = 0)
/-- Is a value good by its parts, but for numbers and depth? -/
def formed : V → Bool
  | mk k n b l f => own k n b l.length f.length && (l.attach.all fun x => formed x.1) && (f.attach.all fun x => name x.1.1 && formed x.1.2) && decide ((f.map Prod.fst).Nodup)
termination_by v => SizeOf.sizeOf v
decreasing_by
  · exact sizeOf_l x.2
  · exact sizeOf_f x.2
theorem formed_mk (k : Int) (n : Nat) (b : List UInt8) (l : List V) (f : List (ByteArray × V)) : (mk k n b l f).formed = (own k n b l.length f.length && (l.all formed) && (f.all fun x => name x.1 && x.2.formed) && decide ((f.map Prod.fst).Nodup)) := by
  rw [formed, attach_all l formed, attach_all f (fun x => name x.1 && x.2.formed)]

theorem depth_l {k : Int} {n : Nat} {b : List UInt8} {l : List V} {f : List (ByteArray × V)} {x : V} (h : x ∈ l) : x.depth ≤ (mk k n b l f).depth := by
  rw [depth_mk]
  have h1 := (foldl_max_le (f.map fun x => x.2.depth) ((l.map depth).foldl max 0) _).1 (Nat.le_refl _)
  have h2 := (foldl_max_le (l.map depth) 0 _).1 (Nat.le_refl _)
  have := h2.2 _ (List.mem_map_of_mem h)
  omega
theorem depth_f {k : Int} {n : Nat} {b : List UInt8} {l : List V} {f : List (ByteArray × V)} {x : ByteArray × V} (h : x ∈ f) : x.2.depth ≤ (mk k n b l f).depth := by
  rw [depth_mk]
  have h1 := (foldl_max_le (f.map fun x => x.2.depth) ((l.map depth).foldl max 0) _).1 (Nat.le_refl _)
  have := h1.2 _ (List.mem_map_of_mem (f := fun x : ByteArray × V => x.2.depth) h)
  omega
theorem depth_list (l : List V) : (mk 7 0 [] l []).depth = 1 + (l.map depth).foldl max 0 := by rw [depth_mk]; simp
theorem depth_doc (f : List (ByteArray × V)) : (mk 8 0 [] [] f).depth = 1 + (f.map fun x => x.2.depth).foldl max 0 := by rw [depth_mk]; simp

theorem bytes_list (l : List V) : (mk 7 0 [] l []).bytes = 7 :: UInt8.ofNat l.length :: (l.map bytes).flatten := by rw [bytes_mk]; simp
theorem bytes_doc (f : List (ByteArray × V)) : (mk 8 0 [] [] f).bytes = 8 :: UInt8.ofNat f.length :: (f.map fun x => item x.1 x.2.bytes).flatten := by rw [bytes_mk]; simp
theorem item_length (s : ByteArray) (r : List UInt8) : (item s r).length = 1 + s.size + r.length := by
  simp only [item, List.length_cons, List.length_append, Array.length_toList]
  have : s.data.size = s.size := rfl
  omega

/-- What is wrong with a value. -/
def good (v : V) : Int := if v.formed = false then 4 else if 64 < v.most then 19 else if 16 < v.depth then 3 else if 4096 < v.bytes.length then 2 else 0

/-- A formed value, case by case. -/
theorem formed_cases {v : V} (h : v.formed = true) : v = mk 1 0 [] [] [] ∨ (∃ n, n ≤ 1 ∧ v = mk 2 n [] [] []) ∨ (∃ n, v = mk 3 n [] [] []) ∨ (∃ n, v = mk 4 n [] [] []) ∨
    (∃ b, Lib.validD b = true ∧ v = mk 5 0 b [] []) ∨ (∃ b, v = mk 6 0 b [] []) ∨ (∃ l, (∀ x ∈ l, formed x = true) ∧ v = mk 7 0 [] l []) ∨
    (∃ f : List (ByteArray × V), (∀ x ∈ f, name x.1 = true ∧ x.2.formed = true) ∧ (f.map Prod.fst).Nodup ∧ v = mk 8 0 [] [] f) := by
  obtain ⟨k, n, b, l, f⟩ := v
  rw [formed_mk] at h
  simp only [own, Bool.and_eq_true, Bool.or_eq_true, decide_eq_true_eq, List.all_eq_true] at h
  obtain ⟨⟨⟨⟨⟨⟨⟨⟨⟨h1, h2⟩, h3⟩, h4⟩, h5⟩, h6⟩, h7⟩, hl⟩, hf⟩, hn⟩ := h
  have hL : k ≠ 7 → l = [] := fun hk => List.eq_nil_of_length_eq_zero (by omega)
  have hF : k ≠ 8 → f = [] := fun hk => List.eq_nil_of_length_eq_zero (by omega)
  have hB : k ≠ 5 → k ≠ 6 → b = [] := fun h1 h2 => List.eq_nil_of_length_eq_zero (by omega)
  have hN : k ≠ 2 → k ≠ 3 → k ≠ 4 → n = 0 := fun h1 h2 h3 => by omega
  have hk : k = 1 ∨ k = 2 ∨ k = 3 ∨ k = 4 ∨ k = 5 ∨ k = 6 ∨ k = 7 ∨ k = 8 := by omega
  rcases hk with rfl | rfl | rfl | rfl | rfl | rfl | rfl | rfl
  · rw [hL (by decide), hF (by decide), hB (by decide) (by decide), hN (by decide) (by decide) (by decide)]; exact .inl rfl
  · rw [hL (by decide), hF (by decide), hB (by decide) (by decide)]; exact .inr (.inl ⟨n, h3 rfl, rfl⟩)
  · rw [hL (by decide), hF (by decide), hB (by decide) (by decide)]; exact .inr (.inr (.inl ⟨n, rfl⟩))
  · rw [hL (by decide), hF (by decide), hB (by decide) (by decide)]; exact .inr (.inr (.inr (.inl ⟨n, rfl⟩)))
  · rw [hL (by decide), hF (by decide), hN (by decide) (by decide) (by decide)]; exact .inr (.inr (.inr (.inr (.inl ⟨b, h5.resolve_left (by decide), rfl⟩))))
  · rw [hL (by decide), hF (by decide), hN (by decide) (by decide) (by decide)]; exact .inr (.inr (.inr (.inr (.inr (.inl ⟨b, rfl⟩)))))
  · rw [hF (by decide), hB (by decide) (by decide), hN (by decide) (by decide) (by decide)]; exact .inr (.inr (.inr (.inr (.inr (.inr (.inl ⟨l, hl, rfl⟩))))))
  · rw [hL (by decide), hB (by decide) (by decide), hN (by decide) (by decide) (by decide)]; exact .inr (.inr (.inr (.inr (.inr (.inr (.inr ⟨f, hf, hn, rfl⟩))))))
end V

end Go.Proofs.YtojpeiihkjpeoaaDoor
