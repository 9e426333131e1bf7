/- What is read is what is written, and what is written is read. No program in sight. -/
import Derived.Test.YtojpeiihkjpeoaaDoorDec
set_option linter.unusedVariables false
set_option linter.unusedSimpArgs false
namespace Go.Proofs.YtojpeiihkjpeoaaDoor
open V

theorem toLe_cons (k n : Nat) : toLe (k + 1) n = UInt8.ofNat n :: toLe k (n / 256) := by
  unfold toLe
  rw [List.range_succ_eq_map, List.map_cons, List.map_map]
  congr 1
  · simp
  · apply List.map_congr_left
    intro i _
    simp only [Function.comp, Nat.succ_eq_add_one, Nat.pow_succ]
    rw [Nat.mul_comm (256 ^ i) 256, ← Nat.div_div_eq_div_mul]
theorem toLe_le : ∀ (l : List UInt8), toLe l.length (le l) = l
  | [] => rfl
  | x :: r => by
    have hx := x.toNat_lt
    rw [List.length_cons, toLe_cons, le_cons]
    have h1 : UInt8.ofNat (x.toNat + 256 * le r) = x := by
      apply UInt8.toNat_inj.1
      rw [UInt8.toNat_ofNat']
      omega
    rw [h1, show (x.toNat + 256 * le r) / 256 = le r by omega, toLe_le r]

theorem name_size {s : ByteArray} (h : name s = true) : s.size ≤ 32 := by
  simp only [name, Bool.and_eq_true, decide_eq_true_eq] at h
  exact h.1.1.2

theorem rd_flat (g : Nat) (k : UInt8) (bs : List UInt8) (h7 : k.toNat ≠ 7) (h8 : k.toNat ≠ 8) : rd g (k :: bs) = rdFlat k.toNat bs := by
  cases g <;> simp only [rd, rdStep, if_neg h7, if_neg h8]
theorem rd_list (g : Nat) (k : UInt8) (bs : List UInt8) (h7 : k.toNat = 7) : rd (g + 1) (k :: bs) = (match rdM bs with
    | .error e => .error e
    | .ok (n, r) => match rdL (rd g) n r with
      | .error e => .error e
      | .ok (l, r') => .ok (mk 7 0 [] l [], r')) := by
  rw [rd, rdStep, if_pos h7]
  rfl
theorem rd_doc (g : Nat) (k : UInt8) (bs : List UInt8) (h8 : k.toNat = 8) : rd (g + 1) (k :: bs) = (match rdM bs with
    | .error e => .error e
    | .ok (n, r) => match rdF (rd g) n [] r with
      | .error e => .error e
      | .ok (l, r') => .ok (mk 8 0 [] [] l, r')) := by
  rw [rd, rdStep, if_neg (by omega), if_pos h8]
  rfl

/-! What is written is read. -/

theorem rdL_all (f : List UInt8 → Got) (l : List V) (r : List UInt8) (h : ∀ x ∈ l, ∀ r, f (x.bytes ++ r) = .ok (x, r)) : rdL f l.length ((l.map V.bytes).flatten ++ r) = .ok (l, r) := by
  induction l with
  | nil => rfl
  | cons x xs ih =>
    rw [List.map_cons, List.flatten_cons, List.append_assoc, List.length_cons, rdL, h x (by simp)]
    simp only
    rw [ih (fun y hy => h y (by simp [hy]))]
theorem rdN_item (s : ByteArray) (t : List UInt8) (h : s.size < 256) : rdN (item s t) = some (s, t) := by
  have hl : s.data.toList.length = s.size := by simp
  have hm : (UInt8.ofNat s.size).toNat = s.size := by rw [UInt8.toNat_ofNat']; omega
  rw [item, rdN, hm, if_pos (by rw [List.length_append, hl]; omega), List.take_left' hl, List.drop_left' hl]
theorem rdF_all (f : List UInt8 → Got) (r : List UInt8) (l : List (ByteArray × V)) : ∀ (met : List ByteArray), (∀ x ∈ l, name x.1 = true ∧ ∀ r, f (x.2.bytes ++ r) = .ok (x.2, r)) → (l.map Prod.fst).Nodup → (∀ x ∈ l, ¬ x.1 ∈ met) →
    rdF f l.length met ((l.map fun x => item x.1 x.2.bytes).flatten ++ r) = .ok (l, r) := by
  induction l with
  | nil => intro met _ _ _; rfl
  | cons x xs ih =>
    intro met h hn hm
    obtain ⟨s, v⟩ := x
    have e : (((s, v) :: xs).map fun x => item x.1 x.2.bytes).flatten ++ r = item s (v.bytes ++ ((xs.map fun x => item x.1 x.2.bytes).flatten ++ r)) := by simp [item]
    have h1 : name s = true := (h (s, v) (by simp)).1
    have h2 : ∀ r, f (v.bytes ++ r) = .ok (v, r) := (h (s, v) (by simp)).2
    have h3 : ¬ s ∈ met := hm (s, v) (by simp)
    have hs := name_size h1
    rw [List.map_cons, List.nodup_cons] at hn
    rw [e, List.length_cons, rdF, rdN_item _ _ (by omega)]
    simp only
    rw [if_pos ⟨h1, h3⟩, h2]
    simp only
    rw [ih (met ++ [s]) (fun y hy => h y (by simp [hy])) hn.2 (fun y hy hin => by
      rcases List.mem_append.1 hin with hin | hin
      · exact hm y (by simp [hy]) hin
      · rw [List.mem_singleton] at hin
        have h9 : y.1 ∈ xs.map Prod.fst := List.mem_map_of_mem hy
        rw [hin] at h9
        exact hn.1 h9)]

/-- All numbers fit into a cell. -/
def V.fit : V → Prop
  | mk _ n _ l f => n < 18446744073709551616 ∧ (∀ x ∈ l, fit x) ∧ (∀ x ∈ f, fit x.2)
termination_by v => SizeOf.sizeOf v
decreasing_by
  · exact sizeOf_l ‹_›
  · exact sizeOf_f ‹_›
theorem IsV.fit {C : Addr → Value → Prop} (v : V) : ∀ c, IsV C v c → v.fit := by
  induction v using V.ind with
  | h k n b l f hl hf =>
    intro c hv
    rw [IsV] at hv
    rw [V.fit]
    obtain ⟨e1, e2, e3, e4, e5, h1, h2, h3, h4, h5, h6, h7, h8, h9, hb, hL, hF⟩ := hv
    refine ⟨h3, fun x hx => ?_, fun x hx => ?_⟩
    · obtain ⟨i, hi, rfl⟩ := List.mem_iff_getElem.1 hx
      obtain ⟨bk, o, y, e, k0, kv⟩ := hL i hi
      exact hl _ hx _ kv
    · obtain ⟨i, hi, rfl⟩ := List.mem_iff_getElem.1 hx
      obtain ⟨bk, o, y, e, ks, kz, k0, kv⟩ := hF i hi
      exact hf _ hx _ kv

theorem most_list {l : List V} {m : Nat} : (mk 7 0 [] l []).most ≤ m ↔ l.length ≤ m ∧ ∀ x ∈ l, x.most ≤ m := by
  rw [most_mk, List.map_nil, List.foldl_nil, foldl_max_le, List.length_nil]
  constructor
  · rintro ⟨h1, h2⟩; exact ⟨by omega, fun x hx => h2 _ (List.mem_map_of_mem hx)⟩
  · rintro ⟨h1, h2⟩; exact ⟨by omega, fun x hx => by obtain ⟨y, hy, rfl⟩ := List.mem_map.1 hx; exact h2 y hy⟩
theorem most_doc {f : List (ByteArray × V)} {m : Nat} : (mk 8 0 [] [] f).most ≤ m ↔ f.length ≤ m ∧ ∀ x ∈ f, x.2.most ≤ m := by
  rw [most_mk, List.map_nil, List.foldl_nil, foldl_max_le, List.length_nil]
  constructor
  · rintro ⟨h1, h2⟩; exact ⟨by omega, fun x hx => h2 _ (List.mem_map_of_mem (f := fun x : ByteArray × V => x.2.most) hx)⟩
  · rintro ⟨h1, h2⟩; exact ⟨by omega, fun x hx => by obtain ⟨y, hy, rfl⟩ := List.mem_map.1 hx; exact h2 y hy⟩
theorem depth_list_le {l : List V} {m : Nat} : (mk 7 0 [] l []).depth ≤ m + 1 ↔ ∀ x ∈ l, x.depth ≤ m := by
  rw [depth_list, show 1 + (l.map depth).foldl max 0 ≤ m + 1 ↔ (l.map depth).foldl max 0 ≤ m by omega, foldl_max_le]
  constructor
  · rintro ⟨_, h2⟩; exact fun x hx => h2 _ (List.mem_map_of_mem hx)
  · intro h2; exact ⟨by omega, fun x hx => by obtain ⟨y, hy, rfl⟩ := List.mem_map.1 hx; exact h2 y hy⟩
theorem depth_doc_le {f : List (ByteArray × V)} {m : Nat} : (mk 8 0 [] [] f).depth ≤ m + 1 ↔ ∀ x ∈ f, x.2.depth ≤ m := by
  rw [depth_doc, show 1 + (f.map fun x => x.2.depth).foldl max 0 ≤ m + 1 ↔ (f.map fun x => x.2.depth).foldl max 0 ≤ m by omega, foldl_max_le]
  constructor
  · rintro ⟨_, h2⟩; exact fun x hx => h2 _ (List.mem_map_of_mem (f := fun x : ByteArray × V => x.2.depth) hx)
  · intro h2; exact ⟨by omega, fun x hx => by obtain ⟨y, hy, rfl⟩ := List.mem_map.1 hx; exact h2 y hy⟩
theorem ofNat_toNat8 (n : Nat) (h : n < 256) : (UInt8.ofNat n).toNat = n := by rw [UInt8.toNat_ofNat']; omega

theorem rd_bytes (v : V) : ∀ (g : Nat) (r : List UInt8), v.fit → v.formed = true → v.most ≤ 64 → v.depth ≤ g → v.bytes.length ≤ 65535 → rd g (v.bytes ++ r) = .ok (v, r) := by
  induction v using V.ind with
  | h k n b l f hl hf =>
    intro g r hfit hfm hmo hde hle
    rcases formed_cases hfm with h | ⟨n', hn', h⟩ | ⟨n', h⟩ | ⟨n', h⟩ | ⟨b', hb', h⟩ | ⟨b', h⟩ | ⟨l', hl', h⟩ | ⟨f', hf', hnd, h⟩ <;> cases h
    · have e : (mk 1 0 [] [] []).bytes ++ r = 1 :: r := by rw [bytes_mk]; simp
      rw [e, rd_flat _ _ _ (by decide) (by decide)]
      rfl
    · have e : (mk 2 n [] [] []).bytes ++ r = 2 :: UInt8.ofNat n :: r := by rw [bytes_mk]; simp
      rw [e, rd_flat _ _ _ (by decide) (by decide)]
      show rdFlat 2 _ = _
      unfold rdFlat
      rw [if_neg (by decide), if_pos rfl]
      simp only
      rw [ofNat_toNat8 n (by omega), if_pos hn']
    · rw [V.fit] at hfit
      have e : (mk 3 n [] [] []).bytes ++ r = 3 :: (toLe 8 n ++ r) := by rw [bytes_mk]; simp
      rw [e, rd_flat _ _ _ (by decide) (by decide)]
      show rdFlat 3 _ = _
      unfold rdFlat
      rw [if_neg (by decide), if_neg (by decide), if_pos (Or.inl rfl), if_pos (by simp [toLe_length]), List.take_left' (toLe_length 8 n), List.drop_left' (toLe_length 8 n), le_toLe, Nat.mod_eq_of_lt (by simpa using hfit.1)]
      rfl
    · rw [V.fit] at hfit
      have e : (mk 4 n [] [] []).bytes ++ r = 4 :: (toLe 8 n ++ r) := by rw [bytes_mk]; simp
      rw [e, rd_flat _ _ _ (by decide) (by decide)]
      show rdFlat 4 _ = _
      unfold rdFlat
      rw [if_neg (by decide), if_neg (by decide), if_pos (Or.inr rfl), if_pos (by simp [toLe_length]), List.take_left' (toLe_length 8 n), List.drop_left' (toLe_length 8 n), le_toLe, Nat.mod_eq_of_lt (by simpa using hfit.1)]
      rfl
    · have e0 : (mk 5 0 b [] []).bytes = 5 :: (toLe 2 b.length ++ b) := by rw [bytes_mk]; simp
      rw [e0, List.length_cons, List.length_append, toLe_length] at hle
      have e : (mk 5 0 b [] []).bytes ++ r = 5 :: (toLe 2 b.length ++ (b ++ r)) := by rw [e0]; simp
      rw [e, rd_flat _ _ _ (by decide) (by decide)]
      show rdFlat 5 _ = _
      unfold rdFlat
      rw [if_neg (by decide), if_neg (by decide), if_neg (by decide), if_pos (Or.inl rfl), if_pos (by simp [toLe_length]), List.take_left' (toLe_length 2 _), List.drop_left' (toLe_length 2 _), le_toLe, Nat.mod_eq_of_lt (by simp; omega),
        if_pos (by simp), List.take_left' rfl, List.drop_left' rfl, if_pos (Or.inr hb')]
      rfl
    · have e0 : (mk 6 0 b [] []).bytes = 6 :: (toLe 2 b.length ++ b) := by rw [bytes_mk]; simp
      rw [e0, List.length_cons, List.length_append, toLe_length] at hle
      have e : (mk 6 0 b [] []).bytes ++ r = 6 :: (toLe 2 b.length ++ (b ++ r)) := by rw [e0]; simp
      rw [e, rd_flat _ _ _ (by decide) (by decide)]
      show rdFlat 6 _ = _
      unfold rdFlat
      rw [if_neg (by decide), if_neg (by decide), if_neg (by decide), if_pos (Or.inr rfl), if_pos (by simp [toLe_length]), List.take_left' (toLe_length 2 _), List.drop_left' (toLe_length 2 _), le_toLe, Nat.mod_eq_of_lt (by simp; omega),
        if_pos (by simp), List.take_left' rfl, List.drop_left' rfl, if_pos (Or.inl rfl)]
      rfl
    · rw [V.fit] at hfit
      obtain ⟨g, rfl⟩ : ∃ g', g = g' + 1 := ⟨g - 1, by rw [depth_list] at hde; omega⟩
      rw [most_list] at hmo
      rw [depth_list_le] at hde
      have e : (mk 7 0 [] l []).bytes ++ r = 7 :: UInt8.ofNat l.length :: ((l.map V.bytes).flatten ++ r) := by rw [bytes_list]; simp
      have hc : ∀ x ∈ l, x.bytes.length ≤ 65535 := fun x hx => by
        have := flat_mem V.bytes l x hx
        rw [bytes_list, List.length_cons, List.length_cons] at hle
        omega
      rw [e, rd_list _ _ _ (by decide), rdM, ofNat_toNat8 _ (by omega), if_pos hmo.1]
      simp only
      rw [rdL_all (rd g) l r (fun x hx r => hl x hx g r (hfit.2.1 x hx) (hl' x hx) (hmo.2 x hx) (hde x hx) (hc x hx))]
    · rw [V.fit] at hfit
      obtain ⟨g, rfl⟩ : ∃ g', g = g' + 1 := ⟨g - 1, by rw [depth_doc] at hde; omega⟩
      rw [most_doc] at hmo
      rw [depth_doc_le] at hde
      have e : (mk 8 0 [] [] f).bytes ++ r = 8 :: UInt8.ofNat f.length :: ((f.map fun x => item x.1 x.2.bytes).flatten ++ r) := by rw [bytes_doc]; simp
      have hc : ∀ x ∈ f, x.2.bytes.length ≤ 65535 := fun x hx => by
        have := flat_mem (fun x : ByteArray × V => item x.1 x.2.bytes) f x hx
        rw [bytes_doc, List.length_cons, List.length_cons] at hle
        rw [item_length] at this
        omega
      rw [e, rd_doc _ _ _ (by decide), rdM, ofNat_toNat8 _ (by omega), if_pos hmo.1]
      simp only
      rw [rdF_all (rd g) r f [] (fun x hx => ⟨(hf' x hx).1, fun r => hf x hx g r (hfit.2.2 x hx) (hf' x hx).2 (hmo.2 x hx) (hde x hx) (hc x hx)⟩) hnd (fun _ _ h => by simp at h)]

/-! What is read is written. -/

theorem rdL_sound {f : List UInt8 → Got} {Q : V → Prop} (hf : ∀ bs v r, f bs = .ok (v, r) → bs = v.bytes ++ r ∧ Q v) : ∀ (n : Nat) (bs : List UInt8) (l : List V) (r : List UInt8), rdL f n bs = .ok (l, r) →
    l.length = n ∧ bs = (l.map V.bytes).flatten ++ r ∧ ∀ x ∈ l, Q x := by
  intro n
  induction n with
  | zero =>
    intro bs l r h
    rw [rdL] at h
    injection h with h
    injection h with h1 h2
    subst h1 h2
    exact ⟨rfl, rfl, fun _ h => by simp at h⟩
  | succ n ih =>
    intro bs l r h
    rw [rdL] at h
    split at h
    · cases h
    · rename_i x r1 e1
      split at h
      · cases h
      · rename_i l1 r2 e2
        injection h with h
        injection h with h1 h2
        subst h1 h2
        obtain ⟨a1, a2⟩ := hf _ _ _ e1
        obtain ⟨b1, b2, b3⟩ := ih _ _ _ e2
        refine ⟨by rw [List.length_cons, b1], by rw [a1, b2, List.map_cons, List.flatten_cons, List.append_assoc], fun y hy => ?_⟩
        rcases List.mem_cons.1 hy with rfl | hy
        · exact a2
        · exact b3 y hy
theorem rdN_sound {bs : List UInt8} {s : ByteArray} {r : List UInt8} (h : rdN bs = some (s, r)) : bs = item s r := by
  cases bs with
  | nil => rw [rdN] at h; cases h
  | cons m t =>
    rw [rdN] at h
    split at h
    · rename_i hm
      injection h with h
      injection h with h1 h2
      subst h1 h2
      have hz : (⟨(t.take m.toNat).toArray⟩ : ByteArray).size = m.toNat := by
        show (t.take m.toNat).toArray.size = _
        rw [List.size_toArray, List.length_take]
        omega
      rw [item, hz]
      simp
    · cases h
theorem rdF_sound {f : List UInt8 → Got} {Q : V → Prop} (hf : ∀ bs v r, f bs = .ok (v, r) → bs = v.bytes ++ r ∧ Q v) : ∀ (n : Nat) (met : List ByteArray) (bs : List UInt8) (l : List (ByteArray × V)) (r : List UInt8), rdF f n met bs = .ok (l, r) →
    l.length = n ∧ bs = (l.map fun x => item x.1 x.2.bytes).flatten ++ r ∧ (∀ x ∈ l, name x.1 = true ∧ ¬ x.1 ∈ met ∧ Q x.2) ∧ (l.map Prod.fst).Nodup := by
  intro n
  induction n with
  | zero =>
    intro met bs l r h
    rw [rdF] at h
    injection h with h
    injection h with h1 h2
    subst h1 h2
    exact ⟨rfl, rfl, fun _ h => by simp at h, by simp⟩
  | succ n ih =>
    intro met bs l r h
    rw [rdF] at h
    split at h
    · cases h
    · rename_i s r0 e0
      split at h
      · rename_i hc
        split at h
        · cases h
        · rename_i x r1 e1
          split at h
          · cases h
          · rename_i l1 r2 e2
            injection h with h
            injection h with h1 h2
            subst h1 h2
            obtain ⟨a1, a2⟩ := hf _ _ _ e1
            obtain ⟨b1, b2, b3, b4⟩ := ih _ _ _ _ e2
            refine ⟨by rw [List.length_cons, b1], ?_, fun y hy => ?_, ?_⟩
            · rw [rdN_sound e0, a1, b2, List.map_cons, List.flatten_cons]
              simp [item]
            · rcases List.mem_cons.1 hy with rfl | hy
              · exact ⟨hc.1, hc.2, a2⟩
              · obtain ⟨c1, c2, c3⟩ := b3 y hy
                exact ⟨c1, fun hin => c2 (List.mem_append.2 (.inl hin)), c3⟩
            · rw [List.map_cons, List.nodup_cons]
              refine ⟨fun hin => ?_, b4⟩
              obtain ⟨y, hy, he⟩ := List.mem_map.1 hin
              exact (b3 y hy).2.1 (by rw [he]; exact List.mem_append.2 (.inr (by simp)))
      · cases h

theorem rdFlat_sound {k : UInt8} {bs : List UInt8} {v : V} {r : List UInt8} (h : rdFlat k.toNat bs = .ok (v, r)) : k :: bs = v.bytes ++ r ∧ v.formed = true ∧ v.most = 0 ∧ v.depth = 0 ∧ v.fit := by
  have hk0 : UInt8.ofNat k.toNat = k := UInt8.ofNat_toNat
  unfold rdFlat at h
  split at h
  · rename_i hk
    injection h with h
    injection h with h1 h2
    subst h1 h2
    rw [hk] at hk0
    refine ⟨?_, by rw [formed_mk]; decide, by rw [most_mk]; rfl, by rw [depth_mk]; rfl, by rw [V.fit]; simp⟩
    rw [bytes_mk, ← hk0]; simp
  split at h
  · rename_i _ hk
    rw [hk] at hk0
    split at h
    · cases h
    · rename_i x r'
      split at h
      · rename_i hx
        injection h with h
        injection h with h1 h2
        subst h1 h2
        refine ⟨?_, by rw [formed_mk]; simp [own, hx], by rw [most_mk]; rfl, by rw [depth_mk]; rfl, by rw [V.fit]; simp; omega⟩
        rw [bytes_mk, ← hk0]; simp
      · cases h
  split at h
  · rename_i _ _ hk
    split at h
    · rename_i hl
      injection h with h
      injection h with h1 h2
      subst h1 h2
      have hlen : (bs.take 8).length = 8 := by rw [List.length_take]; omega
      have hto : toLe 8 (le (bs.take 8)) = bs.take 8 := by
        have := toLe_le (bs.take 8)
        rwa [hlen] at this
      refine ⟨?_, ?_, by rw [most_mk]; rfl, ?_, by rw [V.fit]; have := le_lt (bs.take 8); rw [hlen] at this; simpa using this⟩
      · rw [bytes_mk, Int.toNat_natCast, hk0, if_neg (by omega), if_pos (by omega), hto, List.cons_append, List.take_append_drop]
      · rw [formed_mk]
        rcases hk with hk | hk <;> rw [hk] <;> simp [own]
      · rw [depth_mk, if_neg (by omega)]; rfl
    · cases h
  split at h
  · rename_i _ _ _ hk
    split at h
    · rename_i hl
      split at h
      · rename_i hm
        split at h
        · rename_i hv
          injection h with h
          injection h with h1 h2
          subst h1 h2
          have hlen : (bs.take 2).length = 2 := by rw [List.length_take]; omega
          have hbl : ((bs.drop 2).take (le (bs.take 2))).length = le (bs.take 2) := by rw [List.length_take]; omega
          have hto : toLe 2 (le (bs.take 2)) = bs.take 2 := by
            have := toLe_le (bs.take 2)
            rwa [hlen] at this
          refine ⟨?_, ?_, by rw [most_mk]; rfl, ?_, by rw [V.fit]; simp⟩
          · rw [bytes_mk, Int.toNat_natCast, hk0, if_neg (by omega), if_neg (by omega), if_pos (by omega), hbl, hto, List.cons_append, List.append_assoc, List.take_append_drop, List.take_append_drop]
          · rw [formed_mk]
            rcases hk with hk | hk
            · rw [hk] at hv ⊢
              have := hv.resolve_left (by decide)
              simp [own, this]
            · rw [hk]
              simp [own]
          · rw [depth_mk, if_neg (by omega)]; rfl
        · cases h
      · cases h
    · cases h
  · cases h

theorem rd_sound (g : Nat) : ∀ (bs : List UInt8) (v : V) (r : List UInt8), rd g bs = .ok (v, r) → bs = v.bytes ++ r ∧ v.formed = true ∧ v.most ≤ 64 ∧ v.depth ≤ g ∧ v.fit := by
  induction g with
  | zero =>
    intro bs v r h
    cases bs with
    | nil => rw [rd, rdStep] at h; cases h
    | cons k bs =>
      by_cases h7 : k.toNat = 7
      · rw [rd, rdStep, if_pos h7] at h; cases h
      · by_cases h8 : k.toNat = 8
        · rw [rd, rdStep, if_neg h7, if_pos h8] at h; cases h
        · rw [rd_flat _ _ _ h7 h8] at h
          obtain ⟨a1, a2, a3, a4, a5⟩ := rdFlat_sound h
          exact ⟨a1, a2, by omega, by omega, a5⟩
  | succ g ih =>
    intro bs v r h
    cases bs with
    | nil => rw [rd, rdStep] at h; cases h
    | cons k bs =>
      have hk0 : UInt8.ofNat k.toNat = k := UInt8.ofNat_toNat
      by_cases h7 : k.toNat = 7
      · rw [rd_list _ _ _ h7] at h
        rw [h7] at hk0
        cases bs with
        | nil => rw [rdM] at h; cases h
        | cons m t =>
          rw [rdM] at h
          by_cases hm : m.toNat ≤ 64
          · rw [if_pos hm] at h
            simp only at h
            split at h
            · cases h
            · rename_i l r1 e1
              injection h with h
              injection h with h1 h2
              subst h1 h2
              obtain ⟨a1, a2, a3⟩ := rdL_sound ih _ _ _ _ e1
              refine ⟨?_, ?_, most_list.2 ⟨by omega, fun x hx => (a3 x hx).2.1⟩, depth_list_le.2 fun x hx => (a3 x hx).2.2.1, by rw [V.fit]; exact ⟨by omega, fun x hx => (a3 x hx).2.2.2, fun x hx => by simp at hx⟩⟩
              · rw [bytes_list, a2, a1, UInt8.ofNat_toNat, ← hk0]; rfl
              · rw [formed_mk]
                simp only [own, Bool.and_eq_true, List.all_eq_true]
                exact ⟨⟨⟨by simp, fun x hx => (a3 x hx).1⟩, by simp⟩, by simp⟩
          · rw [if_neg hm] at h; cases h
      · by_cases h8 : k.toNat = 8
        · rw [rd_doc _ _ _ h8] at h
          rw [h8] at hk0
          cases bs with
          | nil => rw [rdM] at h; cases h
          | cons m t =>
            rw [rdM] at h
            by_cases hm : m.toNat ≤ 64
            · rw [if_pos hm] at h
              simp only at h
              split at h
              · cases h
              · rename_i l r1 e1
                injection h with h
                injection h with h1 h2
                subst h1 h2
                obtain ⟨a1, a2, a3, a4⟩ := rdF_sound ih _ _ _ _ _ e1
                refine ⟨?_, ?_, most_doc.2 ⟨by omega, fun x hx => (a3 x hx).2.2.2.1⟩, depth_doc_le.2 fun x hx => (a3 x hx).2.2.2.2.1, by rw [V.fit]; exact ⟨by omega, fun x hx => by simp at hx, fun x hx => (a3 x hx).2.2.2.2.2⟩⟩
                · rw [bytes_doc, a2, a1, UInt8.ofNat_toNat, ← hk0]; rfl
                · rw [formed_mk]
                  simp only [own, Bool.and_eq_true, List.all_eq_true]
                  exact ⟨⟨⟨by simp, by simp⟩, fun x hx => ⟨(a3 x hx).1, (a3 x hx).2.2.1⟩⟩, by simpa using a4⟩
            · rw [if_neg hm] at h; cases h
        · rw [rd_flat _ _ _ h7 h8] at h
          obtain ⟨a1, a2, a3, a4, a5⟩ := rdFlat_sound h
          exact ⟨a1, a2, by omega, by omega, a5⟩

/-! Errors. -/
def Err (e : Int) : Prop := e = 2 ∨ e = 3 ∨ e = 4 ∨ e = 19
theorem rdL_err {f : List UInt8 → Got} (hf : ∀ bs e, f bs = .error e → Err e) : ∀ (n : Nat) (bs : List UInt8) (e : Int), rdL f n bs = .error e → Err e := by
  intro n
  induction n with
  | zero => intro bs e h; rw [rdL] at h; cases h
  | succ n ih =>
    intro bs e h
    rw [rdL] at h
    split at h
    · rename_i e1 h1; injection h with h; subst h; exact hf _ _ h1
    · split at h
      · rename_i e2 h2; injection h with h; subst h; exact ih _ _ h2
      · cases h
theorem rdF_err {f : List UInt8 → Got} (hf : ∀ bs e, f bs = .error e → Err e) : ∀ (n : Nat) (met : List ByteArray) (bs : List UInt8) (e : Int), rdF f n met bs = .error e → Err e := by
  intro n
  induction n with
  | zero => intro met bs e h; rw [rdF] at h; cases h
  | succ n ih =>
    intro met bs e h
    rw [rdF] at h
    split at h
    · injection h with h; subst h; exact .inr (.inr (.inl rfl))
    · split at h
      · split at h
        · rename_i e1 h1; injection h with h; subst h; exact hf _ _ h1
        · split at h
          · rename_i e2 h2; injection h with h; subst h; exact ih _ _ _ h2
          · cases h
      · injection h with h; subst h; exact .inr (.inr (.inl rfl))
theorem rdM_err {bs : List UInt8} {e : Int} (h : rdM bs = .error e) : Err e := by
  cases bs with
  | nil => rw [rdM] at h; injection h with h; subst h; exact .inr (.inr (.inl rfl))
  | cons x r =>
    rw [rdM] at h
    split at h
    · cases h
    · injection h with h; subst h; exact .inr (.inr (.inr rfl))
theorem rdFlat_err {k : Nat} {bs : List UInt8} {e : Int} (h : rdFlat k bs = .error e) : Err e := by
  have h4 : ∀ {e : Int}, (Except.error 4 : Got) = .error e → Err e := fun h => by injection h with h; subst h; exact .inr (.inr (.inl rfl))
  unfold rdFlat at h
  split at h
  · cases h
  split at h
  · split at h
    · exact h4 h
    · split at h
      · cases h
      · exact h4 h
  split at h
  · split at h
    · cases h
    · exact h4 h
  split at h
  · split at h
    · split at h
      · split at h
        · cases h
        · exact h4 h
      · exact h4 h
    · exact h4 h
  · exact h4 h
theorem rd_err (g : Nat) : ∀ (bs : List UInt8) (e : Int), rd g bs = .error e → Err e := by
  induction g with
  | zero =>
    intro bs e h
    cases bs with
    | nil => rw [rd, rdStep] at h; injection h with h; subst h; exact .inr (.inr (.inl rfl))
    | cons k bs =>
      by_cases h7 : k.toNat = 7
      · rw [rd, rdStep, if_pos h7] at h; injection h with h; subst h; exact .inr (.inl rfl)
      · by_cases h8 : k.toNat = 8
        · rw [rd, rdStep, if_neg h7, if_pos h8] at h; injection h with h; subst h; exact .inr (.inl rfl)
        · rw [rd_flat _ _ _ h7 h8] at h; exact rdFlat_err h
  | succ g ih =>
    intro bs e h
    cases bs with
    | nil => rw [rd, rdStep] at h; injection h with h; subst h; exact .inr (.inr (.inl rfl))
    | cons k bs =>
      by_cases h7 : k.toNat = 7
      · rw [rd_list _ _ _ h7] at h
        split at h
        · rename_i e1 h1; injection h with h; subst h; exact rdM_err h1
        · split at h
          · rename_i e1 h1; injection h with h; subst h; exact rdL_err ih _ _ _ h1
          · cases h
      · by_cases h8 : k.toNat = 8
        · rw [rd_doc _ _ _ h8] at h
          split at h
          · rename_i e1 h1; injection h with h; subst h; exact rdM_err h1
          · split at h
            · rename_i e1 h1; injection h with h; subst h; exact rdF_err ih _ _ _ _ h1
            · cases h
        · rw [rd_flat _ _ _ h7 h8] at h; exact rdFlat_err h

/-! All bytes. -/
theorem good_iff {v : V} : v.good = 0 ↔ v.formed = true ∧ v.most ≤ 64 ∧ v.depth ≤ 16 ∧ v.bytes.length ≤ 4096 := by
  unfold V.good
  cases hf : v.formed
  · simp
  · simp only [Bool.true_eq_false, if_false, true_and]
    by_cases h1 : 64 < v.most
    · rw [if_pos h1]; constructor
      · intro h; omega
      · intro h; omega
    · rw [if_neg h1]
      by_cases h2 : 16 < v.depth
      · rw [if_pos h2]; constructor
        · intro h; omega
        · intro h; omega
      · rw [if_neg h2]
        by_cases h3 : 4096 < v.bytes.length
        · rw [if_pos h3]; constructor
          · intro h; omega
          · intro h; omega
        · rw [if_neg h3]; constructor
          · intro _; omega
          · intro _; rfl
theorem rdAll_err {bs : List UInt8} {e : Int} (h : rdAll bs = .error e) : Err e := by
  unfold rdAll at h
  split at h
  · injection h with h; subst h; exact .inl rfl
  · split at h
    · rename_i e1 h1; injection h with h; subst h; exact rd_err _ _ _ h1
    · split at h
      · cases h
      · injection h with h; subst h; exact .inr (.inr (.inl rfl))
theorem rdAll_sound {bs : List UInt8} {v : V} (h : rdAll bs = .ok v) : v.good = 0 ∧ v.bytes = bs := by
  unfold rdAll at h
  split at h
  · cases h
  · rename_i hl
    split at h
    · cases h
    · rename_i v' r h1
      split at h
      · rename_i hr
        injection h with h
        subst h hr
        obtain ⟨a1, a2, a3, a4, _⟩ := rd_sound _ _ _ _ h1
        rw [List.append_nil] at a1
        exact ⟨good_iff.2 ⟨a2, a3, a4, by rw [← a1]; omega⟩, a1.symm⟩
      · cases h
theorem rdAll_good {v : V} (hfit : v.fit) (h : v.good = 0) : rdAll v.bytes = .ok v := by
  obtain ⟨h1, h2, h3, h4⟩ := good_iff.1 h
  have e := rd_bytes v 16 [] hfit h1 h2 h3 (by omega)
  rw [List.append_nil] at e
  unfold rdAll
  rw [if_neg (by omega), e]
  rfl
theorem rdAll_more {v : V} (hfit : v.fit) (h : v.good = 0) (x : UInt8) : ∃ e, rdAll (v.bytes ++ [x]) = .error e := by
  obtain ⟨h1, h2, h3, h4⟩ := good_iff.1 h
  unfold rdAll
  split
  · exact ⟨_, rfl⟩
  · rw [rd_bytes v 16 [x] hfit h1 h2 h3 (by omega)]
    exact ⟨4, rfl⟩
theorem rdAll_less {v : V} (hfit : v.fit) (h : v.good = 0) (k : Nat) (hk : k < v.bytes.length) : ∃ e, rdAll (v.bytes.take k) = .error e := by
  obtain ⟨h1, h2, h3, h4⟩ := good_iff.1 h
  cases hr : rdAll (v.bytes.take k) with
  | error e => exact ⟨e, rfl⟩
  | ok u =>
    exfalso
    unfold rdAll at hr
    split at hr
    · cases hr
    · split at hr
      · cases hr
      · rename_i v' r hr1
        split at hr
        · rename_i hrn
          subst hrn
          obtain ⟨a1, a2, a3, a4, hfit'⟩ := rd_sound _ _ _ _ hr1
          rw [List.append_nil] at a1
          have e1 := rd_bytes v' 16 (v.bytes.drop k) hfit' a2 a3 a4 (by rw [← a1, List.length_take]; omega)
          rw [← a1, List.take_append_drop] at e1
          have e2 := rd_bytes v 16 [] hfit h1 h2 h3 (by omega)
          rw [List.append_nil, e1] at e2
          injection e2 with e2
          injection e2 with _ e2
          have := congrArg List.length e2
          rw [List.length_drop, List.length_nil] at this
          omega
        · cases hr
end Go.Proofs.YtojpeiihkjpeoaaDoor
