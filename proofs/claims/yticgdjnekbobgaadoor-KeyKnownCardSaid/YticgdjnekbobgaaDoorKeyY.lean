/- Walks: the writer of keys: numbers, texts, lists, documents. -/
import Derived.Test.YticgdjnekbobgaaDoorKeyX
set_option linter.unusedVariables false
set_option linter.unusedSimpArgs false
namespace Go.Proofs.YticgdjnekbobgaaDoor
open Go.RowKit Go.Shelf

theorem pow63 : (2 : Nat) ^ 63 = 9223372036854775808 := by decide
theorem pow64 : (2 : Nat) ^ 64 = 18446744073709551616 := by decide
theorem top_and (n : Nat) (h : n < 18446744073709551616) : n &&& 9223372036854775808 = if n < 9223372036854775808 then 0 else 9223372036854775808 := by
  rw [← pow63]
  have hb : n.testBit 63 = decide (2 ^ 63 ≤ n) := by
    rw [Nat.testBit_eq_decide_div_mod_eq, pow63]
    by_cases h1 : 9223372036854775808 ≤ n
    · rw [decide_eq_true h1, decide_eq_true]; omega
    · rw [decide_eq_false h1, decide_eq_false]; omega
  apply Nat.eq_of_testBit_eq
  intro i
  rw [Nat.testBit_and, Nat.testBit_two_pow]
  by_cases hi : 63 = i
  · subst hi
    rw [hb]
    by_cases h1 : n < 2 ^ 63
    · rw [if_pos h1, decide_eq_false (by omega)]; simp
    · rw [if_neg h1, decide_eq_true (by omega), Nat.testBit_two_pow]; simp
  · rw [decide_eq_false hi, Bool.and_false]
    split
    · simp
    · rw [Nat.testBit_two_pow, decide_eq_false hi]
theorem top_xor (n : Nat) (h : n < 9223372036854775808) : n ^^^ 9223372036854775808 = n + 9223372036854775808 := by
  rw [← pow63] at h ⊢
  apply Nat.eq_of_testBit_eq
  intro i
  rw [Nat.testBit_xor, Nat.testBit_two_pow, Nat.add_comm]
  rcases Nat.lt_trichotomy i 63 with hi | rfl | hi
  · rw [Nat.testBit_two_pow_add_gt hi, decide_eq_false (by omega), Bool.xor_false]
  · rw [Nat.testBit_two_pow_add_eq]; simp
  · have h2 : n < 2 ^ i := Nat.lt_of_lt_of_le h (Nat.pow_le_pow_right (by omega) (by omega))
    have h3 : 2 ^ 63 + n < 2 ^ i := Nat.lt_of_lt_of_le (show 2 ^ 63 + n < 2 ^ 64 by rw [Nat.pow_succ]; omega) (Nat.pow_le_pow_right (by omega) (by omega))
    rw [Nat.testBit_lt_two_pow h2, Nat.testBit_lt_two_pow h3, decide_eq_false (by omega), Bool.xor_false]
theorem top_xor2 (n : Nat) (h1 : 9223372036854775808 ≤ n) (h : n < 18446744073709551616) : n ^^^ 9223372036854775808 = n - 9223372036854775808 := by
  obtain ⟨m, rfl⟩ : ∃ m, n = m + 9223372036854775808 := ⟨n - 9223372036854775808, by omega⟩
  have hm := top_xor m (by omega)
  rw [Nat.add_sub_cancel, ← hm, Nat.xor_assoc, Nat.xor_self, Nat.xor_zero]
theorem top_not (n : Nat) (h : n < 18446744073709551616) : 18446744073709551615 ^^^ n = 18446744073709551615 - n := by
  apply Nat.eq_of_testBit_eq
  intro i
  have e1 : (18446744073709551615 : Nat) = 2 ^ 64 - 1 := by decide
  have e2 : 18446744073709551615 - n = 2 ^ 64 - (n + 1) := by rw [e1]; omega
  rw [Nat.testBit_xor, e2, Nat.testBit_two_pow_sub_succ (by rw [pow64]; exact h), e1, Nat.testBit_two_pow_sub_one]
  by_cases hi : i < 64
  · simp [hi]
  · have : n.testBit i = false := Nat.testBit_lt_two_pow (Nat.lt_of_lt_of_le h (by rw [← pow64]; exact Nat.pow_le_pow_right (by omega) (by omega)))
    simp [hi, this]
/-- The model's own words for turning a number. -/
theorem u64_top (n : Nat) (h : n < 18446744073709551616) : bits .and .u64 (n : Int) 9223372036854775808 = if n < 9223372036854775808 then 0 else 9223372036854775808 := by
  have := u64_and_nat n 9223372036854775808 h (by decide)
  rw [top_and n h] at this
  rw [show (9223372036854775808 : Int) = ((9223372036854775808 : Nat) : Int) from rfl, this]
  split <;> rfl
theorem u64_not (n : Nat) (h : n < 18446744073709551616) : bits .xor .u64 IntKind.u64.max (n : Int) = ((18446744073709551615 - n : Nat) : Int) := by
  have := u64_xor_nat 18446744073709551615 n (by decide) h
  rw [top_not n h] at this
  exact this
theorem u64_flip (n : Nat) (h : n < 18446744073709551616) : bits .xor .u64 (n : Int) 9223372036854775808 = (if n < 9223372036854775808 then ((n + 9223372036854775808 : Nat) : Int) else ((n - 9223372036854775808 : Nat) : Int)) := by
  have := u64_xor_nat n 9223372036854775808 h (by decide)
  split
  · rename_i h1; rw [top_xor n h1] at this; exact this
  · rename_i h1; rw [top_xor2 n (by omega) h] at this; exact this

theorem kw_turned (n : Nat) (w : World) (hn : n < 18446744073709551616) : Calls Tryd.prog 141 #[.int .u64 n] w fun e w' => e = .returned (.int .u64 (turnN n : Nat)) ∧ w = w' := by
  have h1 := u64_top n hn
  have h2 := u64_not n hn
  have h3 := u64_flip n hn
  by_cases hlt : n < 9223372036854775808
  · rw [if_pos hlt] at h1 h3
    have ht : turnN n = n + 9223372036854775808 := by rw [turnN, if_pos hlt]
    clear h2
    go_enter Tryd.func141, Tryd.ntmps141
    go_wp2
    go_ret
    exact ⟨by first | rfl | (rw [ht]; rfl), rfl⟩
  · rw [if_neg hlt] at h1 h3
    have ht : turnN n = 18446744073709551615 - n := by rw [turnN, if_neg hlt]
    clear h3
    go_enter Tryd.func141, Tryd.ntmps141
    go_wp2
    go_ret
    exact ⟨by first | rfl | (rw [ht]; rfl), rfl⟩

/-- A value's parameter, boxed: the writer behind it. -/
theorem Wr.al {w : World} {pb : Nat} {A : Option Addr} {c : Nat} {bs : List UInt8} (h : Wr w pb A c bs) (o : Obj) : Wr (w.alloc o) pb A c bs := h.grow ((Grow.refl w).alloc o)
theorem WrC.from {w0 w : World} {pb : Nat} {A : Option Addr} {n c : Nat} {bs : List UInt8} {e : Ending} {w' : World} (h : WrC w pb A n c bs e w') (hg : WG w0 pb (.slice A n c) w (.slice A n c)) : WrC w0 pb A n c bs e w' := by
  obtain ⟨A', c', rfl, h1, h2⟩ := h
  exact ⟨A', c', rfl, h1, hg.trans h2⟩

set_option maxHeartbeats 800000 in
theorem kw_null (pb : Nat) (A : Option Addr) (c : Nat) (bs : List UInt8) (cv : Cv) (w : World) (h : Wr w pb A c bs) (hl : bs.length + 1 ≤ 140737488355328) :
    Calls Tryd.prog 93 #[.pointer (some ⟨pb, 0, none⟩), cv.agg] w (WrC w pb A bs.length c (bs ++ [16])) := by
  have hz : (w.alloc (.cells cv.cells 27)).heap.size = w.heap.size + 1 := by simp
  have HC := hide (kw_lay_new pb A c bs [16] #[.int .u8 16] 1 _ (h.al (.cells cv.cells 27)) rfl rfl (by simp only [List.length_cons, List.length_nil]; omega))
  rw [hz] at HC
  clear h hz
  go_enter Tryd.func93, Tryd.ntmps93
  go_wp2_with fail
  refine HC.out.mono ?_
  rintro e w2 ⟨A2, c2, rfl, h1, h2⟩
  have HW := hide h1
  have HG := hide ((WG.of_grow pb _ ((Grow.refl w).alloc (.cells cv.cells 27))).trans h2)
  clear h1 h2 HC
  go_wp2_with fail
  go_end0
  exact ⟨A2, c2, rfl, HW.out, HG.out⟩
set_option maxHeartbeats 800000 in
theorem kw_bool (pb : Nat) (A : Option Addr) (c : Nat) (bs : List UInt8) (cv : Cv) (n : Nat) (hn : n ≤ 1) (hcv : cv.n = (n : Int)) (w : World) (h : Wr w pb A c bs) (hl : bs.length + 2 ≤ 140737488355328) :
    Calls Tryd.prog 94 #[.pointer (some ⟨pb, 0, none⟩), cv.agg] w (WrC w pb A bs.length c (bs ++ [32, UInt8.ofNat n])) := by
  obtain ⟨c1, c2, c3, c4, c5, c6, c7, c8, c9, c10, c11⟩ := cv
  dsimp only at hcv
  subst hcv
  have hz : (w.alloc (.cells (Cv.cells ⟨c1, n, c3, c4, c5, c6, c7, c8, c9, c10, c11⟩) 27)).heap.size = w.heap.size + 1 := by simp
  have HC := hide (kw_lay_new pb A c bs [32, UInt8.ofNat n] #[.int .u8 32, .int .u8 (n : Int)] 2 _ (h.al (.cells (Cv.cells ⟨c1, n, c3, c4, c5, c6, c7, c8, c9, c10, c11⟩) 27)) rfl (by
    show (#[.int .u8 32, .int .u8 (n : Int)] : Array Value) = #[.int .u8 32, .int .u8 ((UInt8.ofNat n).toNat : Int)]
    rw [ofNat_toNat8 n (by omega)]) (by simp only [List.length_cons, List.length_nil]; omega))
  rw [hz] at HC
  have hw : IntKind.u8.wrap (n : Int) = (n : Int) := by rw [IntKind.wrap_u8]; omega
  clear h hz
  go_enter Tryd.func94, Tryd.ntmps94
  go_wp2_with fail
  refine HC.out.mono ?_
  rintro e w2 ⟨A2, c2, rfl, h1, h2⟩
  have HW := hide h1
  have HG := hide ((WG.of_grow pb _ ((Grow.refl w).alloc (.cells (Cv.cells ⟨c1, n, c3, c4, c5, c6, c7, c8, c9, c10, c11⟩) 27))).trans h2)
  clear h1 h2 HC
  go_wp2_with fail
  go_end0
  exact ⟨A2, c2, rfl, HW.out, HG.out⟩

/-- A call of lay that goes on from what has been written since w. -/
theorem kw_lay_on {w0 w : World} {pb : Nat} {A0 A : Option Addr} {n0 c0 c : Nat} {bs : List UInt8} (zs : List UInt8) (cs : Array Value) (n : Nat) (h : Wr w pb A c bs) (hg : WG w0 pb (.slice A0 n0 c0) w (.slice A bs.length c)) (hn : zs.length = n) (he : cs = (u8s zs).toArray)
    (hl : bs.length + zs.length ≤ 140737488400000) : Calls Tryd.prog 138 #[.pointer (some ⟨pb, 0, none⟩), .slice (some ⟨w.heap.size, 0, none⟩) n n] (w.alloc (.cells cs 5)) (WrC w0 pb A0 n0 c0 (bs ++ zs)) := by
  refine (kw_lay_new pb A c bs zs cs n w h hn he hl).mono ?_
  rintro e w' ⟨A', c', rfl, h1, h2⟩
  exact ⟨A', c', rfl, h1, hg.trans h2⟩
theorem kw_word_on {w0 w : World} {pb : Nat} {A0 A : Option Addr} {n0 c0 c : Nat} {bs : List UInt8} (n size : Nat) (h : Wr w pb A c bs) (hg : WG w0 pb (.slice A0 n0 c0) w (.slice A bs.length c)) (hs : size ≤ 8) (hn : n < 18446744073709551616)
    (hl : bs.length + 8 ≤ 140737488355328) : Calls Tryd.prog 140 #[.pointer (some ⟨pb, 0, none⟩), .int .u64 n, .int .i64 size] w (WrC w0 pb A0 n0 c0 (bs ++ be size n)) := by
  refine (kw_word pb A c bs n size w h hs hn hl).mono ?_
  rintro e w' ⟨A', c', rfl, h1, h2⟩
  exact ⟨A', c', rfl, h1, hg.trans h2⟩
set_option maxRecDepth 100000 in
set_option maxHeartbeats 3200000 in
theorem kw_int (pb : Nat) (A : Option Addr) (c : Nat) (bs : List UInt8) (n : Nat) (hn : n < 18446744073709551616) (c3 c6 c9 : Option Addr) (c4 c5 c7 c8 c10 c11 : Nat) (w : World) (h : Wr w pb A c bs) (hl : bs.length + 40 ≤ 140737488355328) :
    Calls Tryd.prog 95 #[.pointer (some ⟨pb, 0, none⟩), Cv.agg ⟨3, n, c3, c4, c5, c6, c7, c8, c9, c10, c11⟩] w (WrC w pb A bs.length c (bs ++ 48 :: keyInt n)) := by
  have hi := i64_range n hn
  have hb := run_bits
  have hcv : IntKind.i64.wrap (n : Int) = i64 n := by unfold i64; rw [IntKind.wrap_i64]; split <;> omega
  have hfc := floor_cases (i64 n) hi.1 hi.2
  have hff := floor_any (i64 n)
  obtain ⟨g, hg⟩ : ∃ g, (fl (i64 n)).1 = g := ⟨_, rfl⟩
  obtain ⟨rest, hrest⟩ : ∃ g, (fl (i64 n)).2 = g := ⟨_, rfl⟩
  have hkey : keyInt n = 1 :: (be 8 (turnN g) ++ (be 2 rest ++ [0])) := by unfold keyInt; rw [hg, hrest]
  rw [hg, hrest] at hfc hff
  have HFF := hide (fun w => hff w hi.1 hi.2)
  have HT := hide (fun w => kw_turned g w hfc.bits)
  have ht := turn_lt g hfc.bits
  have hrs := hfc.small
  have HKEY := hide hkey
  clear hfc hff hkey hg hrest
  obtain ⟨i, hin⟩ : ∃ i, i64 n = i := ⟨_, rfl⟩
  rw [hin] at hcv HFF hi
  clear hin
  obtain ⟨tg, htg⟩ : ∃ x, turnN g = x := ⟨_, rfl⟩
  rw [htg] at HT ht HKEY
  clear htg
  have hz : (w.alloc (.cells (Cv.cells ⟨3, n, c3, c4, c5, c6, c7, c8, c9, c10, c11⟩) 27)).heap.size = w.heap.size + 1 := by simp
  have HGW := hide (WG.of_grow pb (.slice A bs.length c) ((Grow.refl w).alloc (.cells (Cv.cells ⟨3, n, c3, c4, c5, c6, c7, c8, c9, c10, c11⟩) 27)))
  have HB0 := hide (Blk.new w 27 (Cv.cells ⟨3, n, c3, c4, c5, c6, c7, c8, c9, c10, c11⟩))
  have hne : w.heap.size ≠ pb := by have := h.1.lt; omega
  have hno : Value.ownBlock (.slice A bs.length c) ≠ some w.heap.size := fun e => by have := h.own e; omega
  have HNO := hide (fun q : w.heap.size = pb ∨ Value.ownBlock (.slice A bs.length c) = some w.heap.size => q.elim hne hno)
  have HC := hide (kw_lay_new pb A c bs [48] #[.int .u8 48] 1 (w.alloc (.cells (Cv.cells ⟨3, n, c3, c4, c5, c6, c7, c8, c9, c10, c11⟩) 27)) (h.al _) rfl rfl (by simp only [List.length_cons, List.length_nil]; omega))
  rw [hz] at HC
  clear h hz hne hno
  go_enter Tryd.func95, Tryd.ntmps95
  go_wp2_with fail
  refine HC.out.mono ?_
  rintro e w2 ⟨A2, c2, rfl, h1, h2⟩
  have hB2 := h2.kept.blk HB0.out HNO.out
  have hc0 := hB2.cell 0
  have hc1 := hB2.cell 1
  have hlt2 := hB2.lt
  have HB2 := hide hB2
  have HW2 := hide h1
  have HG2 := hide h2
  have hn2 : (bs ++ [48]).length = bs.length + 1 := by simp
  have hl2 : (bs ++ [48]).length + 30 ≤ 140737488355328 := by omega
  clear h1 h2 HC hB2 hn2
  go_wp2_with fail
  refine (HFF.out _).mono ?_
  rintro e w' ⟨rfl, rfl⟩
  have HC := hide (kw_lay_on [1] #[.int .u8 1] 1 HW2.out HG2.out rfl rfl (by simp only [List.length_append, List.length_cons, List.length_nil, be_length] at *; omega))
  go_wp2_with fail
  refine HC.out.mono ?_
  rintro e w3 ⟨A3, c3_, rfl, h1, h2⟩
  have HW3 := hide h1
  have HG3 := hide h2
  clear h1 h2 HC
  go_wp2_with fail
  refine (HT.out _).mono ?_
  rintro e w' ⟨rfl, rfl⟩
  have HC := hide (kw_word_on tg 8 HW3.out HG3.out (by omega) ht (by simp only [List.length_append, List.length_cons, List.length_nil, be_length] at *; omega))
  go_wp2_with fail
  refine HC.out.mono ?_
  rintro e w4 ⟨A4, c4_, rfl, h1, h2⟩
  have HW4 := hide h1
  have HG4 := hide h2
  clear h1 h2 HC
  have HC := hide (kw_word_on rest 2 HW4.out HG4.out (by omega) (by omega) (by simp only [List.length_append, List.length_cons, List.length_nil, be_length] at *; omega))
  go_wp2_with fail
  refine HC.out.mono ?_
  rintro e w5 ⟨A5, c5_, rfl, h1, h2⟩
  have HW5 := hide h1
  have HG5 := hide h2
  clear h1 h2 HC
  have HC := hide (kw_lay_on [0] #[.int .u8 0] 1 HW5.out HG5.out rfl rfl (by simp only [List.length_append, List.length_cons, List.length_nil, be_length] at *; omega))
  go_wp2_with fail
  refine HC.out.mono ?_
  rintro e w6 ⟨A6, c6_, rfl, h1, h2⟩
  have HW6 := hide h1
  have HG6 := hide h2
  clear h1 h2 HC
  go_wp2_with fail
  go_end0
  have e0 : bs ++ [48] ++ [1] ++ be 8 tg ++ be 2 rest ++ [0] = bs ++ 48 :: keyInt n := by rw [HKEY.out]; simp
  have HX := HW6.out
  have HY := HG6.out
  rw [e0] at HX HY
  exact ⟨A6, c6_, rfl, HX, HGW.out.trans HY⟩
set_option maxRecDepth 100000 in
set_option maxHeartbeats 3200000 in
theorem kw_nan (pb : Nat) (A : Option Addr) (c : Nat) (bs : List UInt8) (n : Nat) (hn : n < 18446744073709551616) (hnan : nanB n = true) (c3 c6 c9 : Option Addr) (c4 c5 c7 c8 c10 c11 : Nat) (w : World) (h : Wr w pb A c bs) (hl : bs.length + 40 ≤ 140737488355328) :
    Calls Tryd.prog 95 #[.pointer (some ⟨pb, 0, none⟩), Cv.agg ⟨4, n, c3, c4, c5, c6, c7, c8, c9, c10, c11⟩] w (WrC w pb A bs.length c (bs ++ 48 :: keyFloat n)) := by
  have hb := run_from
  have HKEY := hide (show keyFloat n = 0 :: be 8 n by unfold keyFloat; rw [if_pos hnan])
  have hz : (w.alloc (.cells (Cv.cells ⟨4, n, c3, c4, c5, c6, c7, c8, c9, c10, c11⟩) 27)).heap.size = w.heap.size + 1 := by simp
  have HGW := hide (WG.of_grow pb (.slice A bs.length c) ((Grow.refl w).alloc (.cells (Cv.cells ⟨4, n, c3, c4, c5, c6, c7, c8, c9, c10, c11⟩) 27)))
  have HB0 := hide (Blk.new w 27 (Cv.cells ⟨4, n, c3, c4, c5, c6, c7, c8, c9, c10, c11⟩))
  have hne : w.heap.size ≠ pb := by have := h.1.lt; omega
  have hno : Value.ownBlock (.slice A bs.length c) ≠ some w.heap.size := fun e => by have := h.own e; omega
  have HNO := hide (fun q : w.heap.size = pb ∨ Value.ownBlock (.slice A bs.length c) = some w.heap.size => q.elim hne hno)
  have HC := hide (kw_lay_new pb A c bs [48] #[.int .u8 48] 1 (w.alloc (.cells (Cv.cells ⟨4, n, c3, c4, c5, c6, c7, c8, c9, c10, c11⟩) 27)) (h.al _) rfl rfl (by simp only [List.length_cons, List.length_nil]; omega))
  rw [hz] at HC
  clear h hz hne hno
  go_enter Tryd.func95, Tryd.ntmps95
  go_wp2_with fail
  refine HC.out.mono ?_
  rintro e w2 ⟨A2, c2, rfl, h1, h2⟩
  have hB2 := h2.kept.blk HB0.out HNO.out
  have hc0 := hB2.cell 0
  have hc1 := hB2.cell 1
  have hlt2 := hB2.lt
  have HB2 := hide hB2
  have HW2 := hide h1
  have HG2 := hide h2
  have hn2 : (bs ++ [48]).length = bs.length + 1 := by simp
  have hl2 : (bs ++ [48]).length + 30 ≤ 140737488355328 := by omega
  clear h1 h2 HC hB2 hn2
  go_wp2_with fail
  refine (isnan_any n _).mono ?_
  rintro e w' ⟨rfl, rfl⟩
  have hnan' := hnan
  have HC := hide (kw_lay_on [0] #[.int .u8 0] 1 HW2.out HG2.out rfl rfl (by simp only [List.length_append, List.length_cons, List.length_nil, be_length] at *; omega))
  go_wp2_with fail
  refine HC.out.mono ?_
  rintro e w3 ⟨A3, c3_, rfl, h1, h2⟩
  have HW3 := hide h1
  have HG3 := hide h2
  clear h1 h2 HC
  have hB3 := HG3.out.kept.blk HB0.out HNO.out
  have hc3_ := hB3.cell 1
  have hlt3 := hB3.lt
  clear hB3
  have HC := hide (kw_word_on n 8 HW3.out HG3.out (by omega) hn (by simp only [List.length_append, List.length_cons, List.length_nil, be_length] at *; omega))
  go_wp2_with fail
  refine HC.out.mono ?_
  rintro e w4 ⟨A4, c4_, rfl, h1, h2⟩
  have HW4 := hide h1
  have HG4 := hide h2
  clear h1 h2 HC
  go_wp2_with fail
  go_end0
  have e0 : bs ++ [48] ++ [0] ++ be 8 n = bs ++ 48 :: keyFloat n := by rw [HKEY.out]; simp
  have HX := HW4.out
  have HY := HG4.out
  rw [e0] at HX HY
  exact ⟨A4, c4_, rfl, HX, HGW.out.trans HY⟩
set_option maxRecDepth 100000 in
set_option maxHeartbeats 3200000 in
theorem kw_float (pb : Nat) (A : Option Addr) (c : Nat) (bs : List UInt8) (n : Nat) (hn : n < 18446744073709551616) (hnan : nanB n = false) (c3 c6 c9 : Option Addr) (c4 c5 c7 c8 c10 c11 : Nat) (w : World) (h : Wr w pb A c bs) (hl : bs.length + 40 ≤ 140737488355328) :
    Calls Tryd.prog 95 #[.pointer (some ⟨pb, 0, none⟩), Cv.agg ⟨4, n, c3, c4, c5, c6, c7, c8, c9, c10, c11⟩] w (WrC w pb A bs.length c (bs ++ 48 :: keyFloat n)) := by
  have hb := run_from
  have HKEY := hide (show keyFloat n = 1 :: (be 8 (turnN n) ++ [0, 0, 1]) by unfold keyFloat; rw [if_neg (by rw [hnan]; decide)])
  have HT := hide (fun w => kw_turned n w hn)
  have ht := turn_lt n hn
  obtain ⟨tg, htg⟩ : ∃ x, turnN n = x := ⟨_, rfl⟩
  rw [htg] at HT ht HKEY
  clear htg
  have hz : (w.alloc (.cells (Cv.cells ⟨4, n, c3, c4, c5, c6, c7, c8, c9, c10, c11⟩) 27)).heap.size = w.heap.size + 1 := by simp
  have HGW := hide (WG.of_grow pb (.slice A bs.length c) ((Grow.refl w).alloc (.cells (Cv.cells ⟨4, n, c3, c4, c5, c6, c7, c8, c9, c10, c11⟩) 27)))
  have HB0 := hide (Blk.new w 27 (Cv.cells ⟨4, n, c3, c4, c5, c6, c7, c8, c9, c10, c11⟩))
  have hne : w.heap.size ≠ pb := by have := h.1.lt; omega
  have hno : Value.ownBlock (.slice A bs.length c) ≠ some w.heap.size := fun e => by have := h.own e; omega
  have HNO := hide (fun q : w.heap.size = pb ∨ Value.ownBlock (.slice A bs.length c) = some w.heap.size => q.elim hne hno)
  have HC := hide (kw_lay_new pb A c bs [48] #[.int .u8 48] 1 (w.alloc (.cells (Cv.cells ⟨4, n, c3, c4, c5, c6, c7, c8, c9, c10, c11⟩) 27)) (h.al _) rfl rfl (by simp only [List.length_cons, List.length_nil]; omega))
  rw [hz] at HC
  clear h hz hne hno
  go_enter Tryd.func95, Tryd.ntmps95
  go_wp2_with fail
  refine HC.out.mono ?_
  rintro e w2 ⟨A2, c2, rfl, h1, h2⟩
  have hB2 := h2.kept.blk HB0.out HNO.out
  have hc0 := hB2.cell 0
  have hc1 := hB2.cell 1
  have hlt2 := hB2.lt
  have HB2 := hide hB2
  have HW2 := hide h1
  have HG2 := hide h2
  have hn2 : (bs ++ [48]).length = bs.length + 1 := by simp
  have hl2 : (bs ++ [48]).length + 30 ≤ 140737488355328 := by omega
  clear h1 h2 HC hB2 hn2
  go_wp2_with fail
  refine (isnan_any n _).mono ?_
  rintro e w' ⟨rfl, rfl⟩
  have hnan' := hnan
  have HC := hide (kw_lay_on [1] #[.int .u8 1] 1 HW2.out HG2.out rfl rfl (by simp only [List.length_append, List.length_cons, List.length_nil, be_length] at *; omega))
  go_wp2_with fail
  refine HC.out.mono ?_
  rintro e w3 ⟨A3, c3_, rfl, h1, h2⟩
  have HW3 := hide h1
  have HG3 := hide h2
  clear h1 h2 HC
  have hB3 := HG3.out.kept.blk HB0.out HNO.out
  have hc3_ := hB3.cell 1
  have hlt3 := hB3.lt
  clear hB3
  go_wp2_with fail
  refine (HT.out _).mono ?_
  rintro e w' ⟨rfl, rfl⟩
  have HC := hide (kw_word_on tg 8 HW3.out HG3.out (by omega) ht (by simp only [List.length_append, List.length_cons, List.length_nil, be_length] at *; omega))
  go_wp2_with fail
  refine HC.out.mono ?_
  rintro e w4 ⟨A4, c4_, rfl, h1, h2⟩
  have HW4 := hide h1
  have HG4 := hide h2
  clear h1 h2 HC
  have HC := hide (kw_lay_on [0, 0, 1] #[.int .u8 0, .int .u8 0, .int .u8 1] 3 HW4.out HG4.out rfl rfl (by simp only [List.length_append, List.length_cons, List.length_nil, be_length] at *; omega))
  go_wp2_with fail
  refine HC.out.mono ?_
  rintro e w5 ⟨A5, c5_, rfl, h1, h2⟩
  have HW5 := hide h1
  have HG5 := hide h2
  clear h1 h2 HC
  go_wp2_with fail
  go_end0
  have e0 : bs ++ [48] ++ [1] ++ be 8 tg ++ [0, 0, 1] = bs ++ 48 :: keyFloat n := by rw [HKEY.out]; simp
  have HX := HW5.out
  have HY := HG5.out
  rw [e0] at HX HY
  exact ⟨A5, c5_, rfl, HX, HGW.out.trans HY⟩
end Go.Proofs.YticgdjnekbobgaaDoor
