/- Walks: the document's answer on keys: numbers, floats, texts. · Walks: the document's answer on keys: floor. -/
import Derived.Test.YtpjhhkndfmcaoaaDoorKeyOA
set_option linter.unusedVariables false
set_option linter.unusedSimpArgs false
namespace Go.Proofs.YtpjhhkndfmcaoaaDoor
open Go.RowKit Go.Shelf Go.WideShapes

/-- Bytes of the call's own, told alone. -/
def BytK (w : World) (b : List UInt8) (e : Ending) (w' : World) : Prop := ∃ A c, e = .returned (.slice A b.length c) ∧ Row w' w.heap.size (.slice A b.length c) b.length b ∧ Grow w w'
theorem BytK.of {w w' : World} {b xs : List UInt8} {n c : Nat} {A : Option Addr} (h : xs = b) (hn : n = b.length) (hr : Row w' w.heap.size (.slice A n c) n xs) (hg : Grow w w') : BytK w b (.returned (.slice A n c)) w' := by
  subst h hn; exact ⟨A, c, rfl, hr, hg⟩

theorem rk_turned (n : Nat) (w : World) (hn : n < 18446744073709551616) : Calls Tryd.prog 104 #[.int .u64 n] w fun e w' => e = .returned (.int .u64 (turnN n : Nat)) ∧ w = w' := by
  have h2 := u64_not n hn
  have h3 : n < 9223372036854775808 → bits .or .u64 (n : Int) 9223372036854775808 = ((n + 9223372036854775808 : Nat) : Int) := fun hlt => by
    have := u64_or_nat n 9223372036854775808 hn (by decide)
    rw [show n ||| 9223372036854775808 = n + 9223372036854775808 by
      have h4 := nat_join 63 9223372036854775808 n (by decide) (by rw [pow63]; exact hlt)
      rw [Nat.or_comm, h4]; omega] at this
    exact this
  by_cases hlt : n < 9223372036854775808
  · have h4 := h3 hlt
    have hd : (((n : Int) / 9223372036854775808) == 0) = true := by simp; omega
    have ht : turnN n = n + 9223372036854775808 := by rw [turnN, if_pos hlt]
    clear h2 h3
    go_enter Tryd.func104, Tryd.ntmps104
    go_wp2
    go_ret
    exact ⟨by rw [ht]; rfl, rfl⟩
  · have hd : (((n : Int) / 9223372036854775808) == 0) = false := by simp; omega
    have ht : turnN n = 18446744073709551615 - n := by rw [turnN, if_neg hlt]
    clear h3
    go_enter Tryd.func104, Tryd.ntmps104
    go_wp2
    go_ret
    exact ⟨rfl, rfl⟩

set_option maxHeartbeats 1600000 in
theorem rk_high (n size : Nat) (w : World) (hs : size ≤ 8) (hn : n < 18446744073709551616) : Calls Tryd.prog 103 #[.int .u64 n, .int .i64 size] w (BytK w (be size n)) := by
  go_enter Tryd.func103, Tryd.ntmps103
  go_wp2_with fail
  go_loopg [5, 6] (size + 1) (fun gk o i wr => ∃ (r : Nat) (z : Int) (A' : Option Addr) (c' : Nat), r ≤ size ∧ gk = r + 1 ∧ z + 1 = (r : Int) ∧ i = .int .i64 z ∧ o = .slice A' (size - r) c' ∧ Row wr w.heap.size (.slice A' (size - r) c') (size - r) ((be size n).take (size - r)) ∧ Grow w wr)
  case atStart => exact ⟨size, (size : Int) - 1, none, 0, Nat.le_refl _, rfl, by omega, rfl, by rw [Nat.sub_self], by rw [Nat.sub_self, List.take_zero]; exact World.ownsRow_nil _ _ _ _, Grow.refl w⟩
  case round =>
    obtain ⟨r, z, A', c', hr, rfl, hz, rfl, rfl, hrow, hg⟩ := hrel
    have HR := hide hrow
    have HG := hide hg
    clear hrow hg
    by_cases h0 : r = 0
    · subst h0
      have hz0 : z = -1 := by omega
      subst hz0
      clear hz
      go_wp2_with fail
      go_ret
      exact BytK.of (List.take_of_length_le (by rw [be_length]; omega)) (by rw [be_length]; omega) HR.out HG.out
    · obtain ⟨j, rfl⟩ : ∃ j, r = j + 1 := ⟨r - 1, by omega⟩
      obtain rfl : z = (j : Int) := by omega
      clear hz h0
      have hB : (((UInt8.ofNat (n / 256 ^ j)).toNat : Nat) : Int) = (n : Int) / 2 ^ (8 * j) % 256 := by
        rw [byte_of, ← pow256]; rfl
      have HB := hide hB
      have HT := hide (be_take n size j (by omega))
      clear hB
      go_wp2_with (at_builtin; refine app_src (ys := [UInt8.ofNat (n / 256 ^ j)]) rfl (.tmp 13) (.tmp 20) _ rfl rfl (HR.out.alloc _) _ rfl (src_one _ HB.out (Blk.new wr _ _)) (by simp only [List.length_cons, List.length_nil]; omega) (by simp; have := HG.out.size; omega) ?_; intro A4 c4 w4 hr4 hg4; have HR4 := hide hr4; have HG4 := hide (show Grow w w4 from Below.trans (HG.out.alloc _) (Grew.below hg4 (HR.out.alloc _) (by simp; have := HG.out.size; omega))); clear hr4 hg4)
      go_roundg (j + 1)
      case measure => omega
      case rel =>
        have e : size - (j + 1) + [UInt8.ofNat (n / 256 ^ j)].length = size - j := by simp only [List.length_cons, List.length_nil]; omega
        have hr5 := HR4.out
        rw [e, ← HT.out] at hr5
        exact ⟨j, (j : Int) - 1, A4, c4, by omega, rfl, by omega, rfl, by rw [← e]; rfl, hr5, HG4.out⟩

set_option maxHeartbeats 3200000 in
theorem rk_text (b : List UInt8) (B : Option Addr) (bc : Nat) (w : World) (hb : InB w B b) (hl : b.length ≤ 70000000000000) : Calls Tryd.prog 105 #[.slice B b.length bc] w (BytK w (esc b)) := by
  have HB := hide hb
  clear hb
  go_enter Tryd.func105, Tryd.ntmps105
  go_wp2_with fail
  go_loopg [3, 4] (b.length + 1) (fun gk o i wr => ∃ (k : Nat) (xs : List UInt8) (A' : Option Addr) (c' : Nat), k ≤ b.length ∧ gk + k = b.length + 1 ∧ i = .int .i64 k ∧ xs = escB (b.take k) ∧ o = .slice A' xs.length c' ∧ Row wr w.heap.size (.slice A' xs.length c') xs.length xs ∧ Grow w wr)
  case atStart => exact ⟨0, [], none, 0, Nat.zero_le _, rfl, rfl, rfl, rfl, World.ownsRow_nil _ _ _ _, Grow.refl w⟩
  case round =>
    obtain ⟨k, xs, A', c', hk, hg, rfl, hxs, rfl, hr, hgr⟩ := hrel
    have HR := hide hr
    have HG := hide hgr
    have hel : xs.length ≤ 2 * b.length := by
      have := (escB_length (b.take k)).2
      rw [List.length_take] at this
      rw [hxs]; omega
    have hzz := hgr.size
    clear hr hgr
    by_cases hlt : k < b.length
    · obtain ⟨gk', rfl⟩ : ∃ g, gk = g + 1 := ⟨gk - 1, by omega⟩
      obtain ⟨bk, o, rfl, hcell⟩ := HB.out.2 (by omega)
      have hcw := hcell k _ (u8s_get b k hlt)
      have hc := (HG.out.below.cell hcw.2.2).trans hcw.1
      have hbl : bk < wr.heap.size := Nat.lt_of_lt_of_le hcw.2.2 HG.out.size
      have hstep : escB (b.take (k + 1)) = xs ++ (if b[k] = 0 then [0, 255] else [b[k]]) := by rw [hxs, take_snoc b k hlt, escB_snoc]
      have HST := hide hstep
      have HGA := hide (fun (W : World) (h : Grow wr W) => (h.below.cell (p := ⟨bk, o + k, none⟩) hbl).trans hc)
      have hbo : ∀ q, Value.ownBlock (.slice A' xs.length c') = some q → bk ≠ q := fun q hq e => by
        have := (World.ownsRow.lt HR.out q hq).1
        have := hcw.2.2
        dsimp only at this
        omega
      have HCB := hide (fun (W : World) (h : ∀ k, k < wr.heap.size → (∀ q, Value.ownBlock (.slice A' xs.length c') = some q → k ≠ q) → W.heap[k]? = wr.heap[k]?) => (World.cell?_of_block (a := ⟨bk, o + k, none⟩) (h bk hbl hbo)).trans hc)
      clear hstep hcell hcw hxs HGA hbo
      by_cases hx : b[k] = 0
      · rw [if_pos hx] at HST
        rw [hx] at hc HCB
        have hc' : wr.cell? ⟨bk, o + k, none⟩ = some (.int .u8 0) := hc
        have HCB' := hide (show ∀ (W : World), (∀ k, k < wr.heap.size → (∀ q, Value.ownBlock (.slice A' xs.length c') = some q → k ≠ q) → W.heap[k]? = wr.heap[k]?) → W.cell? ⟨bk, o + k, none⟩ = some (.int .u8 0) from HCB.out)
        clear hc hx HCB
        have HCB := HCB'
        clear HCB'
        go_wp2_with (first
          | (at_builtin; refine app_src (ys := [0]) rfl (.tmp 11) (.tmp 16) _ rfl rfl (HR.out.alloc _) _ rfl (src_one 0 rfl (Blk.new wr _ _)) (by simp only [List.length_cons, List.length_nil]; omega) (by simp; omega) ?_; intro A4 c4 w4 hr4 hg4; have HR4 := hide hr4; have HGr4 := hide (show Below w.heap.size wr w4 from Below.trans (Below.alloc (Below.refl _ wr) hzz _) (Grew.below hg4 (HR.out.alloc _) (by simp; omega))); have hz4 : wr.heap.size ≤ w4.heap.size := HGr4.out.size; have HRo := hide (show ∀ k, k < wr.heap.size → (∀ q, Value.ownBlock (.slice A' xs.length c') = some q → k ≠ q) → w4.heap[k]? = wr.heap[k]? from fun k hk hne => (hg4.grow.block k (by simp; omega) (fun e => hne k e.symm rfl)).trans (((Grow.refl wr).alloc _).below.block k hk)); have hc4 := HCB.out w4 HRo.out; have hb4 : bk < w4.heap.size := Nat.lt_of_lt_of_le hbl (by have := hg4.grow.size; simp at this; omega); clear hr4 hg4)
          | (at_builtin; refine app_src (ys := [255]) rfl (.tmp 23) (.tmp 24) _ rfl rfl (HR4.out.alloc _) _ rfl (src_one 255 rfl (Blk.new w4 _ _)) (by simp only [List.length_cons, List.length_nil]; omega) (by simp; omega) ?_; intro A5 c5 w5 hr5 hg5; have HR5 := hide hr5; have HG5 := hide (show Grow w w5 from Below.trans (Below.trans HG.out HGr4.out) (Below.trans (Below.alloc (Below.refl _ w4) (by omega) _) (Grew.below hg5 (HR4.out.alloc _) (by simp; omega)))); clear hr5 hg5))
        go_roundg gk'
        case measure => omega
        case rel =>
          have hn : (xs ++ [(0 : UInt8), 255]).length = xs.length + [(0 : UInt8)].length + [(255 : UInt8)].length := by simp
          have e : xs ++ [(0 : UInt8)] ++ [255] = xs ++ [0, 255] := by simp
          have hr5 := HR5.out
          rw [e] at hr5
          exact ⟨k + 1, xs ++ [0, 255], A5, c5, by omega, by omega, by go_num, HST.out.symm, by rw [hn]; rfl, by rw [hn]; exact hr5, HG5.out⟩
      · rw [if_neg hx] at HST
        obtain ⟨x, hxx⟩ : ∃ x, b[k] = x := ⟨_, rfl⟩
        have hne : ((x.toNat : Int) == 0) = false := by
          have : x.toNat ≠ 0 := fun e => hx (by rw [hxx]; exact UInt8.toNat_inj.1 e)
          simp; omega
        rw [hxx] at HST hc HCB
        have hxl := x.toNat_lt
        clear hx hxx
        go_wp2_with (at_builtin; refine app_src (ys := [x]) rfl (.tmp 11) (.tmp 16) _ rfl rfl (HR.out.alloc _) _ rfl (src_one x rfl (Blk.new wr _ _)) (by simp only [List.length_cons, List.length_nil]; omega) (by simp; omega) ?_; intro A4 c4 w4 hr4 hg4; have HR4 := hide hr4; have HGr4 := hide (show Below w.heap.size wr w4 from Below.trans (Below.alloc (Below.refl _ wr) hzz _) (Grew.below hg4 (HR.out.alloc _) (by simp; omega))); have hz4 : wr.heap.size ≤ w4.heap.size := HGr4.out.size; have HRo := hide (show ∀ k, k < wr.heap.size → (∀ q, Value.ownBlock (.slice A' xs.length c') = some q → k ≠ q) → w4.heap[k]? = wr.heap[k]? from fun k hk hne => (hg4.grow.block k (by simp; omega) (fun e => hne k e.symm rfl)).trans (((Grow.refl wr).alloc _).below.block k hk)); have hc4 := HCB.out w4 HRo.out; have hb4 : bk < w4.heap.size := Nat.lt_of_lt_of_le hbl (by have := hg4.grow.size; simp at this; omega); clear hr4 hg4)
        go_roundg gk'
        case measure => omega
        case rel =>
          have hn : (xs ++ [x]).length = xs.length + [x].length := List.length_append
          exact ⟨k + 1, xs ++ [x], A4, c4, by omega, by omega, by go_num, HST.out.symm, by rw [hn]; rfl, by rw [hn]; exact HR4.out, Below.trans HG.out HGr4.out⟩
    · obtain rfl : k = b.length := by omega
      rw [List.take_length] at hxs
      have HXS := hide hxs
      clear hxs hg
      go_wp2_with (at_builtin; refine app_src (ys := [0, 0]) rfl (.tmp 26) (.tmp 27) _ rfl rfl (HR.out.alloc _) _ rfl (src_lit (n := 2) [0, 0] #[.int .u8 0, .int .u8 0] rfl (Blk.new wr _ _) rfl) (by simp only [List.length_cons, List.length_nil]; omega) (by simp; omega) ?_; intro A4 c4 w4 hr4 hg4; have HR4 := hide hr4; have HG4 := hide (show Grow w w4 from Below.trans (HG.out.alloc _) (Grew.below hg4 (HR.out.alloc _) (by simp; omega))); clear hr4 hg4)
      go_ret
      exact BytK.of (by rw [HXS.out]; rfl) (by rw [HXS.out]; simp [esc]) HR4.out HG4.out
end Go.Proofs.YtpjhhkndfmcaoaaDoor

set_option linter.unusedVariables false
set_option linter.unusedSimpArgs false
namespace Go.Proofs.YtpjhhkndfmcaoaaDoor
open Go.RowKit Go.Shelf Go.WideShapes

theorem sh_test (m j : Nat) (hm : m < 18446744073709551616) : 9007199254740992 ≤ m / 2 ^ j ↔ j < sh m := by
  rw [Nat.le_div_iff_mul_le (Nat.pow_pos (by omega)), ← pow53, ← Nat.pow_add]
  unfold sh
  by_cases h0 : m = 0
  · subst h0
    have : 0 < 2 ^ (53 + j) := Nat.pow_pos (by omega)
    simp
  · rw [← Nat.le_log2 h0]; omega
theorem sh_le (m : Nat) (hm : m < 18446744073709551616) : sh m ≤ 11 := by
  unfold sh
  by_cases h0 : m = 0
  · subst h0; decide
  · have : m.log2 < 64 := by rw [Nat.log2_lt h0, pow64]; exact hm
    omega

theorem near_neg (mag : Nat) : Op.negFloat .f64 (Ieee.double.nearest false mag 0) = Ieee.double.nearest true mag 0 := by
  have key : ∀ r, r ≤ 9218868437227405312 → Op.negFloat .f64 (Ieee.double.word false r) = Ieee.double.word true r := by
    intro r hr
    have e1 : Ieee.double.word false r = r := by unfold Ieee.Format.word; simp
    have e2 : Ieee.double.word true r = r + 9223372036854775808 := by unfold Ieee.Format.word; rw [dbl_sign]; simp; omega
    rw [e1, e2]
    show r ^^^ 2 ^ 63 = _
    rw [pow63]
    exact top_xor r (by omega)
  unfold Ieee.Format.nearest
  split
  · exact key 0 (by omega)
  · simp only [dbl_inf]
    exact key _ (Nat.min_le_right _ _)
theorem neg_float (b : Nat) (w : World) : (Op.unary .neg (.float .f64 b)).run Tryd.prog w = .ok (.float .f64 (Op.negFloat .f64 b)) w := rfl
set_option maxRecDepth 100000 in
set_option maxHeartbeats 3200000 in
theorem rk_floor_up (m : Nat) (hm : m ≤ 9223372036854775807) (w : World) : Calls Tryd.prog 102 #[.int .i64 (m : Int)] w fun e w' => e = .returned (.tuple #[.int .u64 ((fl (m : Int)).1 : Nat), .int .u64 ((fl (m : Int)).2 : Nat)]) ∧ w = w' := by
  have hb := run_bits
  obtain ⟨s, hs⟩ : ∃ s, sh m = s := ⟨_, rfl⟩
  have hs11 : s ≤ 11 := by rw [← hs]; exact sh_le m (by omega)
  have hfl : fl (m : Int) = (Ieee.double.nearest false (m / 2 ^ s * 2 ^ s) 0, m % 2 ^ s) := by
    unfold fl; rw [if_pos (by omega), Int.toNat_natCast, hs]
  have HFL := hide hfl
  have HST := hide (fun j => sh_test m j (by omega))
  rw [hs] at HST
  clear hfl hs
  go_enter Tryd.func102, Tryd.ntmps102
  go_wp2_with fail
  go_loopg [5] (s + 1) (fun gk k wr => ∃ j : Nat, j ≤ s ∧ gk + j = s + 1 ∧ k = .int .u64 (j : Int) ∧ wr = w)
  case atStart => exact ⟨0, Nat.zero_le _, rfl, rfl, rfl⟩
  case round =>
    obtain ⟨j, hj, hg, rfl, rfl⟩ := hrel
    obtain ⟨gk', rfl⟩ : ∃ g, gk = g + 1 := ⟨gk - 1, by omega⟩
    by_cases hlt : j < s
    · have h1 := (HST.out j).2 hlt
      have hd : decide ((9007199254740992 : Int) ≤ (m : Int) / 2 ^ j) = true := by
        apply decide_eq_true
        have : ((m / 2 ^ j : Nat) : Int) = (m : Int) / 2 ^ j := by push_cast; rfl
        omega
      clear h1
      go_wp2_with fail
      go_roundg gk'
      case measure => omega
      case rel => exact ⟨j + 1, by omega, by omega, by go_num, rfl⟩
    · obtain rfl : j = s := by omega
      have h1 : ¬ 9007199254740992 ≤ m / 2 ^ j := fun h => by have := (HST.out j).1 h; omega
      have hd : decide ((9007199254740992 : Int) ≤ (m : Int) / 2 ^ j) = false := by
        apply decide_eq_false
        have : ((m / 2 ^ j : Nat) : Int) = (m : Int) / 2 ^ j := by push_cast; rfl
        omega
      clear h1
      go_wp2_with fail
      have hdm := Nat.div_add_mod m (2 ^ j)
      rw [Nat.mul_comm] at hdm
      have hc : ((m / 2 ^ j * 2 ^ j : Nat) : Int) = (m : Int) / 2 ^ j * 2 ^ j := by push_cast; rfl
      have e1 : IntKind.u64.wrap ((m : Int) / 2 ^ j * 2 ^ j) = ((m / 2 ^ j * 2 ^ j : Nat) : Int) := by rw [← hc, IntKind.wrap_u64]; omega
      have e2 : IntKind.u64.wrap ((m : Int) - ((m / 2 ^ j * 2 ^ j : Nat) : Int)) = ((m % 2 ^ j : Nat) : Int) := by rw [IntKind.wrap_u64]; omega
      go_ret2
      refine ⟨?_, rfl⟩
      show Ending.returned (.tuple #[.int .u64 ((floatOfInt .f64 (IntKind.u64.wrap ((m : Int) / 2 ^ j * 2 ^ j)) : Nat) : Int), .int .u64 (IntKind.u64.wrap ((m : Int) - IntKind.u64.wrap ((m : Int) / 2 ^ j * 2 ^ j)))]) = _
      rw [e1, e2, HFL.out]
      have e3 : floatOfInt .f64 ((m / 2 ^ j * 2 ^ j : Nat) : Int) = Ieee.double.nearest false (m / 2 ^ j * 2 ^ j) 0 := by
        show Ieee.double.nearest (decide (((m / 2 ^ j * 2 ^ j : Nat) : Int) < 0)) (((m / 2 ^ j * 2 ^ j : Nat) : Int)).natAbs 0 = _
        rw [decide_eq_false (by omega), Int.natAbs_natCast]
      rw [e3]

set_option maxRecDepth 100000 in
set_option maxHeartbeats 3200000 in
theorem rk_floor_down (m : Nat) (hm0 : 1 ≤ m) (hm : m ≤ 9223372036854775808) (w : World) : Calls Tryd.prog 102 #[.int .i64 (-(m : Int))] w fun e w' => e = .returned (.tuple #[.int .u64 ((fl (-(m : Int))).1 : Nat), .int .u64 ((fl (-(m : Int))).2 : Nat)]) ∧ w = w' := by
  have hb := run_bits
  have hng := neg_float
  obtain ⟨i, hi⟩ : ∃ i : Int, -(m : Int) = i := ⟨_, rfl⟩
  obtain ⟨s, hs⟩ : ∃ s, sh m = s := ⟨_, rfl⟩
  have hs11 : s ≤ 11 := by rw [← hs]; exact sh_le m (by omega)
  have hfl : fl i = (Ieee.double.nearest true ((m + (2 ^ s - 1)) / 2 ^ s * 2 ^ s) 0, (m + (2 ^ s - 1)) / 2 ^ s * 2 ^ s - m) := by
    have e : i.natAbs = m := by omega
    unfold fl; rw [if_neg (by omega), e, hs]
  rw [hi]
  have HFL := hide hfl
  have HST := hide (fun j => sh_test m j (by omega))
  rw [hs] at HST
  have hi1 : i < 0 := by omega
  have hi2 : -9223372036854775808 ≤ i := by omega
  have hm1 : IntKind.u64.wrap (IntKind.u64.wrap (-(i + 1)) + 1) = (m : Int) := by rw [IntKind.wrap_u64, IntKind.wrap_u64]; omega
  clear hfl hs
  have HI := hide hi
  clear hi
  go_enter Tryd.func102, Tryd.ntmps102
  go_wp2_with fail
  rw [show -(i + 1) + 1 = (m : Int) by have := HI.out; omega]
  go_loopg [8] (s + 1) (fun gk k wr => ∃ j : Nat, j ≤ s ∧ gk + j = s + 1 ∧ k = .int .u64 (j : Int) ∧ wr = w)
  case atStart => exact ⟨0, Nat.zero_le _, rfl, rfl, rfl⟩
  case round =>
    obtain ⟨j, hj, hg, rfl, rfl⟩ := hrel
    obtain ⟨gk', rfl⟩ : ∃ g, gk = g + 1 := ⟨gk - 1, by omega⟩
    by_cases hlt : j < s
    · have h1 := (HST.out j).2 hlt
      have hd : decide ((9007199254740992 : Int) ≤ (m : Int) / 2 ^ j) = true := by
        apply decide_eq_true
        have : ((m / 2 ^ j : Nat) : Int) = (m : Int) / 2 ^ j := by push_cast; rfl
        omega
      clear h1
      go_wp2_with fail
      go_roundg gk'
      case measure => omega
      case rel => exact ⟨j + 1, by omega, by omega, by go_num, rfl⟩
    · obtain rfl : j = s := by omega
      have h1 : ¬ 9007199254740992 ≤ m / 2 ^ j := fun h => by have := (HST.out j).1 h; omega
      have hd : decide ((9007199254740992 : Int) ≤ (m : Int) / 2 ^ j) = false := by
        apply decide_eq_false
        have : ((m / 2 ^ j : Nat) : Int) = (m : Int) / 2 ^ j := by push_cast; rfl
        omega
      clear h1
      have hp : 0 < 2 ^ j := Nat.pow_pos (by omega)
      have hp11 : 2 ^ j ≤ 2 ^ 11 := Nat.pow_le_pow_right (by omega) (by omega)
      have e11 : (2 : Nat) ^ 11 = 2048 := by decide
      obtain ⟨P, hP⟩ : ∃ P, 2 ^ j = P := ⟨_, rfl⟩
      have hPc : (2 : Int) ^ j = (P : Int) := by rw [← hP]; push_cast; rfl
      rw [hP] at hp hp11
      have a1 : IntKind.u64.wrap ((2 : Int) ^ j) = (P : Int) := by rw [hPc, IntKind.wrap_u64]; omega
      have a2 : IntKind.u64.wrap ((P : Int) - 1) = ((P - 1 : Nat) : Int) := by rw [IntKind.wrap_u64]; omega
      have a3 : IntKind.u64.wrap ((m : Int) + ((P - 1 : Nat) : Int)) = (m : Int) + ((P - 1 : Nat) : Int) := by rw [IntKind.wrap_u64]; omega
      obtain ⟨U, hU⟩ : ∃ U, (m + (P - 1)) / P * P = U := ⟨_, rfl⟩
      have hdm := Nat.div_add_mod (m + (P - 1)) P
      have hml := Nat.mod_lt (m + (P - 1)) hp
      rw [Nat.mul_comm, hU] at hdm
      have a4 : IntKind.u64.wrap (((m : Int) + ((P - 1 : Nat) : Int)) / 2 ^ j * 2 ^ j) = (U : Int) := by
        have : ((m : Int) + ((P - 1 : Nat) : Int)) / 2 ^ j * 2 ^ j = (U : Int) := by rw [hPc, ← hU, Int.natCast_mul, Int.natCast_ediv, Int.natCast_add]
        rw [this, IntKind.wrap_u64]; omega
      have a5 : IntKind.u64.wrap ((U : Int) - (m : Int)) = ((U - m : Nat) : Int) := by rw [IntKind.wrap_u64]; omega
      have a6 : floatOfInt .f64 (U : Int) = Ieee.double.nearest false U 0 := by
        show Ieee.double.nearest (decide ((U : Int) < 0)) ((U : Int)).natAbs 0 = _
        rw [decide_eq_false (by omega), Int.natAbs_natCast]
      rw [hP, hU] at HFL
      have HA5 := hide a5
      have HA6 := hide a6
      clear hP hPc hU hdm hml hp hp11 e11 a5 a6
      go_wp2_with fail
      go_ret2
      refine ⟨?_, rfl⟩
      show Ending.returned (.tuple #[.int .u64 ((Op.negFloat .f64 (floatOfInt .f64 (U : Int)) : Nat) : Int), .int .u64 (IntKind.u64.wrap ((U : Int) - (m : Int)))]) = _
      rw [HA5.out, HA6.out, HFL.out, near_neg]
theorem rk_floor (i : Int) (h1 : -9223372036854775808 ≤ i) (h2 : i ≤ 9223372036854775807) (w : World) : Calls Tryd.prog 102 #[.int .i64 i] w fun e w' => e = .returned (.tuple #[.int .u64 ((fl i).1 : Nat), .int .u64 ((fl i).2 : Nat)]) ∧ w = w' := by
  by_cases h : 0 ≤ i
  · obtain ⟨m, rfl⟩ := Int.eq_ofNat_of_zero_le h
    exact rk_floor_up m (by omega) w
  · obtain ⟨m, hm⟩ : ∃ m : Nat, i = -(m : Int) := ⟨i.natAbs, by omega⟩
    subst hm
    exact rk_floor_down m (by omega) (by omega) w
end Go.Proofs.YtpjhhkndfmcaoaaDoor
