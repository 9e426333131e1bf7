/- Walks: the reader of keys: bytes, words, numbers, texts. -/
import Derived.Test.YticgdjnekbobgaaDoorKeyA
set_option linter.unusedVariables false
set_option linter.unusedSimpArgs false
namespace Go.Proofs.YticgdjnekbobgaaDoor
open Go.RowKit Go.Shelf Go.WideShapes

/-- The reader at block pb stands ahead of the bytes bs; t: they lie turned. -/
def Kr (w : World) (pb : Nat) (t : Bool) (bs : List UInt8) : Prop :=
  ∃ A c, Blk w pb 149 #[.slice A bs.length c, .bool t] ∧ bs.length ≤ c ∧ bs.length ≤ 140737488355328 ∧ Reads (AtW w 0 pb) 1 A bs.length (u8s (flip t bs))
theorem Kr.grow {w w' : World} {pb : Nat} {t : Bool} {bs : List UInt8} (h : Kr w pb t bs) (hg : Grow w w') : Kr w' pb t bs := by
  obtain ⟨A, c, hb, h1, h2, hr⟩ := h
  exact ⟨A, c, hb.grow hg, h1, h2, hr.mono (AtW.below hg.below (Nat.le_refl _) (Nat.le_of_lt hb.lt) (Nat.le_refl _))⟩
theorem Kr.lt {w : World} {pb : Nat} {t : Bool} {bs : List UInt8} (h : Kr w pb t bs) : pb < w.heap.size := by
  obtain ⟨A, c, hb, _⟩ := h; exact hb.lt
theorem Kr.kept {w w' : World} {pb q : Nat} {t : Bool} {bs : List UInt8} (h : Kr w pb t bs) (hg : w.grownBy w' (some q)) (hq : pb < q) : Kr w' pb t bs := by
  obtain ⟨A, c, hb, h1, h2, hr⟩ := h
  exact ⟨A, c, hb.own hg (fun k e => by injection e with e; omega), h1, h2, hr.mono (fun p u hp => ⟨World.grownBy.cell hg hp.1 (fun e => by injection e with e; have := hp.2.2; omega), hp.2⟩)⟩
theorem Kr.own {w w' : World} {pb : Nat} {t : Bool} {bs : List UInt8} {row : Option Nat} (h : Kr w pb t bs) (hg : w.grownBy w' row) (hne : ∀ k, row = some k → pb < k) : Kr w' pb t bs := by
  obtain ⟨A, c, hb, h1, h2, hr⟩ := h
  exact ⟨A, c, hb.own hg (fun k e => by have := hne k e; omega), h1, h2, hr.mono (fun p u hp => ⟨World.grownBy.cell hg hp.1 (fun e => by have := hne _ e.symm; have := hp.2.2; omega), hp.2⟩)⟩

set_option maxHeartbeats 400000 in
theorem kmust_yes (w : World) : Calls Tryd.prog 145 #[.bool true] w fun e w' => e = .returned (.tuple #[]) ∧ w = w' := by
  go_enter Tryd.func145, Tryd.ntmps145
  go_wp2
  go_end0
  exact ⟨rfl, rfl⟩
set_option maxHeartbeats 400000 in
theorem kmust_no (w : World) : Calls Tryd.prog 145 #[.bool false] w fun r w' => r = .panicked (thrown 14) ∧ w = w' := by
  go_enter Tryd.func145, Tryd.ntmps145
  go_wp2
  exact ⟨rfl, rfl, rfl⟩
set_option maxHeartbeats 400000 in
theorem kbyte_no (pb : Nat) (t : Bool) (w : World) (h : Kr w pb t []) : Calls Tryd.prog 146 #[.pointer (some ⟨pb, 0, none⟩)] w fun r w' => r = .panicked (thrown 14) ∧ w = w' := by
  obtain ⟨A, c, hb, h1, h2, hr⟩ := h
  have hp := hb.cell 0
  clear hb hr h1 h2
  go_enter Tryd.func146, Tryd.ntmps146
  go_wp2_with (go_at_call 145; refine (kmust_no _).mono ?_; rintro e w' ⟨rfl, rfl⟩)
  exact ⟨rfl, rfl, rfl⟩
set_option maxHeartbeats 800000 in
theorem kbyte_yes0 (pb : Nat) (bk o len cap : Nat) (t : Bool) (y : UInt8) (w : World) (hB : Blk w pb 149 #[.slice (some ⟨bk, o, none⟩) len cap, .bool t]) (hy : w.cell? ⟨bk, o, none⟩ = some (.int .u8 (y.toNat : Int))) (hne : bk ≠ pb) (hc : len ≤ cap) (h0 : 0 < len) :
    Calls Tryd.prog 146 #[.pointer (some ⟨pb, 0, none⟩)] w fun r w' => r = .returned (.int .u8 ((if t = true then flip1 y else y).toNat : Int)) ∧
      w.setCell ⟨pb, 0, none⟩ (.slice (if cap = 1 then some ⟨bk, o, none⟩ else some ⟨bk, o + 1, none⟩) (len - 1) (cap - 1)) = w' := by
  have hp := hB.cell 0
  have hp1 := hB.cell 1
  have hf := hB.frozen 0
  have hlt := hB.lt
  have hun := u8_not y
  have hyl := y.toNat_lt
  have hB2 := hide hB
  clear hB
  by_cases h1 : cap = 1
  · obtain rfl : len = 1 := by omega
    subst h1
    have hz := hB2.out.set_ 0 (.slice (some ⟨bk, o, none⟩) 0 0)
    have hz1 := hz.cell 1
    clear hz
    cases t
    · go_enter Tryd.func146, Tryd.ntmps146
      go_wp2_with (go_at_call 145; refine (kmust_yes _).mono ?_; rintro e w' ⟨rfl, rfl⟩)
      go_ret
      exact ⟨rfl, rfl⟩
    · go_enter Tryd.func146, Tryd.ntmps146
      go_wp2_with (go_at_call 145; refine (kmust_yes _).mono ?_; rintro e w' ⟨rfl, rfl⟩)
      go_ret
      exact ⟨rfl, rfl⟩
  · have hz := hB2.out.set_ 0 (.slice (some ⟨bk, o + 1, none⟩) (len - 1) (cap - 1))
    have hz1 := hz.cell 1
    clear hz
    cases t
    · go_enter Tryd.func146, Tryd.ntmps146
      go_wp2_with (go_at_call 145; refine (kmust_yes _).mono ?_; rintro e w' ⟨rfl, rfl⟩)
      go_ret
      exact ⟨rfl, by simp [h1, add_lit]⟩
    · go_enter Tryd.func146, Tryd.ntmps146
      go_wp2_with (go_at_call 145; refine (kmust_yes _).mono ?_; rintro e w' ⟨rfl, rfl⟩)
      go_ret
      exact ⟨rfl, by simp [h1, add_lit]⟩

theorem flip_cons (t : Bool) (x : UInt8) (bs : List UInt8) : flip t (x :: bs) = (if t = true then flip1 x else x) :: flip t bs := by unfold flip; split <;> rfl
theorem kbyte_yes (pb : Nat) (t : Bool) (x : UInt8) (bs : List UInt8) (w : World) (h : Kr w pb t (x :: bs)) :
    Calls Tryd.prog 146 #[.pointer (some ⟨pb, 0, none⟩)] w fun r w' => r = .returned (.int .u8 (x.toNat : Int)) ∧ Kr w' pb t bs ∧ GB w w' pb ∧ w'.heap.size = w.heap.size := by
  obtain ⟨A, c, hb, h1, h2, hr⟩ := h
  obtain ⟨bk, o, rfl, hc⟩ := hr.2 (by simp)
  rw [flip_cons] at hc
  have hc0 := hc 0 (.int .u8 ((if t = true then flip1 x else x).toNat : Int)) (by simp [u8s])
  rw [List.length_cons] at hb h1 h2
  refine (kbyte_yes0 pb bk o _ c t (if t = true then flip1 x else x) w hb hc0.1 (by have := hc0.2.2; dsimp only at this; omega) h1 (by omega)).mono ?_
  rintro r w' ⟨rfl, rfl⟩
  have e : (if t = true then flip1 (if t = true then flip1 x else x) else (if t = true then flip1 x else x)) = x := by cases t <;> simp [flip1_flip1]
  rw [e]
  have hg : GB w (w.setCell ⟨pb, 0, none⟩ (.slice (if c = 1 then some ⟨bk, o, none⟩ else some ⟨bk, o + 1, none⟩) (bs.length + 1 - 1) (c - 1))) pb := grown_set w pb 0 _
  refine ⟨rfl, ⟨_, _, hb.set_ 0 _, by omega, by omega, ?_⟩, hg, by simp [World.setCell]⟩
  refine ⟨by rw [u8s_length, flip_length, Nat.mul_one], fun hn => ?_⟩
  have hc1 : c ≠ 1 := by omega
  rw [if_neg hc1] at hg ⊢
  refine ⟨bk, o + 1, rfl, fun j u hu => ?_⟩
  have hj := hc (j + 1) u (by simpa [u8s] using hu)
  rw [show o + 1 + j = o + (j + 1) by omega]
  exact AtW.grownBy hg (Nat.le_refl _) _ _ hj
def KP (w : World) (pb : Nat) (r : Ending) (w' : World) : Prop := r = .panicked (thrown 14) ∧ GB w w' pb
theorem KP.from {w0 w w' : World} {pb : Nat} {r : Ending} (h : KP w pb r w') (hg : GB w0 w pb) : KP w0 pb r w' := ⟨h.1, hg.trans h.2⟩

set_option maxHeartbeats 1600000 in
theorem kword_yes (pb : Nat) (t : Bool) (size : Nat) (bs : List UInt8) (w : World) (h : Kr w pb t bs) (hs : size ≤ 8) (hl : size ≤ bs.length) :
    Calls Tryd.prog 169 #[.pointer (some ⟨pb, 0, none⟩), .int .i64 size] w fun r w' => r = .returned (.int .u64 (ofBe (bs.take size) : Nat)) ∧ Kr w' pb t (bs.drop size) ∧ GB w w' pb ∧ w'.heap.size = w.heap.size := by
  have H := hide h
  clear h
  go_enter Tryd.func169, Tryd.ntmps169
  go_wp2_with fail
  go_loopg [4, 6] (size + 1) (fun gk n i wr => ∃ k : Nat, k ≤ size ∧ gk + k = size + 1 ∧ i = .int .i64 k ∧ n = .int .u64 (ofBe (bs.take k) : Nat) ∧ Kr wr pb t (bs.drop k) ∧ GB w wr pb ∧ wr.heap.size = w.heap.size)
  case atStart => exact ⟨0, Nat.zero_le _, rfl, rfl, rfl, H.out, GB.refl _ _, rfl⟩
  case round =>
    obtain ⟨k, hk, hg, rfl, rfl, hr, hgb, hz⟩ := hrel
    obtain ⟨gk', rfl⟩ : ∃ g, gk = g + 1 := ⟨gk - 1, by omega⟩
    have HG := hide hgb
    have HZ := hide hz
    by_cases hlt : k < size
    · obtain ⟨x, r, hxr⟩ : ∃ x r, bs.drop k = x :: r := ⟨bs[k]'(by omega), bs.drop (k + 1), List.drop_eq_getElem_cons (by omega)⟩
      rw [hxr] at hr
      have hd : bs.drop (k + 1) = r := by
        rw [List.drop_eq_getElem_cons (show k < bs.length by omega)] at hxr
        injection hxr
      have hx : bs[k]'(by omega) = x := by
        rw [List.drop_eq_getElem_cons (show k < bs.length by omega)] at hxr
        injection hxr
      have hL := ofBe_lt (bs.take k)
      rw [List.length_take, Nat.min_eq_left (by omega)] at hL
      have hws := word_down (ofBe (bs.take k)) x.toNat k (by omega) hL x.toNat_lt
      have hnx : ofBe (bs.take (k + 1)) = x.toNat + 256 * ofBe (bs.take k) := by rw [take_snoc bs k (by omega), ofBe_snoc, hx]
      have HN := hide hnx
      have HD := hide hd
      have HK := hide hr
      have hxl := x.toNat_lt
      obtain ⟨L, hLL⟩ : ∃ L, ofBe (bs.take k) = L := ⟨_, rfl⟩
      rw [hLL] at hws HN hL ⊢
      have hLb : L < 18446744073709551616 := Nat.lt_of_lt_of_le hL (pow256_le k (by omega))
      clear hr hgb hz hxr hd hx hnx hLL hL
      go_wp2_with fail
      refine (kbyte_yes pb t x r _ HK.out).mono ?_
      rintro e w2 ⟨rfl, hk2, hg2, hz2⟩
      have HK2 := hide hk2
      have HG2 := hide (HG.out.trans hg2)
      have HZ2 := hide (hz2.trans HZ.out)
      clear hk2 hg2 hz2
      go_wp2_with fail
      go_roundg gk'
      case measure => omega
      case rel => exact ⟨k + 1, by omega, by omega, by go_num, by rw [HN.out, Int.natCast_add, Int.natCast_mul]; rfl, by rw [HD.out]; exact HK2.out, HG2.out, HZ2.out⟩
    · obtain rfl : k = size := by omega
      have HK := hide hr
      obtain ⟨L, hLL⟩ : ∃ L, ofBe (bs.take k) = L := ⟨_, rfl⟩
      rw [hLL]
      have HLL := hide hLL
      clear hr hgb hz hLL
      go_wp2_with fail
      go_ret
      exact ⟨by rw [HLL.out]; rfl, HK.out, HG.out, HZ.out⟩
set_option maxHeartbeats 1600000 in
theorem kword_no (pb : Nat) (t : Bool) (size : Nat) (bs : List UInt8) (w : World) (h : Kr w pb t bs) (hs : size ≤ 8) (hl : bs.length < size) :
    Calls Tryd.prog 169 #[.pointer (some ⟨pb, 0, none⟩), .int .i64 size] w (KP w pb) := by
  have H := hide h
  clear h
  go_enter Tryd.func169, Tryd.ntmps169
  go_wp2_with fail
  go_loopg [4, 6] (bs.length + 1) (fun gk n i wr => ∃ (k : Nat) (L : Nat), k ≤ bs.length ∧ gk + k = bs.length + 1 ∧ i = .int .i64 k ∧ n = .int .u64 (L : Int) ∧ L < 256 ^ k ∧ Kr wr pb t (bs.drop k) ∧ GB w wr pb)
  case atStart => exact ⟨0, 0, Nat.zero_le _, rfl, rfl, rfl, by simp, H.out, GB.refl _ _⟩
  case round =>
    obtain ⟨k, L, hk, hg, rfl, rfl, hL, hr, hgb⟩ := hrel
    obtain ⟨gk', rfl⟩ : ∃ g, gk = g + 1 := ⟨gk - 1, by omega⟩
    have HG := hide hgb
    have hks : k < size := by omega
    by_cases hlt : k < bs.length
    · obtain ⟨x, r, hxr⟩ : ∃ x r, bs.drop k = x :: r := ⟨bs[k]'(by omega), bs.drop (k + 1), List.drop_eq_getElem_cons (by omega)⟩
      rw [hxr] at hr
      have hd : bs.drop (k + 1) = r := by
        rw [List.drop_eq_getElem_cons (show k < bs.length by omega)] at hxr
        injection hxr
      have hws := word_down L x.toNat k (by omega) hL x.toNat_lt
      have HD := hide hd
      have HK := hide hr
      have hxl := x.toNat_lt
      have hLb : L < 18446744073709551616 := Nat.lt_of_lt_of_le hL (pow256_le k (by omega))
      have HL := hide (show x.toNat + 256 * L < 256 ^ (k + 1) by rw [Nat.pow_succ]; omega)
      clear hr hgb hxr hd hL
      go_wp2_with fail
      refine (kbyte_yes pb t x r _ HK.out).mono ?_
      rintro e w2 ⟨rfl, hk2, hg2, hz2⟩
      have HK2 := hide hk2
      have HG2 := hide (HG.out.trans hg2)
      clear hk2 hg2 hz2
      go_wp2_with fail
      go_roundg gk'
      case measure => omega
      case rel => exact ⟨k + 1, x.toNat + 256 * L, by omega, by omega, by go_num, by rw [Int.natCast_add, Int.natCast_mul]; rfl, HL.out, by rw [HD.out]; exact HK2.out, HG2.out⟩
    · obtain rfl : k = bs.length := by omega
      rw [List.drop_length] at hr
      have HK := hide hr
      have hLb : L < 18446744073709551616 := Nat.lt_of_lt_of_le hL (pow256_le bs.length (by omega))
      clear hr hgb hL
      go_wp2_with fail
      refine (kbyte_no pb t _ HK.out).mono ?_
      rintro e w2 ⟨rfl, rfl⟩
      go_wp2_with fail
      exact ⟨rfl, rfl, HG.out⟩
theorem kback (n : Nat) (w : World) (hn : n < 18446744073709551616) : Calls Tryd.prog 170 #[.int .u64 n] w fun e w' => e = .returned (.int .u64 (backN n : Nat)) ∧ w = w' := by
  have h1 := u64_top n hn
  have h2 := u64_not n hn
  have h3 := u64_flip n hn
  by_cases hlt : n < 9223372036854775808
  · rw [if_pos hlt] at h1 h3
    have ht : backN n = 18446744073709551615 - n := by rw [backN, if_pos hlt]
    clear h3
    go_enter Tryd.func170, Tryd.ntmps170
    go_wp2
    go_ret
    exact ⟨rfl, rfl⟩
  · rw [if_neg hlt] at h1 h3
    have ht : backN n = n - 9223372036854775808 := by rw [backN, if_neg hlt]
    clear h2
    go_enter Tryd.func170, Tryd.ntmps170
    go_wp2
    go_ret
    exact ⟨by rw [ht]; rfl, rfl⟩
end Go.Proofs.YticgdjnekbobgaaDoor
