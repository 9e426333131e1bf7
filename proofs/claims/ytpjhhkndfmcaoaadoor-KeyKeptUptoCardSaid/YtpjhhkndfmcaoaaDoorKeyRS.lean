/- Walks: the reader of keys: bytes, words, numbers, texts. · Walks: the reader of keys: numbers. · Walks: the reader of keys: texts. -/
import Derived.Test.YtpjhhkndfmcaoaaDoorKeyOA
set_option linter.unusedVariables false
set_option linter.unusedSimpArgs false
namespace Go.Proofs.YtpjhhkndfmcaoaaDoor
open Go.RowKit Go.Shelf Go.WideShapes

/-- The reader at block pb stands ahead of the bytes bs; t: they lie turned. -/
def Kr (w : World) (pb hi : Nat) (t : Bool) (bs : List UInt8) : Prop :=
  ∃ A c, Blk w pb 141 #[.slice A bs.length c, .bool t] ∧ bs.length ≤ c ∧ bs.length ≤ 140737488355328 ∧ Reads (AtW w 0 (min hi pb)) 1 A bs.length (u8s (flip t bs))
theorem Kr.grow {w w' : World} {pb hi : Nat} {t : Bool} {bs : List UInt8} (h : Kr w pb hi t bs) (hg : Grow w w') : Kr w' pb hi t bs := by
  obtain ⟨A, c, hb, h1, h2, hr⟩ := h
  exact ⟨A, c, hb.grow hg, h1, h2, hr.mono (AtW.below hg.below (Nat.le_refl _) (by have := hb.lt; omega) (Nat.le_refl _))⟩
theorem Kr.lt {w : World} {pb hi : Nat} {t : Bool} {bs : List UInt8} (h : Kr w pb hi t bs) : pb < w.heap.size := by
  obtain ⟨A, c, hb, _⟩ := h; exact hb.lt
theorem Kr.kept {w w' : World} {pb q hi : Nat} {t : Bool} {bs : List UInt8} (h : Kr w pb hi t bs) (hg : w.grownBy w' (some q)) (hq : pb < q) : Kr w' pb hi t bs := by
  obtain ⟨A, c, hb, h1, h2, hr⟩ := h
  exact ⟨A, c, hb.own hg (fun k e => by injection e with e; omega), h1, h2, hr.mono (fun p u hp => ⟨World.grownBy.cell hg hp.1 (fun e => by injection e with e; have := hp.2.2; omega), hp.2⟩)⟩
theorem Kr.own {w w' : World} {pb hi : Nat} {t : Bool} {bs : List UInt8} {row : Option Nat} (h : Kr w pb hi t bs) (hg : w.grownBy w' row) (hne : ∀ k, row = some k → pb < k) : Kr w' pb hi t bs := by
  obtain ⟨A, c, hb, h1, h2, hr⟩ := h
  exact ⟨A, c, hb.own hg (fun k e => by have := hne k e; omega), h1, h2, hr.mono (fun p u hp => ⟨World.grownBy.cell hg hp.1 (fun e => by have := hne _ e.symm; have := hp.2.2; omega), hp.2⟩)⟩

set_option maxHeartbeats 400000 in
theorem kmust_yes (w : World) : Calls Tryd.prog 149 #[.bool true] w fun e w' => e = .returned (.tuple #[]) ∧ w = w' := by
  go_enter Tryd.func149, Tryd.ntmps149
  go_wp2
  go_end0
  exact ⟨rfl, rfl⟩
set_option maxHeartbeats 400000 in
theorem kmust_no (w : World) : Calls Tryd.prog 149 #[.bool false] w fun r w' => r = .panicked (thrown 14) ∧ w = w' := by
  go_enter Tryd.func149, Tryd.ntmps149
  go_wp2
  exact ⟨rfl, rfl, rfl⟩
set_option maxHeartbeats 400000 in
theorem kbyte_no (pb hi : Nat) (t : Bool) (w : World) (h : Kr w pb hi t []) : Calls Tryd.prog 150 #[.pointer (some ⟨pb, 0, none⟩)] w fun r w' => r = .panicked (thrown 14) ∧ w = w' := by
  obtain ⟨A, c, hb, h1, h2, hr⟩ := h
  have hp := hb.cell 0
  clear hb hr h1 h2
  go_enter Tryd.func150, Tryd.ntmps150
  go_wp2_with (go_at_call 149; refine (kmust_no _).mono ?_; rintro e w' ⟨rfl, rfl⟩)
  exact ⟨rfl, rfl, rfl⟩
set_option maxHeartbeats 800000 in
theorem kbyte_yes0 (pb : Nat) (bk o len cap : Nat) (t : Bool) (y : UInt8) (w : World) (hB : Blk w pb 141 #[.slice (some ⟨bk, o, none⟩) len cap, .bool t]) (hy : w.cell? ⟨bk, o, none⟩ = some (.int .u8 (y.toNat : Int))) (hne : bk ≠ pb) (hc : len ≤ cap) (h0 : 0 < len) :
    Calls Tryd.prog 150 #[.pointer (some ⟨pb, 0, none⟩)] w fun r w' => r = .returned (.int .u8 ((if t = true then flip1 y else y).toNat : Int)) ∧
      w.setCell ⟨pb, 0, none⟩ (.slice (if cap = 1 then some ⟨bk, o, none⟩ else some ⟨bk, o + 1, none⟩) (len - 1) (cap - 1)) = w' := by
  have hp := hB.cell 0
  have hp1 := hB.cell 1
  have hf := hB.frozen 0
  have hlt := hB.lt
  have hun := u8_not y
  have hyl := y.toNat_lt
  have hB2 := hide hB
  clear hB
  by_cases h1 : cap = 1
  · obtain rfl : len = 1 := by omega
    subst h1
    have hz := hB2.out.set_ 0 (.slice (some ⟨bk, o, none⟩) 0 0)
    have hz1 := hz.cell 1
    clear hz
    cases t
    · go_enter Tryd.func150, Tryd.ntmps150
      go_wp2_with (go_at_call 149; refine (kmust_yes _).mono ?_; rintro e w' ⟨rfl, rfl⟩)
      go_ret
      exact ⟨rfl, rfl⟩
    · go_enter Tryd.func150, Tryd.ntmps150
      go_wp2_with (go_at_call 149; refine (kmust_yes _).mono ?_; rintro e w' ⟨rfl, rfl⟩)
      go_ret
      exact ⟨rfl, rfl⟩
  · have hz := hB2.out.set_ 0 (.slice (some ⟨bk, o + 1, none⟩) (len - 1) (cap - 1))
    have hz1 := hz.cell 1
    clear hz
    cases t
    · go_enter Tryd.func150, Tryd.ntmps150
      go_wp2_with (go_at_call 149; refine (kmust_yes _).mono ?_; rintro e w' ⟨rfl, rfl⟩)
      go_ret
      exact ⟨rfl, by simp [h1, add_lit]⟩
    · go_enter Tryd.func150, Tryd.ntmps150
      go_wp2_with (go_at_call 149; refine (kmust_yes _).mono ?_; rintro e w' ⟨rfl, rfl⟩)
      go_ret
      exact ⟨rfl, by simp [h1, add_lit]⟩

theorem flip_cons (t : Bool) (x : UInt8) (bs : List UInt8) : flip t (x :: bs) = (if t = true then flip1 x else x) :: flip t bs := by unfold flip; split <;> rfl
theorem kbyte_yes (pb hi : Nat) (t : Bool) (x : UInt8) (bs : List UInt8) (w : World) (h : Kr w pb hi t (x :: bs)) :
    Calls Tryd.prog 150 #[.pointer (some ⟨pb, 0, none⟩)] w fun r w' => r = .returned (.int .u8 (x.toNat : Int)) ∧ Kr w' pb hi t bs ∧ GB w w' pb ∧ w'.heap.size = w.heap.size := by
  obtain ⟨A, c, hb, h1, h2, hr⟩ := h
  obtain ⟨bk, o, rfl, hc⟩ := hr.2 (by simp)
  rw [flip_cons] at hc
  have hc0 := hc 0 (.int .u8 ((if t = true then flip1 x else x).toNat : Int)) (by simp [u8s])
  rw [List.length_cons] at hb h1 h2
  refine (kbyte_yes0 pb bk o _ c t (if t = true then flip1 x else x) w hb hc0.1 (by have := hc0.2.2; dsimp only at this; omega) h1 (by omega)).mono ?_
  rintro r w' ⟨rfl, rfl⟩
  have e : (if t = true then flip1 (if t = true then flip1 x else x) else (if t = true then flip1 x else x)) = x := by cases t <;> simp [flip1_flip1]
  rw [e]
  have hg : GB w (w.setCell ⟨pb, 0, none⟩ (.slice (if c = 1 then some ⟨bk, o, none⟩ else some ⟨bk, o + 1, none⟩) (bs.length + 1 - 1) (c - 1))) pb := grown_set w pb 0 _
  refine ⟨rfl, ⟨_, _, hb.set_ 0 _, by omega, by omega, ?_⟩, hg, by simp [World.setCell]⟩
  refine ⟨by rw [u8s_length, flip_length, Nat.mul_one], fun hn => ?_⟩
  have hc1 : c ≠ 1 := by omega
  rw [if_neg hc1] at hg ⊢
  refine ⟨bk, o + 1, rfl, fun j u hu => ?_⟩
  have hj := hc (j + 1) u (by simpa [u8s] using hu)
  rw [show o + 1 + j = o + (j + 1) by omega]
  exact AtW.grownBy hg (Nat.min_le_right _ _) _ _ hj
def KP (w : World) (pb : Nat) (r : Ending) (w' : World) : Prop := r = .panicked (thrown 14) ∧ GB w w' pb
theorem KP.from {w0 w w' : World} {pb : Nat} {r : Ending} (h : KP w pb r w') (hg : GB w0 w pb) : KP w0 pb r w' := ⟨h.1, hg.trans h.2⟩

set_option maxHeartbeats 1600000 in
theorem kword_yes (pb hi : Nat) (t : Bool) (size : Nat) (bs : List UInt8) (w : World) (h : Kr w pb hi t bs) (hs : size ≤ 8) (hl : size ≤ bs.length) :
    Calls Tryd.prog 177 #[.pointer (some ⟨pb, 0, none⟩), .int .i64 size] w fun r w' => r = .returned (.int .u64 (ofBe (bs.take size) : Nat)) ∧ Kr w' pb hi t (bs.drop size) ∧ GB w w' pb ∧ w'.heap.size = w.heap.size := by
  have H := hide h
  clear h
  go_enter Tryd.func177, Tryd.ntmps177
  go_wp2_with fail
  go_loopg [4, 6] (size + 1) (fun gk n i wr => ∃ k : Nat, k ≤ size ∧ gk + k = size + 1 ∧ i = .int .i64 k ∧ n = .int .u64 (ofBe (bs.take k) : Nat) ∧ Kr wr pb hi t (bs.drop k) ∧ GB w wr pb ∧ wr.heap.size = w.heap.size)
  case atStart => exact ⟨0, Nat.zero_le _, rfl, rfl, rfl, H.out, GB.refl _ _, rfl⟩
  case round =>
    obtain ⟨k, hk, hg, rfl, rfl, hr, hgb, hz⟩ := hrel
    obtain ⟨gk', rfl⟩ : ∃ g, gk = g + 1 := ⟨gk - 1, by omega⟩
    have HG := hide hgb
    have HZ := hide hz
    by_cases hlt : k < size
    · obtain ⟨x, r, hxr⟩ : ∃ x r, bs.drop k = x :: r := ⟨bs[k]'(by omega), bs.drop (k + 1), List.drop_eq_getElem_cons (by omega)⟩
      rw [hxr] at hr
      have hd : bs.drop (k + 1) = r := by
        rw [List.drop_eq_getElem_cons (show k < bs.length by omega)] at hxr
        injection hxr
      have hx : bs[k]'(by omega) = x := by
        rw [List.drop_eq_getElem_cons (show k < bs.length by omega)] at hxr
        injection hxr
      have hL := ofBe_lt (bs.take k)
      rw [List.length_take, Nat.min_eq_left (by omega)] at hL
      have hws := word_down (ofBe (bs.take k)) x.toNat k (by omega) hL x.toNat_lt
      have hnx : ofBe (bs.take (k + 1)) = x.toNat + 256 * ofBe (bs.take k) := by rw [take_snoc bs k (by omega), ofBe_snoc, hx]
      have HN := hide hnx
      have HD := hide hd
      have HK := hide hr
      have hxl := x.toNat_lt
      obtain ⟨L, hLL⟩ : ∃ L, ofBe (bs.take k) = L := ⟨_, rfl⟩
      rw [hLL] at hws HN hL ⊢
      have hLb : L < 18446744073709551616 := Nat.lt_of_lt_of_le hL (pow256_le k (by omega))
      clear hr hgb hz hxr hd hx hnx hLL hL
      go_wp2_with fail
      refine (kbyte_yes pb hi t x r _ HK.out).mono ?_
      rintro e w2 ⟨rfl, hk2, hg2, hz2⟩
      have HK2 := hide hk2
      have HG2 := hide (HG.out.trans hg2)
      have HZ2 := hide (hz2.trans HZ.out)
      clear hk2 hg2 hz2
      go_wp2_with fail
      go_roundg gk'
      case measure => omega
      case rel => exact ⟨k + 1, by omega, by omega, by go_num, by rw [HN.out, Int.natCast_add, Int.natCast_mul]; rfl, by rw [HD.out]; exact HK2.out, HG2.out, HZ2.out⟩
    · obtain rfl : k = size := by omega
      have HK := hide hr
      obtain ⟨L, hLL⟩ : ∃ L, ofBe (bs.take k) = L := ⟨_, rfl⟩
      rw [hLL]
      have HLL := hide hLL
      clear hr hgb hz hLL
      go_wp2_with fail
      go_ret
      exact ⟨by rw [HLL.out]; rfl, HK.out, HG.out, HZ.out⟩
set_option maxHeartbeats 1600000 in
theorem kword_no (pb hi : Nat) (t : Bool) (size : Nat) (bs : List UInt8) (w : World) (h : Kr w pb hi t bs) (hs : size ≤ 8) (hl : bs.length < size) :
    Calls Tryd.prog 177 #[.pointer (some ⟨pb, 0, none⟩), .int .i64 size] w (KP w pb) := by
  have H := hide h
  clear h
  go_enter Tryd.func177, Tryd.ntmps177
  go_wp2_with fail
  go_loopg [4, 6] (bs.length + 1) (fun gk n i wr => ∃ (k : Nat) (L : Nat), k ≤ bs.length ∧ gk + k = bs.length + 1 ∧ i = .int .i64 k ∧ n = .int .u64 (L : Int) ∧ L < 256 ^ k ∧ Kr wr pb hi t (bs.drop k) ∧ GB w wr pb)
  case atStart => exact ⟨0, 0, Nat.zero_le _, rfl, rfl, rfl, by simp, H.out, GB.refl _ _⟩
  case round =>
    obtain ⟨k, L, hk, hg, rfl, rfl, hL, hr, hgb⟩ := hrel
    obtain ⟨gk', rfl⟩ : ∃ g, gk = g + 1 := ⟨gk - 1, by omega⟩
    have HG := hide hgb
    have hks : k < size := by omega
    by_cases hlt : k < bs.length
    · obtain ⟨x, r, hxr⟩ : ∃ x r, bs.drop k = x :: r := ⟨bs[k]'(by omega), bs.drop (k + 1), List.drop_eq_getElem_cons (by omega)⟩
      rw [hxr] at hr
      have hd : bs.drop (k + 1) = r := by
        rw [List.drop_eq_getElem_cons (show k < bs.length by omega)] at hxr
        injection hxr
      have hws := word_down L x.toNat k (by omega) hL x.toNat_lt
      have HD := hide hd
      have HK := hide hr
      have hxl := x.toNat_lt
      have hLb : L < 18446744073709551616 := Nat.lt_of_lt_of_le hL (pow256_le k (by omega))
      have HL := hide (show x.toNat + 256 * L < 256 ^ (k + 1) by rw [Nat.pow_succ]; omega)
      clear hr hgb hxr hd hL
      go_wp2_with fail
      refine (kbyte_yes pb hi t x r _ HK.out).mono ?_
      rintro e w2 ⟨rfl, hk2, hg2, hz2⟩
      have HK2 := hide hk2
      have HG2 := hide (HG.out.trans hg2)
      clear hk2 hg2 hz2
      go_wp2_with fail
      go_roundg gk'
      case measure => omega
      case rel => exact ⟨k + 1, x.toNat + 256 * L, by omega, by omega, by go_num, by rw [Int.natCast_add, Int.natCast_mul]; rfl, HL.out, by rw [HD.out]; exact HK2.out, HG2.out⟩
    · obtain rfl : k = bs.length := by omega
      rw [List.drop_length] at hr
      have HK := hide hr
      have hLb : L < 18446744073709551616 := Nat.lt_of_lt_of_le hL (pow256_le bs.length (by omega))
      clear hr hgb hL
      go_wp2_with fail
      refine (kbyte_no pb hi t _ HK.out).mono ?_
      rintro e w2 ⟨rfl, rfl⟩
      go_wp2_with fail
      exact ⟨rfl, rfl, HG.out⟩
theorem kback (n : Nat) (w : World) (hn : n < 18446744073709551616) : Calls Tryd.prog 178 #[.int .u64 n] w fun e w' => e = .returned (.int .u64 (backN n : Nat)) ∧ w = w' := by
  have h1 := u64_top n hn
  have h2 := u64_not n hn
  have h3 := u64_flip n hn
  by_cases hlt : n < 9223372036854775808
  · rw [if_pos hlt] at h1 h3
    have ht : backN n = 18446744073709551615 - n := by rw [backN, if_pos hlt]
    clear h3
    go_enter Tryd.func178, Tryd.ntmps178
    go_wp2
    go_ret
    exact ⟨rfl, rfl⟩
  · rw [if_neg hlt] at h1 h3
    have ht : backN n = n - 9223372036854775808 := by rw [backN, if_neg hlt]
    clear h2
    go_enter Tryd.func178, Tryd.ntmps178
    go_wp2
    go_ret
    exact ⟨by rw [ht]; rfl, rfl⟩
end Go.Proofs.YtpjhhkndfmcaoaaDoor

set_option linter.unusedVariables false
set_option linter.unusedSimpArgs false
namespace Go.Proofs.YtpjhhkndfmcaoaaDoor
open Go.RowKit Go.Shelf Go.WideShapes

/-- A value that is its two numbers alone. -/
abbrev flatC (v : V) : Cv := ⟨v.k, (v.n : Int), none, 0, 0, none, 0, 0, none, 0, 0⟩
/-- What the reader of numbers tells. -/
def KNum (w : World) (pb hi : Nat) (t : Bool) (got : KGot) (r : Ending) (w' : World) : Prop :=
  match got with
  | some (v, rest) => r = .returned (flatC v).agg ∧ Kr w' pb hi t rest ∧ GB w w' pb
  | none => KP w pb r w'
theorem KNum.some_ {w w' : World} {pb hi : Nat} {t : Bool} {got : KGot} {v : V} {rest : List UInt8} (h : got = some (v, rest)) (hk : Kr w' pb hi t rest) (hg : GB w w' pb) : KNum w pb hi t got (.returned (flatC v).agg) w' := by
  subst h; exact ⟨rfl, hk, hg⟩
theorem KNum.none_ {w w' : World} {pb hi : Nat} {t : Bool} {got : KGot} {r : Ending} (h : got = none) (hk : KP w pb r w') : KNum w pb hi t got r w' := by
  subst h; exact hk
theorem num_res {F : Func} {W : World} {vb : Nat} {tmps : Array Value} (hF : F.results = #[ResultVar.cell 2 27]) (h2 : tmps.getD 2 undef = .pointer (some ⟨vb, 0, none⟩)) (c : Cv) (hv : Blk W vb 27 c.cells) :
    (results F tmps).run Tryd.prog W = .ok c.agg W := by
  have hl := run_loadVar_row (P := Tryd.prog) W vb 27 27 c.cells (0, 0) _ hv Tryd.underlying27 rfl info_val
  have h2' : tmps[2]?.getD undef = .pointer (some ⟨vb, 0, none⟩) := by simpa using h2
  simp [results, hF, h2', asAddr, hl]
set_option maxRecDepth 100000 in
set_option maxHeartbeats 3200000 in
theorem knum_nil (pb hi : Nat) (t : Bool) (w : World) (h : Kr w pb hi t []) : Calls Tryd.prog 151 #[.pointer (some ⟨pb, 0, none⟩)] w (KNum w pb hi t (kdN [])) := by
  have H := hide (h.grow ((Grow.refl w).alloc (.cells Cv.zero.cells 27)))
  have HG := hide ((GB.refl w pb).grow ((Grow.refl w).alloc (.cells Cv.zero.cells 27)))
  clear h
  go_enter Tryd.func151, Tryd.ntmps151
  go_wp2_with fail
  refine (kbyte_no pb hi t _ H.out).mono ?_
  rintro e w2 ⟨rfl, rfl⟩
  go_wp2_with fail
  exact ⟨rfl, KNum.none_ rfl ⟨rfl, HG.out⟩⟩
set_option maxRecDepth 100000 in
set_option maxHeartbeats 6400000 in
theorem knum_nan (pb hi : Nat) (t : Bool) (y : UInt8) (bs : List UInt8) (hy : y = 0) (w : World) (h : Kr w pb hi t (y :: bs)) : Calls Tryd.prog 151 #[.pointer (some ⟨pb, 0, none⟩)] w (KNum w pb hi t (kdN (y :: bs))) := by
  have hlt := h.lt
  have HB := hide (Blk.new w 27 Cv.zero.cells)
  have H := hide (h.grow ((Grow.refl w).alloc (.cells Cv.zero.cells 27)))
  have HG := hide ((GB.refl w pb).grow ((Grow.refl w).alloc (.cells Cv.zero.cells 27)))
  clear h
  subst hy
  go_enter Tryd.func151, Tryd.ntmps151
  go_wp2_with fail
  refine (kbyte_yes pb hi t 0 bs _ H.out).mono ?_
  rintro e w2 ⟨rfl, hk2, hg2, hz2⟩
  have HK2 := hide hk2
  have HB2 := hide (HB.out.own hg2 (fun k e => by injection e with e; omega))
  have HG2 := hide (HG.out.trans hg2)
  clear hk2 hg2 hz2
  by_cases hl : 8 ≤ bs.length
  · go_wp2_with fail
    refine (kword_yes pb hi t 8 bs _ HK2.out (by omega) hl).mono ?_
    rintro e w3 ⟨rfl, hk3, hg3, hz3⟩
    obtain ⟨n, hn⟩ : ∃ n, ofBe (bs.take 8) = n := ⟨_, rfl⟩
    rw [hn]
    have HN := hide hn
    have HB3 := hide (HB2.out.own hg3 (fun k e => by injection e with e; omega))
    have HK3 := hide hk3
    have HG3 := hide (HG2.out.trans hg3)
    clear hk3 hg3 hz3 hn
    have hB := HB3.out
    have hltB := hB.lt
    have hcell := hB.cell
    have hfr := hB.frozen
    clear hB
    go_wp2_with fail
    refine bodyPost_ret (num_res rfl rfl ⟨4, n, none, 0, 0, none, 0, 0, none, 0, 0⟩ (set5_from (c := ⟨4, n, none, 0, 0, none, 0, 0, none, 0, 0⟩) HB3.out)) rfl ?_
    exact KNum.some_ (v := V.mk 4 n [] [] []) (by rw [kdN, if_pos rfl, if_pos hl, HN.out]) (HK3.out.kept (set5_grown w3 w.heap.size ⟨4, n, none, 0, 0, none, 0, 0, none, 0, 0⟩) hlt) (set5_gb HG3.out (Nat.le_refl _) ⟨4, n, none, 0, 0, none, 0, 0, none, 0, 0⟩)
  · go_wp2_with fail
    refine (kword_no pb hi t 8 bs _ HK2.out (by omega) (by omega)).mono ?_
    rintro e w3 ⟨rfl, hg3⟩
    have HG3 := hide (HG2.out.trans hg3)
    clear hg3
    go_wp2_with fail
    exact ⟨rfl, KNum.none_ (hi := hi) (by rw [kdN, if_pos rfl, if_neg hl]) ⟨rfl, HG3.out⟩⟩
set_option maxRecDepth 100000 in
set_option maxHeartbeats 6400000 in
theorem knum_num (pb hi : Nat) (t : Bool) (y : UInt8) (bs : List UInt8) (hy : y ≠ 0) (w : World) (h : Kr w pb hi t (y :: bs)) : Calls Tryd.prog 151 #[.pointer (some ⟨pb, 0, none⟩)] w (KNum w pb hi t (kdN (y :: bs))) := by
  have hlt := h.lt
  have HB := hide (Blk.new w 27 Cv.zero.cells)
  have H := hide (h.grow ((Grow.refl w).alloc (.cells Cv.zero.cells 27)))
  have HG := hide ((GB.refl w pb).grow ((Grow.refl w).alloc (.cells Cv.zero.cells 27)))
  clear h
  have hyl := y.toNat_lt
  have hyn : ((y.toNat : Int) == 0) = false := by
    have : y.toNat ≠ 0 := fun e => hy (UInt8.toNat_inj.1 e)
    simp; omega
  have HY := hide hy
  have hbf := run_from
  clear hy
  go_enter Tryd.func151, Tryd.ntmps151
  go_wp2_with fail
  refine (kbyte_yes pb hi t y bs _ H.out).mono ?_
  rintro e w2 ⟨rfl, hk2, hg2, hz2⟩
  have HK2 := hide hk2
  have HB2 := hide (HB.out.own hg2 (fun k e => by injection e with e; omega))
  have HG2 := hide (HG.out.trans hg2)
  clear hk2 hg2 hz2
  by_cases hl8 : 8 ≤ bs.length
  · go_wp2_with fail
    refine (kword_yes pb hi t 8 bs _ HK2.out (by omega) hl8).mono ?_
    rintro e w3 ⟨rfl, hk3, hg3, hz3⟩
    obtain ⟨n, hn⟩ : ∃ n, ofBe (bs.take 8) = n := ⟨_, rfl⟩
    rw [hn]
    have HN := hide hn
    have HB3 := hide (HB2.out.own hg3 (fun k e => by injection e with e; omega))
    have HK3 := hide hk3
    have HG3 := hide (HG2.out.trans hg3)
    clear hk3 hg3 hz3 hn
    have hn64 : n < 18446744073709551616 := by rw [← HN.out]; exact ofBe8 bs hl8
    go_wp2_with fail
    refine (kback n _ hn64).mono ?_
    rintro e w' ⟨rfl, rfl⟩
    obtain ⟨m, hm⟩ : ∃ m, backN n = m := ⟨_, rfl⟩
    have hm64 : m < 18446744073709551616 := by rw [← hm]; exact backN_lt n hn64
    rw [hm]
    have HM := hide hm
    clear hm
    obtain ⟨bs8, hb8⟩ : ∃ l, bs.drop 8 = l := ⟨_, rfl⟩
    have hl88 : bs8.length = bs.length - 8 := by rw [← hb8, List.length_drop]
    have hl8a : bs8.length + 8 ≤ bs.length := by omega
    have hl8b : bs.length ≤ bs8.length + 8 := by omega
    clear hl88
    rw [hb8] at HK3
    have HB8 := hide hb8
    clear hb8
    by_cases hl10 : 2 ≤ bs8.length
    · go_wp2_with fail
      refine (kword_yes pb hi t 2 bs8 _ HK3.out (by omega) hl10).mono ?_
      rintro e w4 ⟨rfl, hk4, hg4, hz4⟩
      obtain ⟨rs, hrs⟩ : ∃ n, ofBe (bs8.take 2) = n := ⟨_, rfl⟩
      rw [hrs]
      have HRS := hide hrs
      have HB4 := hide (HB3.out.own hg4 (fun k e => by injection e with e; omega))
      have HK4 := hide hk4
      have HG4 := hide (HG3.out.trans hg4)
      clear hk4 hg4 hz4 hrs
      have hrs : rs < 65536 := by rw [← HRS.out]; have := ofBe_lt (bs8.take 2); rw [List.length_take, Nat.min_eq_left hl10] at this; exact this
      cases hb10 : bs8.drop 2 with
      | nil =>
        rw [hb10] at HK4
        have hlen : bs.length = 10 := by have := congrArg List.length hb10; rw [List.length_drop, List.length_nil] at this; omega
        clear hb10
        go_wp2_with fail
        refine (kbyte_no pb hi t _ HK4.out).mono ?_
        rintro e w5 ⟨rfl, rfl⟩
        go_wp2_with fail
        exact ⟨rfl, KNum.none_ (hi := hi) (by rw [kdN, if_neg HY.out, if_neg (by omega)]) ⟨rfl, HG4.out⟩⟩
      | cons z r =>
        rw [hb10] at HK4
        have hl11 : 11 ≤ bs.length := by have := congrArg List.length hb10; rw [List.length_drop, List.length_cons] at this; omega
        have h10 : bs[10]? = some z := by
          have : (bs.drop 10)[0]? = some z := by rw [show bs.drop 10 = bs8.drop 2 by rw [← HB8.out, List.drop_drop], hb10]; rfl
          rwa [List.getElem?_drop] at this
        have h11 : bs.drop 11 = r := by
          rw [show bs.drop 11 = (bs8.drop 2).drop 1 by rw [← HB8.out, List.drop_drop, List.drop_drop], hb10]; rfl
        have H10 := hide h10
        have H11 := hide h11
        clear hb10 h10 h11
        have hzl := z.toNat_lt
        go_wp2_with fail
        refine (kbyte_yes pb hi t z r _ HK4.out).mono ?_
        rintro e w5 ⟨rfl, hk5, hg5, hz5⟩
        have HK5 := hide hk5
        have HB5 := hide (HB4.out.own hg5 (fun k e => by injection e with e; omega))
        have HG5 := hide (HG4.out.trans hg5)
        clear hk5 hg5 hz5
        have hkd : kdN (y :: bs) = if z = 1 then some (V.mk 4 m [] [] [], r)
             else if (Ieee.double.order m 14114281232179134464 = some .gt ∨ Ieee.double.order m 14114281232179134464 = some .eq) ∧ Ieee.double.order m 4890909195324358656 = some .lt then
              (match floatToIntVal .f64 m .i64 with
               | some n => some (V.mk 3 ((n + (rs : Int)) % 18446744073709551616).toNat [] [] [], r)
               | none => none)
             else none := by
          rw [kdN, if_neg HY.out, if_pos hl11, H10.out, HN.out, HM.out, HB8.out, HRS.out, H11.out]
          simp only [Option.some.injEq]
          try rfl
        have HKD := hide hkd
        clear hkd
        by_cases hz1 : z = 1
        · subst hz1
          have hB := HB5.out
          have hltB := hB.lt
          have hcell := hB.cell
          have hfr := hB.frozen
          clear hB
          go_wp2_with fail
          refine bodyPost_ret (num_res rfl rfl ⟨4, m, none, 0, 0, none, 0, 0, none, 0, 0⟩ (set5_from (c := ⟨4, m, none, 0, 0, none, 0, 0, none, 0, 0⟩) HB5.out)) rfl ?_
          exact KNum.some_ (v := V.mk 4 m [] [] []) (by rw [HKD.out]; exact if_pos trivial) (HK5.out.kept (set5_grown w5 w.heap.size ⟨4, m, none, 0, 0, none, 0, 0, none, 0, 0⟩) hlt) (set5_gb HG5.out (Nat.le_refl _) ⟨4, m, none, 0, 0, none, 0, 0, none, 0, 0⟩)
        · have hz1n : ((z.toNat : Int) == 1) = false := by
            have : z.toNat ≠ 1 := fun e => hz1 (UInt8.toNat_inj.1 e)
            simp; omega
          have HZ1 := hide hz1
          clear hz1
          by_cases hin : (Ieee.double.order m 14114281232179134464 = some .gt ∨ Ieee.double.order m 14114281232179134464 = some .eq) ∧ Ieee.double.order m 4890909195324358656 = some .lt
          · obtain ⟨q, hq, hq1, hq2⟩ := whole_some hin.1 hin.2
            have hcv := conv_fi m q hq
            have ho1 : (FloatKind.f64.format.order m 14114281232179134464 == some Ordering.gt || FloatKind.f64.format.order m 14114281232179134464 == some Ordering.eq) = true := by
              show (Ieee.double.order m 14114281232179134464 == some Ordering.gt || Ieee.double.order m 14114281232179134464 == some Ordering.eq) = true
              rcases hin.1 with h | h <;> rw [h] <;> rfl
            have ho2 : FloatKind.f64.format.order m 4890909195324358656 = some Ordering.lt := hin.2
            have HIN := hide hin
            have HQ := hide hq
            have hsum : IntKind.u64.wrap (IntKind.u64.wrap q + (rs : Int)) = (((q + (rs : Int)) % 18446744073709551616).toNat : Int) := by rw [IntKind.wrap_u64, IntKind.wrap_u64]; omega
            obtain ⟨res, hres⟩ : ∃ x, ((q + (rs : Int)) % 18446744073709551616).toNat = x := ⟨_, rfl⟩
            rw [hres] at hsum
            have HRES := hide hres
            have hB := HB5.out
            have hltB := hB.lt
            have hcell := hB.cell
            have hfr := hB.frozen
            clear hin hq hres hB
            go_wp2_with (go_at_call 149; refine (kmust_yes _).mono ?_; rintro e w' ⟨rfl, rfl⟩)
            refine bodyPost_ret (num_res rfl rfl ⟨3, res, none, 0, 0, none, 0, 0, none, 0, 0⟩ (set5_from (c := ⟨3, res, none, 0, 0, none, 0, 0, none, 0, 0⟩) HB5.out)) rfl ?_
            exact KNum.some_ (v := V.mk 3 res [] [] []) (by rw [HKD.out, if_neg HZ1.out, if_pos HIN.out, HQ.out]; simp only [HRES.out]) (HK5.out.kept (set5_grown w5 w.heap.size ⟨3, res, none, 0, 0, none, 0, 0, none, 0, 0⟩) hlt) (set5_gb HG5.out (Nat.le_refl _) ⟨3, res, none, 0, 0, none, 0, 0, none, 0, 0⟩)
          · have HIN := hide hin
            have HEND := hide (KNum.none_ (hi := hi) (got := kdN (y :: bs)) (w := w) (w' := w5) (pb := pb) (t := t) (by rw [HKD.out, if_neg HZ1.out, if_neg HIN.out]) (r := .panicked (thrown 14)) ⟨rfl, HG5.out⟩)
            by_cases ho1 : (FloatKind.f64.format.order m 14114281232179134464 == some Ordering.gt || FloatKind.f64.format.order m 14114281232179134464 == some Ordering.eq) = true
            · have ho2 : (FloatKind.f64.format.order m 4890909195324358656 == some Ordering.lt) = false := by
                cases hx : (FloatKind.f64.format.order m 4890909195324358656 == some Ordering.lt) with
                | false => rfl
                | true =>
                  refine absurd ⟨?_, ?_⟩ hin
                  · rcases (Bool.or_eq_true_iff.1 ho1) with h | h
                    · exact .inl (eq_of_beq h)
                    · exact .inr (eq_of_beq h)
                  · exact eq_of_beq hx
              clear hin
              go_wp2_with (go_at_call 149; refine (kmust_no _).mono ?_; rintro e w' ⟨rfl, rfl⟩)
              exact ⟨rfl, HEND.out⟩
            · have ho1' : (FloatKind.f64.format.order m 14114281232179134464 == some Ordering.gt || FloatKind.f64.format.order m 14114281232179134464 == some Ordering.eq) = false := by simpa using ho1
              clear hin ho1
              go_wp2_with (go_at_call 149; refine (kmust_no _).mono ?_; rintro e w' ⟨rfl, rfl⟩)
              exact ⟨rfl, HEND.out⟩
    · go_wp2_with fail
      refine (kword_no pb hi t 2 bs8 _ HK3.out (by omega) (by omega)).mono ?_
      rintro e w4 ⟨rfl, hg4⟩
      have HG4 := hide (HG3.out.trans hg4)
      clear hg4
      go_wp2_with fail
      exact ⟨rfl, KNum.none_ (hi := hi) (by rw [kdN, if_neg HY.out, if_neg (by omega)]) ⟨rfl, HG4.out⟩⟩
  · go_wp2_with fail
    refine (kword_no pb hi t 8 bs _ HK2.out (by omega) (by omega)).mono ?_
    rintro e w3 ⟨rfl, hg3⟩
    have HG3 := hide (HG2.out.trans hg3)
    clear hg3
    go_wp2_with fail
    exact ⟨rfl, KNum.none_ (hi := hi) (by rw [kdN, if_neg HY.out, if_neg (by omega)]) ⟨rfl, HG3.out⟩⟩
theorem knum_any (pb hi : Nat) (t : Bool) (bs : List UInt8) (w : World) (h : Kr w pb hi t bs) : Calls Tryd.prog 151 #[.pointer (some ⟨pb, 0, none⟩)] w (KNum w pb hi t (kdN bs)) := by
  cases bs with
  | nil => exact knum_nil pb hi t w h
  | cons y bs =>
    by_cases hy : y = 0
    · exact knum_nan pb hi t y bs hy w h
    · exact knum_num pb hi t y bs hy w h
end Go.Proofs.YtpjhhkndfmcaoaaDoor

set_option linter.unusedVariables false
set_option linter.unusedSimpArgs false
namespace Go.Proofs.YtpjhhkndfmcaoaaDoor
open Go.RowKit Go.Shelf Go.WideShapes

theorem unesc_ne {x : UInt8} (hx : x ≠ 0) (r : List UInt8) : unesc false (x :: r) = (unesc false r).map fun p => (x :: p.1, p.2) := by
  cases r with
  | nil => rfl
  | cons y r => rw [unesc, if_neg hx]
theorem unesc_zero (y : UInt8) (r : List UInt8) : unesc false (0 :: y :: r) = if y = 255 then (unesc false r).map (fun p => (0 :: p.1, p.2)) else some ([], r) := by
  rw [unesc, if_pos rfl]
  split
  · rfl
  · rw [if_neg (by simp)]
/-- What the reader of texts tells. -/
def KStr (w : World) (pb hi : Nat) (t : Bool) (got : Option (List UInt8 × List UInt8)) (r : Ending) (w' : World) : Prop :=
  match got with
  | some (b, rest) => ∃ A c, r = .returned (.slice A b.length c) ∧ Row w' w.heap.size (.slice A b.length c) b.length b ∧ Kr w' pb hi t rest ∧ GB w w' pb
  | none => KP w pb r w'
theorem KStr.some_ {w w' : World} {pb hi : Nat} {t : Bool} {got : Option (List UInt8 × List UInt8)} {b rest : List UInt8} {A : Option Addr} {c : Nat} (h : got = some (b, rest)) (hr : Row w' w.heap.size (.slice A b.length c) b.length b) (hk : Kr w' pb hi t rest) (hg : GB w w' pb) :
    KStr w pb hi t got (.returned (.slice A b.length c)) w' := by
  subst h; exact ⟨A, c, rfl, hr, hk, hg⟩
theorem KStr.none_ {w w' : World} {pb hi : Nat} {t : Bool} {got : Option (List UInt8 × List UInt8)} {r : Ending} (h : got = none) (hk : KP w pb r w') : KStr w pb hi t got r w' := by
  subst h; exact hk
theorem Row.gb {w w' : World} {base m pb : Nat} {v : Value} {xs : List UInt8} (h : Row w base v m xs) (hg : GB w w' pb) (hp : pb < base) : Row w' base v m xs := by
  rcases h.2 with h0 | ⟨g, cap, cur, rfl, hb, hgg, hr⟩
  · exact ⟨h.1, .inl h0⟩
  · exact ⟨h.1, .inr ⟨g, cap, cur, rfl, hb, Blk.own (t := 5) (cs := cur) hgg hg (fun k e => by injection e with e; omega), hr⟩⟩
theorem GB.size {w w' : World} {pb : Nat} (h : GB w w' pb) : w.heap.size ≤ w'.heap.size := World.grownBy.size h

set_option maxRecDepth 100000 in
set_option maxHeartbeats 6400000 in
theorem kstr_any (pb hi : Nat) (t : Bool) (bs : List UInt8) (w : World) (h : Kr w pb hi t bs) (hl : bs.length ≤ 140737488000000) : Calls Tryd.prog 152 #[.pointer (some ⟨pb, 0, none⟩)] w (KStr w pb hi t (unesc false bs)) := by
  have H := hide h
  have hlt := h.lt
  clear h
  go_enter Tryd.func152, Tryd.ntmps152
  go_wp2_with fail
  go_loopg [3, 4] (bs.length + 1) (fun gk o _ wr => ∃ (rest xs : List UInt8) (A : Option Addr) (c : Nat), gk = rest.length + 1 ∧ xs.length + rest.length ≤ bs.length ∧ o = .slice A xs.length c ∧ Row wr w.heap.size (.slice A xs.length c) xs.length xs ∧ Kr wr pb hi t rest ∧ GB w wr pb ∧
    unesc false bs = (unesc false rest).map fun p => (xs ++ p.1, p.2))
  case atStart => exact ⟨bs, [], none, 0, rfl, by simp, rfl, World.ownsRow_nil _ _ _ _, H.out, GB.refl _ _, by cases unesc false bs <;> rfl⟩
  case round =>
    obtain ⟨rest, xs, A, c, rfl, hxl, rfl, hr, hk, hg, he⟩ := hrel
    have HR := hide hr
    have HG := hide hg
    have HE := hide he
    have hzw := GB.size hg
    clear hr hg he
    cases rest with
    | nil =>
      have HK := hide hk
      clear hk
      go_wp2_with fail
      refine (kbyte_no pb hi t _ HK.out).mono ?_
      rintro e w2 ⟨rfl, rfl⟩
      go_wp2_with fail
      exact ⟨rfl, KStr.none_ (hi := hi) (by rw [HE.out]; rfl) ⟨rfl, HG.out⟩⟩
    | cons x r =>
      have HK := hide hk
      clear hk
      rw [List.length_cons] at hxl
      have hxlt := x.toNat_lt
      by_cases hx : x = 0
      · subst hx
        go_wp2_with fail
        refine (kbyte_yes pb hi t 0 r _ HK.out).mono ?_
        rintro e w2 ⟨rfl, hk2, hg2, hz2⟩
        have HR2 := hide (HR.out.gb hg2 hlt)
        have HG2 := hide (HG.out.trans hg2)
        have hz2' : wr.heap.size ≤ w2.heap.size := by omega
        cases r with
        | nil =>
          have HK2 := hide hk2
          clear hk2 hg2 hz2
          go_wp2_with fail
          refine (kbyte_no pb hi t _ HK2.out).mono ?_
          rintro e w3 ⟨rfl, rfl⟩
          go_wp2_with fail
          exact ⟨rfl, KStr.none_ (hi := hi) (by rw [HE.out]; rfl) ⟨rfl, HG2.out⟩⟩
        | cons y r =>
          have HK2 := hide hk2
          clear hk2 hg2 hz2
          rw [List.length_cons] at hxl
          have hylt := y.toNat_lt
          rw [unesc_zero] at HE
          by_cases hy : y = 255
          · rw [if_pos hy] at HE
            subst hy
            go_wp2_with fail
            refine (kbyte_yes pb hi t 255 r _ HK2.out).mono ?_
            rintro e w3 ⟨rfl, hk3, hg3, hz3⟩
            have HR3 := hide (HR2.out.gb hg3 hlt)
            have HG3 := hide (HG2.out.trans hg3)
            have hz3' : w2.heap.size ≤ w3.heap.size := by omega
            have HK3 := hide hk3
            clear hk3 hg3 hz3
            go_wp2_with (at_builtin; refine app_src (ys := [0]) rfl (.tmp 15) (.tmp 17) _ rfl rfl (HR3.out.alloc _) _ rfl (src_one 0 rfl (Blk.new w3 _ _)) (by simp only [List.length_cons, List.length_nil]; omega) (by simp; omega) ?_; intro A4 c4 w4 hr4 hg4; have HR4 := hide hr4; have HG4 := hide (HG3.out.grow ((Grow.refl w3).alloc (.cells #[.int .u8 0] 5)) |>.own hg4.grow (fun k hk => by have := World.ownsRow.lt HR3.out k hk; omega)); have HK4 := hide ((HK3.out.grow ((Grow.refl w3).alloc (.cells #[.int .u8 0] 5))).own hg4.grow (fun k hk => by have := World.ownsRow.lt HR3.out k hk; omega)); clear hr4 hg4)
            go_roundg (r.length + 1)
            case measure => simp
            case rel =>
              have hn : (xs ++ [(0 : UInt8)]).length = xs.length + [(0 : UInt8)].length := List.length_append
              refine ⟨r, xs ++ [0], A4, c4, rfl, by rw [hn]; simp only [List.length_cons, List.length_nil]; omega, by rw [hn]; rfl, by rw [hn]; exact HR4.out, HK4.out, HG4.out, ?_⟩
              rw [HE.out]
              cases unesc false r <;> simp
          · rw [if_neg hy] at HE
            have hyn : ((y.toNat : Int) != 255) = true := by
              have : y.toNat ≠ 255 := fun e => hy (UInt8.toNat_inj.1 e)
              simp; omega
            clear hy
            go_wp2_with fail
            refine (kbyte_yes pb hi t y r _ HK2.out).mono ?_
            rintro e w3 ⟨rfl, hk3, hg3, hz3⟩
            have HR3 := hide (HR2.out.gb hg3 hlt)
            have HG3 := hide (HG2.out.trans hg3)
            have HK3 := hide hk3
            clear hk3 hg3 hz3
            go_wp2_with fail
            go_ret
            exact KStr.some_ (b := xs) (by rw [HE.out]; simp) HR3.out HK3.out HG3.out
      · have hxn : ((x.toNat : Int) == 0) = false := by
          have : x.toNat ≠ 0 := fun e => hx (UInt8.toNat_inj.1 e)
          simp; omega
        rw [unesc_ne hx] at HE
        clear hx
        go_wp2_with fail
        refine (kbyte_yes pb hi t x r _ HK.out).mono ?_
        rintro e w3 ⟨rfl, hk3, hg3, hz3⟩
        have HR3 := hide (HR.out.gb hg3 hlt)
        have HG3 := hide (HG.out.trans hg3)
        have hz3' : wr.heap.size ≤ w3.heap.size := by omega
        have HK3 := hide hk3
        clear hk3 hg3 hz3
        go_wp2_with (at_builtin; refine app_src (ys := [x]) rfl (.tmp 15) (.tmp 17) _ rfl rfl (HR3.out.alloc _) _ rfl (src_one x rfl (Blk.new w3 _ _)) (by simp only [List.length_cons, List.length_nil]; omega) (by simp; omega) ?_; intro A4 c4 w4 hr4 hg4; have HR4 := hide hr4; have HG4 := hide (HG3.out.grow ((Grow.refl w3).alloc (.cells #[.int .u8 (x.toNat : Int)] 5)) |>.own hg4.grow (fun k hk => by have := World.ownsRow.lt HR3.out k hk; omega)); have HK4 := hide ((HK3.out.grow ((Grow.refl w3).alloc (.cells #[.int .u8 (x.toNat : Int)] 5))).own hg4.grow (fun k hk => by have := World.ownsRow.lt HR3.out k hk; omega)); clear hr4 hg4)
        go_roundg (r.length + 1)
        case measure => simp
        case rel =>
          have hn : (xs ++ [x]).length = xs.length + [x].length := List.length_append
          refine ⟨r, xs ++ [x], A4, c4, rfl, by rw [hn]; simp only [List.length_cons, List.length_nil]; omega, by rw [hn]; rfl, by rw [hn]; exact HR4.out, HK4.out, HG4.out, ?_⟩
          rw [HE.out]
          cases unesc false r <;> simp
end Go.Proofs.YtpjhhkndfmcaoaaDoor
