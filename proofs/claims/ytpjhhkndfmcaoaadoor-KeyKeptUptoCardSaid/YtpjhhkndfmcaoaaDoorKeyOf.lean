/- Walk of munimentref4.of: a good value's key. -/
import Derived.Test.YtpjhhkndfmcaoaaDoorKeyEG
import Derived.Test.YtpjhhkndfmcaoaaDoorKeyOA
import Derived.Test.YtpjhhkndfmcaoaaDoorRefB
import Derived.Deep.RegionHeld3
set_option linter.unusedVariables false
set_option linter.unusedSimpArgs false
namespace Go.Proofs.YtpjhhkndfmcaoaaDoor
open Go.RowKit Go.Shelf Go.WideShapes

theorem nan_bits (n : Nat) (hn : n < 18446744073709551616) : nanB n = (decide (n / 4503599627370496 % 2048 = 2047) && decide (n % 4503599627370496 ≠ 0)) := by
  have h1 : Ieee.double.signWeight = 9223372036854775808 := by decide
  have h2 : Ieee.double.binade = 4503599627370496 := by decide
  have h3 : Ieee.double.infRung = 9218868437227405312 := by decide
  unfold nanB Ieee.Format.order Ieee.Format.read
  rw [h1, h2, h3]
  simp only
  by_cases c1 : n % 9223372036854775808 < 4503599627370496
  · rw [if_pos c1, decide_eq_false (by omega)]
    simp [Ieee.Datum.order]
  · rw [if_neg c1]
    by_cases c2 : n % 9223372036854775808 < 9218868437227405312
    · rw [if_pos c2, decide_eq_false (by omega)]
      simp [Ieee.Datum.order]
    · rw [if_neg c2]
      by_cases c3 : n % 9223372036854775808 = 9218868437227405312
      · rw [if_pos c3, decide_eq_true (show n / 4503599627370496 % 2048 = 2047 by omega), decide_eq_false (show ¬ n % 4503599627370496 ≠ 0 by omega)]
        simp [Ieee.Datum.order]
      · rw [if_neg c3, decide_eq_true (show n / 4503599627370496 % 2048 = 2047 by omega), decide_eq_true (show n % 4503599627370496 ≠ 0 by omega)]
        simp [Ieee.Datum.order]
/-- A row of the call's own, told from a lower block on. -/
theorem Row.fromLow {w : World} {b1 b2 m : Nat} {v : Value} {xs : List UInt8} (h : Row w b1 v m xs) (hb : b2 ≤ b1) : Row w b2 v m xs := by
  rcases h.2 with q | ⟨g, cap, cur, hv, hg, r⟩
  · exact ⟨h.1, .inl q⟩
  · exact ⟨h.1, .inr ⟨g, cap, cur, hv, Nat.le_trans hb hg, r⟩⟩
theorem BytK.row {w w' : World} {b xs : List UInt8} {base n c : Nat} {A : Option Addr} (h : xs = b) (hn : n = b.length) (hb : w.heap.size ≤ base) (hr : Row w' base (.slice A n c) n xs) (hg : Grow w w') : BytK w b (.returned (.slice A n c)) w' :=
  BytK.of h hn (hr.fromLow hb) hg
theorem fl_lt (i : Int) (h1 : -9223372036854775808 ≤ i) (h2 : i ≤ 9223372036854775807) : (fl i).1 < 18446744073709551616 ∧ (fl i).2 < 18446744073709551616 := by
  have hc := floor_cases i h1 h2
  obtain ⟨FLT⟩ := hc
  exact ⟨by omega, by omega⟩
theorem rest3 {P : Program} {md : Region.Mode} {ops : Array Oper} {Q : Exit → Act → World → Prop} {S : World → Prop} {n : Nat} {l : Array Bool} {a : Act} {W : World} (di dj dk : Option Tmp) (i j k : Nat) (R : Value → Value → Value → World → Prop)
    (rest : ∀ x y z W2, R x y z W2 → wpAnyH P md ops Q S n (((l.setIfInBounds i true).setIfInBounds j true).setIfInBounds k true) (((a.put di x).put dj y).put dk z) W2)
    (go : (∀ x y z W2, R x y z W2 → wpAnyH P md ops Q S n (((l.setIfInBounds i true).setIfInBounds j true).setIfInBounds k true) (((a.put di x).put dj y).put dk z) W2) → wpAnyH P md ops Q S (n + 3) l a W) : wpAnyH P md ops Q S (n + 3) l a W := go rest
/-- A literal byte behind the row, and a text's bytes beside it. -/
def CvC (w wr : World) (m : Nat) (xs : List UInt8) (x : UInt8) (b : List UInt8) (y z : Value) (W : World) : Prop :=
  ∃ A1 c1 cn gv, y = .slice A1 (m + 1) c1 ∧ z = .slice (some ⟨gv, 0, none⟩) b.length cn ∧ Row W (w.heap.size + 1) (.slice A1 (m + 1) c1) (m + 1) (xs ++ [x]) ∧ b.length ≤ cn ∧ InB W (some ⟨gv, 0, none⟩) b ∧ Below (w.heap.size + 1) wr W
/-- A literal byte behind the row, and a call's bytes beside it. -/
def ParC (w wr : World) (m : Nat) (xs : List UInt8) (x : UInt8) (key : List UInt8) (y z : Value) (W : World) : Prop :=
  ∃ A1 c1 A2 c2 bz, y = .slice A1 (m + 1) c1 ∧ z = .slice A2 key.length c2 ∧ Row W (w.heap.size + 1) (.slice A1 (m + 1) c1) (m + 1) (xs ++ [x]) ∧ Row W bz (.slice A2 key.length c2) key.length key ∧ Below (w.heap.size + 1) wr W
theorem rest4 {P : Program} {md : Region.Mode} {ops : Array Oper} {Q : Exit → Act → World → Prop} {S : World → Prop} {n : Nat} {l : Array Bool} {a : Act} {W : World} (di dj dk dm : Option Tmp) (i j k m : Nat) (R : Value → Value → Value → Value → World → Prop)
    (rest : ∀ x y z u W2, R x y z u W2 → wpAnyH P md ops Q S n ((((l.setIfInBounds i true).setIfInBounds j true).setIfInBounds k true).setIfInBounds m true) ((((a.put di x).put dj y).put dk z).put dm u) W2)
    (go : (∀ x y z u W2, R x y z u W2 → wpAnyH P md ops Q S n ((((l.setIfInBounds i true).setIfInBounds j true).setIfInBounds k true).setIfInBounds m true) ((((a.put di x).put dj y).put dk z).put dm u) W2) → wpAnyH P md ops Q S (n + 4) l a W) : wpAnyH P md ops Q S (n + 4) l a W := go rest
theorem own_apart {v v2 : Value} (h : ∀ k, v.ownBlock = some k → v2.ownBlock ≠ some k) : v2.ownBlock = none ∨ v2.ownBlock ≠ v.ownBlock := by
  cases h2 : v2.ownBlock with
  | none => exact .inl rfl
  | some q => right; intro e; exact h q e.symm h2
theorem inb_apart {W W' : World} {gv : Nat} {b : List UInt8} {v : Value} (h : InB W (some ⟨gv, 0, none⟩) b) (hg : W.grownBy W' v.ownBlock) (hn : ∀ k, v.ownBlock = some k → k < gv) : InB W' (some ⟨gv, 0, none⟩) b := by
  refine ⟨h.1, fun hp => ?_⟩
  obtain ⟨bk, o, e, hc⟩ := h.2 hp
  injection e with e
  injection e with e1 e2
  subst e1 e2
  exact ⟨gv, 0, rfl, fun j u hu => ⟨World.grownBy.cell hg (hc j u hu).1 (fun e => by have := hn gv e.symm; omega), Nat.zero_le _, Nat.lt_of_lt_of_le (hc j u hu).2.2 hg.size⟩⟩
def OfPos (x : V) : Prop := ∀ (w : World) (c : Cv), In w x c → x.key.length ≤ 1000000 → Calls Tryd.prog 58 #[c.agg] w (BytK w x.key)
theorem of_kind1 (W : World) : (Instr.index 127 (.agg #[.int .u8 0, .int .u8 16, .int .u8 32, .int .u8 48, .int .u8 48, .int .u8 64, .int .u8 80, .int .u8 96, .int .u8 112]) (.int .i64 1)).run Tryd.prog W = .ok (.int .u8 16) W := by kernel_rfl
theorem of_kind2 (W : World) : (Instr.index 127 (.agg #[.int .u8 0, .int .u8 16, .int .u8 32, .int .u8 48, .int .u8 48, .int .u8 64, .int .u8 80, .int .u8 96, .int .u8 112]) (.int .i64 2)).run Tryd.prog W = .ok (.int .u8 32) W := by kernel_rfl
theorem of_kind3 (W : World) : (Instr.index 127 (.agg #[.int .u8 0, .int .u8 16, .int .u8 32, .int .u8 48, .int .u8 48, .int .u8 64, .int .u8 80, .int .u8 96, .int .u8 112]) (.int .i64 3)).run Tryd.prog W = .ok (.int .u8 48) W := by kernel_rfl
theorem of_kind4 (W : World) : (Instr.index 127 (.agg #[.int .u8 0, .int .u8 16, .int .u8 32, .int .u8 48, .int .u8 48, .int .u8 64, .int .u8 80, .int .u8 96, .int .u8 112]) (.int .i64 4)).run Tryd.prog W = .ok (.int .u8 48) W := by kernel_rfl
theorem of_kind5 (W : World) : (Instr.index 127 (.agg #[.int .u8 0, .int .u8 16, .int .u8 32, .int .u8 48, .int .u8 48, .int .u8 64, .int .u8 80, .int .u8 96, .int .u8 112]) (.int .i64 5)).run Tryd.prog W = .ok (.int .u8 64) W := by kernel_rfl
theorem of_kind6 (W : World) : (Instr.index 127 (.agg #[.int .u8 0, .int .u8 16, .int .u8 32, .int .u8 48, .int .u8 48, .int .u8 64, .int .u8 80, .int .u8 96, .int .u8 112]) (.int .i64 6)).run Tryd.prog W = .ok (.int .u8 80) W := by kernel_rfl
theorem of_kind7 (W : World) : (Instr.index 127 (.agg #[.int .u8 0, .int .u8 16, .int .u8 32, .int .u8 48, .int .u8 48, .int .u8 64, .int .u8 80, .int .u8 96, .int .u8 112]) (.int .i64 7)).run Tryd.prog W = .ok (.int .u8 96) W := by kernel_rfl
theorem of_kind8 (W : World) : (Instr.index 127 (.agg #[.int .u8 0, .int .u8 16, .int .u8 32, .int .u8 48, .int .u8 48, .int .u8 64, .int .u8 80, .int .u8 96, .int .u8 112]) (.int .i64 8)).run Tryd.prog W = .ok (.int .u8 112) W := by kernel_rfl

set_option maxRecDepth 100000 in
set_option maxHeartbeats 1600000 in
theorem rof_null (w : World) (c : Cv) (hv : In w (V.mk 1 0 [] [] []) c) :
    Calls Tryd.prog 58 #[c.agg] w (BytK w (V.key (V.mk 1 0 [] [] []))) := by
  obtain ⟨aB, aL, aF, cB, cL, cF, rfl, h1, h2, h3, h4, h5, h6, h7, h8, h9, hb0⟩ := InU.open hv
  have hz : (w.alloc (.cells #[.int .i64 1, .int .u64 0, .slice aB 0 cB, .slice aL 0 cL, .slice aF 0 cF] 27)).heap.size = w.heap.size + 1 := by simp
  have hrow := Row.lit (w := w.alloc (.cells #[.int .i64 1, .int .u64 0, .slice aB 0 cB, .slice aL 0 cL, .slice aF 0 cF] 27)) 16 (e := 16) rfl
  rw [hz] at hrow
  have HRow := hide hrow
  have hidx := of_kind1
  have HB0 := hide ((Blk.new w 27 #[.int .i64 1, .int .u64 0, .slice aB 0 cB, .slice aL 0 cL, .slice aF 0 cF]).alloc (.cells #[.int .u8 16] 5))
  have HG0 := hide (((Grow.refl w).alloc (.cells #[.int .i64 1, .int .u64 0, .slice aB 0 cB, .slice aL 0 cL, .slice aF 0 cF] 27)).alloc (.cells #[.int .u8 16] 5))
  clear hrow hb0
  go_enter Tryd.func58, Tryd.ntmps58
  go_wp2_with fail
  go_ret
  exact BytK.row (by rw [V.key_mk]; rfl) (by rw [V.key_mk]; rfl) (by omega) HRow.out HG0.out

set_option maxRecDepth 100000 in
set_option maxHeartbeats 1600000 in
theorem rof_bool (w : World) (c : Cv) (n : Nat) (hv : In w (V.mk 2 n [] [] []) c) :
    Calls Tryd.prog 58 #[c.agg] w (BytK w (V.key (V.mk 2 n [] [] []))) := by
  obtain ⟨aB, aL, aF, cB, cL, cF, rfl, h1, h2, h3, h4, h5, h6, h7, h8, h9, hb0⟩ := InU.open hv
  have hz : (w.alloc (.cells #[.int .i64 2, .int .u64 n, .slice aB 0 cB, .slice aL 0 cL, .slice aF 0 cF] 27)).heap.size = w.heap.size + 1 := by simp
  have hrow := Row.lit (w := w.alloc (.cells #[.int .i64 2, .int .u64 n, .slice aB 0 cB, .slice aL 0 cL, .slice aF 0 cF] 27)) 32 (e := 32) rfl
  rw [hz] at hrow
  have HRow := hide hrow
  have hidx := of_kind2
  have HB0 := hide ((Blk.new w 27 #[.int .i64 2, .int .u64 n, .slice aB 0 cB, .slice aL 0 cL, .slice aF 0 cF]).alloc (.cells #[.int .u8 32] 5))
  have HG0 := hide (((Grow.refl w).alloc (.cells #[.int .i64 2, .int .u64 n, .slice aB 0 cB, .slice aL 0 cL, .slice aF 0 cF] 27)).alloc (.cells #[.int .u8 32] 5))
  have hwr : IntKind.u8.wrap (n : Int) = (n : Int) % 256 := IntKind.wrap_u8 _
  clear hrow hb0
  go_enter Tryd.func58, Tryd.ntmps58
  go_wp2_with (first | (at_builtin; refine app_src (ys := [UInt8.ofNat n]) rfl (.tmp 17) (.tmp 21) _ rfl rfl (HRow.out.alloc _) _ rfl (src_one _ (byte_int _) (Blk.new' (by simp) _ _)) (by simp only [List.length_cons, List.length_nil]; omega) (by simp) ?_; intro A2 c2 w2 hr2 hg2; have HG2 := hide (Below.trans (HG0.out.alloc _) (Below.mono (Grew.below hg2 (HRow.out.alloc _) (by simp)) (by omega))); have HR2 := hide hr2; clear hr2 hg2) | fail)
  go_ret
  exact BytK.row (by rw [V.key_mk]; rfl) (by rw [V.key_mk]; rfl) (by omega) HR2.out HG2.out

set_option maxRecDepth 100000 in
set_option maxHeartbeats 1600000 in
theorem rof_int (w : World) (c : Cv) (n : Nat) (hv : In w (V.mk 3 n [] [] []) c) :
    Calls Tryd.prog 58 #[c.agg] w (BytK w (V.key (V.mk 3 n [] [] []))) := by
  obtain ⟨aB, aL, aF, cB, cL, cF, rfl, h1, h2, h3, h4, h5, h6, h7, h8, h9, hb0⟩ := InU.open hv
  have hz : (w.alloc (.cells #[.int .i64 3, .int .u64 n, .slice aB 0 cB, .slice aL 0 cL, .slice aF 0 cF] 27)).heap.size = w.heap.size + 1 := by simp
  have hrow := Row.lit (w := w.alloc (.cells #[.int .i64 3, .int .u64 n, .slice aB 0 cB, .slice aL 0 cL, .slice aF 0 cF] 27)) 48 (e := 48) rfl
  rw [hz] at hrow
  have HRow := hide hrow
  have hidx := of_kind3
  have HB0 := hide ((Blk.new w 27 #[.int .i64 3, .int .u64 n, .slice aB 0 cB, .slice aL 0 cL, .slice aF 0 cF]).alloc (.cells #[.int .u8 48] 5))
  have HG0 := hide (((Grow.refl w).alloc (.cells #[.int .i64 3, .int .u64 n, .slice aB 0 cB, .slice aL 0 cL, .slice aF 0 cF] 27)).alloc (.cells #[.int .u8 48] 5))
  have hcv : IntKind.i64.wrap (n : Int) = i64 n := by unfold i64; rw [IntKind.wrap_i64]; split <;> omega
  have hi1 : -9223372036854775808 ≤ i64 n ∧ i64 n ≤ 9223372036854775807 := by unfold i64; split <;> omega
  obtain ⟨I, hI⟩ : ∃ I, i64 n = I := ⟨_, rfl⟩
  rw [hI] at hcv hi1
  have HI := hide hI
  have hfb := fl_lt I hi1.1 hi1.2
  have HFL := hide (fun w => rk_floor I hi1.1 hi1.2 w)
  obtain ⟨F, R, hFR⟩ : ∃ F R, fl I = (F, R) := ⟨_, _, rfl⟩
  rw [hFR] at hfb HFL
  dsimp only at hfb HFL
  have HFR := hide hFR
  have HT := hide (fun w => rk_turned F w hfb.1)
  have HH := hide (fun w => rk_high (turnN F) 8 w (by omega) (turn_lt F hfb.1))
  have HH2 := hide (fun w => rk_high R 2 w (by omega) hfb.2)
  clear hrow hb0 hI hFR
  go_enter Tryd.func58, Tryd.ntmps58
  go_wp2_with fail
  refine (HFL.out _).mono ?_
  rintro e w1 ⟨rfl, rfl⟩
  go_wp2_with (first | (at_builtin; refine app_src (ys := [1]) rfl (.tmp 32) (.tmp 33) _ rfl rfl (HRow.out.alloc _) _ rfl (src_one 1 rfl (Blk.new' (by simp) _ _)) (by simp only [be_length, List.length_cons, List.length_nil] <;> omega) (by first | omega | (simp only [World.size_alloc]; omega)) ?_; intro A2 c2 w2 hr2 hg2; have hz2 := hg2.size; have HG2 := hide (Below.trans (Grow.alloc HG0.out _) (Below.mono (Grew.below hg2 (HRow.out.alloc _) (by first | omega | (simp only [World.size_alloc]; omega))) (by omega))); have HR2 := hide hr2; (try simp only [World.size_alloc] at hz2); clear hr2 hg2) | fail)
  refine (HT.out _).mono ?_
  rintro e w3 ⟨rfl, rfl⟩
  go_wp2_with fail
  refine (HH.out _).mono ?_
  rintro e w4 ⟨A4, c4, rfl, hr4, hg4⟩
  have HR4 := hide hr4
  have HG4 := hide (Grow.trans HG2.out hg4)
  have HRb := hide (HR2.out.grow hg4)
  have hz4 := hg4.size
  clear hr4 hg4
  go_wp2_with (first | (at_builtin; refine app_src (ys := be 8 (turnN F)) rfl (.tmp 35) (.tmp 38) _ rfl rfl HRb.out _ rfl (Src.ofReads under_u8s HR4.out.reads.1 (u8s_one _)) (by simp only [be_length, List.length_cons, List.length_nil] <;> omega) (by first | omega | (simp only [World.size_alloc]; omega)) ?_; intro A5 c5 w5 hr5 hg5; have hz5 := hg5.size; have HG5 := hide (Below.trans HG4.out (Below.mono (Grew.below hg5 HRb.out (by first | omega | (simp only [World.size_alloc]; omega))) (by omega))); have HR5 := hide hr5; (try simp only [World.size_alloc] at hz5); clear hr5 hg5) | fail)
  refine (HH2.out _).mono ?_
  rintro e w6 ⟨A6, c6, rfl, hr6, hg6⟩
  have HR6 := hide hr6
  have HG6 := hide (Grow.trans HG5.out hg6)
  have HRd := hide (HR5.out.grow hg6)
  have hz6 := hg6.size
  clear hr6 hg6
  go_wp2_with (first | (at_builtin; refine app_src (ys := be 2 R) rfl (.tmp 39) (.tmp 41) _ rfl rfl HRd.out _ rfl (Src.ofReads under_u8s HR6.out.reads.1 (u8s_one _)) (by simp only [be_length, List.length_cons, List.length_nil] <;> omega) (by first | omega | (simp only [World.size_alloc]; omega)) ?_; intro A7 c7 w7 hr7 hg7; have hz7 := hg7.size; have HG7 := hide (Below.trans HG6.out (Below.mono (Grew.below hg7 HRd.out (by first | omega | (simp only [World.size_alloc]; omega))) (by omega))); have HR7 := hide hr7; (try simp only [World.size_alloc] at hz7); clear hr7 hg7) | (at_builtin; refine app_src (ys := [0]) rfl (.tmp 43) (.tmp 44) _ rfl rfl (HR7.out.alloc _) _ rfl (src_one 0 rfl (Blk.new' (by simp) _ _)) (by simp only [be_length, List.length_cons, List.length_nil] <;> omega) (by first | omega | (simp only [World.size_alloc]; omega)) ?_; intro A8 c8 w8 hr8 hg8; have hz8 := hg8.size; have HG8 := hide (Below.trans (Grow.alloc HG7.out _) (Below.mono (Grew.below hg8 (HR7.out.alloc _) (by first | omega | (simp only [World.size_alloc]; omega))) (by omega))); have HR8 := hide hr8; (try simp only [World.size_alloc] at hz8); clear hr8 hg8) | fail)
  go_ret
  exact BytK.row (by rw [V.key_mk]; simp [keyInt, HI.out, HFR.out]) (by rw [V.key_mk]; simp [keyInt, HI.out, HFR.out, be_length]) (by omega) HR8.out HG8.out

set_option maxRecDepth 100000 in
set_option maxHeartbeats 1600000 in
theorem rof_text (w : World) (c : Cv) (b : List UInt8) (hv : In w (V.mk 5 0 b [] []) c) (hm : (V.mk 5 0 b [] []).key.length ≤ 1000000) :
    Calls Tryd.prog 58 #[c.agg] w (BytK w (V.key (V.mk 5 0 b [] []))) := by
  obtain ⟨aB, aL, aF, cB, cL, cF, rfl, h1, h2, h3, h4, h5, h6, h7, h8, h9, hb0⟩ := InU.open hv
  have hz : (w.alloc (.cells #[.int .i64 5, .int .u64 0, .slice aB b.length cB, .slice aL 0 cL, .slice aF 0 cF] 27)).heap.size = w.heap.size + 1 := by simp
  have hrow := Row.lit (w := w.alloc (.cells #[.int .i64 5, .int .u64 0, .slice aB b.length cB, .slice aL 0 cL, .slice aF 0 cF] 27)) 64 (e := 64) rfl
  rw [hz] at hrow
  have HRow := hide hrow
  have hidx := of_kind5
  have HB0 := hide ((Blk.new w 27 #[.int .i64 5, .int .u64 0, .slice aB b.length cB, .slice aL 0 cL, .slice aF 0 cF]).alloc (.cells #[.int .u8 64] 5))
  have HG0 := hide (((Grow.refl w).alloc (.cells #[.int .i64 5, .int .u64 0, .slice aB b.length cB, .slice aL 0 cL, .slice aF 0 cF] 27)).alloc (.cells #[.int .u8 64] 5))
  have hbl : b.length ≤ 1000000 := by
    rw [V.key_mk] at hm
    have := (escB_length b).1
    simp [esc] at hm
    omega
  have HT := hide (fun w' (h : Grow w w') => rk_text b aB cB w' (InB.grow hb0 h) (by omega))
  have hel : (esc b).length ≤ 3000000 := by
    have := (escB_length b).2
    unfold esc
    simp
    omega
  clear hrow hb0 hm
  go_enter Tryd.func58, Tryd.ntmps58
  go_wp2_with fail
  refine (HT.out _ HG0.out).mono ?_
  rintro e w1 ⟨A1, c1, rfl, hr1, hg1⟩
  have HR1 := hide hr1
  have HG1 := hide (Grow.trans HG0.out hg1)
  have HRb := hide (HRow.out.grow hg1)
  have hz1 := hg1.size
  try simp only [World.size_alloc] at hz1
  clear hr1 hg1
  go_wp2_with (first | (at_builtin; refine app_src (ys := esc b) rfl (.tmp 80) (.tmp 83) _ rfl rfl HRb.out _ rfl (Src.ofReads under_u8s HR1.out.reads.1 (u8s_one _)) (by omega) (by first | omega | (simp only [World.size_alloc]; omega)) ?_; intro A2 c2 w2 hr2 hg2; have hz2 := hg2.size; have HG2 := hide (Below.trans HG1.out (Below.mono (Grew.below hg2 HRb.out (by first | omega | (simp only [World.size_alloc]; omega))) (by omega))); have HR2 := hide hr2; (try simp only [World.size_alloc] at hz2); clear hr2 hg2) | fail)
  go_ret
  exact BytK.row (by rw [V.key_mk]; rfl) (by rw [V.key_mk]; simp; omega) (by omega) HR2.out HG2.out

set_option maxRecDepth 100000 in
set_option maxHeartbeats 1600000 in
theorem rof_raw (w : World) (c : Cv) (b : List UInt8) (hv : In w (V.mk 6 0 b [] []) c) (hm : (V.mk 6 0 b [] []).key.length ≤ 1000000) :
    Calls Tryd.prog 58 #[c.agg] w (BytK w (V.key (V.mk 6 0 b [] []))) := by
  obtain ⟨aB, aL, aF, cB, cL, cF, rfl, h1, h2, h3, h4, h5, h6, h7, h8, h9, hb0⟩ := InU.open hv
  have hz : (w.alloc (.cells #[.int .i64 6, .int .u64 0, .slice aB b.length cB, .slice aL 0 cL, .slice aF 0 cF] 27)).heap.size = w.heap.size + 1 := by simp
  have hrow := Row.lit (w := w.alloc (.cells #[.int .i64 6, .int .u64 0, .slice aB b.length cB, .slice aL 0 cL, .slice aF 0 cF] 27)) 80 (e := 80) rfl
  rw [hz] at hrow
  have HRow := hide hrow
  have hidx := of_kind6
  have HB0 := hide ((Blk.new w 27 #[.int .i64 6, .int .u64 0, .slice aB b.length cB, .slice aL 0 cL, .slice aF 0 cF]).alloc (.cells #[.int .u8 80] 5))
  have HG0 := hide (((Grow.refl w).alloc (.cells #[.int .i64 6, .int .u64 0, .slice aB b.length cB, .slice aL 0 cL, .slice aF 0 cF] 27)).alloc (.cells #[.int .u8 80] 5))
  have hbl : b.length ≤ 1000000 := by
    rw [V.key_mk] at hm
    have := (escB_length b).1
    simp [esc] at hm
    omega
  have HT := hide (fun w' (h : Grow w w') => rk_text b aB cB w' (InB.grow hb0 h) (by omega))
  have hel : (esc b).length ≤ 3000000 := by
    have := (escB_length b).2
    unfold esc
    simp
    omega
  clear hrow hb0 hm
  go_enter Tryd.func58, Tryd.ntmps58
  go_wp2_with fail
  refine (HT.out _ HG0.out).mono ?_
  rintro e w1 ⟨A1, c1, rfl, hr1, hg1⟩
  have HR1 := hide hr1
  have HG1 := hide (Grow.trans HG0.out hg1)
  have HRb := hide (HRow.out.grow hg1)
  have hz1 := hg1.size
  try simp only [World.size_alloc] at hz1
  clear hr1 hg1
  go_wp2_with (first | (at_builtin; refine app_src (ys := esc b) rfl (.tmp 80) (.tmp 83) _ rfl rfl HRb.out _ rfl (Src.ofReads under_u8s HR1.out.reads.1 (u8s_one _)) (by omega) (by first | omega | (simp only [World.size_alloc]; omega)) ?_; intro A2 c2 w2 hr2 hg2; have hz2 := hg2.size; have HG2 := hide (Below.trans HG1.out (Below.mono (Grew.below hg2 HRb.out (by first | omega | (simp only [World.size_alloc]; omega))) (by omega))); have HR2 := hide hr2; (try simp only [World.size_alloc] at hz2); clear hr2 hg2) | fail)
  go_ret
  exact BytK.row (by rw [V.key_mk]; rfl) (by rw [V.key_mk]; simp; omega) (by omega) HR2.out HG2.out

set_option maxRecDepth 100000 in
set_option maxHeartbeats 1600000 in
theorem rof_nan (w : World) (c : Cv) (n : Nat) (hv : In w (V.mk 4 n [] [] []) c) (hnan : nanB n = true) :
    Calls Tryd.prog 58 #[c.agg] w (BytK w (V.key (V.mk 4 n [] [] []))) := by
  obtain ⟨aB, aL, aF, cB, cL, cF, rfl, h1, h2, h3, h4, h5, h6, h7, h8, h9, hb0⟩ := InU.open hv
  have hz : (w.alloc (.cells #[.int .i64 4, .int .u64 n, .slice aB 0 cB, .slice aL 0 cL, .slice aF 0 cF] 27)).heap.size = w.heap.size + 1 := by simp
  have hrow := Row.lit (w := w.alloc (.cells #[.int .i64 4, .int .u64 n, .slice aB 0 cB, .slice aL 0 cL, .slice aF 0 cF] 27)) 48 (e := 48) rfl
  rw [hz] at hrow
  have HRow := hide hrow
  have hidx := of_kind4
  have HB0 := hide ((Blk.new w 27 #[.int .i64 4, .int .u64 n, .slice aB 0 cB, .slice aL 0 cL, .slice aF 0 cF]).alloc (.cells #[.int .u8 48] 5))
  have HG0 := hide (((Grow.refl w).alloc (.cells #[.int .i64 4, .int .u64 n, .slice aB 0 cB, .slice aL 0 cL, .slice aF 0 cF] 27)).alloc (.cells #[.int .u8 48] 5))
  have hnb := nan_bits n h3
  rw [hnan] at hnb
  have HNB := hide hnb
  have hx1 : bits .and .u64 ((n : Int) / 4503599627370496) 2047 = ((n / 4503599627370496 % 2048 : Nat) : Int) := by
    have h := u64_and_nat (n / 4503599627370496) 2047 (by omega) (by decide)
    rw [show (n / 4503599627370496) &&& 2047 = n / 4503599627370496 % 2048 from Nat.and_two_pow_sub_one_eq_mod _ 11] at h
    rw [← h]; rfl
  have hx2 : bits .and .u64 (n : Int) 4503599627370495 = ((n % 4503599627370496 : Nat) : Int) := by
    have h := u64_and_nat n 4503599627370495 h3 (by decide)
    rw [show n &&& 4503599627370495 = n % 4503599627370496 from Nat.and_two_pow_sub_one_eq_mod _ 52] at h
    exact h
  have HT := hide (fun w => rk_turned n w h3)
  have HH := hide (fun w => rk_high (turnN n) 8 w (by omega) (turn_lt n h3))
  have HH8 := hide (fun w => rk_high n 8 w (by omega) h3)
  obtain ⟨E, hE⟩ : ∃ E, n / 4503599627370496 % 2048 = E := ⟨_, rfl⟩
  obtain ⟨M, hM⟩ : ∃ M, n % 4503599627370496 = M := ⟨_, rfl⟩
  rw [hE] at hx1
  rw [hM] at hx2
  rw [hE, hM] at HNB
  clear hrow hb0 hnb hE hM
  have hEM : E = 2047 ∧ M ≠ 0 := by
    have h := HNB.out.symm
    rw [Bool.and_eq_true, decide_eq_true_eq, decide_eq_true_eq] at h
    exact h
  obtain ⟨rfl, hM0⟩ := hEM
  have hMb : ((M : Int) != 0) = true := by simpa using hM0
  have hbl : (be 8 n).length = 8 := be_length _ _
  go_enter Tryd.func58, Tryd.ntmps58
  go_upto_region 12 with fail
  have HRr := hide HRow.out
  have HG0' := hide HG0.out
  change Code.wp _ _ _ _ ((w.alloc (.cells #[.int .i64 4, .int .u64 n, .slice aB 0 cB, .slice aL 0 cL, .slice aF 0 cF] 27)).alloc (.cells #[.int .u8 48] 5))
  generalize (w.alloc (.cells #[.int .i64 4, .int .u64 n, .slice aB 0 cB, .slice aL 0 cL, .slice aF 0 cF] 27)).alloc (.cells #[.int .u8 48] 5) = wr at HRr HG0' HB0 ⊢
  have hzr : w.heap.size + 1 ≤ wr.heap.size := HB0.out.lt
  have HSK := hide (show ∀ W', Below (w.heap.size + 1) wr W' → W'.cell? ⟨w.heap.size, 1, none⟩ = some (.int .u64 n) from fun W' h => (Blk.below HB0.out h (by omega)).cell 1)
  refine wp_region_noPanic ?_
  refine wp_region_held_drew (S := fun w' => w'.cell? ⟨w.heap.size, 1, none⟩ = some (.int .u64 n)) (by kernel_rfl) (HSK.out _ (Below.drew (Below.refl _ _))) (fun hHeld => ?_)
  refine wpAnyH_take (i := 0) (v := ?_) (by simp only [List.getElem?_toArray, List.getElem?_cons_succ, List.getElem?_cons_zero]; rfl) (by kernel_rfl) (by kernel_rfl) (by kernel_rfl) (fun _ _ _ h => h) (Or.inl ⟨by rfl, ?_⟩) (by assumption) ?_
  rotate_left 1
  · (intro w hSw; (try dsimp only at hSw); go_simp; try with_reducible rfl)
  try simp only [Act.put, List.setIfInBounds_toArray, List.set_cons_zero, List.set_cons_succ]
  refine wpAnyH_take (i := 3) (v := ?_) (by simp only [List.getElem?_toArray, List.getElem?_cons_succ, List.getElem?_cons_zero]; rfl) (by kernel_rfl) (by kernel_rfl) (by kernel_rfl) (fun _ _ _ h => h) (Or.inl ⟨by rfl, ?_⟩) (by assumption) ?_
  rotate_left 1
  · (intro w hSw; (try dsimp only at hSw); go_simp; try with_reducible rfl)
  try simp only [Act.put, List.setIfInBounds_toArray, List.set_cons_zero, List.set_cons_succ]
  refine wpAnyH_take (i := 4) (v := ?_) (by simp only [List.getElem?_toArray, List.getElem?_cons_succ, List.getElem?_cons_zero]; rfl) (by kernel_rfl) (by kernel_rfl) (by kernel_rfl) (fun _ _ _ h => h) (Or.inl ⟨by rfl, ?_⟩) (by assumption) ?_
  rotate_left 1
  · (intro w hSw; (try dsimp only at hSw); go_simp; try with_reducible rfl)
  try simp only [Act.put, List.setIfInBounds_toArray, List.set_cons_zero, List.set_cons_succ]
  have hb : Below (w.heap.size + 1) wr wr.drew := Below.drew (Below.refl _ _)
  clear hHeld
  have hr := HRr.out.drew
  have hz : w.heap.size + 1 ≤ wr.drew.heap.size := hzr
  generalize wr.drew = w20 at hb hr hz ⊢
  refine wpAnyH_ready (rs := [1]) (by kernel_rfl) (by simp) ?_
  refine AllReadyH.cons rfl (fun K hK => ?_) AllReadyH.nil
  go_simp
  have hl := Blk.new w20 5 #[.int .u8 0]
  replace hb := Below.alloc hb hz (.cells #[.int .u8 0] 5)
  replace hr := Row.alloc hr (.cells #[.int .u8 0] 5)
  replace hz : w.heap.size + 1 ≤ (w20.alloc (.cells #[.int .u8 0] 5)).heap.size := by rw [World.size_alloc]; omega
  refine hK.out _ _ (HSK.out _ hb) (fun hHeld => ?_)
  clear hK K hHeld
  try simp only [Act.put, List.setIfInBounds_toArray, List.set_cons_zero, List.set_cons_succ]
  generalize w20.alloc (.cells #[.int .u8 0] 5) = w21 at hl hb hz hr ⊢
  generalize w20.heap.size = gl at hl ⊢
  refine wpAnyH_ready (rs := [2]) (by kernel_rfl) (by simp) ?_
  refine AllReadyH.cons rfl (fun K hK => ?_) AllReadyH.nil
  refine step_app_src (ys := [0]) (by rfl) (.tmp 59) (.tmp 60) _ (by rfl) (by rfl) hr _ (by rfl) (src_one 0 rfl hl) (by simp only [List.length_cons, List.length_nil]; omega) hz ?_
  intro A1 c1 w22 hr2 hg2
  replace hb := Below.trans hb (Grew.below hg2 hr hz)
  replace hz := Nat.le_trans hz hg2.size
  clear hr hg2 hl
  have hr := hr2
  clear hr2
  refine hK.out _ _ (HSK.out _ hb) (fun hHeld => ?_)
  clear hK K hHeld
  try simp only [Act.put, List.setIfInBounds_toArray, List.set_cons_zero, List.set_cons_succ]
  refine wpAnyH_ready (rs := [5]) (by kernel_rfl) (by simp) ?_
  refine AllReadyH.cons rfl (fun K hK => ?_) AllReadyH.nil
  go_simp
  refine (HH8.out _).mono ?_
  rintro e w23 ⟨A2, c2, rfl, hk, hgc⟩
  replace hr := Row.grow hr hgc
  replace hb := Below.trans hb (Below.mono hgc hz)
  replace hz := Nat.le_trans hz hgc.size
  try go_simp
  refine hK.out _ _ (HSK.out _ hb) (fun hHeld => ?_)
  clear hK K hHeld hgc
  try simp only [Act.put, List.setIfInBounds_toArray, List.set_cons_zero, List.set_cons_succ]
  refine wpAnyH_ready (rs := [6]) (by kernel_rfl) (by simp) ?_
  refine AllReadyH.cons rfl (fun K hK => ?_) AllReadyH.nil
  refine step_app_src (ys := be 8 n) (by rfl) (.tmp 61) (.tmp 64) _ (by rfl) (by rfl) hr _ (by rfl) (Src.ofReads under_u8s hk.reads.1 (u8s_one _)) (by first | omega | (simp only [List.length_cons, List.length_nil]; omega)) hz ?_
  intro A3 c3 w50 hr3 hg3
  replace hb := Below.trans hb (Grew.below hg3 hr hz)
  replace hz := Nat.le_trans hz hg3.size
  refine hK.out _ _ (HSK.out _ hb) (fun hHeld => ?_)
  clear hK K hr hk hg3
  try simp only [Act.put, List.setIfInBounds_toArray, List.set_cons_zero, List.set_cons_succ]
  refine wpAnyH_take (i := 7) (v := ?_) (by simp only [List.getElem?_toArray, List.getElem?_cons_succ, List.getElem?_cons_zero]; rfl) (by kernel_rfl) (by kernel_rfl) (by kernel_rfl) (fun _ _ _ h => h) (Or.inl ⟨by rfl, ?_⟩) (by assumption) ?_
  rotate_left 1
  · (intro w hSw; (try dsimp only at hSw); go_simp; try with_reducible rfl)
  try simp only [Act.put, List.setIfInBounds_toArray, List.set_cons_zero, List.set_cons_succ]
  refine wpAnyH_done (by kernel_rfl) ?_ _
  refine NoPanic.normal ?_
  clear hHeld
  have HR3 := hide hr3
  have HB3 := hide hb
  clear hr3 hb
  go_wp2_with fail
  go_ret
  exact BytK.row (by rw [V.key_mk]; simp [keyFloat, hnan]) (by rw [V.key_mk]; simp [keyFloat, hnan, be_length]) (Nat.le_succ _) HR3.out (Below.trans HG0'.out (Below.mono HB3.out (Nat.le_succ _)))

set_option maxRecDepth 100000 in
set_option maxHeartbeats 1600000 in
theorem rof_float (w : World) (c : Cv) (n : Nat) (hv : In w (V.mk 4 n [] [] []) c) (hnan : nanB n = false) :
    Calls Tryd.prog 58 #[c.agg] w (BytK w (V.key (V.mk 4 n [] [] []))) := by
  obtain ⟨aB, aL, aF, cB, cL, cF, rfl, h1, h2, h3, h4, h5, h6, h7, h8, h9, hb0⟩ := InU.open hv
  have hz : (w.alloc (.cells #[.int .i64 4, .int .u64 n, .slice aB 0 cB, .slice aL 0 cL, .slice aF 0 cF] 27)).heap.size = w.heap.size + 1 := by simp
  have hrow := Row.lit (w := w.alloc (.cells #[.int .i64 4, .int .u64 n, .slice aB 0 cB, .slice aL 0 cL, .slice aF 0 cF] 27)) 48 (e := 48) rfl
  rw [hz] at hrow
  have HRow := hide hrow
  have hidx := of_kind4
  have HB0 := hide ((Blk.new w 27 #[.int .i64 4, .int .u64 n, .slice aB 0 cB, .slice aL 0 cL, .slice aF 0 cF]).alloc (.cells #[.int .u8 48] 5))
  have HG0 := hide (((Grow.refl w).alloc (.cells #[.int .i64 4, .int .u64 n, .slice aB 0 cB, .slice aL 0 cL, .slice aF 0 cF] 27)).alloc (.cells #[.int .u8 48] 5))
  have hnb := nan_bits n h3
  rw [hnan] at hnb
  have HNB := hide hnb
  have hx1 : bits .and .u64 ((n : Int) / 4503599627370496) 2047 = ((n / 4503599627370496 % 2048 : Nat) : Int) := by
    have h := u64_and_nat (n / 4503599627370496) 2047 (by omega) (by decide)
    rw [show (n / 4503599627370496) &&& 2047 = n / 4503599627370496 % 2048 from Nat.and_two_pow_sub_one_eq_mod _ 11] at h
    rw [← h]; rfl
  have hx2 : bits .and .u64 (n : Int) 4503599627370495 = ((n % 4503599627370496 : Nat) : Int) := by
    have h := u64_and_nat n 4503599627370495 h3 (by decide)
    rw [show n &&& 4503599627370495 = n % 4503599627370496 from Nat.and_two_pow_sub_one_eq_mod _ 52] at h
    exact h
  have HT := hide (fun w => rk_turned n w h3)
  have HH := hide (fun w => rk_high (turnN n) 8 w (by omega) (turn_lt n h3))
  have HH8 := hide (fun w => rk_high n 8 w (by omega) h3)
  obtain ⟨E, hE⟩ : ∃ E, n / 4503599627370496 % 2048 = E := ⟨_, rfl⟩
  obtain ⟨M, hM⟩ : ∃ M, n % 4503599627370496 = M := ⟨_, rfl⟩
  rw [hE] at hx1
  rw [hM] at hx2
  rw [hE, hM] at HNB
  clear hrow hb0 hnb hE hM
  have hEM : E = 2047 → M = 0 := fun hE => by
    have h := HNB.out.symm
    rw [hE, decide_eq_true rfl, Bool.true_and, decide_eq_false_iff_not] at h
    exact Decidable.of_not_not h
  go_enter Tryd.func58, Tryd.ntmps58
  by_cases hE : E = 2047
  · have hM := hEM hE
    subst hE hM
    go_wp2_with (first | (at_builtin; refine app_src (ys := [1]) rfl (.tmp 66) (.tmp 67) _ rfl rfl (HRow.out.alloc _) _ rfl (src_one 1 rfl (Blk.new' (by simp) _ _)) (by simp only [be_length, List.length_cons, List.length_nil] <;> omega) (by first | omega | (simp only [World.size_alloc]; omega)) ?_; intro A2 c2 w2 hr2 hg2; have hz2 := hg2.size; have HG2 := hide (Below.trans (Grow.alloc HG0.out _) (Below.mono (Grew.below hg2 (HRow.out.alloc _) (by first | omega | (simp only [World.size_alloc]; omega))) (by omega))); have HR2 := hide hr2; (try simp only [World.size_alloc] at hz2); have hcv2 := (hg2.blk (HB0.out.alloc _) (Row.ne HRow.out HB0.out (by decide))).cell; clear hr2 hg2) | fail)
    refine (HT.out _).mono ?_
    rintro e w3 ⟨rfl, rfl⟩
    go_wp2_with fail
    refine (HH.out _).mono ?_
    rintro e w4 ⟨A4, c4, rfl, hr4, hg4⟩
    have HR4 := hide hr4
    have HG4 := hide (Grow.trans HG2.out hg4)
    have HRb := hide (HR2.out.grow hg4)
    have hz4 := hg4.size
    clear hr4 hg4
    go_wp2_with (first | (at_builtin; refine app_src (ys := be 8 (turnN n)) rfl (.tmp 69) (.tmp 73) _ rfl rfl HRb.out _ rfl (Src.ofReads under_u8s HR4.out.reads.1 (u8s_one _)) (by simp only [be_length, List.length_cons, List.length_nil] <;> omega) (by first | omega | (simp only [World.size_alloc]; omega)) ?_; intro A5 c5 w5 hr5 hg5; have hz5 := hg5.size; have HG5 := hide (Below.trans HG4.out (Below.mono (Grew.below hg5 HRb.out (by first | omega | (simp only [World.size_alloc]; omega))) (by omega))); have HR5 := hide hr5; (try simp only [World.size_alloc] at hz5); clear hr5 hg5) | (at_builtin; refine app_src (ys := [0, 0, 1]) rfl (.tmp 74) (.tmp 75) _ rfl rfl (HR5.out.alloc _) _ rfl (Src.ofReads under_u8s (InB.blk (xs := [0, 0, 1]) (Blk.new' (by simp) _ _)) (u8s_one _)) (by simp only [be_length, List.length_cons, List.length_nil] <;> omega) (by first | omega | (simp only [World.size_alloc]; omega)) ?_; intro A6 c6 w6 hr6 hg6; have hz6 := hg6.size; have HG6 := hide (Below.trans (Grow.alloc HG5.out _) (Below.mono (Grew.below hg6 (HR5.out.alloc _) (by first | omega | (simp only [World.size_alloc]; omega))) (by omega))); have HR6 := hide hr6; (try simp only [World.size_alloc] at hz6); clear hr6 hg6) | fail)
    go_ret
    exact BytK.row (by rw [V.key_mk]; simp [keyFloat, hnan]) (by rw [V.key_mk]; simp [keyFloat, hnan, be_length]) (by omega) HR6.out HG6.out
  · have hEb : ((E : Int) == 2047) = false := by simp; omega
    have hEn : ¬ ((E : Int) = 2047) := by omega
    go_wp2_with (first | (at_builtin; refine app_src (ys := [1]) rfl (.tmp 66) (.tmp 67) _ rfl rfl (HRow.out.alloc _) _ rfl (src_one 1 rfl (Blk.new' (by simp) _ _)) (by simp only [be_length, List.length_cons, List.length_nil] <;> omega) (by first | omega | (simp only [World.size_alloc]; omega)) ?_; intro A2 c2 w2 hr2 hg2; have hz2 := hg2.size; have HG2 := hide (Below.trans (Grow.alloc HG0.out _) (Below.mono (Grew.below hg2 (HRow.out.alloc _) (by first | omega | (simp only [World.size_alloc]; omega))) (by omega))); have HR2 := hide hr2; (try simp only [World.size_alloc] at hz2); have hcv2 := (hg2.blk (HB0.out.alloc _) (Row.ne HRow.out HB0.out (by decide))).cell; clear hr2 hg2) | fail)
    refine (HT.out _).mono ?_
    rintro e w3 ⟨rfl, rfl⟩
    go_wp2_with fail
    refine (HH.out _).mono ?_
    rintro e w4 ⟨A4, c4, rfl, hr4, hg4⟩
    have HR4 := hide hr4
    have HG4 := hide (Grow.trans HG2.out hg4)
    have HRb := hide (HR2.out.grow hg4)
    have hz4 := hg4.size
    clear hr4 hg4
    go_wp2_with (first | (at_builtin; refine app_src (ys := be 8 (turnN n)) rfl (.tmp 69) (.tmp 73) _ rfl rfl HRb.out _ rfl (Src.ofReads under_u8s HR4.out.reads.1 (u8s_one _)) (by simp only [be_length, List.length_cons, List.length_nil] <;> omega) (by first | omega | (simp only [World.size_alloc]; omega)) ?_; intro A5 c5 w5 hr5 hg5; have hz5 := hg5.size; have HG5 := hide (Below.trans HG4.out (Below.mono (Grew.below hg5 HRb.out (by first | omega | (simp only [World.size_alloc]; omega))) (by omega))); have HR5 := hide hr5; (try simp only [World.size_alloc] at hz5); clear hr5 hg5) | (at_builtin; refine app_src (ys := [0, 0, 1]) rfl (.tmp 74) (.tmp 75) _ rfl rfl (HR5.out.alloc _) _ rfl (Src.ofReads under_u8s (InB.blk (xs := [0, 0, 1]) (Blk.new' (by simp) _ _)) (u8s_one _)) (by simp only [be_length, List.length_cons, List.length_nil] <;> omega) (by first | omega | (simp only [World.size_alloc]; omega)) ?_; intro A6 c6 w6 hr6 hg6; have hz6 := hg6.size; have HG6 := hide (Below.trans (Grow.alloc HG5.out _) (Below.mono (Grew.below hg6 (HR5.out.alloc _) (by first | omega | (simp only [World.size_alloc]; omega))) (by omega))); have HR6 := hide hr6; (try simp only [World.size_alloc] at hz6); clear hr6 hg6) | fail)
    go_ret
    exact BytK.row (by rw [V.key_mk]; simp [keyFloat, hnan]) (by rw [V.key_mk]; simp [keyFloat, hnan, be_length]) (by omega) HR6.out HG6.out

set_option maxRecDepth 100000 in
set_option maxHeartbeats 1600000 in
theorem rof_list (w : World) (c : Cv) (l : List V) (hl : ∀ x ∈ l, OfPos x) (hv : In w (V.mk 7 0 [] l []) c) (hm : (V.mk 7 0 [] l []).key.length ≤ 1000000) :
    Calls Tryd.prog 58 #[c.agg] w (BytK w (V.key (V.mk 7 0 [] l []))) := by
  obtain ⟨aB, aL, aF, cB, cL, cF, rfl, h1, h2, h3, h4, h5, h6, h7, h8, h9, hb0⟩ := InU.open hv
  have hz : (w.alloc (.cells #[.int .i64 7, .int .u64 0, .slice aB 0 cB, .slice aL l.length cL, .slice aF 0 cF] 27)).heap.size = w.heap.size + 1 := by simp
  have hrow := Row.lit (w := w.alloc (.cells #[.int .i64 7, .int .u64 0, .slice aB 0 cB, .slice aL l.length cL, .slice aF 0 cF] 27)) 96 (e := 96) rfl
  rw [hz] at hrow
  have HRow := hide hrow
  have hidx := of_kind7
  have HB0 := hide ((Blk.new w 27 #[.int .i64 7, .int .u64 0, .slice aB 0 cB, .slice aL l.length cL, .slice aF 0 cF]).alloc (.cells #[.int .u8 96] 5))
  have HG0 := hide (((Grow.refl w).alloc (.cells #[.int .i64 7, .int .u64 0, .slice aB 0 cB, .slice aL l.length cL, .slice aF 0 cF] 27)).alloc (.cells #[.int .u8 96] 5))
  have HV := hide hv
  have Hl := hide hl
  have hml : (l.map V.keyL).flatten.length ≤ 1000000 := by
    rw [V.key_mk] at hm
    simp only [show ¬ ((7 : Int) = 1) by decide, show ¬ ((7 : Int) = 2) by decide, show ¬ ((7 : Int) = 3) by decide, show ¬ ((7 : Int) = 4) by decide, show ¬ ((7 : Int) = 5) by decide, show ¬ ((7 : Int) = 6) by decide, if_false, if_true, List.length_cons, List.length_append] at hm
    omega
  clear hrow hb0 hm hl
  go_enter Tryd.func58, Tryd.ntmps58
  go_wp2_with fail
  go_loopg [3, 6] (l.length + 1) (fun gk v' i wr => ∃ (j : Nat) (A' : Option Addr) (c' : Nat), j ≤ l.length ∧ gk + j = l.length + 1 ∧ i = .int .i64 j ∧ v' = .slice A' (1 + ((l.take j).map V.keyL).flatten.length) c' ∧ Row wr (w.heap.size + 1) (.slice A' (1 + ((l.take j).map V.keyL).flatten.length) c') (1 + ((l.take j).map V.keyL).flatten.length) (96 :: ((l.take j).map V.keyL).flatten) ∧ Grow w wr ∧ Blk wr w.heap.size 27 #[.int .i64 7, .int .u64 0, .slice aB 0 cB, .slice aL l.length cL, .slice aF 0 cF])
  case atStart => exact ⟨0, _, _, Nat.zero_le _, by omega, rfl, rfl, HRow.out, HG0.out, HB0.out⟩
  case round =>
    obtain ⟨j, A', c', hj, hg, rfl, rfl, hr, hgr, hB⟩ := hrel
    obtain ⟨gk', rfl⟩ : ∃ g, gk = g + 1 := ⟨gk - 1, by omega⟩
    have hc := hB.cell
    have HBr := hide hB
    have hzr : w.heap.size + 1 ≤ wr.heap.size := hB.lt
    by_cases hlt : j < l.length
    · obtain ⟨bk, o, x, ha, hbk, e0, e1, e2, e3, e4, hx⟩ := HV.out.elemL j hlt
      dsimp only at ha
      subst ha
      have hcb : ∀ i, wr.cell? ⟨bk, i, none⟩ = w.cell? ⟨bk, i, none⟩ := fun i => hgr.below.cell (p := ⟨bk, i, none⟩) hbk
      rw [← hcb] at e0 e1 e2 e3 e4
      have hm1 := flat_take V.keyL l j hlt
      have hm2 := congrArg List.length hm1
      rw [List.length_append] at hm2
      have hle := flat_le V.keyL l (j + 1)
      rw [hm2] at hle
      have hkl : (V.keyL l[j]).length = 1 + l[j].key.length := by unfold V.keyL; simp; omega
      rw [hkl] at hm2 hle
      have HM1 := hide hm1
      have HM2 := hide hm2
      have HG' := hide hgr
      have HX := hide hx
      obtain ⟨S, hS⟩ : ∃ S, S = ((l.take j).map V.keyL).flatten := ⟨_, rfl⟩
      have HRr := hide hr
      rw [← hS] at hle HRr HM1 HM2 ⊢
      have HSK := hide (show ∀ W', Below (w.heap.size + 1) wr W' → (fun w' => w'.cell? ⟨w.heap.size, 3, none⟩ = some (.slice (some ⟨bk, o, none⟩) l.length cL) ∧ w'.cell? ⟨bk, o + j * 5, none⟩ = some (.int .i64 x.k) ∧ w'.cell? ⟨bk, o + j * 5 + 1, none⟩ = some (.int .u64 x.n) ∧ w'.cell? ⟨bk, o + j * 5 + 2, none⟩ = some (.slice x.aB x.nB x.cB) ∧ w'.cell? ⟨bk, o + j * 5 + 3, none⟩ = some (.slice x.aL x.nL x.cL) ∧ w'.cell? ⟨bk, o + j * 5 + 4, none⟩ = some (.slice x.aF x.nF x.cF)) W' from fun W' h => ⟨(h.cell (by show w.heap.size < _; omega)).trans (hc 3), (h.cell (by show bk < _; omega)).trans e0, (h.cell (by show bk < _; omega)).trans e1, (h.cell (by show bk < _; omega)).trans e2, (h.cell (by show bk < _; omega)).trans e3, (h.cell (by show bk < _; omega)).trans e4⟩)
      have HCL := hide (fun W' (h : Below (w.heap.size + 1) wr W') => Hl.out _ (List.getElem_mem hlt) W' x (HX.out.grow (Below.trans HG'.out (Below.mono h (Nat.le_succ _)))) (by omega))
      clear hr hgr hx hm1 hm2 hS hB e0 e1 e2 e3 e4 hcb
      go_upto_region 22 with fail
      refine wp_region_noPanic ?_
      refine wp_region_held_drew (S := fun w' => w'.cell? ⟨w.heap.size, 3, none⟩ = some (.slice (some ⟨bk, o, none⟩) l.length cL) ∧ w'.cell? ⟨bk, o + j * 5, none⟩ = some (.int .i64 x.k) ∧ w'.cell? ⟨bk, o + j * 5 + 1, none⟩ = some (.int .u64 x.n) ∧ w'.cell? ⟨bk, o + j * 5 + 2, none⟩ = some (.slice x.aB x.nB x.cB) ∧ w'.cell? ⟨bk, o + j * 5 + 3, none⟩ = some (.slice x.aL x.nL x.cL) ∧ w'.cell? ⟨bk, o + j * 5 + 4, none⟩ = some (.slice x.aF x.nF x.cF)) (by kernel_rfl) (HSK.out _ (Below.drew (Below.refl _ _))) (fun hHeld => ?_)
      refine wpAnyH_take (i := 0) (v := ?_) (by simp only [List.getElem?_toArray, List.getElem?_cons_succ, List.getElem?_cons_zero]; rfl) (by kernel_rfl) (by kernel_rfl) (by kernel_rfl) (fun _ _ _ h => h) (Or.inl ⟨by rfl, ?_⟩) (by assumption) ?_
      rotate_left 1
      · (intro w hSw; (try dsimp only at hSw); (try obtain ⟨hs0, hs1, hs2, hs3, hs4, hs5⟩ := hSw); go_simp; try with_reducible rfl)
      try simp only [Act.put, List.setIfInBounds_toArray, List.set_cons_zero, List.set_cons_succ]
      refine wpAnyH_take (i := 3) (v := ?_) (by simp only [List.getElem?_toArray, List.getElem?_cons_succ, List.getElem?_cons_zero]; rfl) (by kernel_rfl) (by kernel_rfl) (by kernel_rfl) (fun _ _ _ h => h) (Or.inl ⟨by rfl, ?_⟩) (by assumption) ?_
      rotate_left 1
      · (intro w hSw; (try dsimp only at hSw); (try obtain ⟨hs0, hs1, hs2, hs3, hs4, hs5⟩ := hSw); go_simp; try with_reducible rfl)
      try simp only [Act.put, List.setIfInBounds_toArray, List.set_cons_zero, List.set_cons_succ]
      refine wpAnyH_take (i := 4) (v := ?_) (by simp only [List.getElem?_toArray, List.getElem?_cons_succ, List.getElem?_cons_zero]; rfl) (by kernel_rfl) (by kernel_rfl) (by kernel_rfl) (fun _ _ _ h => h) (Or.inl ⟨by rfl, ?_⟩) (by assumption) ?_
      rotate_left 1
      · (intro w hSw; (try dsimp only at hSw); (try obtain ⟨hs0, hs1, hs2, hs3, hs4, hs5⟩ := hSw); go_simp; try with_reducible rfl)
      try simp only [Act.put, List.setIfInBounds_toArray, List.set_cons_zero, List.set_cons_succ]
      refine wpAnyH_take (i := 5) (v := ?_) (by simp only [List.getElem?_toArray, List.getElem?_cons_succ, List.getElem?_cons_zero]; rfl) (by kernel_rfl) (by kernel_rfl) (by kernel_rfl) (fun _ _ _ h => h) (Or.inl ⟨by rfl, ?_⟩) (by assumption) ?_
      rotate_left 1
      · (intro w hSw; (try dsimp only at hSw); (try obtain ⟨hs0, hs1, hs2, hs3, hs4, hs5⟩ := hSw); go_simp; try with_reducible rfl)
      try simp only [Act.put, List.setIfInBounds_toArray, List.set_cons_zero, List.set_cons_succ]
      refine wpAnyH_take (i := 6) (v := ?_) (by simp only [List.getElem?_toArray, List.getElem?_cons_succ, List.getElem?_cons_zero]; rfl) (by kernel_rfl) (by kernel_rfl) (by kernel_rfl) (fun _ _ _ h => h) (Or.inl ⟨by rfl, ?_⟩) (by assumption) ?_
      rotate_left 1
      · (intro w hSw; (try dsimp only at hSw); (try obtain ⟨hs0, hs1, hs2, hs3, hs4, hs5⟩ := hSw); go_simp; try with_reducible rfl)
      try simp only [Act.put, List.setIfInBounds_toArray, List.set_cons_zero, List.set_cons_succ]
      refine wpAnyH_take (i := 7) (v := ?_) (by simp only [List.getElem?_toArray, List.getElem?_cons_succ, List.getElem?_cons_zero]; rfl) (by kernel_rfl) (by kernel_rfl) (by kernel_rfl) (fun _ _ _ h => h) (Or.inl ⟨by rfl, ?_⟩) (by assumption) ?_
      rotate_left 1
      · (intro w hSw; (try dsimp only at hSw); (try obtain ⟨hs0, hs1, hs2, hs3, hs4, hs5⟩ := hSw); go_simp; try with_reducible rfl)
      try simp only [Act.put, List.setIfInBounds_toArray, List.set_cons_zero, List.set_cons_succ]
      have hb : Below (w.heap.size + 1) wr wr.drew := Below.drew (Below.refl _ _)
      clear hHeld
      have hr := HRr.out.drew
      have hz : w.heap.size + 1 ≤ wr.drew.heap.size := hzr
      generalize wr.drew = w20 at hb hr hz ⊢
      refine wpAnyH_ready (rs := [1]) (by kernel_rfl) (by simp) ?_
      refine AllReadyH.cons rfl (fun K hK => ?_) AllReadyH.nil
      go_simp
      have hl := Blk.new w20 5 #[.int .u8 1]
      replace hb := Below.alloc hb hz (.cells #[.int .u8 1] 5)
      replace hr := Row.alloc hr (.cells #[.int .u8 1] 5)
      replace hz : w.heap.size + 1 ≤ (w20.alloc (.cells #[.int .u8 1] 5)).heap.size := by rw [World.size_alloc]; omega
      refine hK.out _ _ (HSK.out _ hb) (fun hHeld => ?_)
      clear hK K hHeld
      try simp only [Act.put, List.setIfInBounds_toArray, List.set_cons_zero, List.set_cons_succ]
      generalize w20.alloc (.cells #[.int .u8 1] 5) = w21 at hl hb hz hr ⊢
      generalize w20.heap.size = gl at hl ⊢
      refine wpAnyH_ready (rs := [2]) (by kernel_rfl) (by simp) ?_
      refine AllReadyH.cons rfl (fun K hK => ?_) AllReadyH.nil
      refine step_app_src (ys := [1]) (by rfl) (.tmp 94) (.tmp 95) _ (by rfl) (by rfl) hr _ (by rfl) (src_one 1 rfl hl) (by simp only [List.length_cons, List.length_nil]; omega) hz ?_
      intro A1 c1 w22 hr2 hg2
      replace hb := Below.trans hb (Grew.below hg2 hr hz)
      replace hz := Nat.le_trans hz hg2.size
      clear hr hg2 hl
      have hr := hr2
      clear hr2
      refine hK.out _ _ (HSK.out _ hb) (fun hHeld => ?_)
      clear hK K hHeld
      try simp only [Act.put, List.setIfInBounds_toArray, List.set_cons_zero, List.set_cons_succ]
      refine wpAnyH_ready (rs := [8]) (by kernel_rfl) (by simp) ?_
      refine AllReadyH.cons rfl (fun K hK => ?_) AllReadyH.nil
      go_simp
      refine (HCL.out _ hb).mono ?_
      rintro e w23 ⟨A2, c2, rfl, hk, hgc⟩
      replace hr := Row.grow hr hgc
      replace hb := Below.trans hb (Below.mono hgc hz)
      replace hz := Nat.le_trans hz hgc.size
      try go_simp
      refine hK.out _ _ (HSK.out _ hb) (fun hHeld => ?_)
      clear hK K hHeld hgc
      try simp only [Act.put, List.setIfInBounds_toArray, List.set_cons_zero, List.set_cons_succ]
      refine wpAnyH_ready (rs := [9]) (by kernel_rfl) (by simp) ?_
      refine AllReadyH.cons rfl (fun K hK => ?_) AllReadyH.nil
      refine step_app_src (ys := l[j].key) (by rfl) (.tmp 96) (.tmp 102) _ (by rfl) (by rfl) hr _ (by rfl) (Src.ofReads under_u8s hk.reads.1 (u8s_one _)) (by first | omega | (simp only [List.length_cons, List.length_nil]; omega)) hz ?_
      intro A3 c3 w50 hr3 hg3
      replace hb := Below.trans hb (Grew.below hg3 hr hz)
      replace hz := Nat.le_trans hz hg3.size
      refine hK.out _ _ (HSK.out _ hb) (fun hHeld => ?_)
      clear hK K hr hk hg3
      try simp only [Act.put, List.setIfInBounds_toArray, List.set_cons_zero, List.set_cons_succ]
      refine wpAnyH_take (i := 10) (v := ?_) (by simp only [List.getElem?_toArray, List.getElem?_cons_succ, List.getElem?_cons_zero]; rfl) (by kernel_rfl) (by kernel_rfl) (by kernel_rfl) (fun _ _ _ h => h) (Or.inl ⟨by rfl, ?_⟩) (by assumption) ?_
      rotate_left 1
      · (intro w hSw; (try dsimp only at hSw); (try obtain ⟨hs0, hs1, hs2, hs3, hs4, hs5⟩ := hSw); go_simp; try with_reducible rfl)
      try simp only [Act.put, List.setIfInBounds_toArray, List.set_cons_zero, List.set_cons_succ]
      refine wpAnyH_done (by kernel_rfl) ?_ _
      refine NoPanic.normal ?_
      clear hHeld
      have HR3 := hide hr3
      have HB3 := hide hb
      clear hr3 hb
      go_wp2_with fail
      go_roundg gk'
      case measure => omega
      case rel =>
        have e1 : 1 + S.length + [1].length + l[j].key.length = 1 + ((l.take (j + 1)).map V.keyL).flatten.length := by rw [HM2.out]; simp; omega
        refine ⟨j + 1, A3, c3, by omega, by omega, by go_num, by rw [← e1]; rfl, ?_, Below.trans HG'.out (Below.mono HB3.out (Nat.le_succ _)), Blk.below HBr.out HB3.out (by omega)⟩
        rw [← e1, HM1.out]; simpa [V.keyL] using HR3.out
    · obtain rfl : j = l.length := by omega
      rw [List.take_length] at hr ⊢
      obtain ⟨S, hS⟩ : ∃ S, S = (l.map V.keyL).flatten := ⟨_, rfl⟩
      rw [← hS] at hr hml ⊢
      have HSS := hide hS
      have HRow := hide hr
      have HG0 := hide hgr
      clear hr hgr hB hS
      go_wp2_with (first | (at_builtin; refine app_src (ys := [0]) rfl (.tmp 104) (.tmp 105) _ rfl rfl (HRow.out.alloc _) _ rfl (src_one 0 rfl (Blk.new' (by simp) _ _)) (by simp only [be_length, List.length_cons, List.length_nil] <;> omega) (by first | omega | (simp only [World.size_alloc]; omega)) ?_; intro A7 c7 w7 hr7 hg7; have hz7 := hg7.size; have HG7 := hide (Below.trans (Grow.alloc HG0.out _) (Below.mono (Grew.below hg7 (HRow.out.alloc _) (by first | omega | (simp only [World.size_alloc]; omega))) (by omega))); have HR7 := hide hr7; (try simp only [World.size_alloc] at hz7); clear hr7 hg7) | fail)
      go_ret
      have hkey : (V.mk 7 0 [] l []).key = 96 :: (S ++ [0]) := by rw [V.key_mk, HSS.out]; rfl
      rw [hkey]
      exact BytK.row (show 96 :: S ++ [0] = _ from rfl) (by simp only [List.length_cons, List.length_append, List.length_nil]; omega) (Nat.le_succ _) HR7.out HG7.out

set_option maxRecDepth 100000 in
set_option maxHeartbeats 1600000 in
theorem rof_doc (w : World) (c : Cv) (f : List (ByteArray × V)) (hl : ∀ x ∈ f, OfPos x.2) (hv : In w (V.mk 8 0 [] [] f) c) (hm : (V.mk 8 0 [] [] f).key.length ≤ 1000000) :
    Calls Tryd.prog 58 #[c.agg] w (BytK w (V.key (V.mk 8 0 [] [] f))) := by
  obtain ⟨aB, aL, aF, cB, cL, cF, rfl, h1, h2, h3, h4, h5, h6, h7, h8, h9, hb0⟩ := InU.open hv
  have hz : (w.alloc (.cells #[.int .i64 8, .int .u64 0, .slice aB 0 cB, .slice aL 0 cL, .slice aF f.length cF] 27)).heap.size = w.heap.size + 1 := by simp
  have hrow := Row.lit (w := w.alloc (.cells #[.int .i64 8, .int .u64 0, .slice aB 0 cB, .slice aL 0 cL, .slice aF f.length cF] 27)) 112 (e := 112) rfl
  rw [hz] at hrow
  have HRow := hide hrow
  have hidx := of_kind8
  have HB0 := hide ((Blk.new w 27 #[.int .i64 8, .int .u64 0, .slice aB 0 cB, .slice aL 0 cL, .slice aF f.length cF]).alloc (.cells #[.int .u8 112] 5))
  have HG0 := hide (((Grow.refl w).alloc (.cells #[.int .i64 8, .int .u64 0, .slice aB 0 cB, .slice aL 0 cL, .slice aF f.length cF] 27)).alloc (.cells #[.int .u8 112] 5))
  have HV := hide hv
  have Hl := hide hl
  have hml : (f.map V.keyFd).flatten.length ≤ 1000000 := by
    rw [V.key_mk] at hm
    simp only [show ¬ ((8 : Int) = 1) by decide, show ¬ ((8 : Int) = 2) by decide, show ¬ ((8 : Int) = 3) by decide, show ¬ ((8 : Int) = 4) by decide, show ¬ ((8 : Int) = 5) by decide, show ¬ ((8 : Int) = 6) by decide, show ¬ ((8 : Int) = 7) by decide, if_false, if_true, List.length_cons, List.length_append] at hm
    omega
  clear hrow hb0 hm hl
  go_enter Tryd.func58, Tryd.ntmps58
  go_wp2_with fail
  go_loopg [3, 7] (f.length + 1) (fun gk v' i wr => ∃ (j : Nat) (A' : Option Addr) (c' : Nat), j ≤ f.length ∧ gk + j = f.length + 1 ∧ i = .int .i64 j ∧ v' = .slice A' (1 + ((f.take j).map V.keyFd).flatten.length) c' ∧ Row wr (w.heap.size + 1) (.slice A' (1 + ((f.take j).map V.keyFd).flatten.length) c') (1 + ((f.take j).map V.keyFd).flatten.length) (112 :: ((f.take j).map V.keyFd).flatten) ∧ Grow w wr ∧ Blk wr w.heap.size 27 #[.int .i64 8, .int .u64 0, .slice aB 0 cB, .slice aL 0 cL, .slice aF f.length cF])
  case atStart => exact ⟨0, _, _, Nat.zero_le _, by omega, rfl, rfl, HRow.out, HG0.out, HB0.out⟩
  case round =>
    obtain ⟨j, A', c', hj, hg, rfl, rfl, hr, hgr, hB⟩ := hrel
    obtain ⟨gk', rfl⟩ : ∃ g, gk = g + 1 := ⟨gk - 1, by omega⟩
    have hc := hB.cell
    have HBr := hide hB
    have hzr : w.heap.size + 1 ≤ wr.heap.size := hB.lt
    by_cases hlt : j < f.length
    · obtain ⟨bk, o, x, ha, hbk, es, esz, e0, e1, e2, e3, e4, hx⟩ := HV.out.elemF j hlt
      dsimp only at ha
      subst ha
      have hm1 := flat_take V.keyFd f j hlt
      have hm2 := congrArg List.length hm1
      rw [List.length_append] at hm2
      have hle := flat_le V.keyFd f (j + 1)
      rw [hm2] at hle
      have hkl : (V.keyFd f[j]).length = 1 + ((esc f[j].1.data.toList).length + f[j].2.key.length) := by unfold V.keyFd; simp; omega
      rw [hkl] at hm2 hle
      have HM1 := hide hm1
      have HM2 := hide hm2
      have HG' := hide hgr
      obtain ⟨s, hs⟩ : ∃ s, s = f[j].1 := ⟨_, rfl⟩
      obtain ⟨y, hy⟩ : ∃ y, y = f[j].2 := ⟨_, rfl⟩
      have hly := Hl.out _ (List.getElem_mem hlt)
      have hfj : V.keyFd f[j] = 1 :: (esc s.data.toList ++ y.key) := by rw [hs, hy]; rfl
      rw [hfj] at HM1
      rw [← hs] at es esz hle HM2
      rw [← hy] at hx hle HM2 hly
      have HLY := hide hly
      have HX := hide hx
      have HES := hide (show w.cell? ⟨bk, o + j * 6, none⟩ = some (.string s) from es)
      have HE0 := hide e0
      have HE1 := hide e1
      have HE2 := hide e2
      have HE3 := hide e3
      have HE4 := hide e4
      obtain ⟨S, hS⟩ : ∃ S, S = ((f.take j).map V.keyFd).flatten := ⟨_, rfl⟩
      have HRr := hide hr
      rw [← hS] at hle HRr HM1 HM2 ⊢
      have hel : s.data.toList.length ≤ (esc s.data.toList).length := by unfold esc; rw [List.length_append]; have := (escB_length s.data.toList).1; omega
      have HSK := hide (show ∀ W', Below (w.heap.size + 1) wr W' → (fun w' => w'.cell? ⟨w.heap.size, 4, none⟩ = some (.slice (some ⟨bk, o, none⟩) f.length cF) ∧ w'.cell? ⟨bk, o + j * 6, none⟩ = some (.string s)) W' from fun W' h => ⟨(h.cell (by show w.heap.size < _; omega)).trans (hc 4), (h.cell (by show bk < _; omega)).trans ((hgr.below.cell (p := ⟨bk, o + j * 6, none⟩) hbk).trans HES.out)⟩)
      clear hr hgr hx hm1 hm2 hS hB e0 e1 e2 e3 e4 es hs hy hfj hly hkl
      go_upto_region 28 with fail
      refine wp_region_noPanic ?_
      refine wp_region_held_drew (S := fun w' => w'.cell? ⟨w.heap.size, 4, none⟩ = some (.slice (some ⟨bk, o, none⟩) f.length cF) ∧ w'.cell? ⟨bk, o + j * 6, none⟩ = some (.string s)) (by kernel_rfl) (HSK.out _ (Below.drew (Below.refl _ _))) (fun hHeld => ?_)
      refine wpAnyH_take (i := 0) (v := ?_) (by simp only [List.getElem?_toArray, List.getElem?_cons_succ, List.getElem?_cons_zero]; rfl) (by kernel_rfl) (by kernel_rfl) (by kernel_rfl) (fun _ _ _ h => h) (Or.inl ⟨by rfl, ?_⟩) (by assumption) ?_
      rotate_left 1
      · (intro w hSw; (try dsimp only at hSw); (try obtain ⟨hs0, hs1⟩ := hSw); go_simp; try with_reducible rfl)
      try simp only [Act.put, List.setIfInBounds_toArray, List.set_cons_zero, List.set_cons_succ]
      refine wpAnyH_take (i := 3) (v := ?_) (by simp only [List.getElem?_toArray, List.getElem?_cons_succ, List.getElem?_cons_zero]; rfl) (by kernel_rfl) (by kernel_rfl) (by kernel_rfl) (fun _ _ _ h => h) (Or.inl ⟨by rfl, ?_⟩) (by assumption) ?_
      rotate_left 1
      · (intro w hSw; (try dsimp only at hSw); (try obtain ⟨hs0, hs1⟩ := hSw); go_simp; try with_reducible rfl)
      try simp only [Act.put, List.setIfInBounds_toArray, List.set_cons_zero, List.set_cons_succ]
      refine wpAnyH_take (i := 4) (v := ?_) (by simp only [List.getElem?_toArray, List.getElem?_cons_succ, List.getElem?_cons_zero]; rfl) (by kernel_rfl) (by kernel_rfl) (by kernel_rfl) (fun _ _ _ h => h) (Or.inl ⟨by rfl, ?_⟩) (by assumption) ?_
      rotate_left 1
      · (intro w hSw; (try dsimp only at hSw); (try obtain ⟨hs0, hs1⟩ := hSw); go_simp; try with_reducible rfl)
      try simp only [Act.put, List.setIfInBounds_toArray, List.set_cons_zero, List.set_cons_succ]
      refine wpAnyH_take (i := 5) (v := ?_) (by simp only [List.getElem?_toArray, List.getElem?_cons_succ, List.getElem?_cons_zero]; rfl) (by kernel_rfl) (by kernel_rfl) (by kernel_rfl) (fun _ _ _ h => h) (Or.inl ⟨by rfl, ?_⟩) (by assumption) ?_
      rotate_left 1
      · (intro w hSw; (try dsimp only at hSw); (try obtain ⟨hs0, hs1⟩ := hSw); go_simp; try with_reducible rfl)
      try simp only [Act.put, List.setIfInBounds_toArray, List.set_cons_zero, List.set_cons_succ]
      refine wpAnyH_take (i := 6) (v := ?_) (by simp only [List.getElem?_toArray, List.getElem?_cons_succ, List.getElem?_cons_zero]; rfl) (by kernel_rfl) (by kernel_rfl) (by kernel_rfl) (fun _ _ _ h => h) (Or.inl ⟨by rfl, ?_⟩) (by assumption) ?_
      rotate_left 1
      · (intro w hSw; (try dsimp only at hSw); (try obtain ⟨hs0, hs1⟩ := hSw); go_simp; try with_reducible rfl)
      try simp only [Act.put, List.setIfInBounds_toArray, List.set_cons_zero, List.set_cons_succ]
      refine wpAnyH_take (i := 7) (v := ?_) (by simp only [List.getElem?_toArray, List.getElem?_cons_succ, List.getElem?_cons_zero]; rfl) (by kernel_rfl) (by kernel_rfl) (by kernel_rfl) (fun _ _ _ h => h) (Or.inl ⟨by rfl, ?_⟩) (by assumption) ?_
      rotate_left 1
      · (intro w hSw; (try dsimp only at hSw); (try obtain ⟨hs0, hs1⟩ := hSw); go_simp; try with_reducible rfl)
      try simp only [Act.put, List.setIfInBounds_toArray, List.set_cons_zero, List.set_cons_succ]
      refine wpAnyH_take (i := 8) (v := ?_) (by simp only [List.getElem?_toArray, List.getElem?_cons_succ, List.getElem?_cons_zero]; rfl) (by kernel_rfl) (by kernel_rfl) (by kernel_rfl) (fun _ _ _ h => h) (Or.inl ⟨by rfl, ?_⟩) (by assumption) ?_
      rotate_left 1
      · (intro w hSw; (try dsimp only at hSw); (try obtain ⟨hs0, hs1⟩ := hSw); go_simp; try with_reducible rfl)
      try simp only [Act.put, List.setIfInBounds_toArray, List.set_cons_zero, List.set_cons_succ]
      have hb : Below (w.heap.size + 1) wr wr.drew := Below.drew (Below.refl _ _)
      clear hHeld
      have hr := HRr.out.drew
      have hz : w.heap.size + 1 ≤ wr.drew.heap.size := hzr
      generalize wr.drew = w20 at hb hr hz ⊢
      refine rest3 (some 117) (some 118) (some 125) 1 2 9 (fun _ y z W => CvC w wr (1 + S.length) (112 :: S) 1 s.data.toList y z W) ?_ ?_
      rotate_left 1
      · intro rest
        simp only [Act.put, List.setIfInBounds_toArray, List.set_cons_zero, List.set_cons_succ] at rest
        refine wpAnyH_ready (rs := [1, 9]) (by kernel_rfl) (by simp) ?_
        refine AllReadyH.cons rfl (fun K hK => ?_) ?_
        · go_simp
          have hl := Blk.new w20 5 #[.int .u8 1]
          replace hb := Below.alloc hb hz (.cells #[.int .u8 1] 5)
          replace hr := Row.alloc hr (.cells #[.int .u8 1] 5)
          replace hz : w.heap.size + 1 ≤ (w20.alloc (.cells #[.int .u8 1] 5)).heap.size := by rw [World.size_alloc]; omega
          refine hK.out _ _ (HSK.out _ hb) (fun hHeld => ?_)
          clear hK K hHeld
          try simp only [Act.put, List.setIfInBounds_toArray, List.set_cons_zero, List.set_cons_succ]
          generalize w20.alloc (.cells #[.int .u8 1] 5) = w21 at hl hb hz hr ⊢
          generalize w20.heap.size = gl at hl ⊢
          refine wpAnyH_ready (rs := [2, 9]) (by kernel_rfl) (by simp) ?_
          refine AllReadyH.cons rfl (fun K hK => ?_) ?_
          · refine step_app_src (ys := [1]) (by rfl) (.tmp 116) (.tmp 117) _ (by rfl) (by rfl) hr _ (by rfl) (src_one 1 rfl hl) (by simp only [List.length_cons, List.length_nil]; omega) hz ?_
            intro A1 c1 w22 hr2 hg2
            replace hb := Below.trans hb (Grew.below hg2 hr hz)
            replace hz := Nat.le_trans hz hg2.size
            clear hr hg2 hl
            have hr := hr2
            clear hr2
            refine hK.out _ _ (HSK.out _ hb) (fun hHeld => ?_)
            clear hK K hHeld
            try simp only [Act.put, List.setIfInBounds_toArray, List.set_cons_zero, List.set_cons_succ]
            refine wpAnyH_ready (rs := [9]) (by kernel_rfl) (by simp) ?_
            refine AllReadyH.cons rfl (fun K hK => ?_) AllReadyH.nil
            obtain ⟨cn, w23, hcv, hcn, hgc, hv⟩ := conv_bytes2 w22 s
            go_simp
            replace hr := Row.grow hr hgc
            replace hb := Below.trans hb (Below.mono hgc hz)
            replace hz := Nat.le_trans hz hgc.size
            refine hK.out _ _ (HSK.out _ hb) (fun hHeld => ?_)
            clear hK K hHeld hgc hcv
            try simp only [Act.put, List.setIfInBounds_toArray, List.set_cons_zero, List.set_cons_succ]
            generalize w22.heap.size = gv at hv ⊢
            exact rest _ _ _ _ ⟨A1, c1, cn, gv, rfl, rfl, hr, hcn, hv, hb⟩
          refine AllReadyH.cons rfl (fun K hK => ?_) AllReadyH.nil
          obtain ⟨cn, w22, hcv, hcn, hgc, hv⟩ := conv_bytes2 w21 s
          go_simp
          have hnv : ∀ k, Value.ownBlock (.slice A' (1 + S.length) c') = some k → k < w21.heap.size := fun k e1 => (World.ownsRow.lt hr k e1).2
          replace hr := Row.grow hr hgc
          replace hl := Blk.grow hl hgc
          replace hb := Below.trans hb (Below.mono hgc hz)
          replace hz := Nat.le_trans hz hgc.size
          refine hK.out _ _ (HSK.out _ hb) (fun hHeld => ?_)
          clear hK K hHeld hgc hcv
          try simp only [Act.put, List.setIfInBounds_toArray, List.set_cons_zero, List.set_cons_succ]
          generalize w21.heap.size = gv at hv hnv ⊢
          refine wpAnyH_ready (rs := [2]) (by kernel_rfl) (by simp) ?_
          refine AllReadyH.cons rfl (fun K hK => ?_) AllReadyH.nil
          refine step_app_src (ys := [1]) (by rfl) (.tmp 116) (.tmp 117) _ (by rfl) (by rfl) hr _ (by rfl) (src_one 1 rfl hl) (by simp only [List.length_cons, List.length_nil]; omega) hz ?_
          intro A1 c1 w23 hr2 hg2
          replace hv := inb_apart hv hg2.grow hnv
          replace hb := Below.trans hb (Grew.below hg2 hr hz)
          replace hz := Nat.le_trans hz hg2.size
          clear hr hg2 hl
          have hr := hr2
          clear hr2
          refine hK.out _ _ (HSK.out _ hb) (fun hHeld => ?_)
          clear hK K hHeld
          try simp only [Act.put, List.setIfInBounds_toArray, List.set_cons_zero, List.set_cons_succ]
          rw [Array.setIfInBounds_comm (i := 9) (j := 2) _ _ (by decide)]
          exact rest _ _ _ _ ⟨A1, c1, cn, gv, rfl, rfl, hr, hcn, hv, hb⟩
        refine AllReadyH.cons rfl (fun K hK => ?_) AllReadyH.nil
        obtain ⟨cn, w21, hcv, hcn, hgc, hv⟩ := conv_bytes2 w20 s
        go_simp
        have hnv : ∀ k, Value.ownBlock (.slice A' (1 + S.length) c') = some k → k < w20.heap.size := fun k e1 => (World.ownsRow.lt hr k e1).2
        replace hr := Row.grow hr hgc
        replace hb := Below.trans hb (Below.mono hgc hz)
        replace hz := Nat.le_trans hz hgc.size
        refine hK.out _ _ (HSK.out _ hb) (fun hHeld => ?_)
        clear hK K hHeld hgc hcv
        try simp only [Act.put, List.setIfInBounds_toArray, List.set_cons_zero, List.set_cons_succ]
        generalize w20.heap.size = gv at hv hnv ⊢
        refine wpAnyH_ready (rs := [1]) (by kernel_rfl) (by simp) ?_
        refine AllReadyH.cons rfl (fun K hK => ?_) AllReadyH.nil
        go_simp
        have hl := Blk.new w21 5 #[.int .u8 1]
        replace hb := Below.alloc hb hz (.cells #[.int .u8 1] 5)
        replace hr := Row.alloc hr (.cells #[.int .u8 1] 5)
        replace hv := InB.grow hv ((Grow.refl _).alloc (.cells #[.int .u8 1] 5))
        replace hz : w.heap.size + 1 ≤ (w21.alloc (.cells #[.int .u8 1] 5)).heap.size := by rw [World.size_alloc]; omega
        refine hK.out _ _ (HSK.out _ hb) (fun hHeld => ?_)
        clear hK K hHeld
        try simp only [Act.put, List.setIfInBounds_toArray, List.set_cons_zero, List.set_cons_succ]
        generalize w21.alloc (.cells #[.int .u8 1] 5) = w22 at hl hb hz hr hv ⊢
        generalize w21.heap.size = gl at hl ⊢
        refine wpAnyH_ready (rs := [2]) (by kernel_rfl) (by simp) ?_
        refine AllReadyH.cons rfl (fun K hK => ?_) AllReadyH.nil
        refine step_app_src (ys := [1]) (by rfl) (.tmp 116) (.tmp 117) _ (by rfl) (by rfl) hr _ (by rfl) (src_one 1 rfl hl) (by simp only [List.length_cons, List.length_nil]; omega) hz ?_
        intro A1 c1 w23 hr2 hg2
        replace hv := inb_apart hv hg2.grow hnv
        replace hb := Below.trans hb (Grew.below hg2 hr hz)
        replace hz := Nat.le_trans hz hg2.size
        clear hr hg2 hl
        have hr := hr2
        clear hr2
        refine hK.out _ _ (HSK.out _ hb) (fun hHeld => ?_)
        clear hK K hHeld
        try simp only [Act.put, List.setIfInBounds_toArray, List.set_cons_zero, List.set_cons_succ]
        rw [Array.setIfInBounds_comm (i := 9) (j := 1) _ _ (by decide), Array.setIfInBounds_comm (i := 9) (j := 2) _ _ (by decide)]
        exact rest _ _ _ _ ⟨A1, c1, cn, gv, rfl, rfl, hr, hcn, hv, hb⟩
      clear hr hb hz
      rintro x0 x1 x2 w30 ⟨A1, c1, cn, gv, rfl, rfl, hr, hcn, hv, hb⟩
      try simp only [Act.put, List.setIfInBounds_toArray, List.set_cons_zero, List.set_cons_succ]
      have hz : w.heap.size + 1 ≤ w30.heap.size := Nat.le_trans hzr hb.size
      refine wpAnyH_ready (rs := [10]) (by kernel_rfl) (by simp) ?_
      refine AllReadyH.cons rfl (fun K hK => ?_) AllReadyH.nil
      go_simp
      refine (rk_text s.data.toList (some ⟨gv, 0, none⟩) cn _ hv (by omega)).mono ?_
      rintro e w31 ⟨A2, c2, rfl, hk, hgc⟩
      replace hr := Row.grow hr hgc
      replace hb := Below.trans hb (Below.mono hgc hz)
      replace hz := Nat.le_trans hz hgc.size
      try go_simp
      refine hK.out _ _ (HSK.out _ hb) (fun hHeld => ?_)
      clear hK K hHeld hgc
      try simp only [Act.put, List.setIfInBounds_toArray, List.set_cons_zero, List.set_cons_succ]
      refine wpAnyH_ready (rs := [11]) (by kernel_rfl) (by simp) ?_
      refine AllReadyH.cons rfl (fun K hK => ?_) AllReadyH.nil
      refine step_app_src (ys := esc s.data.toList) (by rfl) (.tmp 118) (.tmp 126) _ (by rfl) (by rfl) hr _ (by rfl) (Src.ofReads under_u8s hk.reads.1 (u8s_one _)) (by first | omega | (simp only [List.length_cons, List.length_nil]; omega)) hz ?_
      intro A3 c3 w50 hr3 hg3
      replace hb := Below.trans hb (Grew.below hg3 hr hz)
      replace hz := Nat.le_trans hz hg3.size
      refine hK.out _ _ (HSK.out _ hb) (fun hHeld => ?_)
      clear hK K hr hk hg3
      try simp only [Act.put, List.setIfInBounds_toArray, List.set_cons_zero, List.set_cons_succ]
      refine wpAnyH_take (i := 12) (v := ?_) (by simp only [List.getElem?_toArray, List.getElem?_cons_succ, List.getElem?_cons_zero]; rfl) (by kernel_rfl) (by kernel_rfl) (by kernel_rfl) (fun _ _ _ h => h) (Or.inl ⟨by rfl, ?_⟩) (by assumption) ?_
      rotate_left 1
      · (intro w hSw; (try dsimp only at hSw); (try obtain ⟨hs0, hs1⟩ := hSw); go_simp; try with_reducible rfl)
      try simp only [Act.put, List.setIfInBounds_toArray, List.set_cons_zero, List.set_cons_succ]
      refine wpAnyH_done (by kernel_rfl) ?_ _
      refine NoPanic.normal ?_
      clear hHeld
      have HR3 := hide hr3
      have HB3 := hide hb
      clear hr3 hb
      have HG5 := hide (Below.trans HG'.out (Below.mono HB3.out (Nat.le_succ _)))
      have HB5 := hide (Blk.below HBr.out HB3.out (by omega))
      have hc5 := HB5.out.cell
      have e0 := (HG5.out.cell (p := ⟨bk, o + j * 6 + 1, none⟩) hbk).trans HE0.out
      have e1 := (HG5.out.cell (p := ⟨bk, o + j * 6 + 1 + 1, none⟩) hbk).trans HE1.out
      have e2 := (HG5.out.cell (p := ⟨bk, o + j * 6 + 1 + 2, none⟩) hbk).trans HE2.out
      have e3 := (HG5.out.cell (p := ⟨bk, o + j * 6 + 1 + 3, none⟩) hbk).trans HE3.out
      have e4 := (HG5.out.cell (p := ⟨bk, o + j * 6 + 1 + 4, none⟩) hbk).trans HE4.out
      clear hc
      go_wp2_with fail
      refine (HLY.out w50 x (HX.out.grow HG5.out) (by omega)).mono ?_
      rintro e w60 ⟨A6, c6, rfl, hr6, hg6⟩
      have HR6 := hide hr6
      have HG6 := hide (Grow.trans HG5.out hg6)
      have HRb := hide (HR3.out.grow hg6)
      have HB6 := hide (HB5.out.grow hg6)
      have hz6 := hg6.size
      clear hr6 hg6 e0 e1 e2 e3 e4 hc5
      go_wp2_with (first | (at_builtin; refine app_src (ys := y.key) rfl (.tmp 128) (.tmp 135) _ rfl rfl HRb.out _ rfl (Src.ofReads under_u8s HR6.out.reads.1 (u8s_one _)) (by first | omega | (simp only [List.length_cons, List.length_nil]; omega)) (by first | omega | (simp only [World.size_alloc]; omega)) ?_; intro A7 c7 w7 hr7 hg7; have hz7 := hg7.size; have HG7 := hide (Below.trans HG6.out (Below.mono (Grew.below hg7 HRb.out (by first | omega | (simp only [World.size_alloc]; omega))) (by omega))); have HR7 := hide hr7; (try simp only [World.size_alloc] at hz7); have HB7 := hide (hg7.blk HB6.out (Row.ne HRb.out HB6.out (by decide))); clear hr7 hg7) | fail)
      go_roundg gk'
      case measure => omega
      case rel =>
        have e1 : 1 + S.length + [1].length + (esc s.data.toList).length + y.key.length = 1 + ((f.take (j + 1)).map V.keyFd).flatten.length := by rw [HM2.out]; simp only [List.length_cons, List.length_nil]; omega
        refine ⟨j + 1, A7, c7, by omega, by omega, by go_num, by rw [← e1]; rfl, ?_, HG7.out, HB7.out⟩
        rw [← e1, HM1.out]; simpa using HR7.out
    · obtain rfl : j = f.length := by omega
      rw [List.take_length] at hr ⊢
      obtain ⟨S, hS⟩ : ∃ S, S = (f.map V.keyFd).flatten := ⟨_, rfl⟩
      rw [← hS] at hr hml ⊢
      have HSS := hide hS
      have HRow := hide hr
      have HG0 := hide hgr
      clear hr hgr hB hS
      go_wp2_with (first | (at_builtin; refine app_src (ys := [0]) rfl (.tmp 137) (.tmp 138) _ rfl rfl (HRow.out.alloc _) _ rfl (src_one 0 rfl (Blk.new' (by simp) _ _)) (by simp only [be_length, List.length_cons, List.length_nil] <;> omega) (by first | omega | (simp only [World.size_alloc]; omega)) ?_; intro A7 c7 w7 hr7 hg7; have hz7 := hg7.size; have HG7 := hide (Below.trans (Grow.alloc HG0.out _) (Below.mono (Grew.below hg7 (HRow.out.alloc _) (by first | omega | (simp only [World.size_alloc]; omega))) (by omega))); have HR7 := hide hr7; (try simp only [World.size_alloc] at hz7); clear hr7 hg7) | fail)
      go_ret
      have hkey : (V.mk 8 0 [] [] f).key = 112 :: (S ++ [0]) := by rw [V.key_mk, HSS.out]; rfl
      rw [hkey]
      exact BytK.row (show 112 :: S ++ [0] = _ from rfl) (by simp only [List.length_cons, List.length_append, List.length_nil]; omega) (Nat.le_succ _) HR7.out HG7.out

/-- The key of every value of a good shape. -/
theorem rof_any (v : V) : v.formed = true → OfPos v := by
  induction v using V.ind with
  | h k n b l f hl hf =>
    intro hfm w c hv hm
    rcases V.formed_cases hfm with h | ⟨_, _, h⟩ | ⟨_, h⟩ | ⟨_, h⟩ | ⟨_, _, h⟩ | ⟨_, h⟩ | ⟨l', hl', h⟩ | ⟨f', hf', hnd, h⟩
    · cases h; exact rof_null w c hv
    · cases h; exact rof_bool w c _ hv
    · cases h; exact rof_int w c _ hv
    · cases h
      by_cases hn : nanB n = true
      · exact rof_nan w c _ hv hn
      · exact rof_float w c _ hv (by simpa using hn)
    · cases h; exact rof_text w c _ hv hm
    · cases h; exact rof_raw w c _ hv hm
    · cases h; exact rof_list w c _ (fun x hx => hl x hx (hl' x hx)) hv hm
    · cases h; exact rof_doc w c _ (fun x hx => hf x hx (hf' x hx).2) hv hm
theorem rof_good (v : V) (c : Cv) (hg : v.good = 0) : ∀ W, In W v c → Calls Tryd.prog 58 #[c.agg] W (BytK W v.key) := fun W hv => by
  have hf := V.good_formed hg
  have hk := key_len v hf.1
  exact rof_any v hf.1 W c hv (by have := hf.2; omega)
end Go.Proofs.YtpjhhkndfmcaoaaDoor
