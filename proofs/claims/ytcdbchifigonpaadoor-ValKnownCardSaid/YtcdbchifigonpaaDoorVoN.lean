/- Walks: what holds numbers against one another, of the program: cmp.Compare, math.Floor, whole. -/
import Derived.Test.YtcdbchifigonpaaDoorKeyLx
import Derived.Test.YtcdbchifigonpaaDoorFlW
set_option linter.unusedVariables false
set_option linter.unusedSimpArgs false
namespace Go.Proofs.YtcdbchifigonpaaDoor
open Go.RowKit Go.Shelf

theorem nani_any (a : Int) (w : World) : Calls Tryd.prog 97 #[.int .i64 a] w fun e w' => e = .returned (.bool false) ∧ w = w' := by
  go_enter Tryd.func97, Tryd.ntmps97
  go_wp2
  go_ret
  exact ⟨by simp, rfl⟩
theorem nani64_any (a : Int) (w : World) : Calls Tryd.prog 113 #[.int .i64 a] w fun e w' => e = .returned (.bool false) ∧ w = w' := by
  go_enter Tryd.func113, Tryd.ntmps113
  go_wp2
  go_ret
  exact ⟨by simp, rfl⟩
theorem nanu64_any (a : Int) (w : World) : Calls Tryd.prog 98 #[.int .u64 a] w fun e w' => e = .returned (.bool false) ∧ w = w' := by
  go_enter Tryd.func98, Tryd.ntmps98
  go_wp2
  go_ret
  exact ⟨by simp, rfl⟩
theorem nanf_any (a : Nat) (w : World) : Calls Tryd.prog 114 #[.float .f64 a] w fun e w' => e = .returned (.bool (nanB a)) ∧ w = w' := by
  go_enter Tryd.func114, Tryd.ntmps114
  go_wp2
  go_ret
  exact ⟨rfl, rfl⟩
theorem cmpi_any (a b : Int) (w : World) : Calls Tryd.prog 82 #[.int .i64 a, .int .i64 b] w fun e w' => e = .returned (.int .i64 (sg a b)) ∧ w = w' := by
  rcases Int.lt_trichotomy a b with h | h | h
  · rw [sg_lt h]
    go_enter Tryd.func82, Tryd.ntmps82
    go_wp2_with (go_at_call 97; refine (nani_any _ _).mono ?_; rintro e w' ⟨rfl, rfl⟩)
    go_ret
    exact ⟨rfl, rfl⟩
  · rw [sg_eq h]
    subst h
    go_enter Tryd.func82, Tryd.ntmps82
    go_wp2_with (go_at_call 97; refine (nani_any _ _).mono ?_; rintro e w' ⟨rfl, rfl⟩)
    go_ret
    exact ⟨rfl, rfl⟩
  · rw [sg_gt h]
    have h2 : ¬ a < b := by omega
    go_enter Tryd.func82, Tryd.ntmps82
    go_wp2_with (go_at_call 97; refine (nani_any _ _).mono ?_; rintro e w' ⟨rfl, rfl⟩)
    go_ret
    exact ⟨rfl, rfl⟩
theorem cmpi64_any (a b : Int) (w : World) : Calls Tryd.prog 100 #[.int .i64 a, .int .i64 b] w fun e w' => e = .returned (.int .i64 (sg a b)) ∧ w = w' := by
  rcases Int.lt_trichotomy a b with h | h | h
  · rw [sg_lt h]
    go_enter Tryd.func100, Tryd.ntmps100
    go_wp2_with (go_at_call 113; refine (nani64_any _ _).mono ?_; rintro e w' ⟨rfl, rfl⟩)
    go_ret
    exact ⟨rfl, rfl⟩
  · rw [sg_eq h]
    subst h
    go_enter Tryd.func100, Tryd.ntmps100
    go_wp2_with (go_at_call 113; refine (nani64_any _ _).mono ?_; rintro e w' ⟨rfl, rfl⟩)
    go_ret
    exact ⟨rfl, rfl⟩
  · rw [sg_gt h]
    have h2 : ¬ a < b := by omega
    go_enter Tryd.func100, Tryd.ntmps100
    go_wp2_with (go_at_call 113; refine (nani64_any _ _).mono ?_; rintro e w' ⟨rfl, rfl⟩)
    go_ret
    exact ⟨rfl, rfl⟩
theorem cmpu64_any (a b : Int) (w : World) : Calls Tryd.prog 84 #[.int .u64 a, .int .u64 b] w fun e w' => e = .returned (.int .i64 (sg a b)) ∧ w = w' := by
  rcases Int.lt_trichotomy a b with h | h | h
  · rw [sg_lt h]
    go_enter Tryd.func84, Tryd.ntmps84
    go_wp2_with (go_at_call 98; refine (nanu64_any _ _).mono ?_; rintro e w' ⟨rfl, rfl⟩)
    go_ret
    exact ⟨rfl, rfl⟩
  · rw [sg_eq h]
    subst h
    go_enter Tryd.func84, Tryd.ntmps84
    go_wp2_with (go_at_call 98; refine (nanu64_any _ _).mono ?_; rintro e w' ⟨rfl, rfl⟩)
    go_ret
    exact ⟨rfl, rfl⟩
  · rw [sg_gt h]
    have h2 : ¬ a < b := by omega
    go_enter Tryd.func84, Tryd.ntmps84
    go_wp2_with (go_at_call 98; refine (nanu64_any _ _).mono ?_; rintro e w' ⟨rfl, rfl⟩)
    go_ret
    exact ⟨rfl, rfl⟩
/-- A float that is no NaN. -/
structure Num (x : Nat) : Prop where
  bits : x < 18446744073709551616
  le : x % 9223372036854775808 ≤ 9218868437227405312
theorem Num.of {x : Nat} (h : x < 18446744073709551616) (hn : nanB x = false) : Num x := by
  rw [nanB_eq h] at hn
  exact ⟨h, by simpa using hn⟩
theorem Num.nan {x : Nat} (h : Num x) : nanB x = false := by rw [nanB_eq h.bits]; exact decide_eq_false (by have := h.le; omega)
theorem Num.lt {x y : Nat} (h : Num x) (k : Num y) (hl : sv x < sv y) : FloatKind.f64.format.order x y = some Ordering.lt := (order_sv h.bits k.bits h.le k.le).trans (by rw [ordInt_lt hl])
theorem Num.eq {x y : Nat} (h : Num x) (k : Num y) (hl : sv x = sv y) : FloatKind.f64.format.order x y = some Ordering.eq := (order_sv h.bits k.bits h.le k.le).trans (by rw [ordInt_eq hl])
theorem Num.gt {x y : Nat} (h : Num x) (k : Num y) (hl : sv y < sv x) : FloatKind.f64.format.order x y = some Ordering.gt := (order_sv h.bits k.bits h.le k.le).trans (by rw [ordInt_gt hl])
set_option maxRecDepth 100000 in
theorem cmpf_any (x y : Nat) (hx : Num x) (hy : Num y) (w : World) : Calls Tryd.prog 102 #[.float .f64 x, .float .f64 y] w fun e w' => e = .returned (.int .i64 (sg (sv x) (sv y))) ∧ w = w' := by
  have n1 := hx.nan
  have n2 := hy.nan
  rcases Int.lt_trichotomy (sv x) (sv y) with h | h | h
  · rw [sg_lt h]
    have ho := hx.lt hy h
    clear h
    go_enter Tryd.func102, Tryd.ntmps102
    go_wp2_with (first | (go_at_call 114; refine (nanf_any x _).mono ?_; rintro e w' ⟨rfl, rfl⟩) | (go_at_call 114; refine (nanf_any y _).mono ?_; rintro e w' ⟨rfl, rfl⟩))
    go_ret
    exact ⟨rfl, rfl⟩
  · rw [sg_eq h]
    have ho := hx.eq hy h
    clear h
    go_enter Tryd.func102, Tryd.ntmps102
    go_wp2_with (first | (go_at_call 114; refine (nanf_any x _).mono ?_; rintro e w' ⟨rfl, rfl⟩) | (go_at_call 114; refine (nanf_any y _).mono ?_; rintro e w' ⟨rfl, rfl⟩))
    go_ret
    exact ⟨rfl, rfl⟩
  · rw [sg_gt h]
    have ho := hx.gt hy h
    clear h
    go_enter Tryd.func102, Tryd.ntmps102
    go_wp2_with (first | (go_at_call 114; refine (nanf_any x _).mono ?_; rintro e w' ⟨rfl, rfl⟩) | (go_at_call 114; refine (nanf_any y _).mono ?_; rintro e w' ⟨rfl, rfl⟩))
    go_ret
    exact ⟨rfl, rfl⟩

theorem floor_ext (f : Nat) (s : Bool) (m : Nat) (p : Int) (h : Ieee.double.read f = .number s m p) (w : World) : (Extern.MathFloor.toIntegral "math.archFloor" .down #[.float .f64 f]).run Tryd.prog w = .ok (.float .f64 (floorF f)) w := by
  have hd : FloatKind.f64.decode f = .number s m p := h
  change Sem.run Tryd.prog (match FloatKind.f64.decode f with
    | .nan s t =>
      if FloatKind.f64.format.quiet t = t then pure (Value.float .f64 f) else do
      let kept ← choose (.extern "math.Floor,Ceil,Trunc,RoundToEven.signallingNaN kept" 2)
      pure (Value.float .f64 (if kept == 1 then f else FloatKind.f64.encode (.nan s (FloatKind.f64.format.quiet t))))
    | d => pure (Value.float .f64 (FloatKind.f64.encode (d.integral .down)))) w = _
  rw [hd]
  unfold floorF
  rw [h]
  rfl
set_option maxRecDepth 100000 in
theorem mfloor_any (f : Nat) (hf : f < 18446744073709551616) (fin : f % 9223372036854775808 < 9218868437227405312) (w : World) : Calls Tryd.prog 115 #[.float .f64 f] w fun e w' => e = .returned (.float .f64 (floorF f)) ∧ w = w' := by
  obtain ⟨m, p, hr, -⟩ := read_num hf fin
  have HX := hide (floor_ext f _ m p hr)
  clear hr
  go_enter Tryd.func115, Tryd.ntmps115
  go_wp2_with fail
  rw [run_callFunc_extern (P := Tryd.prog) (f := 120) (fn := Tryd.f120) (by kernel_rfl) (by kernel_rfl) (by kernel_rfl) (by kernel_rfl) (e := Extern.MathFloor.toIntegral "math.archFloor" .down) (by kernel_rfl), HX.out]
  simp only [Result.andThen]
  rw [Oper.upon_value]
  go_wp2_with fail
  go_ret
  exact ⟨rfl, rfl⟩

theorem sv_hi : sv 4890909195324358656 = 9223372036854775808 * (U1 : Int) := by
  have h := exact_sv false 4503599627370496 11 (by omega) (by omega) (by omega)
  rw [show Ieee.double.word false ((11 + 1074) * 4503599627370496 + 4503599627370496) = 4890909195324358656 by unfold Ieee.Format.word; decide, if_neg (by decide), Int.natCast_mul] at h
  rw [h]; rfl
theorem sv_lo : sv 14114281232179134464 = -9223372036854775808 * (U1 : Int) := by
  have h := exact_sv true 4503599627370496 11 (by omega) (by omega) (by omega)
  rw [show Ieee.double.word true ((11 + 1074) * 4503599627370496 + 4503599627370496) = 14114281232179134464 by unfold Ieee.Format.word; decide, if_pos rfl, Int.natCast_mul] at h
  rw [h, ← Int.neg_mul]; rfl
theorem num_hi : Num 4890909195324358656 := ⟨by decide, by decide⟩
theorem num_lo : Num 14114281232179134464 := ⟨by decide, by decide⟩
/-- How an Int stands to a Float's exact value. -/
noncomputable def wholeC (i : Int) (f : Nat) : Int := if i * (U1 : Int) < sv f then -1 else if sv f < i * (U1 : Int) then 1 else 0
theorem mixC_whole (i : Int) (f : Nat) : mixC i f = if wholeC i f ≠ 0 then wholeC i f else if f = 9223372036854775808 then 1 else -1 := by
  unfold mixC wholeC
  repeat' split
  all_goals first | rfl | contradiction | omega
/-- What the program and the document's answer learn of a Float beside an Int, on each of their ways. -/
inductive Ways (i : Int) (f : Nat) : Int → Prop
  | high (h : FloatKind.f64.format.order f 4890909195324358656 = some Ordering.gt ∨ FloatKind.f64.format.order f 4890909195324358656 = some Ordering.eq) : Ways i f (-1)
  | low (h1 : FloatKind.f64.format.order f 4890909195324358656 = some Ordering.lt) (h2 : FloatKind.f64.format.order f 14114281232179134464 = some Ordering.lt) : Ways i f 1
  | mid (r k : Int) (fin : f % 9223372036854775808 < 9218868437227405312) (h1 : FloatKind.f64.format.order f 4890909195324358656 = some Ordering.lt) (h2 : FloatKind.f64.format.order f 14114281232179134464 = some Ordering.gt ∨ FloatKind.f64.format.order f 14114281232179134464 = some Ordering.eq)
      (hk : floatToIntVal .f64 (floorF f) .i64 = some k) (h3 : (i < k ∧ r = -1) ∨ (k < i ∧ r = 1) ∨ (i = k ∧ ((FloatKind.f64.format.order f (floorF f) = some Ordering.gt ∧ FloatKind.f64.format.order (floorF f) f = some Ordering.lt ∧ r = -1) ∨ (FloatKind.f64.format.order f (floorF f) = some Ordering.eq ∧ FloatKind.f64.format.order (floorF f) f = some Ordering.eq ∧ r = 0)))) : Ways i f r
theorem ways (i : Int) (f : Nat) (hf : Num f) (h1 : -9223372036854775808 ≤ i) (h2 : i ≤ 9223372036854775807) : Ways i f (wholeC i f) := by
  have hu := U1_pos
  by_cases a : sv f < 9223372036854775808 * (U1 : Int)
  · by_cases b : sv f < -9223372036854775808 * (U1 : Int)
    · have e : wholeC i f = 1 := by
        have : -9223372036854775808 * (U1 : Int) ≤ i * (U1 : Int) := Int.mul_le_mul_of_nonneg_right h1 (by omega)
        unfold wholeC
        rw [if_neg (by omega), if_pos (by omega)]
      rw [e]
      exact .low (hf.lt num_hi (by rw [sv_hi]; exact a)) (hf.lt num_lo (by rw [sv_lo]; exact b))
    · have fin : f % 9223372036854775808 < 9218868437227405312 := by
        rcases Nat.lt_or_eq_of_le hf.le with h | h
        · exact h
        · exfalso
          have hs := sv_read hf.bits
          rw [h] at hs
          have hi := sv_hi
          have hl := rv_mono (show 4890909195324358656 < 9218868437227405312 by decide)
          have e1 : sv 4890909195324358656 = (rv 4890909195324358656 : Int) := by unfold sv; rw [if_pos (by decide)]
          split at hs <;> omega
      obtain ⟨k, w1, w2, w3, w4, w5, w6⟩ := floor_facts f hf.bits fin (by omega) a
      have nf : Num (floorF f) := ⟨w1, by omega⟩
      refine .mid _ k fin (hf.lt num_hi (by rw [sv_hi]; exact a)) ?_ w4 ?_
      · rcases Int.lt_or_eq_of_le (Int.not_lt.1 b) with h | h
        · exact .inl (hf.gt num_lo (by rw [sv_lo]; exact h))
        · exact .inr (hf.eq num_lo (by rw [sv_lo]; exact h.symm))
      · rcases Int.lt_trichotomy i k with h | h | h
        · left
          refine ⟨h, ?_⟩
          have := mul_pos_lt h
          unfold wholeC
          rw [if_pos (by omega)]
        · right; right
          subst h
          refine ⟨rfl, ?_⟩
          rcases Int.lt_or_eq_of_le w5 with h | h
          · left
            refine ⟨hf.gt nf (by omega), nf.lt hf (by omega), ?_⟩
            unfold wholeC
            rw [if_pos h]
          · right
            refine ⟨hf.eq nf (by omega), nf.eq hf (by omega), ?_⟩
            unfold wholeC
            rw [if_neg (by omega), if_neg (by omega)]
        · right; left
          refine ⟨h, ?_⟩
          have : (k + 1) * (U1 : Int) ≤ i * (U1 : Int) := Int.mul_le_mul_of_nonneg_right (by omega) (by omega)
          unfold wholeC
          rw [if_neg (by omega), if_pos (by omega)]
  · have e : wholeC i f = -1 := by
      have : i * (U1 : Int) < 9223372036854775808 * (U1 : Int) := mul_pos_lt (by omega)
      unfold wholeC
      rw [if_pos (by omega)]
    rw [e]
    refine .high ?_
    rcases Int.lt_or_eq_of_le (Int.not_lt.1 a) with h | h
    · exact .inl (hf.gt num_hi (by rw [sv_hi]; exact h))
    · exact .inr (hf.eq num_hi (by rw [sv_hi]; exact h.symm))
set_option maxRecDepth 100000 in
set_option maxHeartbeats 1600000 in
theorem whole_any (i : Int) (f : Nat) (hf : Num f) (h1 : -9223372036854775808 ≤ i) (h2 : i ≤ 9223372036854775807) (w : World) : Calls Tryd.prog 103 #[.int .i64 i, .float .f64 f] w fun e w' => e = .returned (.int .i64 (wholeC i f)) ∧ w = w' := by
  have hw := ways i f hf h1 h2
  have hb := hf.bits
  obtain ⟨r, hr⟩ : ∃ r, wholeC i f = r := ⟨_, rfl⟩
  rw [hr] at hw ⊢
  clear hr hf
  cases hw with
  | high h =>
    rcases h with h | h
    all_goals
      go_enter Tryd.func103, Tryd.ntmps103
      go_wp2_with fail
      go_ret
      exact ⟨rfl, rfl⟩
  | low h1 h2 =>
    go_enter Tryd.func103, Tryd.ntmps103
    go_wp2_with fail
    go_ret
    exact ⟨rfl, rfl⟩
  | mid _ k fin h1 h2 hk h3 =>
    have hv := conv_fi (floorF f) k hk
    have HFL := hide (fun w => mfloor_any f hb fin w)
    clear hk fin
    obtain ⟨F, hF⟩ : ∃ F, floorF f = F := ⟨_, rfl⟩
    rw [hF] at hv h3 HFL
    clear hF hb
    rcases h2 with h2 | h2 <;> rcases h3 with ⟨h3, rfl⟩ | ⟨h3, rfl⟩ | ⟨rfl, ⟨h3, h4, rfl⟩ | ⟨h3, h4, rfl⟩⟩
    all_goals
      go_enter Tryd.func103, Tryd.ntmps103
      first
      | have hs : sg i k = -1 := sg_lt h3
      | have hs : sg i k = 1 := sg_gt h3
      | have hs : sg i i = 0 := sg_eq rfl
      go_wp2_with (first | (go_at_call 115; refine (HFL.out _).mono ?_; rintro e w' ⟨rfl, rfl⟩) | (go_at_call 100; refine (cmpi64_any _ _ _).mono ?_; rintro e w' ⟨rfl, rfl⟩; rw [hs]))
      go_ret
      exact ⟨rfl, rfl⟩
end Go.Proofs.YtcdbchifigonpaaDoor
