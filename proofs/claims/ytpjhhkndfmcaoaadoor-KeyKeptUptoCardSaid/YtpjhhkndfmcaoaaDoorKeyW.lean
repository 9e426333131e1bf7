/- Walks: the writer of keys: floats. -/
import Derived.Test.YtpjhhkndfmcaoaaDoorKeyPQ
import Derived.Test.YtpjhhkndfmcaoaaDoorCatchG
set_option linter.unusedVariables false
set_option linter.unusedSimpArgs false
namespace Go.Proofs.YtpjhhkndfmcaoaaDoor
open Go.RowKit Go.Shelf

theorem run_bits (w : World) (b : Nat) : (callFunc 146 #[.float .f64 b]).run Tryd.prog w = .ok (.value (.int .u64 b)) w := by kernel_rfl
theorem run_from (w : World) (b : Int) : (callFunc 107 #[.int .u64 b]).run Tryd.prog w = .ok (.value (.float .f64 b.toNat)) w := by kernel_rfl

theorem isnan_any (b : Nat) (w : World) : Calls Tryd.prog 147 #[.float .f64 b] w fun e w' => e = .returned (.bool (nanB b)) ∧ w = w' := by
  go_enter Tryd.func147, Tryd.ntmps147
  go_wp2
  go_ret
  exact ⟨rfl, rfl⟩
theorem inf_any (w : World) : Calls Tryd.prog 176 #[.int .i64 (-1)] w fun e w' => e = .returned (.float .f64 18442240474082181120) ∧ w = w' := by
  have hb := run_from
  go_enter Tryd.func176, Tryd.ntmps176
  go_wp2
  go_ret
  exact ⟨rfl, rfl⟩
theorem nan_of {f : Nat} {s : Bool} {m : Nat} {p : Int} (h : Ieee.double.read f = .number s m p) : nanB f = false := by
  unfold nanB; rw [order_self h]; rfl
theorem nan_ninf : nanB 18442240474082181120 = false := by decide
set_option maxRecDepth 100000 in
theorem next_up (f : Nat) (s : Bool) (m : Nat) (p : Int) (hr : Ieee.double.read f = .number s m p) (hm : m ≠ 0) (hp : -1074 ≤ p) (hs : s = false) (hf : 1 ≤ f) (hf2 : f ≤ 18446744073709551616) (w : World) :
    Calls Tryd.prog 175 #[.float .f64 f, .float .f64 18442240474082181120] w fun e w' => e = .returned (.float .f64 (f - 1)) ∧ w = w' := by
  have hb := run_from
  have hb2 := run_bits
  have h1 := order_self hr
  have h2 : (FloatKind.f64.format.order f 18442240474082181120 == some Ordering.eq) = false := by
    show (Ieee.double.order f 18442240474082181120 == some Ordering.eq) = false
    rw [(order_ninf hr).1]; rfl
  have h3 : (FloatKind.f64.format.order 18442240474082181120 f == some Ordering.gt) = false := by
    show (Ieee.double.order 18442240474082181120 f == some Ordering.gt) = false
    rw [(order_ninf hr).2]; rfl
  have h4 : (FloatKind.f64.format.order f 0 == some Ordering.eq) = false := by
    show (Ieee.double.order f 0 == some Ordering.eq) = false
    rw [order_zero hr hm hp, hs]; rfl
  have h4' : (FloatKind.f64.format.order f 0 == some Ordering.gt) = true := by
    show (Ieee.double.order f 0 == some Ordering.gt) = true
    rw [order_zero hr hm hp, hs]; rfl
  have h5 := nan_of hr
  have h6 := nan_ninf
  have hw : IntKind.u64.wrap ((f : Int) - 1) = (f : Int) - 1 := by rw [IntKind.wrap_u64]; omega
  have e1 : ((f : Int) - 1).toNat = f - 1 := by omega
  clear hr hs hm hp h1
  go_enter Tryd.func175, Tryd.ntmps175
  go_wp2_with (first
    | (go_at_call 147; refine (isnan_any f _).mono ?_; rintro e w' ⟨rfl, rfl⟩)
    | (go_at_call 147; refine (isnan_any 18442240474082181120 _).mono ?_; rintro e w' ⟨rfl, rfl⟩))
  go_ret
  exact ⟨by first | rfl | (congr 2; omega), rfl⟩
set_option maxRecDepth 100000 in
theorem next_down (f : Nat) (s : Bool) (m : Nat) (p : Int) (hr : Ieee.double.read f = .number s m p) (hm : m ≠ 0) (hp : -1074 ≤ p) (hs : s = true) (hf2 : f + 1 < 18446744073709551616) (w : World) :
    Calls Tryd.prog 175 #[.float .f64 f, .float .f64 18442240474082181120] w fun e w' => e = .returned (.float .f64 (f + 1)) ∧ w = w' := by
  have hb := run_from
  have hb2 := run_bits
  have h1 := order_self hr
  have h2 : (FloatKind.f64.format.order f 18442240474082181120 == some Ordering.eq) = false := by
    show (Ieee.double.order f 18442240474082181120 == some Ordering.eq) = false
    rw [(order_ninf hr).1]; rfl
  have h3 : (FloatKind.f64.format.order 18442240474082181120 f == some Ordering.gt) = false := by
    show (Ieee.double.order 18442240474082181120 f == some Ordering.gt) = false
    rw [(order_ninf hr).2]; rfl
  have h4 : (FloatKind.f64.format.order f 0 == some Ordering.eq) = false := by
    show (Ieee.double.order f 0 == some Ordering.eq) = false
    rw [order_zero hr hm hp, hs]; rfl
  have h4' : (FloatKind.f64.format.order f 0 == some Ordering.gt) = false := by
    show (Ieee.double.order f 0 == some Ordering.gt) = false
    rw [order_zero hr hm hp, hs]; rfl
  have h5 := nan_of hr
  have h6 := nan_ninf
  have hw : IntKind.u64.wrap ((f : Int) + 1) = (f : Int) + 1 := by rw [IntKind.wrap_u64]; omega
  have e1 : ((f : Int) + 1).toNat = f + 1 := by omega
  clear hr hs hm hp h1
  go_enter Tryd.func175, Tryd.ntmps175
  go_wp2_with (first
    | (go_at_call 147; refine (isnan_any f _).mono ?_; rintro e w' ⟨rfl, rfl⟩)
    | (go_at_call 147; refine (isnan_any 18442240474082181120 _).mono ?_; rintro e w' ⟨rfl, rfl⟩))
  go_ret
  exact ⟨by first | rfl | (congr 2; omega), rfl⟩

theorem conv_fi (f : Nat) (n : Int) (h : floatToIntVal .f64 f .i64 = some n) (w : World) : (convert 134 2 (.float .f64 f)).run Tryd.prog w = .ok (.int .i64 n) w :=
  run_convert_float_int (P := Tryd.prog) w 134 2 .f64 .i64 f n (by kernel_rfl) (by kernel_rfl) h
set_option maxRecDepth 100000 in
set_option maxHeartbeats 1600000 in
theorem floor_any (i : Int) (w : World) (h1 : -9223372036854775808 ≤ i) (h2 : i ≤ 9223372036854775807) :
    Calls Tryd.prog 143 #[.int .i64 i] w fun e w' => e = .returned (.tuple #[.float .f64 (fl i).1, .int .u64 ((fl i).2 : Nat)]) ∧ w = w' := by
  have hc := floor_cases i h1 h2
  obtain ⟨g, hg⟩ : ∃ g, (fl i).1 = g := ⟨_, rfl⟩
  obtain ⟨rest, hrest⟩ : ∃ g, (fl i).2 = g := ⟨_, rfl⟩
  obtain ⟨f0, hf0⟩ : ∃ f0, FloatKind.f64.nearest i = f0 := ⟨_, rfl⟩
  obtain ⟨n, hn⟩ : ∃ n, i - (rest : Int) = n := ⟨_, rfl⟩
  rw [hg, hrest, hf0, hn] at hc
  rw [hg, hrest]
  clear hg hrest
  have hv := conv_fi g n hc.val
  have hsm := hc.small
  have hlo := hc.lo
  have hhi := hc.hi
  have hsub : IntKind.u64.wrap (IntKind.u64.wrap i - IntKind.u64.wrap n) = (rest : Int) := by
    have e := hc.eq
    rw [IntKind.wrap_u64, IntKind.wrap_u64, IntKind.wrap_u64]; omega
  have hsub2 : 0 < i → IntKind.u64.wrap (i - IntKind.u64.wrap n) = (rest : Int) := by
    have e := hc.eq
    intro hi
    rw [IntKind.wrap_u64, IntKind.wrap_u64]; omega
  have hlt : FloatKind.f64.format.order g 4890909195324358656 = some Ordering.lt := hc.lt
  have hfi : floatOfInt FloatKind.f64 i = f0 := hf0
  have hd : decide (i < n) = false := by simpa using hhi
  have hgb := hc.bits
  have hst := hc.step
  clear hc
  clear hn hf0
  have hbb := run_from
  rcases hst with rfl | ⟨hpos, rfl, ho, s, m, p, hr, hm, hp, hs⟩ | ⟨hneg, rfl, ⟨ho, n', hv', hn'⟩, s, m, p, hr, hm, hp, hs⟩
  · by_cases hpos : 0 < i
    · have hsub3 := hsub2 hpos
      clear hsub2
      go_enter Tryd.func143, Tryd.ntmps143
      go_wp2
      go_ret2
      exact ⟨rfl, rfl⟩
    clear hsub2
    go_enter Tryd.func143, Tryd.ntmps143
    go_wp2
    go_ret2
    exact ⟨rfl, rfl⟩
  · have HN := hide (fun w => next_up (g + 1) s m p hr hm hp hs (by omega) (by omega) w)
    rw [Nat.add_sub_cancel] at HN
    have hsub3 := hsub2 hpos
    clear hr hm hp hs hsub2
    rcases ho with ho | ⟨ho, n', hv', hn'⟩
    · have ho' : FloatKind.f64.format.order (g + 1) 4890909195324358656 = some Ordering.eq := ho
      clear ho
      go_enter Tryd.func143, Tryd.ntmps143
      go_wp2_with (first | (go_at_call 176; refine (inf_any _).mono ?_; rintro e w' ⟨rfl, rfl⟩) | (go_at_call 175; refine (HN.out _).mono ?_; rintro e w' ⟨rfl, rfl⟩))
      go_ret2
      exact ⟨rfl, rfl⟩
    · have ho' : FloatKind.f64.format.order (g + 1) 4890909195324358656 = some Ordering.lt := ho
      have hv2 := conv_fi (g + 1) n' hv'
      have hd2 : decide (i < n') = true := by simpa using hn'
      clear ho hv'
      go_enter Tryd.func143, Tryd.ntmps143
      go_wp2_with (first | (go_at_call 176; refine (inf_any _).mono ?_; rintro e w' ⟨rfl, rfl⟩) | (go_at_call 175; refine (HN.out _).mono ?_; rintro e w' ⟨rfl, rfl⟩))
      go_ret2
      exact ⟨rfl, rfl⟩
  · have HN := hide (fun w => next_down f0 s m p hr hm hp hs (by omega) w)
    have ho' : FloatKind.f64.format.order f0 4890909195324358656 = some Ordering.lt := ho
    have hv2 := conv_fi f0 n' hv'
    have hd2 : decide (i < n') = true := by simpa using hn'
    clear hr hm hp hs ho hv' hsub2
    go_enter Tryd.func143, Tryd.ntmps143
    go_wp2_with (first | (go_at_call 176; refine (inf_any _).mono ?_; rintro e w' ⟨rfl, rfl⟩) | (go_at_call 175; refine (HN.out _).mono ?_; rintro e w' ⟨rfl, rfl⟩))
    go_ret2
    exact ⟨rfl, rfl⟩
end Go.Proofs.YtpjhhkndfmcaoaaDoor
