/- Walks: texts held against one another, classes, the first that is not nought. -/
import Derived.Test.YtcdbchifigonpaaDoorVoM
import Derived.Test.YtcdbchifigonpaaDoorBcmp
import Derived.Deep.RegionHeld3
set_option linter.unusedVariables false
set_option linter.unusedSimpArgs false
namespace Go.Proofs.YtcdbchifigonpaaDoor
open Go.RowKit Go.Shelf

theorem class_any (k : Int) (w : World) : Calls Tryd.prog 83 #[.int .i64 k] w fun e w' => e = .returned (.int .i64 (cls k)) ∧ w = w' := by
  by_cases h : k = 4
  · subst h
    go_enter Tryd.func83, Tryd.ntmps83
    go_wp2_with fail
    go_ret
    exact ⟨rfl, rfl⟩
  · have hq : (k == 4) = false := by simpa using h
    have HC := hide (show cls k = k by unfold cls; rw [if_neg h])
    clear h
    go_enter Tryd.func83, Tryd.ntmps83
    go_wp2_with fail
    go_ret
    exact ⟨ret_int HC.out.symm, rfl⟩
set_option maxRecDepth 100000 in
theorem scmps_any (a b : ByteArray) (w : World) : Calls Tryd.prog 105 #[.string a, .string b] w fun e w' => e = .returned (.int .i64 (Lib.compareBytes a.data.toList b.data.toList)) ∧ w = w' := by
  go_enter Tryd.func105, Tryd.ntmps105
  go_wp2_with fail
  rw [run_callFunc_extern (P := Tryd.prog) (f := 116) (fn := Tryd.f116) (by kernel_rfl) (by kernel_rfl) (by kernel_rfl) (by kernel_rfl) (e := Extern.BytealgCompare.compare) (by kernel_rfl), Lib.run_compareString]
  simp only [Result.andThen]
  rw [Oper.upon_value]
  go_wp2_with fail
  go_ret
  exact ⟨rfl, rfl⟩
theorem scmp_any (a b : ByteArray) (w : World) : Calls Tryd.prog 88 #[.string a, .string b] w fun e w' => e = .returned (.int .i64 (Lib.compareBytes a.data.toList b.data.toList)) ∧ w = w' := by
  go_enter Tryd.func88, Tryd.ntmps88
  go_wp2_with (go_at_call 105; refine (scmps_any a b _).mono ?_; rintro e w' ⟨rfl, rfl⟩)
  go_ret
  exact ⟨rfl, rfl⟩
/-- The first of two numbers that is not nought. -/
theorem or2_any (a b : Int) (g cap : Nat) (t : TypeId) (w : World) (hB : Blk w g t #[.int .i64 a, .int .i64 b]) : Calls Tryd.prog 87 #[.slice (some ⟨g, 0, none⟩) 2 cap] w fun e w' => e = .returned (.int .i64 (orC a b)) ∧ w = w' := by
  have hc := hB.cell
  have hlt := hB.lt
  clear hB
  have hc0 := hc 0
  have hc1 := hc 1
  clear hc
  by_cases ha : a = 0
  · subst ha
    rw [orC_0]
    by_cases hb : b = 0
    · subst hb
      go_enter Tryd.func87, Tryd.ntmps87
      go_wp2_with fail
      go_loopg [5, 8] 3 (fun gk x i wr => w = wr ∧ ∃ j : Nat, j ≤ 2 ∧ gk + j = 3 ∧ i = .int .i64 j)
      case atStart => exact ⟨rfl, 0, by omega, by omega, rfl⟩
      case round =>
        obtain ⟨rfl, j, hj, hg, rfl⟩ := hrel
        obtain ⟨gk', rfl⟩ : ∃ g, gk = g + 1 := ⟨gk - 1, by omega⟩
        rcases j with _ | _ | _ | j
        · go_wp2_with fail
          go_roundg gk'
          case measure => omega
          case rel => exact ⟨rfl, 1, by omega, by omega, rfl⟩
        · go_wp2_with fail
          go_roundg gk'
          case measure => omega
          case rel => exact ⟨rfl, 2, by omega, by omega, rfl⟩
        · go_wp2_with fail
          go_ret
          exact ⟨rfl, rfl⟩
        · omega
    · have hbq : (b != 0) = true := by simpa using hb
      clear hb
      go_enter Tryd.func87, Tryd.ntmps87
      go_wp2_with fail
      go_loopg [5, 8] 3 (fun gk x i wr => w = wr ∧ ∃ j : Nat, j ≤ 1 ∧ gk + j = 3 ∧ i = .int .i64 j)
      case atStart => exact ⟨rfl, 0, by omega, by omega, rfl⟩
      case round =>
        obtain ⟨rfl, j, hj, hg, rfl⟩ := hrel
        obtain ⟨gk', rfl⟩ : ∃ g, gk = g + 1 := ⟨gk - 1, by omega⟩
        rcases j with _ | _ | j
        · go_wp2_with fail
          go_roundg gk'
          case measure => omega
          case rel => exact ⟨rfl, 1, by omega, by omega, rfl⟩
        · go_wp2_with fail
          go_ret
          exact ⟨rfl, rfl⟩
        · omega
  · rw [orC_n b ha]
    have haq : (a != 0) = true := by simpa using ha
    clear ha
    go_enter Tryd.func87, Tryd.ntmps87
    go_wp2_with fail
    go_loopg [5, 8] 3 (fun gk x i wr => w = wr ∧ i = .int .i64 0)
    case atStart => exact ⟨rfl, rfl⟩
    case round =>
      obtain ⟨rfl, rfl⟩ := hrel
      go_wp2_with fail
      go_ret
      exact ⟨rfl, rfl⟩
/-- The first of two errors. -/
theorem ore_any (a b : Int) (g cap : Nat) (t : TypeId) (w : World) (hB : Blk w g t #[.int .i64 a, .int .i64 b]) : Calls Tryd.prog 67 #[.slice (some ⟨g, 0, none⟩) 2 cap] w fun e w' => e = .returned (.int .i64 (orC a b)) ∧ w = w' := by
  have hc := hB.cell
  have hlt := hB.lt
  clear hB
  have hc0 := hc 0
  have hc1 := hc 1
  clear hc
  by_cases ha : a = 0
  · subst ha
    rw [orC_0]
    by_cases hb : b = 0
    · subst hb
      go_enter Tryd.func67, Tryd.ntmps67
      go_wp2_with fail
      go_loopg [5, 8] 3 (fun gk x i wr => w = wr ∧ ∃ j : Nat, j ≤ 2 ∧ gk + j = 3 ∧ i = .int .i64 j)
      case atStart => exact ⟨rfl, 0, by omega, by omega, rfl⟩
      case round =>
        obtain ⟨rfl, j, hj, hg, rfl⟩ := hrel
        obtain ⟨gk', rfl⟩ : ∃ g, gk = g + 1 := ⟨gk - 1, by omega⟩
        rcases j with _ | _ | _ | j
        · go_wp2_with fail
          go_roundg gk'
          case measure => omega
          case rel => exact ⟨rfl, 1, by omega, by omega, rfl⟩
        · go_wp2_with fail
          go_roundg gk'
          case measure => omega
          case rel => exact ⟨rfl, 2, by omega, by omega, rfl⟩
        · go_wp2_with fail
          go_ret
          exact ⟨rfl, rfl⟩
        · omega
    · have hbq : (b != 0) = true := by simpa using hb
      clear hb
      go_enter Tryd.func67, Tryd.ntmps67
      go_wp2_with fail
      go_loopg [5, 8] 3 (fun gk x i wr => w = wr ∧ ∃ j : Nat, j ≤ 1 ∧ gk + j = 3 ∧ i = .int .i64 j)
      case atStart => exact ⟨rfl, 0, by omega, by omega, rfl⟩
      case round =>
        obtain ⟨rfl, j, hj, hg, rfl⟩ := hrel
        obtain ⟨gk', rfl⟩ : ∃ g, gk = g + 1 := ⟨gk - 1, by omega⟩
        rcases j with _ | _ | j
        · go_wp2_with fail
          go_roundg gk'
          case measure => omega
          case rel => exact ⟨rfl, 1, by omega, by omega, rfl⟩
        · go_wp2_with fail
          go_ret
          exact ⟨rfl, rfl⟩
        · omega
  · rw [orC_n b ha]
    have haq : (a != 0) = true := by simpa using ha
    clear ha
    go_enter Tryd.func67, Tryd.ntmps67
    go_wp2_with fail
    go_loopg [5, 8] 3 (fun gk x i wr => w = wr ∧ i = .int .i64 0)
    case atStart => exact ⟨rfl, rfl⟩
    case round =>
      obtain ⟨rfl, rfl⟩ := hrel
      go_wp2_with fail
      go_ret
      exact ⟨rfl, rfl⟩
/-- A call that leaves the world, in a quiet region behind a quiet region. -/
theorem quiet_again {P : Program} {f : FuncId} {args : Array Value} {w : World} {a n : Nat} {v : Value} (h : Calls P f args (w.drewN (a + n)) fun e w' => e = .returned v ∧ w.drewN (a + n) = w') :
    Calls P f args (w.drewN (a + n)) fun e w'' => e = .returned v ∧ ∃ m, w'' = w.drewN (a + m) := h.mono fun _ _ q => ⟨q.1, n, q.2.symm⟩
/-- Bytes held against one another, from a place on up to which they are alike. -/
theorem cmpB_at {a b : List UInt8} {j : Nat} (h : a.take j = b.take j) (h1 : j < a.length) (h2 : j < b.length) (hne : a[j] ≠ b[j]) : Lib.compareBytes a b = sg (a[j].toNat : Int) (b[j].toNat : Int) := by
  have e1 : a = a.take j ++ a[j] :: a.drop (j + 1) := by rw [← List.drop_eq_getElem_cons h1, List.take_append_drop]
  have e2 : b = a.take j ++ b[j] :: b.drop (j + 1) := by rw [h, ← List.drop_eq_getElem_cons h2, List.take_append_drop]
  generalize a[j] = x at e1 hne ⊢
  generalize b[j] = y at e2 hne ⊢
  rw [e1, e2, cmpB_left]
  exact (Diff.here hne _ _).cmp
theorem cmpB_end {a b : List UInt8} (h : a.take (min a.length b.length) = b.take (min a.length b.length)) : Lib.compareBytes a b = sg (a.length : Int) (b.length : Int) := by
  rcases Nat.le_total a.length b.length with hl | hl
  · rw [Nat.min_eq_left hl, List.take_length] at h
    have e : b = a ++ b.drop a.length := by rw [h, List.length_take, Nat.min_eq_left hl, List.take_append_drop]
    obtain ⟨r, hr⟩ : ∃ r, b.drop a.length = r := ⟨_, rfl⟩
    rw [hr] at e
    subst e
    have : Lib.compareBytes a (a ++ r) = Lib.compareBytes [] r := by have := cmpB_left a [] r; rwa [List.append_nil] at this
    rw [this]
    cases r with
    | nil => simp [Lib.compareBytes, sg]
    | cons x r => rw [Lib.compareBytes, sg_lt (by simp; omega)]
  · rw [Nat.min_eq_right hl, List.take_length] at h
    have e : a = b ++ a.drop b.length := by rw [← h, List.length_take, Nat.min_eq_left hl, List.take_append_drop]
    obtain ⟨r, hr⟩ : ∃ r, a.drop b.length = r := ⟨_, rfl⟩
    rw [hr] at e
    subst e
    have : Lib.compareBytes (b ++ r) b = Lib.compareBytes r [] := by have := cmpB_left b r []; rwa [List.append_nil] at this
    rw [this]
    cases r with
    | nil => simp [Lib.compareBytes, sg]
    | cons x r => rw [Lib.compareBytes, sg_gt (by simp; omega)]
end Go.Proofs.YtcdbchifigonpaaDoor
