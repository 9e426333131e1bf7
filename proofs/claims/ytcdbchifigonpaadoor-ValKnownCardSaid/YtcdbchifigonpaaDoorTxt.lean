/- Walks: the laws' own makers of values; bytes as texts. -/
import Derived.Test.YtcdbchifigonpaaDoorCatchG
import Derived.Test.YtcdbchifigonpaaDoorGood
import Derived.Deep.RegionHeld3
set_option linter.unusedVariables false
set_option linter.unusedSimpArgs false
namespace Go.Proofs.YtcdbchifigonpaaDoor
open Go.RowKit Go.Shelf

theorem conv_bytes2 (w : World) (s : ByteArray) : ∃ c W, (convert 9 23 (.string s)).run Tryd.prog w = .ok (.slice (some ⟨w.heap.size, 0, none⟩) s.size c) W ∧ s.size ≤ c ∧ Grow w W ∧ InB W (some ⟨w.heap.size, 0, none⟩) s.data.toList := by
  have hg : Grow w (Lib.bytesWorld w 5 s) := Go.Joins.below_bytesWorld _ w _ s (Nat.le_refl _)
  refine ⟨_, _, Lib.run_convert_string_bytes w _ _ 5 s under_string under_u8s under_u8, grownCap_ge _ _ _ _, hg, ?_, ?_⟩
  · simp [u8s]
  · intro h0
    refine ⟨_, _, rfl, fun j u hu => ?_⟩
    have hj : j < s.data.toList.length := by
      have := (List.getElem?_eq_some_iff.1 hu).1
      simpa [u8s] using this
    have hj' : j < s.size := by simpa using hj
    rw [u8s_get _ j hj] at hu
    injection hu with hu
    subst hu
    refine ⟨?_, by simp, by rw [Lib.bytesWorld_size]; simp⟩
    rw [show (0 : Nat) + j = j by omega, Lib.bytesWorld_cell w _ s j hj', List.getD_eq_getElem?_getD, List.getElem?_eq_getElem hj]
    rfl

theorem In.num {w : World} (k : Int) (n : Nat) (h1 : -9223372036854775808 ≤ k) (h2 : k ≤ 9223372036854775807) (hn : n < 18446744073709551616) : In w (.mk k n [] [] []) ⟨k, n, none, 0, 0, none, 0, 0, none, 0, 0⟩ := by
  unfold In
  rw [IsV]
  refine ⟨rfl, rfl, rfl, rfl, rfl, h1, h2, hn, by simp, by simp, by simp, by simp, by simp, by simp, ⟨by simp [u8s], fun h => by simp at h⟩, fun i h => absurd h (by simp), fun i h => absurd h (by simp)⟩
theorem In.raw {w : World} (k : Int) (A : Option Addr) (c : Nat) (b : List UInt8) (h1 : -9223372036854775808 ≤ k) (h2 : k ≤ 9223372036854775807) (hb : InB w A b) (hc : b.length ≤ c) (hl : b.length ≤ 140737488355328) : In w (.mk k 0 b [] []) ⟨k, 0, A, b.length, c, none, 0, 0, none, 0, 0⟩ := by
  unfold In
  rw [IsV]
  exact ⟨rfl, rfl, rfl, rfl, rfl, h1, h2, by omega, hc, hl, by simp, by simp, by simp, by simp, hb, fun i h => absurd h (by simp), fun i h => absurd h (by simp)⟩

theorem cellres {F : Func} {W : World} {vb : Nat} {tmps : Array Value} (hF : F.results = #[ResultVar.cell 2 37]) (h2 : tmps.getD 2 undef = .pointer (some ⟨vb, 0, none⟩)) (c : Cv) (hv : Blk W vb 37 c.cells) :
    (results F tmps).run Tryd.prog W = .ok c.agg W := by
  have hvc := hv.cell
  have h2' : tmps[2]?.getD undef = .pointer (some ⟨vb, 0, none⟩) := by simpa using h2
  simp [results, hF, go_sem, h2', hvc]

set_option maxHeartbeats 400000 in
theorem I_neg (w : World) : Calls Tryd.prog 23 #[.int .i64 (-1)] w fun e w' => e = .returned (Cv.agg ⟨3, ((18446744073709551615 : Nat) : Int), none, 0, 0, none, 0, 0, none, 0, 0⟩) ∧ Grow w w' := by
  have hwr : IntKind.u64.wrap (-1) = ((18446744073709551615 : Nat) : Int) := by decide +kernel
  have HW := hide hwr
  clear hwr
  go_enter Tryd.func23, Tryd.ntmps23
  go_wp2_with fail
  exact bodyPost_ret (cellres rfl rfl ⟨3, ((18446744073709551615 : Nat) : Int), none, 0, 0, none, 0, 0, none, 0, 0⟩ (Blk.new w _ _)) rfl ⟨rfl, (Grow.refl w).alloc _⟩

set_option maxHeartbeats 400000 in
theorem T_any (s : ByteArray) (w : World) (hs : s.size ≤ 140737488355328) : Calls Tryd.prog 38 #[.string s] w fun e w' => ∃ A c, e = .returned (Cv.agg ⟨5, 0, A, s.size, c, none, 0, 0, none, 0, 0⟩) ∧ In w' (.mk 5 0 s.data.toList [] []) ⟨5, 0, A, s.size, c, none, 0, 0, none, 0, 0⟩ ∧ Grow w w' := by
  obtain ⟨c, W, hrun, hc, hg, hin⟩ := conv_bytes2 (w.alloc (.cells Cv.zero.cells 37)) s
  have HIN := hide hin
  have HG := hide (((Grow.refl w).alloc _).trans hg)
  have hB := (Blk.new w 37 Cv.zero.cells).grow hg
  have hcell := hB.cell
  have hfr := hB.frozen
  have HB := hide hB
  rw [show (w.alloc (.cells Cv.zero.cells 37)).heap.size = w.heap.size + 1 by simp] at hrun HIN
  clear hg hin hB
  go_enter Tryd.func38, Tryd.ntmps38
  go_wp2_with fail
  refine bodyPost_ret (cellres rfl rfl ⟨5, 0, some ⟨w.heap.size + 1, 0, none⟩, s.size, c, none, 0, 0, none, 0, 0⟩ (set5_from (c := ⟨5, 0, some ⟨w.heap.size + 1, 0, none⟩, s.size, c, none, 0, 0, none, 0, 0⟩) HB.out)) rfl ⟨_, c, rfl, ?_, HG.out.grown (set5_grown W w.heap.size ⟨5, 0, some ⟨w.heap.size + 1, 0, none⟩, s.size, c, none, 0, 0, none, 0, 0⟩) (fun k e => by injection e with e; omega)⟩
  have hl : s.data.toList.length = s.size := by simp
  have hgr := set5_grown W w.heap.size ⟨5, 0, some ⟨w.heap.size + 1, 0, none⟩, s.size, c, none, 0, 0, none, 0, 0⟩
  have := In.raw (w := set5 W w.heap.size ⟨5, 0, some ⟨w.heap.size + 1, 0, none⟩, s.size, c, none, 0, 0, none, 0, 0⟩) 5 (some ⟨w.heap.size + 1, 0, none⟩) c s.data.toList (by omega) (by omega) (by
    refine ⟨HIN.out.1, fun hn => ?_⟩
    obtain ⟨bk, o, e, hcl⟩ := HIN.out.2 hn
    refine ⟨bk, o, e, fun j u hu => ?_⟩
    injection e with e
    injection e with e1 e2
    have := hcl j u hu
    exact ⟨World.grownBy.cell hgr this.1 (fun e => by have e3 := Option.some.inj e; dsimp only at e3; omega), Nat.zero_le _, Nat.lt_of_lt_of_le this.2.2 hgr.size⟩) (by omega) (by omega)
  rw [hl] at this
  exact this

/-- The two values that awake sends. -/
def vNeg : V := .mk 3 18446744073709551615 [] [] []
def vA : V := .mk 5 0 [97] [] []
theorem vNeg_bytes : vNeg.bytes = [3, 255, 255, 255, 255, 255, 255, 255, 255] := by
  unfold vNeg
  rw [V.bytes_mk]
  decide +kernel
theorem vA_bytes : vA.bytes = [5, 1, 0, 97] := by
  unfold vA
  rw [V.bytes_mk]
  decide +kernel
theorem vNeg_good : vNeg.good = 0 := by
  refine good_iff.2 ⟨?_, ?_, ?_, ?_⟩
  · unfold vNeg; rw [V.formed_mk]; decide
  · unfold vNeg; rw [V.most_mk]; decide
  · unfold vNeg; rw [V.depth_mk]; decide
  · rw [vNeg_bytes]; decide
theorem vA_good : vA.good = 0 := by
  refine good_iff.2 ⟨?_, ?_, ?_, ?_⟩
  · unfold vA; rw [V.formed_mk]; decide +kernel
  · unfold vA; rw [V.most_mk]; decide
  · unfold vA; rw [V.depth_mk]; decide
  · rw [vA_bytes]; decide
theorem vNeg_count : vNeg.count = 1 := by unfold vNeg; rw [V.count_mk]; rfl
theorem vA_read : rdAll [5, 1, 0, 97] = .ok vA := by
  have h := rdAll_good (v := vA) (by unfold vA; rw [V.fit]; simp) vA_good
  rwa [vA_bytes] at h

theorem T_a (w : World) : Calls Tryd.prog 38 #[.string ⟨#[97]⟩] w fun e w' => ∃ A c, e = .returned (Cv.agg ⟨5, 0, A, 1, c, none, 0, 0, none, 0, 0⟩) ∧ In w' vA ⟨5, 0, A, 1, c, none, 0, 0, none, 0, 0⟩ ∧ Grow w w' :=
  T_any ⟨#[97]⟩ w (by decide)
theorem InB.blk {w : World} {g : Nat} {t : TypeId} {xs : List UInt8} (h : Blk w g t (u8s xs).toArray) : InB w (some ⟨g, 0, none⟩) xs :=
  ⟨by simp [u8s], fun _ => ⟨g, 0, rfl, fun j u hu => ⟨by rw [Nat.zero_add, h.cell j]; simpa using hu, Nat.zero_le _, h.lt⟩⟩⟩
/-- A row of bytes of the call's own as a string. -/
theorem conv_row {w : World} {base m c : Nat} {A : Option Addr} {xs : List UInt8} (h : Row w base (.slice A m c) m xs) : (convert 23 9 (.slice A m c)).run Tryd.prog w = .ok (.string ⟨xs.toArray⟩) w :=
  conv_bstr (lo := base) (hi := w.heap.size) h.reads.2 h.from
end Go.Proofs.YtcdbchifigonpaaDoor
