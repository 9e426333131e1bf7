/- Walks: Utf of the document's answer. Written by wip/tools/gen_utf.py. -/
import Derived.Test.YtfkljmhpcdplhaaDoorRefs
import Derived.Test.YtfkljmhpcdplhaaDoorPls
import Derived.LoopN
namespace Go.Proofs.YtfkljmhpcdplhaaDoor
open Go.RowKit

theorem getD_drop (b : List UInt8) (i k : Nat) : (b.drop i).getD k 0 = b.getD (i + k) 0 := by
  simp [List.getD_eq_getElem?_getD, List.getElem?_drop]
theorem InB.cellD {w : World} {bk o : Nat} {b : List UInt8} (h : InB w (some ⟨bk, o, none⟩) b) (j : Nat) (hj : j < b.length) : w.cell? ⟨bk, o + j, none⟩ = some (.int .u8 ((b.getD j 0).toNat : Int)) := by
  obtain ⟨bk', o', e, _, hc⟩ := h.at_ j hj
  injection e with e
  injection e with e1 e2
  subst e1 e2
  rw [hc, List.getD_eq_getElem?_getD, List.getElem?_eq_getElem hj]
  rfl

set_option maxRecDepth 100000 in
set_option maxHeartbeats 3200000 in
theorem utf_any (b : List UInt8) (A : Option Addr) (cap : Nat) (w : World) (hb : InB w A b) (hl : b.length ≤ 140737488355328) :
    Calls Tryd.prog 76 #[.slice A b.length cap] w fun e w' => e = .returned (.bool (Lib.validD b)) ∧ w = w' := by
  have HB := hide hb
  clear hb
  obtain ⟨ANS, hANS⟩ : ∃ A, A = Lib.validD b := ⟨_, rfl⟩
  rw [← hANS]
  have HA := hide hANS
  clear hANS
  go_enter Tryd.func76, Tryd.ntmps76
  go_wp2_with fail
  go_loopg [3] (b.length + 1) (fun gk i wr => w = wr ∧ ∃ j : Nat, j ≤ b.length ∧ b.length < gk + j ∧ i = .int .i64 j ∧ ANS = Lib.validD (b.drop j))
  case atStart => exact ⟨rfl, 0, by omega, by omega, rfl, by simpa using HA.out⟩
  case round =>
    obtain ⟨rfl, j, hj, hg, rfl, hv⟩ := hrel
    by_cases hlt : j < b.length
    · obtain ⟨bk, o, rfl, hbk, hc00⟩ := HB.out.at_ j hlt
      clear hc00
      have hne : b.drop j ≠ [] := fun h => by have := congrArg List.length h; rw [List.length_drop, List.length_nil] at this; omega
      have ga := utf_ascii (b.drop j) hne
      have gb := utf_bad (b.drop j) hne
      have g2 := utf_two (b.drop j) hne
      have g3 := utf_three (b.drop j) hne
      have g4 := utf_four (b.drop j) hne
      simp only [getD_drop, Nat.add_zero, List.length_drop, List.drop_drop] at ga gb g2 g3 g4
      rw [← hv] at ga gb g2 g3 g4
      have c0 := HB.out.cellD j hlt
      have c1 := HB.out.cellD (j + 1)
      have c2 := HB.out.cellD (j + 2)
      have c3 := HB.out.cellD (j + 3)
      have l0 := (b.getD j 0).toNat_lt
      have l1 := (b.getD (j + 1) 0).toNat_lt
      have l2 := (b.getD (j + 2) 0).toNat_lt
      have l3 := (b.getD (j + 3) 0).toNat_lt
      obtain ⟨x0, hx0⟩ : ∃ x, x = (b.getD j 0).toNat := ⟨_, rfl⟩
      obtain ⟨x1, hx1⟩ : ∃ x, x = (b.getD (j + 1) 0).toNat := ⟨_, rfl⟩
      obtain ⟨x2, hx2⟩ : ∃ x, x = (b.getD (j + 2) 0).toNat := ⟨_, rfl⟩
      obtain ⟨x3, hx3⟩ : ∃ x, x = (b.getD (j + 3) 0).toNat := ⟨_, rfl⟩
      rw [← hx0] at ga gb g2 g3 g4 c0 l0
      rw [← hx1] at g2 g3 g4 c1 l1
      rw [← hx2] at g3 g4 c2 l2
      rw [← hx3] at g4 c3 l3
      clear hx0 hx1 hx2 hx3 hne hv
      by_cases k1 : x0 < 128
      · have HV := hide (ga k1)
        clear ga gb g2 g3 g4 c1 c2 c3
        go_wp2_with fail
        refine wp_loop_rounds 1 ?_
        rw [rounds_succ]
        go_wp2_with fail
        obtain ⟨g', rfl⟩ : ∃ g, gk = g + 1 := ⟨gk - 1, by omega⟩
        go_roundg g'
        case measure => omega
        case rel => exact ⟨rfl, j + 1, by omega, by omega, by go_num, HV.out⟩
      by_cases k2 : x0 < 192 ∨ 248 ≤ x0
      · rcases k2 with k2 | k2
        all_goals
          have HV := hide (gb (by omega) (by omega))
          clear ga gb g2 g3 g4 c1 c2 c3
          go_wp2_with fail
          go_ret
          exact ⟨ret_bool HV.out.symm, rfl⟩
      have k2 : 192 ≤ x0 ∧ x0 < 248 := by omega
      obtain ⟨k3, k4⟩ := k2
      by_cases k5 : x0 < 224
      · have q := g2 (by omega) (by omega)
        by_cases n0 : b.length < j + 2
        · have HV := hide (q.trans (if_neg (by omega)))
          clear q
          clear ga gb g2 g3 g4 c1 c2 c3
          go_wp2_with fail
          go_ret
          exact ⟨ret_bool HV.out.symm, rfl⟩
        by_cases m1a : x1 < 128
        · have d1 := c1 (by omega)
          have HV := hide (q.trans (if_neg (by omega)))
          clear q
          clear ga gb g2 g3 g4 c1 c2 c3
          go_wp2_with fail
          refine wp_loop_rounds 1 ?_
          rw [rounds_succ]
          go_wp2_with fail
          go_ret
          exact ⟨ret_bool HV.out.symm, rfl⟩
        by_cases m1b : 192 ≤ x1
        · have d1 := c1 (by omega)
          have HV := hide (q.trans (if_neg (by omega)))
          clear q
          clear ga gb g2 g3 g4 c1 c2 c3
          go_wp2_with fail
          refine wp_loop_rounds 1 ?_
          rw [rounds_succ]
          go_wp2_with fail
          go_ret
          exact ⟨ret_bool HV.out.symm, rfl⟩
        by_cases v0 : (((x0 : Int) - 192) * 64 + (x1 : Int) - 128) < 128
        · have d1 := c1 (by omega)
          have HV := hide (q.trans (if_neg (by omega)))
          clear q
          clear ga gb g2 g3 g4 c1 c2 c3
          go_wp2_with fail
          refine wp_loop_rounds 2 ?_
          rw [rounds_succ]
          go_wp2_with fail
          rw [rounds_succ]
          go_wp2_with fail
          go_ret
          exact ⟨ret_bool HV.out.symm, rfl⟩
        have d1 := c1 (by omega)
        have HV := hide (q.trans (if_pos (by omega)))
        clear q
        clear ga gb g2 g3 g4 c1 c2 c3
        go_wp2_with fail
        refine wp_loop_rounds 2 ?_
        rw [rounds_succ]
        go_wp2_with fail
        rw [rounds_succ]
        go_wp2_with fail
        obtain ⟨g', rfl⟩ : ∃ g, gk = g + 1 := ⟨gk - 1, by omega⟩
        go_roundg g'
        case measure => omega
        case rel => exact ⟨rfl, j + 2, by omega, by omega, by go_num, HV.out⟩
      by_cases k6 : x0 < 240
      · have q := g3 (by omega) (by omega)
        by_cases n0 : b.length < j + 3
        · have HV := hide (q.trans (if_neg (by omega)))
          clear q
          clear ga gb g2 g3 g4 c1 c2 c3
          go_wp2_with fail
          go_ret
          exact ⟨ret_bool HV.out.symm, rfl⟩
        by_cases m1a : x1 < 128
        · have d1 := c1 (by omega)
          have HV := hide (q.trans (if_neg (by omega)))
          clear q
          clear ga gb g2 g3 g4 c1 c2 c3
          go_wp2_with fail
          refine wp_loop_rounds 1 ?_
          rw [rounds_succ]
          go_wp2_with fail
          go_ret
          exact ⟨ret_bool HV.out.symm, rfl⟩
        by_cases m1b : 192 ≤ x1
        · have d1 := c1 (by omega)
          have HV := hide (q.trans (if_neg (by omega)))
          clear q
          clear ga gb g2 g3 g4 c1 c2 c3
          go_wp2_with fail
          refine wp_loop_rounds 1 ?_
          rw [rounds_succ]
          go_wp2_with fail
          go_ret
          exact ⟨ret_bool HV.out.symm, rfl⟩
        by_cases m2a : x2 < 128
        · have d1 := c1 (by omega)
          have d2 := c2 (by omega)
          have HV := hide (q.trans (if_neg (by omega)))
          clear q
          clear ga gb g2 g3 g4 c1 c2 c3
          go_wp2_with fail
          refine wp_loop_rounds 2 ?_
          rw [rounds_succ]
          go_wp2_with fail
          rw [rounds_succ]
          go_wp2_with fail
          go_ret
          exact ⟨ret_bool HV.out.symm, rfl⟩
        by_cases m2b : 192 ≤ x2
        · have d1 := c1 (by omega)
          have d2 := c2 (by omega)
          have HV := hide (q.trans (if_neg (by omega)))
          clear q
          clear ga gb g2 g3 g4 c1 c2 c3
          go_wp2_with fail
          refine wp_loop_rounds 2 ?_
          rw [rounds_succ]
          go_wp2_with fail
          rw [rounds_succ]
          go_wp2_with fail
          go_ret
          exact ⟨ret_bool HV.out.symm, rfl⟩
        by_cases v0 : ((((x0 : Int) - 224) * 64 + (x1 : Int) - 128) * 64 + (x2 : Int) - 128) < 2048
        · have d1 := c1 (by omega)
          have d2 := c2 (by omega)
          have HV := hide (q.trans (if_neg (by omega)))
          clear q
          clear ga gb g2 g3 g4 c1 c2 c3
          go_wp2_with fail
          refine wp_loop_rounds 3 ?_
          rw [rounds_succ]
          go_wp2_with fail
          rw [rounds_succ]
          go_wp2_with fail
          rw [rounds_succ]
          go_wp2_with fail
          go_ret
          exact ⟨ret_bool HV.out.symm, rfl⟩
        by_cases v2 : 55296 ≤ ((((x0 : Int) - 224) * 64 + (x1 : Int) - 128) * 64 + (x2 : Int) - 128)
        · by_cases v3 : ((((x0 : Int) - 224) * 64 + (x1 : Int) - 128) * 64 + (x2 : Int) - 128) ≤ 57343
          · have d1 := c1 (by omega)
            have d2 := c2 (by omega)
            have HV := hide (q.trans (if_neg (by omega)))
            clear q
            clear ga gb g2 g3 g4 c1 c2 c3
            go_wp2_with fail
            refine wp_loop_rounds 3 ?_
            rw [rounds_succ]
            go_wp2_with fail
            rw [rounds_succ]
            go_wp2_with fail
            rw [rounds_succ]
            go_wp2_with fail
            go_ret
            exact ⟨ret_bool HV.out.symm, rfl⟩
          · have d1 := c1 (by omega)
            have d2 := c2 (by omega)
            have HV := hide (q.trans (if_pos (by omega)))
            clear q
            clear ga gb g2 g3 g4 c1 c2 c3
            go_wp2_with fail
            refine wp_loop_rounds 3 ?_
            rw [rounds_succ]
            go_wp2_with fail
            rw [rounds_succ]
            go_wp2_with fail
            rw [rounds_succ]
            go_wp2_with fail
            obtain ⟨g', rfl⟩ : ∃ g, gk = g + 1 := ⟨gk - 1, by omega⟩
            go_roundg g'
            case measure => omega
            case rel => exact ⟨rfl, j + 3, by omega, by omega, by go_num, HV.out⟩
        · have d1 := c1 (by omega)
          have d2 := c2 (by omega)
          have HV := hide (q.trans (if_pos (by omega)))
          clear q
          clear ga gb g2 g3 g4 c1 c2 c3
          go_wp2_with fail
          refine wp_loop_rounds 3 ?_
          rw [rounds_succ]
          go_wp2_with fail
          rw [rounds_succ]
          go_wp2_with fail
          rw [rounds_succ]
          go_wp2_with fail
          obtain ⟨g', rfl⟩ : ∃ g, gk = g + 1 := ⟨gk - 1, by omega⟩
          go_roundg g'
          case measure => omega
          case rel => exact ⟨rfl, j + 3, by omega, by omega, by go_num, HV.out⟩
      have q := g4 (by omega) (by omega)
      by_cases n0 : b.length < j + 4
      · have HV := hide (q.trans (if_neg (by omega)))
        clear q
        clear ga gb g2 g3 g4 c1 c2 c3
        go_wp2_with fail
        go_ret
        exact ⟨ret_bool HV.out.symm, rfl⟩
      by_cases m1a : x1 < 128
      · have d1 := c1 (by omega)
        have HV := hide (q.trans (if_neg (by omega)))
        clear q
        clear ga gb g2 g3 g4 c1 c2 c3
        go_wp2_with fail
        refine wp_loop_rounds 1 ?_
        rw [rounds_succ]
        go_wp2_with fail
        go_ret
        exact ⟨ret_bool HV.out.symm, rfl⟩
      by_cases m1b : 192 ≤ x1
      · have d1 := c1 (by omega)
        have HV := hide (q.trans (if_neg (by omega)))
        clear q
        clear ga gb g2 g3 g4 c1 c2 c3
        go_wp2_with fail
        refine wp_loop_rounds 1 ?_
        rw [rounds_succ]
        go_wp2_with fail
        go_ret
        exact ⟨ret_bool HV.out.symm, rfl⟩
      by_cases m2a : x2 < 128
      · have d1 := c1 (by omega)
        have d2 := c2 (by omega)
        have HV := hide (q.trans (if_neg (by omega)))
        clear q
        clear ga gb g2 g3 g4 c1 c2 c3
        go_wp2_with fail
        refine wp_loop_rounds 2 ?_
        rw [rounds_succ]
        go_wp2_with fail
        rw [rounds_succ]
        go_wp2_with fail
        go_ret
        exact ⟨ret_bool HV.out.symm, rfl⟩
      by_cases m2b : 192 ≤ x2
      · have d1 := c1 (by omega)
        have d2 := c2 (by omega)
        have HV := hide (q.trans (if_neg (by omega)))
        clear q
        clear ga gb g2 g3 g4 c1 c2 c3
        go_wp2_with fail
        refine wp_loop_rounds 2 ?_
        rw [rounds_succ]
        go_wp2_with fail
        rw [rounds_succ]
        go_wp2_with fail
        go_ret
        exact ⟨ret_bool HV.out.symm, rfl⟩
      by_cases m3a : x3 < 128
      · have d1 := c1 (by omega)
        have d2 := c2 (by omega)
        have d3 := c3 (by omega)
        have HV := hide (q.trans (if_neg (by omega)))
        clear q
        clear ga gb g2 g3 g4 c1 c2 c3
        go_wp2_with fail
        refine wp_loop_rounds 3 ?_
        rw [rounds_succ]
        go_wp2_with fail
        rw [rounds_succ]
        go_wp2_with fail
        rw [rounds_succ]
        go_wp2_with fail
        go_ret
        exact ⟨ret_bool HV.out.symm, rfl⟩
      by_cases m3b : 192 ≤ x3
      · have d1 := c1 (by omega)
        have d2 := c2 (by omega)
        have d3 := c3 (by omega)
        have HV := hide (q.trans (if_neg (by omega)))
        clear q
        clear ga gb g2 g3 g4 c1 c2 c3
        go_wp2_with fail
        refine wp_loop_rounds 3 ?_
        rw [rounds_succ]
        go_wp2_with fail
        rw [rounds_succ]
        go_wp2_with fail
        rw [rounds_succ]
        go_wp2_with fail
        go_ret
        exact ⟨ret_bool HV.out.symm, rfl⟩
      by_cases v0 : (((((x0 : Int) - 240) * 64 + (x1 : Int) - 128) * 64 + (x2 : Int) - 128) * 64 + (x3 : Int) - 128) < 65536
      · have d1 := c1 (by omega)
        have d2 := c2 (by omega)
        have d3 := c3 (by omega)
        have HV := hide (q.trans (if_neg (by omega)))
        clear q
        clear ga gb g2 g3 g4 c1 c2 c3
        go_wp2_with fail
        refine wp_loop_rounds 4 ?_
        rw [rounds_succ]
        go_wp2_with fail
        rw [rounds_succ]
        go_wp2_with fail
        rw [rounds_succ]
        go_wp2_with fail
        rw [rounds_succ]
        go_wp2_with fail
        go_ret
        exact ⟨ret_bool HV.out.symm, rfl⟩
      by_cases v1 : 1114111 < (((((x0 : Int) - 240) * 64 + (x1 : Int) - 128) * 64 + (x2 : Int) - 128) * 64 + (x3 : Int) - 128)
      · have d1 := c1 (by omega)
        have d2 := c2 (by omega)
        have d3 := c3 (by omega)
        have HV := hide (q.trans (if_neg (by omega)))
        clear q
        clear ga gb g2 g3 g4 c1 c2 c3
        go_wp2_with fail
        refine wp_loop_rounds 4 ?_
        rw [rounds_succ]
        go_wp2_with fail
        rw [rounds_succ]
        go_wp2_with fail
        rw [rounds_succ]
        go_wp2_with fail
        rw [rounds_succ]
        go_wp2_with fail
        go_ret
        exact ⟨ret_bool HV.out.symm, rfl⟩
      have d1 := c1 (by omega)
      have d2 := c2 (by omega)
      have d3 := c3 (by omega)
      have HV := hide (q.trans (if_pos (by omega)))
      clear q
      clear ga gb g2 g3 g4 c1 c2 c3
      go_wp2_with fail
      refine wp_loop_rounds 4 ?_
      rw [rounds_succ]
      go_wp2_with fail
      rw [rounds_succ]
      go_wp2_with fail
      rw [rounds_succ]
      go_wp2_with fail
      rw [rounds_succ]
      go_wp2_with fail
      obtain ⟨g', rfl⟩ : ∃ g, gk = g + 1 := ⟨gk - 1, by omega⟩
      go_roundg g'
      case measure => omega
      case rel => exact ⟨rfl, j + 4, by omega, by omega, by go_num, HV.out⟩
    · obtain rfl : j = b.length := by omega
      have HV := hide hv
      clear hv hg hlt
      go_wp2_with fail
      go_ret
      exact ⟨ret_bool (by rw [HV.out, List.drop_length]; rfl), rfl⟩
end Go.Proofs.YtfkljmhpcdplhaaDoor
