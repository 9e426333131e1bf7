/- Walks: how many frames stand at some bytes' beginning, by the program and by the document's answer. -/
import Derived.Test.YtojpeiihkjpeoaaDoorFrame
import Derived.Test.YtojpeiihkjpeoaaDoorLib2
set_option linter.unusedVariables false
set_option linter.unusedSimpArgs false
namespace Go.Proofs.YtojpeiihkjpeoaaDoor
open Go.RowKit

theorem InB.take {w : World} {A : Option Addr} {b : List UInt8} (h : InB w A b) (k : Nat) : InB w A (b.take k) := by
  refine ⟨by simp [u8s], fun h0 => ?_⟩
  obtain ⟨bk, o, e, hc⟩ := h.2 (by rw [List.length_take] at h0; omega)
  refine ⟨bk, o, e, fun j u hu => hc j u ?_⟩
  unfold u8s at hu ⊢
  rw [List.map_take] at hu
  rw [List.getElem?_take] at hu
  split at hu
  · exact hu
  · cases hu
/-- The bytes from a place on. -/
theorem InB.rest {w : World} {A : Option Addr} {b : List UInt8} (h : InB w A b) (k cap : Nat) (hk : k ≤ b.length) (hc : b.length ≤ cap) : InB w (if cap = k then A else A.map (·.add k)) (b.drop k) := by
  have := Reads.drop_ h k cap hk hc
  unfold InB
  rw [List.length_drop, u8s_drop]
  exact this

/-- So far k frames have been met; the rest tells the whole. -/
def SplitTo (b : List UInt8) (k : Nat) (rest : List UInt8) : Prop := split b = (k + (split rest).1, (split rest).2)
theorem SplitTo.start (b : List UInt8) : SplitTo b 0 b := by unfold SplitTo; rw [Nat.zero_add]
theorem SplitTo.step {b rest : List UInt8} {k : Nat} (h : SplitTo b k rest) (hr : 0 < rest.length) (h0 : (head rest).2 = 0) : SplitTo b (k + 1) (rest.drop (head rest).1) := by
  unfold SplitTo at h ⊢
  rw [h, split_step (List.length_pos_iff.1 hr) h0]
  simp only [Prod.mk.injEq, and_true]
  omega
theorem SplitTo.stop {b rest : List UInt8} {k n : Nat} {e : Int} (h : SplitTo b k rest) (hr : 0 < rest.length) (hh : head rest = (n, e)) (h0 : e ≠ 0) : split b = (k, rest.length, e) := by
  rw [h, split_end (List.length_pos_iff.1 hr) (by rw [hh]; exact h0), hh]; rfl
theorem SplitTo.done {b rest : List UInt8} {k : Nat} (h : SplitTo b k rest) (hr : rest.length = 0) : split b = (k, 0, 0) := by
  rw [List.length_eq_zero_iff.1 hr] at h
  rw [h, split_nil]; rfl

def SplitC (w : World) (b : List UInt8) (e : Ending) (w' : World) : Prop :=
  e = .returned (.tuple #[.int .i64 ((split b).1 : Nat), .int .i64 ((split b).2.1 : Nat), .int .i64 (split b).2.2]) ∧ Grow w w'
theorem SplitC.of {w w' : World} {b : List UInt8} {k m : Nat} {e : Int} (h : split b = (k, m, e)) (hg : Grow w w') : SplitC w b (.returned (.tuple #[.int .i64 k, .int .i64 m, .int .i64 e])) w' := by
  unfold SplitC; rw [h]; exact ⟨rfl, hg⟩

set_option maxRecDepth 100000 in
set_option maxHeartbeats 1600000 in
theorem split_any (b : List UInt8) (A : Option Addr) (cap : Nat) (w : World) (hb : InB w A b) (hl : b.length ≤ 140737488355328) (hcap : b.length ≤ cap) :
    Calls Tryd.prog 22 #[.slice A b.length cap] w (SplitC w b) := by
  have HB := hide hb
  clear hb
  go_enter Tryd.func22, Tryd.ntmps22
  go_wp2_with fail
  go_loopg [0, 2] (b.length + 1) (fun gk s n wr => Grow w wr ∧ ∃ (k : Nat) (rest : List UInt8) (A' : Option Addr) (c' : Nat), s = .slice A' rest.length c' ∧ n = .int .i64 k ∧ rest.length < gk ∧ k + rest.length ≤ b.length ∧ rest.length ≤ c' ∧ InB wr A' rest ∧ SplitTo b k rest)
  case atStart => exact ⟨Grow.refl w, 0, b, A, cap, rfl, rfl, by omega, by omega, hcap, HB.out, SplitTo.start b⟩
  case round =>
    obtain ⟨hgr, k, rest, A', c', rfl, rfl, hg, hk, hc', hin, hst⟩ := hrel
    have HG := hide hgr
    have HI := hide hin
    have HS := hide hst
    clear hgr hin hst
    by_cases hr : 0 < rest.length
    · go_wp2_with fail
      refine (frame_any rest A' c' wr HI.out (by omega) hc').mono ?_
      rintro e w2 ⟨A2, m, rfl, hg2, _⟩
      have HG2 := hide (HG.out.trans hg2)
      have HI2 := hide (HI.out.grow hg2)
      clear hg2
      obtain ⟨n, hn⟩ : ∃ n, head rest = n := ⟨_, rfl⟩
      obtain ⟨n, e⟩ := n
      rw [hn]
      simp only
      by_cases he : e = 0
      · subst he
        have hst := HS.out.step hr (by rw [hn])
        have hfit := head_fit (b := rest) (by rw [hn])
        rw [hn] at hst hfit
        simp only at hst hfit
        have HS2 := hide hst
        have HI3 := hide (HI2.out.rest n c' (by omega) hc')
        have hdl : (rest.drop n).length = rest.length - n := List.length_drop
        clear hst hn
        have hnn : n ≤ rest.length := hfit.2
        have hn8 : 8 ≤ n := hfit.1
        have hk1 : IntKind.i64.wrap ((k : Int) + 1) = (k : Int) + 1 := IntWalk.i64_in _ (by omega)
        clear hfit
        by_cases hcn : c' = n
        · rw [if_pos hcn] at HI3
          go_wp2_with fail
          go_big_quiet (fail)
          go_wp2_with fail
          go_roundg (rest.length - n + 1)
          case measure => omega
          case rel => exact ⟨HG2.out.drewN nq, k + 1, rest.drop n, A', 0, by rw [hdl], by go_num, by omega, by omega, by omega, HI3.out.drewN nq, HS2.out⟩
        · rw [if_neg hcn] at HI3
          go_wp2_with fail
          go_big_quiet (fail)
          go_wp2_with fail
          go_roundg (rest.length - n + 1)
          case measure => omega
          case rel => exact ⟨HG2.out.drewN nq, k + 1, rest.drop n, _, c' - n, by rw [hdl], by go_num, by omega, by omega, by omega, HI3.out.drewN nq, HS2.out⟩
      · have hsp := HS.out.stop hr hn he
        have HSP := hide hsp
        have hne : (e == 0) = false := by simpa using he
        clear hsp hn
        go_wp2_with fail
        go_ret3
        exact SplitC.of HSP.out HG2.out
    · have hsp := HS.out.done (by omega)
      have HSP := hide hsp
      clear hsp
      go_wp2_with fail
      go_ret3
      exact SplitC.of HSP.out HG.out

/-- What the document's Head tells. -/
def HeadC (w : World) (b : List UInt8) (e : Ending) (w' : World) : Prop :=
  e = .returned (.tuple #[.int .i64 ((head b).1 : Nat), .int .i64 (head b).2]) ∧ Grow w w'
theorem HeadC.of {w w' : World} {b : List UInt8} {m : Nat} {e : Int} (h : head b = (m, e)) (hg : Grow w w') : HeadC w b (.returned (.tuple #[.int .i64 m, .int .i64 e])) w' := by
  unfold HeadC; rw [h]; exact ⟨rfl, hg⟩

set_option maxRecDepth 100000 in
set_option maxHeartbeats 1600000 in
theorem refHead_any (b : List UInt8) (A : Option Addr) (cap : Nat) (w : World) (hb : InB w A b) (hl : b.length ≤ 140737488355328) (hcap : b.length ≤ cap) :
    Calls Tryd.prog 56 #[.slice A b.length cap] w (HeadC w b) := by
  have HB := hide hb
  have hi0 := idx_0
  have hi1 := idx_1
  clear hb
  go_enter Tryd.func56, Tryd.ntmps56
  go_wp2_with fail
  go_loopg [4] 3 (fun gk i wr => Grow w wr ∧ ∃ j : Nat, j ≤ 2 ∧ gk + j = 3 ∧ i = .int .i64 j ∧ (∀ h : 0 < b.length, 0 < j → b[0].toNat = 77) ∧ (∀ h : 1 < b.length, 1 < j → b[1].toNat = 68) ∧ j ≤ b.length)
  case atStart => exact ⟨Grow.refl w, 0, by omega, by omega, rfl, fun _ h => by omega, fun _ h => by omega, by omega⟩
  case round =>
    obtain ⟨hgr, j, hj, hg, rfl, hp0, hp1, hjl⟩ := hrel
    obtain ⟨gk', rfl⟩ : ∃ g, gk = g + 1 := ⟨gk - 1, by omega⟩
    have HP0 := hide hp0
    have HP1 := hide hp1
    have HG := hide hgr
    have HBr := hide (HB.out.grow hgr)
    clear hp0 hp1 hgr
    have hj3 : j = 0 ∨ j = 1 ∨ j = 2 := by omega
    by_cases hjb : j < 2 ∧ j < b.length
    · rcases hj3 with rfl | rfl | rfl
      · obtain ⟨bk, o, rfl, hbk, e0⟩ := HBr.out.at_ 0 hjb.2
        rw [Nat.add_zero] at e0
        by_cases hx : b[0].toNat = 77
        · rw [hx] at e0
          have HX := hide hx
          clear hx
          go_wp2_with fail
          go_big_quiet (fail)
          go_wp2_with fail
          go_roundg gk'
          case measure => omega
          case rel => exact ⟨HG.out.drewN nq, 1, by omega, by omega, by go_num, fun _ _ => HX.out, fun _ h => by omega, by omega⟩
        · have hx2 : ((b[0].toNat : Int) == 77) = false := by simp; omega
          have HX := hide (head_4 (pre_no0 hjb.2 hx))
          go_wp2_with fail
          go_big_quiet (fail)
          go_wp2_with fail
          go_ret2
          exact HeadC.of HX.out (HG.out.drewN nq)
      · obtain ⟨bk, o, rfl, hbk, e0⟩ := HBr.out.at_ 1 hjb.2
        by_cases hx : b[1].toNat = 68
        · rw [hx] at e0
          have HX := hide hx
          clear hx
          go_wp2_with fail
          go_big_quiet (fail)
          go_wp2_with fail
          go_roundg gk'
          case measure => omega
          case rel => exact ⟨HG.out.drewN nq, 2, by omega, by omega, by go_num, fun h _ => HP0.out h (by omega), fun _ _ => HX.out, by omega⟩
        · have hx2 : ((b[1].toNat : Int) == 68) = false := by simp; omega
          have HX := hide (head_4 (pre_no1 hjb.2 hx))
          go_wp2_with fail
          go_big_quiet (fail)
          go_wp2_with fail
          go_ret2
          exact HeadC.of HX.out (HG.out.drewN nq)
      · omega
    · have HP := hide (pre_yes (fun h => HP0.out h (by omega)) (fun h => HP1.out h (by omega)))
      clear HP0 HP1
      by_cases h4 : b.length < 4
      · have HX := hide (head_17 HP.out h4)
        rcases hj3 with rfl | rfl | rfl
        · have hz : b.length = 0 := by omega
          go_wp2_with fail
          go_ret2
          exact HeadC.of HX.out HG.out
        · have hz : b.length = 1 := by omega
          go_wp2_with fail
          go_ret2
          exact HeadC.of HX.out HG.out
        · go_wp2_with fail
          go_ret2
          exact HeadC.of HX.out HG.out
      obtain rfl : j = 2 := by omega
      have hn := headN_lt b
      obtain ⟨n, hnn⟩ : ∃ n, headN b = n := ⟨_, rfl⟩
      rw [hnn] at hn
      have HN := hide hnn
      clear hnn
      have hw := refGet_any b A cap 2 2 wr HBr.out (by omega) (by omega) hl
      rw [show le ((b.drop 2).take 2) = n from HN.out] at hw
      have HW := hide hw
      clear hw
      go_wp2_with fail
      refine HW.out.mono ?_
      rintro e w' ⟨rfl, rfl⟩
      by_cases h12 : 12000 < n
      · have HX := hide (head_2 HP.out (by omega) (by rw [HN.out]; exact h12))
        go_wp2_with fail
        go_ret2
        exact HeadC.of HX.out HG.out
      obtain ⟨p, hp⟩ : ∃ p, n + 8 = p := ⟨_, rfl⟩
      obtain ⟨q, hq⟩ : ∃ q, n + 4 = q := ⟨_, rfl⟩
      have hpi : (n : Int) + 8 = (p : Int) := by omega
      have hqi : (n : Int) + 4 = (q : Int) := by omega
      by_cases hm : b.length < p
      · have HX := hide (head_17b HP.out (by omega) (by rw [HN.out]; omega) (by rw [HN.out]; omega))
        go_wp2_with fail
        go_ret2
        exact HeadC.of HX.out HG.out
      have hX := head_all HP.out (by omega) (by rw [HN.out]; omega) (by rw [HN.out]; omega)
      rw [HN.out, hq, hp] at hX
      have hl4 : (b.take q).length = q := by rw [List.length_take]; omega
      have hk1 := refGet_any b A cap q 4 wr HBr.out (by omega) (by omega) hl
      have hk2 := refOf_any (b.take q) A cap wr (HBr.out.take q) (by omega)
      rw [hl4] at hk2
      have hc1 : le ((b.drop q).take 4) < 4294967296 := by
        have := le_lt ((b.drop q).take 4)
        rw [show ((b.drop q).take 4).length = 4 by rw [List.length_take, List.length_drop]; omega] at this
        exact this
      have hc2 := crc_lt (b.take q)
      obtain ⟨L, hL⟩ : ∃ L, le ((b.drop q).take 4) = L := ⟨_, rfl⟩
      obtain ⟨C, hC⟩ : ∃ C, crc (b.take q) = C := ⟨_, rfl⟩
      rw [hL] at hk1 hc1
      rw [hC] at hk2 hc2
      rw [hL, hC] at hX
      have HX := hide hX
      have K1 := hide hk1
      have K2 := hide hk2
      clear hX hl4 hL hC hk1 hk2
      have hqb : q ≤ b.length := by omega
      have hqc : q ≤ cap := by omega
      go_wp2_with fail
      refine K2.out.mono ?_
      rintro e w' ⟨rfl, rfl⟩
      go_wp2_with fail
      refine K1.out.mono ?_
      rintro e w' ⟨rfl, rfl⟩
      by_cases hLC : L = C
      · have hne : ((C : Int) == (L : Int)) = true := by simp [hLC]
        rw [if_pos hLC] at HX
        go_wp2_with fail
        go_ret2
        exact HeadC.of HX.out HG.out
      · have hne : ((C : Int) == (L : Int)) = false := by simp; omega
        rw [if_neg hLC] at HX
        go_wp2_with fail
        go_ret2
        exact HeadC.of HX.out HG.out

set_option maxRecDepth 100000 in
set_option maxHeartbeats 1600000 in
theorem refSplit_any (b : List UInt8) (A : Option Addr) (cap : Nat) (w : World) (hb : InB w A b) (hl : b.length ≤ 140737488355328) (hcap : b.length ≤ cap) :
    Calls Tryd.prog 23 #[.slice A b.length cap] w (SplitC w b) := by
  have HB := hide hb
  clear hb
  go_enter Tryd.func23, Tryd.ntmps23
  go_wp2_with fail
  go_loopg [0, 5] (b.length + 1) (fun gk s n wr => Grow w wr ∧ ∃ (k : Nat) (rest : List UInt8) (A' : Option Addr) (c' : Nat), s = .slice A' rest.length c' ∧ n = .int .i64 k ∧ rest.length < gk ∧ k + rest.length ≤ b.length ∧ rest.length ≤ c' ∧ InB wr A' rest ∧ SplitTo b k rest)
  case atStart => exact ⟨Grow.refl w, 0, b, A, cap, rfl, rfl, by omega, by omega, hcap, HB.out, SplitTo.start b⟩
  case round =>
    obtain ⟨hgr, k, rest, A', c', rfl, rfl, hg, hk, hc', hin, hst⟩ := hrel
    have HG := hide hgr
    have HI := hide hin
    have HS := hide hst
    clear hgr hin hst
    by_cases hr : 0 < rest.length
    · go_wp2_with fail
      refine (refHead_any rest A' c' wr HI.out (by omega) hc').mono ?_
      rintro e w2 ⟨rfl, hg2⟩
      have HG2 := hide (HG.out.trans hg2)
      have HI2 := hide (HI.out.grow hg2)
      clear hg2
      obtain ⟨n, hn⟩ : ∃ n, head rest = n := ⟨_, rfl⟩
      obtain ⟨n, e⟩ := n
      rw [hn]
      simp only
      by_cases he : e = 0
      · subst he
        have hst := HS.out.step hr (by rw [hn])
        have hfit := head_fit (b := rest) (by rw [hn])
        rw [hn] at hst hfit
        simp only at hst hfit
        have HS2 := hide hst
        have HI3 := hide (HI2.out.rest n c' (by omega) hc')
        have hdl : (rest.drop n).length = rest.length - n := List.length_drop
        have hnn : n ≤ rest.length := hfit.2
        have hn8 : 8 ≤ n := hfit.1
        have hk1 : IntKind.i64.wrap ((k : Int) + 1) = (k : Int) + 1 := IntWalk.i64_in _ (by omega)
        clear hfit hst hn
        by_cases hcn : c' = n
        · rw [if_pos hcn] at HI3
          go_wp2_with fail
          go_roundg (rest.length - n + 1)
          case measure => omega
          case rel => exact ⟨HG2.out, k + 1, rest.drop n, A', 0, by rw [hdl], by go_num, by omega, by omega, by omega, HI3.out, HS2.out⟩
        · rw [if_neg hcn] at HI3
          go_wp2_with fail
          go_roundg (rest.length - n + 1)
          case measure => omega
          case rel => exact ⟨HG2.out, k + 1, rest.drop n, _, c' - n, by rw [hdl], by go_num, by omega, by omega, by omega, HI3.out, HS2.out⟩
      · have hsp := HS.out.stop hr hn he
        have HSP := hide hsp
        have hne : (e == 0) = false := by simpa using he
        clear hsp hn
        go_wp2_with fail
        go_ret3
        exact SplitC.of HSP.out HG2.out
    · have hsp := HS.out.done (by omega)
      have HSP := hide hsp
      clear hsp
      go_wp2_with fail
      go_ret3
      exact SplitC.of HSP.out HG.out
end Go.Proofs.YtojpeiihkjpeoaaDoor
