/- Walks: Zero, same, walked, Vast. -/
import Derived.Test.YtojpeiihkjpeoaaDoorRef1
namespace Go.Proofs.YtojpeiihkjpeoaaDoor
open Go.RowKit

set_option maxHeartbeats 400000 in
theorem zero_any (x : V) (w : World) (c : Cv) (hv : In w x c) :
    Calls Tryd.prog 38 #[c.agg] w fun e w' => e = .returned (.bool (sameB x V.zero)) ∧ Grow w w' := by
  have HV := hide (hv.grow ((Grow.refl w).alloc (.cells c.cells 47)))
  clear hv
  go_enter Tryd.func38, Tryd.ntmps38
  go_wp2_with fail
  refine (same_any x V.zero _ c Cv.zero HV.out (In.zero_ _)).mono ?_
  rintro e w' ⟨rfl, hg⟩
  have HG := hide (((Grow.refl w).alloc _).trans hg)
  clear hg
  go_wp2_with fail
  go_ret
  exact ⟨rfl, HG.out⟩

set_option maxHeartbeats 400000 in
theorem lawSame_any (x y : V) (w : World) (c c' : Cv) (hv : In w x c) (hv' : In w y c') :
    Calls Tryd.prog 35 #[c.agg, c'.agg] w fun e w' => e = .returned (.bool (sameB x y)) ∧ Grow w w' := by
  have HG0 := hide (((Grow.refl w).alloc (.cells c.cells 47)).alloc (.cells c'.cells 47))
  have HV := hide (hv.grow HG0.out)
  have HV' := hide (hv'.grow HG0.out)
  clear hv hv'
  go_enter Tryd.func35, Tryd.ntmps35
  go_wp2_with fail
  refine (same_any x y _ c c' HV.out HV'.out).mono ?_
  rintro e w' ⟨rfl, hg⟩
  have HG := hide (HG0.out.trans hg)
  clear hg
  go_wp2_with fail
  go_ret
  exact ⟨rfl, HG.out⟩

theorem sum_take {α : Type} (g : α → Nat) (l : List α) (j : Nat) (h : j < l.length) : ((l.take (j + 1)).map g).sum = ((l.take j).map g).sum + g l[j] := by
  rw [take_snoc l j h, List.map_append, List.sum_append]; simp
theorem sum_take_le {α : Type} (g : α → Nat) (l : List α) (j : Nat) : ((l.take j).map g).sum ≤ (l.map g).sum := by
  have : l.map g = (l.take j).map g ++ (l.drop j).map g := by rw [← List.map_append, List.take_append_drop]
  rw [this, List.sum_append]; omega
theorem V.count_pos (v : V) : 1 ≤ v.count := by obtain ⟨k, n, b, l, f⟩ := v; rw [V.count_mk]; omega

theorem ret_ib {k : IntKind} {a b : Int} {p q : Bool} (h : a = b) (h' : p = q) : Ending.returned (.tuple #[.int k a, .bool p]) = .returned (.tuple #[.int k b, .bool q]) := by rw [h, h']

/-- What walked leaves. -/
def Walked (w : World) (n : Nat) (left : Int) (e : Ending) (w' : World) : Prop :=
  ∃ r : Int, e = .returned (.tuple #[.int .i64 r, .bool (decide ((n : Int) < left))]) ∧ ((n : Int) < left → r = left - n) ∧ Grow w w'

set_option maxRecDepth 100000 in
set_option maxHeartbeats 1600000 in
theorem walked_any (v : V) : ∀ (left : Int) (w : World) (c : Cv), 1 ≤ left → left ≤ 20000 → In w v c →
    Calls Tryd.prog 47 #[c.agg, .int .i64 left] w (Walked w v.count left) := by
  induction v using V.ind with
  | h k n b l f hl hf =>
    intro left w c hl1 hl2 hv
    have HV := hide hv
    obtain ⟨aB, aL, aF, cB, cL, cF, rfl, h1, h2, h3, h4, h5, h6, h7, h8, h9, hb⟩ := hv.open
    have Hl := hide hl
    have Hf := hide hf
    rw [V.count_mk]
    obtain ⟨SL, hSL⟩ : ∃ SL, SL = (l.map V.count).sum := ⟨_, rfl⟩
    obtain ⟨SF, hSF⟩ : ∃ SF, SF = (f.map fun x => x.2.count).sum := ⟨_, rfl⟩
    rw [← hSL, ← hSF]
    have HSL := hide hSL
    have HSF := hide hSF
    clear hb h1 h2 h3 hl hf h4 h5 hv hSL hSF
    go_enter Tryd.func47, Tryd.ntmps47
    go_wp2_with fail
    go_loopg [1, 6] (l.length + 1) (fun gk t i wr => ∃ (j : Nat) (T : Int), j ≤ l.length ∧ gk + j = l.length + 1 ∧ i = .int .i64 j ∧ t = .int .i64 T ∧ 0 ≤ T ∧ T ≤ left ∧ T + 1 + ((((l.take j).map V.count).sum : Nat) : Int) = left ∧ Grow w wr ∧
      Blk wr w.heap.size 47 (Cv.cells ⟨k, (n : Int), aB, b.length, cB, aL, l.length, cL, aF, f.length, cF⟩))
    case atStart => exact ⟨0, left - 1, by omega, by omega, rfl, rfl, by omega, by omega, by simp, (Grow.refl w).alloc _, Blk.new _ _ _⟩
    case round =>
      obtain ⟨j, T, hj, hg, rfl, rfl, hT0, hT1, hT2, hw, hB⟩ := hrel
      obtain ⟨gk', rfl⟩ : ∃ g, gk = g + 1 := ⟨gk - 1, by omega⟩
      have hc3 := hB.cell
      have HW := hide hw
      have HB := hide hB
      have HT2 := hide hT2
      clear hT2
      by_cases hgo : j < l.length ∧ 0 < T
      · obtain ⟨hlt, hTp⟩ := hgo
        obtain ⟨bk, o, x, ha, hbk, e0, e1, e2, e3, e4, hx⟩ := (HV.out.grow hw).elemL j hlt
        dsimp only at ha
        subst ha
        have hs := sum_take V.count l j hlt
        have HS := hide hs
        have hle := sum_take_le V.count l (j + 1)
        rw [hs, ← HSL.out] at hle
        have HX := hide hx
        have hcp := V.count_pos l[j]
        have HC := hide (Hl.out _ (List.getElem_mem hlt) T wr x (by omega) (by omega) hx)
        clear hw hx hB hs
        go_wp2_with fail
        refine HC.out.mono ?_
        rintro e w2 ⟨r, rfl, hr, hb2⟩
        have HGR := hide hb2
        clear hb2
        have hc4 := (HB.out.grow HGR.out).cell
        by_cases hlt2 : ((l[j].count : Nat) : Int) < T
        · have hd : decide (((l[j].count : Nat) : Int) < T) = true := decide_eq_true hlt2
          have HR := hide (hr hlt2)
          clear hr
          go_wp2_with fail
          go_roundg gk'
          case measure => omega
          case rel =>
            have h1 := HR.out
            have h2 := HT2.out
            have h3 := HS.out
            exact ⟨j + 1, r, by omega, by omega, by go_num, rfl, by omega, by omega, by rw [h3]; push_cast; omega, HW.out.trans HGR.out, HB.out.grow HGR.out⟩
        · have hd : decide (((l[j].count : Nat) : Int) < T) = false := decide_eq_false hlt2
          clear hr
          go_wp2_with fail
          go_ret2
          have h2 := HT2.out
          have hfin : ¬ (((1 + SL + SF : Nat) : Int) < left) := by push_cast; omega
          exact ⟨0, ret_ib rfl (decide_eq_false hfin).symm, fun h => absurd h hfin, HW.out.trans HGR.out⟩
      · have hpost : ∃ T' : Int, T' = T ∧ ((T' + 1 + (SL : Int) = left) ∨ (T' = 0 ∧ left ≤ 1 + (SL : Int))) := by
          have h2 := HT2.out
          by_cases hlt : j < l.length
          · have h0 : T = 0 := by omega
            have hle := sum_take_le V.count l j
            rw [← HSL.out] at hle
            exact ⟨T, rfl, .inr ⟨h0, by omega⟩⟩
          · obtain rfl : j = l.length := by omega
            rw [List.take_length, ← HSL.out] at h2
            exact ⟨T, rfl, .inl h2⟩
        obtain ⟨T', rfl, hpost⟩ := hpost
        have HP := hide hpost
        clear hw hB hpost
        by_cases hjl : j < l.length
        all_goals
          have hT' : j < l.length → T' ≤ 0 := fun h => by omega
          clear hgo
          first
          | (have h := hT' hjl; clear hT')
          | clear hT'
          go_wp2_with fail
          go_loopg [1, 9] (f.length + 1) (fun gk t i wr => ∃ (j : Nat) (T : Int), j ≤ f.length ∧ gk + j = f.length + 1 ∧ i = .int .i64 j ∧ t = .int .i64 T ∧ 0 ≤ T ∧ T ≤ left ∧ ((T + 1 + (SL : Int) + ((((f.take j).map fun x => x.2.count).sum : Nat) : Int) = left) ∨ (T = 0 ∧ left ≤ 1 + (SL : Int))) ∧ Grow w wr ∧
            Blk wr w.heap.size 47 (Cv.cells ⟨k, (n : Int), aB, b.length, cB, aL, l.length, cL, aF, f.length, cF⟩))
          case atStart => exact ⟨0, T', by omega, by omega, rfl, rfl, by omega, by omega, by simpa using HP.out, HW.out, HB.out⟩
          case round =>
            obtain ⟨j, T, hj, hg, rfl, rfl, hT0, hT1, hT2, hw, hB⟩ := hrel
            obtain ⟨gk', rfl⟩ : ∃ g, gk = g + 1 := ⟨gk - 1, by omega⟩
            clear hc3
            have hc5 := hB.cell
            have HW := hide hw
            have HB := hide hB
            have HT2 := hide hT2
            clear hT2
            by_cases hgo : j < f.length ∧ 0 < T
            · obtain ⟨hlt, hTp⟩ := hgo
              have HT3 := hide (HT2.out.resolve_right (fun h => by omega))
              obtain ⟨bk, o, x, ha, hbk, es, esz, e0, e1, e2, e3, e4, hx⟩ := (HV.out.grow hw).elemF j hlt
              dsimp only at ha
              subst ha
              have hs := sum_take (fun x : ByteArray × V => x.2.count) f j hlt
              have HS := hide hs
              have hle := sum_take_le (fun x : ByteArray × V => x.2.count) f (j + 1)
              rw [hs, ← HSF.out] at hle
              have HX := hide hx
              have hcp := V.count_pos f[j].2
              have HC := hide (Hf.out _ (List.getElem_mem hlt) T wr x (by omega) (by omega) hx)
              clear hw hx hB hs es esz
              go_wp2_with fail
              refine HC.out.mono ?_
              rintro e w2 ⟨r, rfl, hr, hb2⟩
              have HGR := hide hb2
              clear hb2
              have hc4 := (HB.out.grow HGR.out).cell
              by_cases hlt2 : ((f[j].2.count : Nat) : Int) < T
              · have hd : decide (((f[j].2.count : Nat) : Int) < T) = true := decide_eq_true hlt2
                have HR := hide (hr hlt2)
                clear hr
                go_wp2_with fail
                go_roundg gk'
                case measure => omega
                case rel =>
                  have h1 := HR.out
                  have h2 := HT3.out
                  have h3 := HS.out
                  exact ⟨j + 1, r, by omega, by omega, by go_num, rfl, by omega, by omega, .inl (by rw [h3]; push_cast; omega), HW.out.trans HGR.out, HB.out.grow HGR.out⟩
              · have hd : decide (((f[j].2.count : Nat) : Int) < T) = false := decide_eq_false hlt2
                clear hr
                go_wp2_with fail
                go_ret2
                have h2 := HT3.out
                have hfin : ¬ (((1 + SL + SF : Nat) : Int) < left) := by push_cast; omega
                exact ⟨0, ret_ib rfl (decide_eq_false hfin).symm, fun h => absurd h hfin, HW.out.trans HGR.out⟩
            · have hpost : (T = left - ((1 + SL + SF : Nat) : Int)) ∨ (T = 0 ∧ ¬ (((1 + SL + SF : Nat) : Int) < left)) := by
                rcases HT2.out with h2 | h2
                · by_cases hlt : j < f.length
                  · have h0 : T = 0 := by omega
                    have hle := sum_take_le (fun x : ByteArray × V => x.2.count) f (j + 1)
                    rw [sum_take _ _ _ hlt, ← HSF.out] at hle
                    have hcp := V.count_pos f[j].2
                    exact .inr ⟨h0, by push_cast; omega⟩
                  · obtain rfl : j = f.length := by omega
                    rw [List.take_length, ← HSF.out] at h2
                    exact .inl (by push_cast; omega)
                · exact .inr ⟨h2.1, by push_cast; omega⟩
              have HP2 := hide hpost
              clear hw hB hpost
              by_cases hjf : j < f.length
              all_goals
                have hT' : j < f.length → T ≤ 0 := fun h => by omega
                clear hgo
                first
                | (have h := hT' hjf; clear hT')
                | clear hT'
                go_wp2_with fail
                go_ret2
                refine ⟨T, ret_ib rfl ?_, fun h => ?_, HW.out⟩
                · rcases HP2.out with h | h
                  · rw [h]; exact decide_eq_decide.2 ⟨fun h => by omega, fun h => by omega⟩
                  · rw [decide_eq_false (Int.not_lt.2 h.2), h.1]; rfl
                · rcases HP2.out with h' | h'
                  · exact h'
                  · exact absurd h (Int.not_lt.2 h'.2)

/-- A list of values that lies in the world: as the list of a value. -/
abbrev lcv (A : Option Addr) (n cap : Nat) : Cv := ⟨7, 0, none, 0, 0, A, n, cap, none, 0, 0⟩
def InL (w : World) (A : Option Addr) (cap : Nat) (vs : List V) : Prop := In w (.mk 7 0 [] vs []) (lcv A vs.length cap)
theorem InL.grow {w w' : World} {A : Option Addr} {cap : Nat} {vs : List V} (h : InL w A cap vs) (hg : Grow w w') : InL w' A cap vs := In.grow h hg

set_option maxRecDepth 100000 in
set_option maxHeartbeats 800000 in
theorem vast_any (vs : List V) (A : Option Addr) (cap : Nat) (w : World) (hv : InL w A cap vs) :
    Calls Tryd.prog 15 #[.slice A vs.length cap] w fun e w' => e = .returned (.bool (decide (20000 ≤ (vs.map V.count).sum))) ∧ Grow w w' := by
  have hl := InU.open hv
  obtain ⟨_, _, _, _, _, _, _, _, _, _, _, _, _, hlen, _, _, _⟩ := hl
  have HV := hide hv
  clear hv
  go_enter Tryd.func15, Tryd.ntmps15
  go_wp2_with fail
  go_loopg [3, 4] (vs.length + 1) (fun gk t i wr => ∃ (j : Nat) (T : Int), j ≤ vs.length ∧ gk + j = vs.length + 1 ∧ i = .int .i64 j ∧ t = .int .i64 T ∧ 1 ≤ T ∧ T ≤ 20000 ∧ T + ((((vs.take j).map V.count).sum : Nat) : Int) = 20000 ∧ Grow w wr)
  case atStart => exact ⟨0, 20000, by omega, by omega, rfl, rfl, by omega, by omega, by simp, Grow.refl w⟩
  case round =>
    obtain ⟨j, T, hj, hg, rfl, rfl, hT0, hT1, hT2, hw⟩ := hrel
    obtain ⟨gk', rfl⟩ : ∃ g, gk = g + 1 := ⟨gk - 1, by omega⟩
    have HW := hide hw
    have HT2 := hide hT2
    clear hT2
    by_cases hlt : j < vs.length
    · obtain ⟨bk, o, x, ha, hbk, e0, e1, e2, e3, e4, hx⟩ := In.elemL (HV.out.grow hw) j hlt
      dsimp only at ha
      subst ha
      have hs := sum_take V.count vs j hlt
      have HS := hide hs
      have hle := sum_take_le V.count vs (j + 1)
      rw [hs] at hle
      have hcp := V.count_pos vs[j]
      have HC := hide (walked_any vs[j] T wr x (by omega) (by omega) hx)
      clear hw hx hs
      go_wp2_with fail
      refine HC.out.mono ?_
      rintro e w2 ⟨r, rfl, hr, hb2⟩
      have HGR := hide hb2
      clear hb2
      by_cases hlt2 : ((vs[j].count : Nat) : Int) < T
      · have hd : decide (((vs[j].count : Nat) : Int) < T) = true := decide_eq_true hlt2
        have HR := hide (hr hlt2)
        clear hr
        go_wp2_with fail
        go_roundg gk'
        case measure => omega
        case rel =>
          have h1 := HR.out
          have h2 := HT2.out
          have h3 := HS.out
          exact ⟨j + 1, r, by omega, by omega, by go_num, rfl, by omega, by omega, by rw [h3]; push_cast; omega, HW.out.trans HGR.out⟩
      · have hd : decide (((vs[j].count : Nat) : Int) < T) = false := decide_eq_false hlt2
        clear hr
        go_wp2_with fail
        go_ret
        have h2 := HT2.out
        exact ⟨ret_bool (decide_eq_true (by omega)).symm, HW.out.trans HGR.out⟩
    · obtain rfl : j = vs.length := by omega
      have h2 := HT2.out
      rw [List.take_length] at h2
      have H2 := hide h2
      clear hw h2
      go_wp2_with fail
      go_ret
      have h2 := H2.out
      exact ⟨ret_bool (decide_eq_false (by omega)).symm, HW.out⟩
end Go.Proofs.YtojpeiihkjpeoaaDoor
