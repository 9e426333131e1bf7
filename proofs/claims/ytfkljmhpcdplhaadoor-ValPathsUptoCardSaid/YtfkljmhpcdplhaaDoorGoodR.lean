/- Walks: many, depth, Good of the document's answer. -/
import Derived.Test.YtfkljmhpcdplhaaDoorShape
import Derived.Test.YtfkljmhpcdplhaaDoorRefB
set_option linter.unusedVariables false
set_option linter.unusedSimpArgs false
namespace Go.Proofs.YtfkljmhpcdplhaaDoor
open Go.RowKit Go.Shelf

set_option maxRecDepth 100000 in
set_option maxHeartbeats 1600000 in
theorem many_any (v : V) : ∀ (w : World) (c : Cv), In w v c →
    Calls Tryd.prog 50 #[c.agg] w fun e w' => e = .returned (.bool (decide (64 < v.most))) ∧ Grow w w' := by
  induction v using V.ind with
  | h k n b l f hl hf =>
    intro w c hv
    have HV := hide hv
    obtain ⟨aB, aL, aF, cB, cL, cF, rfl, h1, h2, h3, h4, h5, h6, h7, h8, h9, hb⟩ := hv.open
    have Hl := hide hl
    have Hf := hide hf
    obtain ⟨ANS, hANS⟩ : ∃ A, decide (64 < (V.mk k n b l f).most) = A := ⟨_, rfl⟩
    rw [hANS]
    have HA := hide hANS
    have hyes : (64 < l.length ∨ 64 < f.length ∨ (∃ x ∈ l, 64 < x.most) ∨ ∃ x ∈ f, 64 < x.2.most) → ANS = true := fun h => by
      rw [← hANS, decide_eq_true_eq]
      have := V.most_over k n b l f 64
      rcases Nat.lt_or_ge 64 (V.mk k n b l f).most with q | q
      · exact q
      · obtain ⟨a1, a2, a3, a4⟩ := this.1 q
        rcases h with h | h | ⟨x, hx, h⟩ | ⟨x, hx, h⟩
        · omega
        · omega
        · have := a3 x hx; omega
        · have := a4 x hx; omega
    have HY := hide hyes
    clear hb h1 h2 h3 hl hf h4 h5 hv hANS hyes
    by_cases b1 : 64 < l.length
    · obtain rfl := HY.out (.inl b1)
      go_enter Tryd.func50, Tryd.ntmps50
      go_wp2_with fail
      go_ret
      exact ⟨rfl, (Grow.refl w).alloc _⟩
    by_cases b2 : 64 < f.length
    · obtain rfl := HY.out (.inr (.inl b2))
      go_enter Tryd.func50, Tryd.ntmps50
      go_wp2_with fail
      go_ret
      exact ⟨rfl, (Grow.refl w).alloc _⟩
    go_enter Tryd.func50, Tryd.ntmps50
    go_wp2_with fail
    go_loopg [3] (l.length + 1) (fun gk i wr => ∃ j : Nat, j ≤ l.length ∧ gk + j = l.length + 1 ∧ i = .int .i64 j ∧ (∀ t (h : t < l.length), t < j → l[t].most ≤ 64) ∧
      Grow w wr ∧ Blk wr w.heap.size 37 (Cv.cells ⟨k, (n : Int), aB, b.length, cB, aL, l.length, cL, aF, f.length, cF⟩))
    case atStart => exact ⟨0, by omega, by omega, rfl, fun t _ h => absurd h (by omega), (Grow.refl w).alloc _, Blk.new _ _ _⟩
    case round =>
      obtain ⟨j, hj, hg, rfl, ht, hw, hB⟩ := hrel
      obtain ⟨gk', rfl⟩ : ∃ g, gk = g + 1 := ⟨gk - 1, by omega⟩
      have hc := hB.cell
      have hBl := hB.lt
      have HTk := hide ht
      have HW := hide hw
      have HB := hide hB
      by_cases hlt : j < l.length
      · obtain ⟨bk, o, x, ha, hbk, e0, e1, e2, e3, e4, hx⟩ := In.elemL (HV.out.grow hw) j hlt
        dsimp only at ha
        subst ha
        have HX := hide hx
        clear hw hx hB ht
        go_wp2_with fail
        refine (Hl.out _ (List.getElem_mem hlt) _ x HX.out).mono ?_
        rintro e w' ⟨rfl, hb'⟩
        have hgr := hide hb'
        clear hb' e0 e1 e2 e3 e4 hc
        obtain ⟨R, hR⟩ : ∃ R, decide (64 < l[j].most) = R := ⟨_, rfl⟩
        rw [hR]
        have HR := hide hR
        clear hR
        cases R
        · go_wp2_with fail
          go_roundg gk'
          case measure => omega
          case rel =>
            refine ⟨j + 1, by omega, by omega, by go_num, fun t h1 h2 => ?_, HW.out.trans hgr.out, HB.out.grow hgr.out⟩
            rcases Nat.lt_or_ge t j with h | h
            · exact HTk.out t h1 h
            · obtain rfl : t = j := by omega
              have := of_decide_eq_false HR.out; omega
        · go_wp2_with fail
          go_ret
          refine ⟨ret_bool (HY.out (.inr (.inr (.inl ⟨l[j], List.getElem_mem hlt, of_decide_eq_true HR.out⟩)))).symm, HW.out.trans hgr.out⟩
      · obtain rfl : j = l.length := by omega
        clear hw hB hlt hg ht
        go_wp2_with fail
        go_loopg [4] (f.length + 1) (fun gk i wr => ∃ j : Nat, j ≤ f.length ∧ gk + j = f.length + 1 ∧ i = .int .i64 j ∧ (∀ t (h : t < f.length), t < j → f[t].2.most ≤ 64) ∧
          Grow w wr ∧ Blk wr w.heap.size 37 (Cv.cells ⟨k, (n : Int), aB, b.length, cB, aL, l.length, cL, aF, f.length, cF⟩))
        case atStart => exact ⟨0, by omega, by omega, rfl, fun t _ h => absurd h (by omega), HW.out, HB.out⟩
        case round =>
          obtain ⟨j, hj, hg, rfl, ht, hw, hB⟩ := hrel
          obtain ⟨gk', rfl⟩ : ∃ g, gk = g + 1 := ⟨gk - 1, by omega⟩
          clear hc hBl
          have hc := hB.cell
          have hBl := hB.lt
          have HTf := hide ht
          have HWf := hide hw
          have HBf := hide hB
          by_cases hlt : j < f.length
          · obtain ⟨bk, o, x, ha, hbk, es, esz, e0, e1, e2, e3, e4, hx⟩ := In.elemF (HV.out.grow hw) j hlt
            dsimp only at ha
            subst ha
            have HX := hide hx
            clear hw hx hB ht es
            go_wp2_with fail
            refine (Hf.out _ (List.getElem_mem hlt) _ x HX.out).mono ?_
            rintro e w' ⟨rfl, hb'⟩
            have hgr := hide hb'
            clear hb' e0 e1 e2 e3 e4 hc
            obtain ⟨R, hR⟩ : ∃ R, decide (64 < f[j].2.most) = R := ⟨_, rfl⟩
            rw [hR]
            have HR := hide hR
            clear hR
            cases R
            · go_wp2_with fail
              go_roundg gk'
              case measure => omega
              case rel =>
                refine ⟨j + 1, by omega, by omega, by go_num, fun t h1 h2 => ?_, HWf.out.trans hgr.out, HBf.out.grow hgr.out⟩
                rcases Nat.lt_or_ge t j with h | h
                · exact HTf.out t h1 h
                · obtain rfl : t = j := by omega
                  have := of_decide_eq_false HR.out; omega
            · go_wp2_with fail
              go_ret
              refine ⟨ret_bool (HY.out (.inr (.inr (.inr ⟨f[j], List.getElem_mem hlt, of_decide_eq_true HR.out⟩)))).symm, HWf.out.trans hgr.out⟩
          · obtain rfl : j = f.length := by omega
            have hno : ANS = false := by
              rw [← HA.out, decide_eq_false_iff_not]
              have := (V.most_over k n b l f 64).2 ⟨by omega, by omega, fun x hx => ?_, fun x hx => ?_⟩
              · omega
              · obtain ⟨i, hi, rfl⟩ := List.mem_iff_getElem.1 hx; exact HTk.out i hi hi
              · obtain ⟨i, hi, rfl⟩ := List.mem_iff_getElem.1 hx; exact HTf.out i hi hi
            subst hno
            clear hw hB hlt hg ht
            go_wp2_with fail
            go_ret
            exact ⟨rfl, HWf.out⟩

set_option maxRecDepth 100000 in
set_option maxHeartbeats 1600000 in
theorem refDepth_any (v : V) : ∀ (w : World) (c : Cv), v.formed = true → v.depth ≤ 1099511627776 → In w v c →
    Calls Tryd.prog 51 #[c.agg] w fun e w' => e = .returned (.int .i64 v.depth) ∧ Grow w w' := by
  induction v using V.ind with
  | h k n b l f hl hf =>
    intro w c hfm hdp hv
    have HV := hide hv
    obtain ⟨aB, aL, aF, cB, cL, cF, rfl, h1, h2, h3, h4, h5, h6, h7, h8, h9, hb⟩ := hv.open
    have hfm' := hfm
    rw [V.formed_mk] at hfm'
    simp only [Bool.and_eq_true, List.all_eq_true] at hfm'
    obtain ⟨⟨⟨ho, hfl⟩, hff⟩, _⟩ := hfm'
    simp only [V.own, Bool.and_eq_true, decide_eq_true_eq] at ho
    have hk8 : 1 ≤ k ∧ k ≤ 8 := by omega
    have hdl : ∀ x ∈ l, x.depth ≤ 1099511627776 := fun x hx => Nat.le_trans (V.depth_l hx) hdp
    have hdf : ∀ x ∈ f, x.2.depth ≤ 1099511627776 := fun x hx => Nat.le_trans (V.depth_f hx) hdp
    have HDL := hide hdl
    have HDF := hide hdf
    have HFL := hide hfl
    have HFF := hide hff
    have Hl := hide hl
    have Hf := hide hf
    obtain ⟨K, hK⟩ : ∃ K, K = (V.mk k n b l f).depth := ⟨_, rfl⟩
    rw [← hK] at hdp ⊢
    have hKd := hK
    rw [V.depth_mk] at hKd
    obtain ⟨M, hM⟩ : ∃ M, M = (f.map fun x => x.2.depth).foldl max ((l.map V.depth).foldl max 0) := ⟨_, rfl⟩
    rw [← hM] at hKd
    have HM := hide hM
    have hMb : M ≤ 1099511627776 := by split at hKd <;> omega
    have HK := hide hKd
    clear hb h1 h2 h3 hl hf h4 h5 hv hfm ho hfl hff hdl hdf hK hKd hM
    go_enter Tryd.func51, Tryd.ntmps51
    go_wp2_with fail
    go_loopg [3, 4] (l.length + 1) (fun gk m i wr => ∃ j : Nat, j ≤ l.length ∧ gk + j = l.length + 1 ∧ i = .int .i64 j ∧ m = .int .i64 ((((l.take j).map V.depth).foldl max 0 : Nat) : Int) ∧
      Grow w wr ∧ Blk wr w.heap.size 37 (Cv.cells ⟨k, (n : Int), aB, b.length, cB, aL, l.length, cL, aF, f.length, cF⟩))
    case atStart => exact ⟨0, by omega, by omega, rfl, by simp, (Grow.refl w).alloc _, Blk.new _ _ _⟩
    case round =>
      obtain ⟨j, hj, hg, rfl, rfl, hw, hB⟩ := hrel
      obtain ⟨gk', rfl⟩ : ∃ g, gk = g + 1 := ⟨gk - 1, by omega⟩
      have hc := hB.cell
      have hBl := hB.lt
      have HW := hide hw
      have HB := hide hB
      by_cases hlt : j < l.length
      · obtain ⟨bk, o, x, ha, hbk, e0, e1, e2, e3, e4, hx⟩ := In.elemL (HV.out.grow hw) j hlt
        dsimp only at ha
        subst ha
        have HX := hide hx
        have hm := foldl_max_take V.depth l 0 j hlt
        have HM1 := hide hm
        clear hw hx hB hm
        go_wp2_with fail
        refine (Hl.out _ (List.getElem_mem hlt) _ x (HFL.out _ (List.getElem_mem hlt)) (HDL.out _ (List.getElem_mem hlt)) HX.out).mono ?_
        rintro e w' ⟨rfl, hb'⟩
        have hgr := hide hb'
        clear hb' e0 e1 e2 e3 e4 hc
        go_wp2_with fail
        all_goals
          go_roundg gk'
          case measure => omega
          case rel => exact ⟨j + 1, by omega, by omega, by go_num, by rw [HM1.out]; go_num, HW.out.trans hgr.out, HB.out.grow hgr.out⟩
      · obtain rfl : j = l.length := by omega
        rw [List.take_length]
        clear hw hB hlt hg
        go_wp2_with fail
        go_loopg [3, 5] (f.length + 1) (fun gk m i wr => ∃ j : Nat, j ≤ f.length ∧ gk + j = f.length + 1 ∧ i = .int .i64 j ∧ m = .int .i64 ((((f.take j).map fun x => x.2.depth).foldl max ((l.map V.depth).foldl max 0) : Nat) : Int) ∧
          Grow w wr ∧ Blk wr w.heap.size 37 (Cv.cells ⟨k, (n : Int), aB, b.length, cB, aL, l.length, cL, aF, f.length, cF⟩))
        case atStart => exact ⟨0, by omega, by omega, rfl, by simp, HW.out, HB.out⟩
        case round =>
          obtain ⟨j, hj, hg, rfl, rfl, hw, hB⟩ := hrel
          obtain ⟨gk', rfl⟩ : ∃ g, gk = g + 1 := ⟨gk - 1, by omega⟩
          clear hc hBl
          have hc := hB.cell
          have hBl := hB.lt
          have HWf := hide hw
          have HBf := hide hB
          by_cases hlt : j < f.length
          · obtain ⟨bk, o, x, ha, hbk, es, esz, e0, e1, e2, e3, e4, hx⟩ := In.elemF (HV.out.grow hw) j hlt
            dsimp only at ha
            subst ha
            have HX := hide hx
            have hm := foldl_max_take (fun x : ByteArray × V => x.2.depth) f ((l.map V.depth).foldl max 0) j hlt
            have HM1 := hide hm
            have hfm2 := hide (HFF.out _ (List.getElem_mem hlt)).2
            clear hw hx hB hm es
            go_wp2_with fail
            refine (Hf.out _ (List.getElem_mem hlt) _ x hfm2.out (HDF.out _ (List.getElem_mem hlt)) HX.out).mono ?_
            rintro e w' ⟨rfl, hb'⟩
            have hgr := hide hb'
            clear hb' e0 e1 e2 e3 e4 hc
            go_wp2_with fail
            all_goals
              go_roundg gk'
              case measure => omega
              case rel => exact ⟨j + 1, by omega, by omega, by go_num, by rw [HM1.out]; go_num, HWf.out.trans hgr.out, HBf.out.grow hgr.out⟩
          · obtain rfl : j = f.length := by omega
            rw [List.take_length, ← HM.out]
            clear hw hB hlt hg
            by_cases hk : 7 ≤ k
            · have hKM : K = 1 + M := by rw [HK.out, if_pos (by omega)]
              go_wp2_with fail
              go_ret
              exact ⟨ret_int (by rw [hKM]; omega), HWf.out⟩
            · have hKM : K = M := by rw [HK.out, if_neg (by omega), Nat.zero_add]
              go_wp2_with fail
              go_ret
              exact ⟨ret_int (by first | rfl | rw [hKM]), HWf.out⟩

set_option maxRecDepth 100000 in
set_option maxHeartbeats 1600000 in
theorem refGood_anyM (v : V) (w : World) (c : Cv) (hd : v.depth ≤ 1099511627776) (hsz : v.formed = true → v.bytes.length ≤ 140737488355328) (hv : In w v c) :
    Calls Tryd.prog 20 #[c.agg] w fun e w' => e = .returned (.int .i64 v.good) ∧ Grow w w' := by
  have HV := hide hv
  have HSZ := hide hsz
  obtain ⟨ANS, hANS⟩ : ∃ A, v.good = A := ⟨_, rfl⟩
  rw [hANS]
  have HA := hide hANS
  clear hv hANS hsz
  have HB0 := hide (Blk.new w 37 c.cells)
  have HG0 := hide ((Grow.refl w).alloc (.cells c.cells 37))
  go_enter Tryd.func20, Tryd.ntmps20
  go_wp2_with fail
  refine (shape_any v _ c (HV.out.grow HG0.out)).mono ?_
  rintro e w1 ⟨rfl, hg1⟩
  have hB1 := HB0.out.grow hg1
  have hc := hB1.cell
  have hBl := hB1.lt
  have HB1 := hide hB1
  have HG1 := hide (HG0.out.trans hg1)
  clear hg1 hB1
  obtain ⟨R, hR⟩ : ∃ R, v.formed = R := ⟨_, rfl⟩
  rw [hR]
  have HR := hide hR
  clear hR
  cases R
  · go_wp2_with fail
    go_ret
    exact ⟨ret_int (by rw [← HA.out, V.good, if_pos HR.out]), HG1.out⟩
  go_wp2_with fail
  refine (many_any v _ c (HV.out.grow HG1.out)).mono ?_
  rintro e w2 ⟨rfl, hg2⟩
  have hB2 := HB1.out.grow hg2
  clear hc hBl
  have hc := hB2.cell
  have hBl := hB2.lt
  have HB2 := hide hB2
  have HG2 := hide (HG1.out.trans hg2)
  clear hg2 hB2
  by_cases m1 : 64 < v.most
  · rw [decide_eq_true m1]
    go_wp2_with fail
    go_ret
    exact ⟨ret_int (by rw [← HA.out, V.good, if_neg (by rw [HR.out]; decide), if_pos m1]), HG2.out⟩
  rw [decide_eq_false m1]
  obtain ⟨D, hD⟩ : ∃ D, v.depth = D := ⟨_, rfl⟩
  have HD := hide hD
  go_wp2_with fail
  refine (refDepth_any v _ c HR.out hd (HV.out.grow HG2.out)).mono ?_
  rintro e w3 ⟨rfl, hg3⟩
  have hB3 := HB2.out.grow hg3
  clear hc hBl
  have hc := hB3.cell
  have hBl := hB3.lt
  have HB3 := hide hB3
  have HG3 := hide (HG2.out.trans hg3)
  clear hg3 hB3
  rw [hD]
  clear hD
  by_cases d1 : 16 < D
  · go_wp2_with fail
    go_ret
    exact ⟨ret_int (by rw [← HA.out, V.good, if_neg (by rw [HR.out]; decide), if_neg m1, if_pos (by rw [HD.out]; exact d1)]), HG3.out⟩
  have hS := HSZ.out HR.out
  go_wp2_with fail
  refine (bytes_any v HR.out _ c (HV.out.grow HG3.out) hS).mono ?_
  rintro e w4 ⟨base, A4, c4, rfl, hb4, hr4, hg4⟩
  have HG4 := hide (HG3.out.trans hg4)
  clear hg4 hr4 hc hBl
  obtain ⟨S, hSS⟩ : ∃ S, v.bytes.length = S := ⟨_, rfl⟩
  have HS := hide hSS
  rw [hSS]
  clear hSS hS
  by_cases s1 : 4096 < S
  · go_wp2_with fail
    go_ret
    exact ⟨ret_int (by rw [← HA.out, V.good, if_neg (by rw [HR.out]; decide), if_neg m1, if_neg (by rw [HD.out]; exact d1), if_pos (by rw [HS.out]; exact s1)]), HG4.out⟩
  · go_wp2_with fail
    go_ret
    exact ⟨ret_int (by rw [← HA.out, V.good, if_neg (by rw [HR.out]; decide), if_neg m1, if_neg (by rw [HD.out]; exact d1), if_neg (by rw [HS.out]; exact s1)]), HG4.out⟩
theorem refGood_any (v : V) (w : World) (c : Cv) (hcount : v.count ≤ 20000) (hsz : v.formed = true → v.bytes.length ≤ 140737488355328) (hv : In w v c) :
    Calls Tryd.prog 20 #[c.agg] w fun e w' => e = .returned (.int .i64 v.good) ∧ Grow w w' := refGood_anyM v w c (V.depth_le40 hcount) hsz hv
end Go.Proofs.YtfkljmhpcdplhaaDoor
