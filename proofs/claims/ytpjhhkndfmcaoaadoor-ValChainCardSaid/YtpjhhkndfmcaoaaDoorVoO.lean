/- Walk of the law ValOrders: any two values in order. -/
import Derived.Test.YtpjhhkndfmcaoaaDoorVoK
import Derived.Test.YtpjhhkndfmcaoaaDoorGoodR
import Derived.Test.YtpjhhkndfmcaoaaDoorAwake
set_option linter.unusedVariables false
set_option linter.unusedSimpArgs false
namespace Go.Proofs.YtpjhhkndfmcaoaaDoor
open Go.RowKit Go.Shelf

theorem cmpV_good {u v : V} (h : orC u.good v.good = 0) : cmpV u v = (V.cmp u v, 0) := by unfold cmpV; rw [if_pos h]
theorem cmpV_bad {u v : V} (h : orC u.good v.good ≠ 0) : cmpV u v = (0, orC u.good v.good) := by unfold cmpV; rw [if_neg h]
abbrev cells2 (c d : Cv) : Array Value := #[.int .i64 c.k, .int .u64 c.n, .slice c.aB c.nB c.cB, .slice c.aL c.nL c.cL, .slice c.aF c.nF c.cF, .int .i64 d.k, .int .u64 d.n, .slice d.aB d.nB d.cB, .slice d.aL d.nL d.cL, .slice d.aF d.nF d.cF]
/-- Values beside one another in a block of their own: as a list. -/
theorem InL.row2 {w : World} {u v : V} {c d : Cv} (h : In w u c) (k : In w v d) : InL (w.alloc (.cells (cells2 c d) 27)) (some ⟨w.heap.size, 0, none⟩) 2 [u, v] := by
  have hg := (Grow.refl w).alloc (.cells (cells2 c d) 27)
  have hB := Blk.new w 27 (cells2 c d)
  have h' := h.grow hg
  have k' := k.grow hg
  have hlt := hB.lt
  unfold InL In
  rw [IsV]
  refine ⟨rfl, rfl, rfl, rfl, rfl, by decide, by decide, by decide, by simp, by simp, by simp, by simp, by simp, by simp, ⟨rfl, fun h => by simp at h⟩, fun i hi => ?_, fun i hi => by simp at hi⟩
  have hi2 : i = 0 ∨ i = 1 := by simp at hi; omega
  rcases hi2 with rfl | rfl
  · exact ⟨w.heap.size, 0, c, rfl, ⟨⟨hB.cell 0, Nat.zero_le _, hlt⟩, ⟨hB.cell 1, Nat.zero_le _, hlt⟩, ⟨hB.cell 2, Nat.zero_le _, hlt⟩, ⟨hB.cell 3, Nat.zero_le _, hlt⟩, ⟨hB.cell 4, Nat.zero_le _, hlt⟩⟩, h'⟩
  · exact ⟨w.heap.size, 0, d, rfl, ⟨⟨hB.cell 5, Nat.zero_le _, hlt⟩, ⟨hB.cell 6, Nat.zero_le _, hlt⟩, ⟨hB.cell 7, Nat.zero_le _, hlt⟩, ⟨hB.cell 8, Nat.zero_le _, hlt⟩, ⟨hB.cell 9, Nat.zero_le _, hlt⟩⟩, k'⟩
abbrev cells3 (c d e : Cv) : Array Value := #[.int .i64 c.k, .int .u64 c.n, .slice c.aB c.nB c.cB, .slice c.aL c.nL c.cL, .slice c.aF c.nF c.cF, .int .i64 d.k, .int .u64 d.n, .slice d.aB d.nB d.cB, .slice d.aL d.nL d.cL, .slice d.aF d.nF d.cF, .int .i64 e.k, .int .u64 e.n, .slice e.aB e.nB e.cB, .slice e.aL e.nL e.cL, .slice e.aF e.nF e.cF]
/-- Values beside one another in a block of their own: as a list. -/
theorem InL.row3 {w : World} {u v x : V} {c d e : Cv} (h : In w u c) (k : In w v d) (m : In w x e) : InL (w.alloc (.cells (cells3 c d e) 27)) (some ⟨w.heap.size, 0, none⟩) 3 [u, v, x] := by
  have hg := (Grow.refl w).alloc (.cells (cells3 c d e) 27)
  have hB := Blk.new w 27 (cells3 c d e)
  have h' := h.grow hg
  have k' := k.grow hg
  have m' := m.grow hg
  have hlt := hB.lt
  unfold InL In
  rw [IsV]
  refine ⟨rfl, rfl, rfl, rfl, rfl, by decide, by decide, by decide, by simp, by simp, by simp, by simp, by simp, by simp, ⟨rfl, fun h => by simp at h⟩, fun i hi => ?_, fun i hi => by simp at hi⟩
  have hi2 : i = 0 ∨ i = 1 ∨ i = 2 := by simp at hi; omega
  rcases hi2 with rfl | rfl | rfl
  · exact ⟨w.heap.size, 0, c, rfl, ⟨⟨hB.cell 0, Nat.zero_le _, hlt⟩, ⟨hB.cell 1, Nat.zero_le _, hlt⟩, ⟨hB.cell 2, Nat.zero_le _, hlt⟩, ⟨hB.cell 3, Nat.zero_le _, hlt⟩, ⟨hB.cell 4, Nat.zero_le _, hlt⟩⟩, h'⟩
  · exact ⟨w.heap.size, 0, d, rfl, ⟨⟨hB.cell 5, Nat.zero_le _, hlt⟩, ⟨hB.cell 6, Nat.zero_le _, hlt⟩, ⟨hB.cell 7, Nat.zero_le _, hlt⟩, ⟨hB.cell 8, Nat.zero_le _, hlt⟩, ⟨hB.cell 9, Nat.zero_le _, hlt⟩⟩, k'⟩
  · exact ⟨w.heap.size, 0, e, rfl, ⟨⟨hB.cell 10, Nat.zero_le _, hlt⟩, ⟨hB.cell 11, Nat.zero_le _, hlt⟩, ⟨hB.cell 12, Nat.zero_le _, hlt⟩, ⟨hB.cell 13, Nat.zero_le _, hlt⟩, ⟨hB.cell 14, Nat.zero_le _, hlt⟩⟩, m'⟩
set_option maxRecDepth 100000 in
set_option maxHeartbeats 3200000 in
theorem orders_any (u v : V) (c d : Cv) (w : World) (hT : Tabs w) (hu : In w u c) (hv : In w v d) (hsu : u.formed = true → u.bytes.length ≤ 140737488355328) (hsv : v.formed = true → v.bytes.length ≤ 140737488355328) :
    Calls Tryd.prog 7 #[c.agg, d.agg] w fun e w' => e = .returned (.bool true) ∧ Grow w w' := by
  have HG0 := hide (((Grow.refl w).alloc (.cells c.cells 27)).alloc (.cells d.cells 27))
  have HB0 := hide ((Blk.new w 27 c.cells).alloc (.cells d.cells 27))
  have HD0 := hide (Blk.new' (w := w.alloc (.cells c.cells 27)) (g := w.heap.size + 1) (by simp) 27 d.cells)
  have HT := hide hT
  have HU := hide hu
  have HV := hide hv
  have HSU := hide hsu
  have HSV := hide hsv
  have hrow := InL.row2 (HU.out.grow HG0.out) (HV.out.grow HG0.out)
  rw [show ((w.alloc (.cells c.cells 27)).alloc (.cells d.cells 27)).heap.size = w.heap.size + 1 + 1 by simp] at hrow
  have HROW := hide hrow
  have hc0 := HB0.out.cell
  have hd0 := HD0.out.cell
  have hl0 := HB0.out.lt
  have hm0 := HD0.out.lt
  clear hT hu hv hsu hsv hrow
  go_enter Tryd.func7, Tryd.ntmps7
  go_wp2_with fail
  refine (vast_any [u, v] _ 2 _ HROW.out).mono ?_
  rintro e w2 ⟨rfl, hg2⟩
  have hga := ((Grow.refl ((w.alloc (.cells c.cells 27)).alloc (.cells d.cells 27))).alloc (.cells (cells2 c d) 27)).trans hg2
  have HG2 := hide (HG0.out.trans hga)
  have HB2 := hide (HB0.out.grow hga)
  have HD2 := hide (HD0.out.grow hga)
  have hc2 := HB2.out.cell
  have hd2 := HD2.out.cell
  have hl2 := HB2.out.lt
  have hm2 := HD2.out.lt
  clear hg2 hga hc0 hd0 hl0 hm0
  by_cases hbig : 20000 ≤ (List.map V.count [u, v]).sum
  · rw [decide_eq_true hbig]
    go_wp2_with fail
    go_ret
    exact ⟨rfl, HG2.out⟩
  rw [decide_eq_false hbig]
  have hcu : u.count ≤ 20000 := by simp at hbig; omega
  have hcv : v.count ≤ 20000 := by simp at hbig; omega
  clear hbig
  have HMU := hide (V.mild_of hcu HU.out)
  have HMV := hide (V.mild_of hcv HV.out)
  clear hcu hcv
  have HK := hide (kvcompare_any u v c d w2 HMU.out HMV.out (HT.out.grow HG2.out) (HU.out.grow HG2.out) (HV.out.grow HG2.out))
  obtain ⟨r, hr⟩ : ∃ r, cmpV u v = r := ⟨_, rfl⟩
  obtain ⟨r1, r2⟩ := r
  rw [hr] at HK
  dsimp only at HK
  have HR := hide hr
  clear hr
  go_wp2_with fail
  refine HK.out.mono ?_
  rintro e w3 ⟨rfl, hg3⟩
  have HG3 := hide (HG2.out.trans hg3)
  have HB3 := hide (HB2.out.grow hg3)
  have HD3 := hide (HD2.out.grow hg3)
  clear hg3 hc2 hd2 hl2 hm2 HK
  go_wp2_with fail
  refine (awake_any _ (HT.out.grow HG3.out)).mono ?_
  rintro e w4 ⟨rfl, hg4⟩
  have HG4 := hide (HG3.out.trans hg4)
  have HB4 := hide (HB3.out.grow hg4)
  have HD4 := hide (HD3.out.grow hg4)
  have hc4 := HB4.out.cell
  have hd4 := HD4.out.cell
  have hl4 := HB4.out.lt
  have hm4 := HD4.out.lt
  clear hg4
  obtain ⟨g1, hg1⟩ : ∃ g, u.good = g := ⟨_, rfl⟩
  obtain ⟨g2, hg2⟩ : ∃ g, v.good = g := ⟨_, rfl⟩
  have HGU := hide (fun w2 (hg : Grow w w2) => refGood_anyM u w2 c HMU.out.1 HSU.out (HU.out.grow hg))
  have HGV := hide (fun w2 (hg : Grow w w2) => refGood_anyM v w2 d HMV.out.1 HSV.out (HV.out.grow hg))
  rw [hg1] at HGU
  rw [hg2] at HGV
  have HE1 := hide hg1
  have HE2 := hide hg2
  clear hg1 hg2
  by_cases h1 : g1 = 0
  · subst h1
    go_wp2_with fail
    refine (HGU.out _ HG4.out).mono ?_
    rintro e w5 ⟨rfl, hg5⟩
    have HG5 := hide (HG4.out.trans hg5)
    have HB5 := hide (HB4.out.grow hg5)
    have HD5 := hide (HD4.out.grow hg5)
    have hc5 := HB5.out.cell
    have hd5 := HD5.out.cell
    have hl5 := HB5.out.lt
    have hm5 := HD5.out.lt
    clear hg5 hc4 hd4 hl4 hm4
    go_wp2_with fail
    refine (HGV.out _ HG5.out).mono ?_
    rintro e w6 ⟨rfl, hg6⟩
    have HG6 := hide (HG5.out.trans hg6)
    have HB6 := hide (HB5.out.grow hg6)
    have HD6 := hide (HD5.out.grow hg6)
    have hc6 := HB6.out.cell
    have hd6 := HD6.out.cell
    have hl6 := HB6.out.lt
    have hm6 := HD6.out.lt
    clear hg6 hc5 hd5 hl5 hm5
    by_cases h2 : g2 = 0
    · subst h2
      have hz := cmpV_good (u := u) (v := v) (by rw [HE1.out, HE2.out]; rfl)
      rw [HR.out] at hz
      injection hz with e1 e2
      subst e2
      have HRC := hide (rcompare_any u v (V.good_formed HE1.out).1 (V.good_formed HE2.out).1 w6 c d (HU.out.grow HG6.out) (HV.out.grow HG6.out))
      rw [← e1] at HRC
      clear e1
      go_wp2_with fail
      refine HRC.out.mono ?_
      rintro e w7 ⟨rfl, hg7⟩
      have HG7 := hide (HG6.out.trans hg7)
      clear hg7
      go_wp2_with fail
      go_ret
      exact ⟨rfl, HG7.out⟩
    · have hz := cmpV_bad (u := u) (v := v) (by rw [HE1.out, HE2.out]; exact h2)
      rw [HR.out, HE1.out, HE2.out, orC_0] at hz
      injection hz with e1 e2
      subst e1 e2
      have hq : (r2 != 0) = true := by simpa using h2
      clear h2
      go_wp2_with fail
      go_ret
      exact ⟨rfl, HG6.out⟩
  · have hz := cmpV_bad (u := u) (v := v) (by rw [HE1.out, orC_n _ h1]; exact h1)
    rw [HR.out, HE1.out, orC_n _ h1] at hz
    injection hz with e1 e2
    subst e1 e2
    have hq : (r2 != 0) = true := by simpa using h1
    have hq2 : (r2 == 0) = false := by simpa using h1
    clear h1
    go_wp2_with fail
    refine (HGU.out _ HG4.out).mono ?_
    rintro e w5 ⟨rfl, hg5⟩
    have HG5 := hide (HG4.out.trans hg5)
    clear hg5
    go_wp2_with fail
    go_ret
    exact ⟨rfl, HG5.out⟩
end Go.Proofs.YtpjhhkndfmcaoaaDoor
