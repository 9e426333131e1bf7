/- Walk of val.Compare: what is wrong with one of two values, or how they stand to one another. -/
import Derived.Test.YtcdbchifigonpaaDoorVoC
import Derived.Test.YtcdbchifigonpaaDoorGood
set_option linter.unusedVariables false
set_option linter.unusedSimpArgs false
namespace Go.Proofs.YtcdbchifigonpaaDoor
open Go.RowKit Go.Shelf

/-- What val.Compare tells. -/
noncomputable def cmpV (u v : V) : Int × Int := if orC u.good v.good = 0 then (V.cmp u v, 0) else (0, orC u.good v.good)
theorem orC_zero {a b : Int} (h : orC a b = 0) : a = 0 ∧ b = 0 := by
  unfold orC at h
  split at h
  · exact ⟨by assumption, h⟩
  · contradiction
set_option maxRecDepth 100000 in
set_option maxHeartbeats 3200000 in
theorem kvcompare_any (u v : V) (c d : Cv) (w : World) (hu : u.mild) (hv : v.mild) (hT : Tabs w) (h : In w u c) (k : In w v d) :
    Calls Tryd.prog 46 #[c.agg, d.agg] w fun e w' => e = .returned (.tuple #[.int .i64 (cmpV u v).1, .int .i64 (cmpV u v).2]) ∧ Grow w w' := by
  have HG0 := hide (((Grow.refl w).alloc (.cells c.cells 37)).alloc (.cells d.cells 37))
  have HB0 := hide ((Blk.new w 37 c.cells).alloc (.cells d.cells 37))
  have HD0 := hide (Blk.new' (w := w.alloc (.cells c.cells 37)) (g := w.heap.size + 1) (by simp) 37 d.cells)
  have HU := hide (fun w2 (hg : Grow w w2) => good_anyM u w2 c hu (hT.grow hg) (h.grow hg))
  have HV := hide (fun w2 (hg : Grow w w2) => good_anyM v w2 d hv (hT.grow hg) (k.grow hg))
  have HC := hide (fun w2 (hg : Grow w w2) (h1 : u.formed = true) (h2 : v.formed = true) => vcompare_any u v h1 h2 w2 c d (h.grow hg) (k.grow hg))
  obtain ⟨g1, hg1⟩ : ∃ g, u.good = g := ⟨_, rfl⟩
  obtain ⟨g2, hg2⟩ : ∃ g, v.good = g := ⟨_, rfl⟩
  have HE := hide (show cmpV u v = if orC g1 g2 = 0 then (V.cmp u v, 0) else (0, orC g1 g2) by unfold cmpV; rw [hg1, hg2])
  rw [hg1] at HU
  rw [hg2] at HV
  have HG1 := hide hg1
  have HG2 := hide hg2
  have HO := hide (fun g cap t w2 hB => ore_any g1 g2 g cap t w2 hB)
  obtain ⟨z, hz⟩ : ∃ z, orC g1 g2 = z := ⟨_, rfl⟩
  rw [hz] at HO HE
  have HZ := hide hz
  have hc0 := HB0.out.cell
  have hd0 := HD0.out.cell
  have hl0 := HB0.out.lt
  have hm0 := HD0.out.lt
  clear hu hv hT h k hg1 hg2 hz
  by_cases h0 : z = 0
  · subst h0
    have hform := orC_zero HZ.out
    have f1 := V.good_formed (v := u) (by rw [HG1.out]; exact hform.1)
    have f2 := V.good_formed (v := v) (by rw [HG2.out]; exact hform.2)
    have HF := hide (And.intro f1.1 f2.1)
    rw [if_pos rfl] at HE
    clear hform f1 f2
    go_enter Tryd.func46, Tryd.ntmps46
    go_wp2_with fail
    go_region_held3 (fun w' => (∀ q, w'.cell? ⟨w.heap.size, q, none⟩ = c.cells[q]?) ∧ (∀ q, w'.cell? ⟨w.heap.size + 1, q, none⟩ = d.cells[q]?)) (first | go_keep | exact ⟨hcx, hdx⟩ | exact ⟨hcy, hdy⟩ | exact ⟨hcz, hdz⟩)
      (first | ((with_reducible refine (HU.out _ HGX.out).mono ?_); rintro e wx ⟨rfl, hgx⟩; have HGY := hide ((HGX.out.trans hgx).alloc (.cells #[.int .i64 g1, .int .i64 g2] 26)); have HBY := hide ((HBX.out.grow hgx).alloc (.cells #[.int .i64 g1, .int .i64 g2] 26)); have HDY := hide ((HDX.out.grow hgx).alloc (.cells #[.int .i64 g1, .int .i64 g2] 26)); have hcy := (HBX.out.grow hgx).cell; have hdy := (HDX.out.grow hgx).cell; have hcz := HBY.out.cell; have hdz := HDY.out.cell; have hlz := HBY.out.lt; have hmz := HDY.out.lt; clear hgx) | ((with_reducible refine (HV.out _ HGX.out).mono ?_); rintro e wx ⟨rfl, hgx⟩; have HGY := hide ((HGX.out.trans hgx).alloc (.cells #[.int .i64 g1, .int .i64 g2] 26)); have HBY := hide ((HBX.out.grow hgx).alloc (.cells #[.int .i64 g1, .int .i64 g2] 26)); have HDY := hide ((HDX.out.grow hgx).alloc (.cells #[.int .i64 g1, .int .i64 g2] 26)); have hcy := (HBX.out.grow hgx).cell; have hdy := (HDX.out.grow hgx).cell; have hcz := HBY.out.cell; have hdz := HDY.out.cell; have hlz := HBY.out.lt; have hmz := HDY.out.lt; clear hgx) | ((with_reducible refine (HU.out _ HG0.out.drew).mono ?_); rintro e wx ⟨rfl, hgx⟩; have HGX := hide (HG0.out.drew.trans hgx); have HBX := hide (HB0.out.drew.grow hgx); have HDX := hide (HD0.out.drew.grow hgx); have hcx := HBX.out.cell; have hdx := HDX.out.cell; have hlx := HBX.out.lt; have hmx := HDX.out.lt; clear hgx) | ((with_reducible refine (HV.out _ HG0.out.drew).mono ?_); rintro e wx ⟨rfl, hgx⟩; have HGX := hide (HG0.out.drew.trans hgx); have HBX := hide (HB0.out.drew.grow hgx); have HDX := hide (HD0.out.drew.grow hgx); have hcx := HBX.out.cell; have hdx := HDX.out.cell; have hlx := HBX.out.lt; have hmx := HDX.out.lt; clear hgx) | (go_at_call 67; refine (HO.out _ _ _ _ (Blk.new _ _ _)).mono ?_; rintro e wz ⟨rfl, rfl⟩))
    all_goals
      go_wp2_with fail
      refine (HC.out _ HGY.out HF.out.1 HF.out.2).mono ?_
      rintro e w2 ⟨rfl, hg⟩
      have HGZ := hide (HGY.out.trans hg)
      clear hg
      go_wp2_with fail
      go_ret2
      exact ⟨by rw [HE.out]; rfl, HGZ.out⟩
  · have hzq : (z != 0) = true := by simpa using h0
    rw [if_neg h0] at HE
    clear h0
    go_enter Tryd.func46, Tryd.ntmps46
    go_wp2_with fail
    go_region_held3 (fun w' => (∀ q, w'.cell? ⟨w.heap.size, q, none⟩ = c.cells[q]?) ∧ (∀ q, w'.cell? ⟨w.heap.size + 1, q, none⟩ = d.cells[q]?)) (first | go_keep | exact ⟨hcx, hdx⟩ | exact ⟨hcy, hdy⟩ | exact ⟨hcz, hdz⟩)
      (first | ((with_reducible refine (HU.out _ HGX.out).mono ?_); rintro e wx ⟨rfl, hgx⟩; have HGY := hide ((HGX.out.trans hgx).alloc (.cells #[.int .i64 g1, .int .i64 g2] 26)); have HBY := hide ((HBX.out.grow hgx).alloc (.cells #[.int .i64 g1, .int .i64 g2] 26)); have HDY := hide ((HDX.out.grow hgx).alloc (.cells #[.int .i64 g1, .int .i64 g2] 26)); have hcy := (HBX.out.grow hgx).cell; have hdy := (HDX.out.grow hgx).cell; have hcz := HBY.out.cell; have hdz := HDY.out.cell; have hlz := HBY.out.lt; have hmz := HDY.out.lt; clear hgx) | ((with_reducible refine (HV.out _ HGX.out).mono ?_); rintro e wx ⟨rfl, hgx⟩; have HGY := hide ((HGX.out.trans hgx).alloc (.cells #[.int .i64 g1, .int .i64 g2] 26)); have HBY := hide ((HBX.out.grow hgx).alloc (.cells #[.int .i64 g1, .int .i64 g2] 26)); have HDY := hide ((HDX.out.grow hgx).alloc (.cells #[.int .i64 g1, .int .i64 g2] 26)); have hcy := (HBX.out.grow hgx).cell; have hdy := (HDX.out.grow hgx).cell; have hcz := HBY.out.cell; have hdz := HDY.out.cell; have hlz := HBY.out.lt; have hmz := HDY.out.lt; clear hgx) | ((with_reducible refine (HU.out _ HG0.out.drew).mono ?_); rintro e wx ⟨rfl, hgx⟩; have HGX := hide (HG0.out.drew.trans hgx); have HBX := hide (HB0.out.drew.grow hgx); have HDX := hide (HD0.out.drew.grow hgx); have hcx := HBX.out.cell; have hdx := HDX.out.cell; have hlx := HBX.out.lt; have hmx := HDX.out.lt; clear hgx) | ((with_reducible refine (HV.out _ HG0.out.drew).mono ?_); rintro e wx ⟨rfl, hgx⟩; have HGX := hide (HG0.out.drew.trans hgx); have HBX := hide (HB0.out.drew.grow hgx); have HDX := hide (HD0.out.drew.grow hgx); have hcx := HBX.out.cell; have hdx := HDX.out.cell; have hlx := HBX.out.lt; have hmx := HDX.out.lt; clear hgx) | (go_at_call 67; refine (HO.out _ _ _ _ (Blk.new _ _ _)).mono ?_; rintro e wz ⟨rfl, rfl⟩))
    all_goals
      go_wp2_with fail
      go_ret2
      exact ⟨by rw [HE.out]; rfl, HGY.out⟩
end Go.Proofs.YtcdbchifigonpaaDoor
