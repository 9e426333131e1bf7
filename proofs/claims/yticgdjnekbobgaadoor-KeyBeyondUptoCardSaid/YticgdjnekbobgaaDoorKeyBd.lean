/- Walk of the law KeyBeyond: After is above all that begin with the bytes, and nothing lies between but these. -/
import Derived.Test.YticgdjnekbobgaaDoorKeyPf
set_option linter.unusedVariables false
set_option linter.unusedSimpArgs false
namespace Go.Proofs.YticgdjnekbobgaaDoor
open Go.RowKit Go.Shelf Go.WideShapes

set_option maxRecDepth 100000 in
set_option maxHeartbeats 6400000 in
theorem kbeyond_any (a : List UInt8) (A : Option Addr) (ac : Nat) (b : List UInt8) (B : Option Addr) (bc : Nat) (w : World) (hT : Tabs w) (ha : InB w A a) (la : a.length ≤ 1000000000) (ca : a.length ≤ ac) (hb : InB w B b) (lb : b.length ≤ 1000000000) (cb : b.length ≤ bc) :
    Calls Tryd.prog 9 #[.slice A a.length ac, .slice B b.length bc] w fun e w' => e = .returned (.bool true) ∧ Grow w w' := by
  have HT := hide hT
  have HA := hide ha
  have HB := hide hb
  have HAF := hide (fun w' (h : Grow w w') => kafter_any a A ac w' (ha.grow h) (by omega) ca)
  clear hT ha hb
  obtain ⟨X, ok, hP⟩ : ∃ X ok, afterN a = (X, ok) := ⟨_, _, rfl⟩
  have HAF2 := hide (fun w' (h : Grow w w') => by have := HAF.out w' h; rw [hP] at this; exact this)
  have HP := hide hP
  clear HAF hP
  go_enter Tryd.func9, Tryd.ntmps9
  go_wp2_with fail
  refine (kawake_any _ HT.out).mono ?_
  rintro e w1 ⟨rfl, hg1⟩
  have HG1 := hide hg1
  have HC1 := hide (HAF2.out w1 hg1)
  clear hg1 HAF2
  go_wp2_with fail
  refine HC1.out.mono ?_
  rintro e w2 ⟨b2, A2, c2, rfl, hb2, hr2, hg2⟩
  dsimp only at hr2 ⊢
  have HR2 := hide hr2
  have HG2 := hide (HG1.out.trans hg2)
  clear hr2 hg2 hb2 HC1
  have hmade : Row (w2.alloc (.cells #[] 5)) w2.heap.size (.slice (some ⟨w2.heap.size, 0, none⟩) 0 0) 0 [] := World.ownsRow_made w2 #[] 0 (Nat.le_refl _) (by decide) (by simp)
  have HM := hide hmade
  clear hmade
  cases ok with
  | false =>
    have hall : a = List.replicate a.length 255 ∧ X = [] := by
      rcases afterN_cases a with ⟨h, h2⟩ | ⟨p, c, k, _, _, h⟩
      · rw [HP.out] at h; injection h with h _; exact ⟨h2, h⟩
      · rw [HP.out] at h; injection h with _ h; cases h
    obtain ⟨hrep, rfl⟩ := hall
    have HREP := hide hrep
    clear hrep
    go_wp2_with (first
      | (at_builtin; refine app_src (ys := a) rfl (.tmp 16) (.tmp 17) _ rfl rfl HM.out _ rfl (Src.ofReads under_u8s (HA.out.grow (HG2.out.alloc _)) (u8s_one a)) (by omega) (by simp) ?_; intro A5 c5 w5 hr5 hg5; rw [Nat.zero_add, List.nil_append] at hr5; rw [Nat.zero_add] at hg5; have hz5 : w2.heap.size ≤ w5.heap.size := (by have := hg5.size; simp at this; omega); have HGR5 := hide hg5.grow; have HR5 := hide hr5; have HG5 := hide ((HG2.out.alloc (.cells #[] 5)).grown hg5.grow (fun k e => by have e2 : w2.heap.size = k := Option.some.inj e; have := HG2.out.size; omega)); clear hr5 hg5; rw [Nat.zero_add])
      | (at_builtin; refine app_src (ys := b) rfl (.tmp 18) (.tmp 19) _ rfl rfl HR5.out _ rfl (Src.ofReads under_u8s (HB.out.grow HG5.out) (u8s_one b)) (by omega) hz5 ?_; intro A6 c6 w6 hr6 hg6; have HR6 := hide hr6; have HG6 := hide (show Grow w w6 from HG5.out.grown hg6.grow (fun k e => by have := (World.ownsRow.lt HR5.out k e).1; have := HG2.out.size; omega)); have HX6 := hide (show Grow w2 w6 from ((((Grow.refl w2).alloc (.cells #[] 5)).grown HGR5.out (fun k e => by have e2 : w2.heap.size = k := Option.some.inj e; omega)).grown hg6.grow (fun k e => (World.ownsRow.lt HR5.out k e).1))); clear hr6 hg6)
      | fail)
    go_loopg [8] (a.length + 1) (fun gk i wr => ∃ j : Nat, j ≤ a.length ∧ gk + j = a.length + 1 ∧ i = .int .i64 j ∧ wr = w6)
    case atStart => exact ⟨0, Nat.zero_le _, rfl, rfl, rfl⟩
    case round =>
      obtain ⟨j, hj, hgk, rfl, rfl⟩ := hrel
      obtain ⟨gk', rfl⟩ : ∃ g, gk = g + 1 := ⟨gk - 1, by omega⟩
      by_cases hlt : j < a.length
      · obtain ⟨bk, o, hAe, hbk, hcell⟩ := (HA.out.grow HG6.out).at_ j hlt
        have h255 : a[j] = 255 := (List.eq_replicate_iff.1 HREP.out).2 _ (List.getElem_mem hlt)
        rw [h255] at hcell
        subst hAe
        clear h255
        go_wp2_with fail
        go_roundg gk'
        case measure => omega
        case rel => exact ⟨j + 1, by omega, by omega, by go_num, rfl⟩
      · obtain rfl : j = a.length := by omega
        go_wp2_with fail
        go_ret
        exact ⟨rfl, HG6.out⟩
  | true =>
    go_wp2_with (first
      | (at_builtin; refine app_src (ys := a) rfl (.tmp 16) (.tmp 17) _ rfl rfl HM.out _ rfl (Src.ofReads under_u8s (HA.out.grow (HG2.out.alloc _)) (u8s_one a)) (by omega) (by simp) ?_; intro A5 c5 w5 hr5 hg5; rw [Nat.zero_add, List.nil_append] at hr5; rw [Nat.zero_add] at hg5; have hz5 : w2.heap.size ≤ w5.heap.size := (by have := hg5.size; simp at this; omega); have HGR5 := hide hg5.grow; have HR5 := hide hr5; have HG5 := hide ((HG2.out.alloc (.cells #[] 5)).grown hg5.grow (fun k e => by have e2 : w2.heap.size = k := Option.some.inj e; have := HG2.out.size; omega)); clear hr5 hg5; rw [Nat.zero_add])
      | (at_builtin; refine app_src (ys := b) rfl (.tmp 18) (.tmp 19) _ rfl rfl HR5.out _ rfl (Src.ofReads under_u8s (HB.out.grow HG5.out) (u8s_one b)) (by omega) hz5 ?_; intro A6 c6 w6 hr6 hg6; have HR6 := hide hr6; have HG6 := hide (show Grow w w6 from HG5.out.grown hg6.grow (fun k e => by have := (World.ownsRow.lt HR5.out k e).1; have := HG2.out.size; omega)); have HX6 := hide (show Grow w2 w6 from ((((Grow.refl w2).alloc (.cells #[] 5)).grown HGR5.out (fun k e => by have e2 : w2.heap.size = k := Option.some.inj e; omega)).grown hg6.grow (fun k e => (World.ownsRow.lt HR5.out k e).1))); clear hr6 hg6)
      | fail)
    have HLG := hide (kcmp_any (a ++ b) X A6 A2 c6 c2 w6 (HR6.out.reads.1) ((HR2.out.grow HX6.out).reads.1))
    have hlong : Lib.compareBytes (a ++ b) X = -1 := cmp_neg ((after_between HP.out (a ++ b)).2 ⟨b, rfl⟩).1
    rw [hlong, List.length_append] at HLG
    have hXl : X.length ≤ a.length := by have := after_len a; rw [HP.out] at this; exact this
    have HC1 := hide (kcmp_any b X B A2 bc c2 w6 (HB.out.grow HG6.out) ((HR2.out.grow HX6.out).reads.1))
    have HC2 := hide (kcmp_any b a B A bc ac w6 (HB.out.grow HG6.out) (HA.out.grow HG6.out))
    have HBG := hide (begins_any b a B A bc ac w6 (HB.out.grow HG6.out) (HA.out.grow HG6.out) cb (by omega) (by omega))
    have hbt := after_between HP.out b
    rw [← begB_iff] at hbt
    obtain ⟨z1, hz1⟩ : ∃ z, Lib.compareBytes b X = z := ⟨_, rfl⟩
    obtain ⟨z2, hz2⟩ : ∃ z, Lib.compareBytes b a = z := ⟨_, rfl⟩
    rw [hz1] at HC1 hbt
    rw [hz2] at HC2 hbt
    have HBT := hide hbt
    clear hlong hbt hz1 hz2
    go_wp2_with fail
    refine HLG.out.mono ?_
    rintro e w7 ⟨rfl, rfl⟩
    go_wp2_with fail
    refine HC1.out.mono ?_
    rintro e w8 ⟨rfl, rfl⟩
    by_cases hq : 0 ≤ z1
    · go_wp2_with fail
      go_ret
      exact ⟨rfl, HG6.out⟩
    · go_wp2_with fail
      refine HC2.out.mono ?_
      rintro e w9 ⟨rfl, rfl⟩
      by_cases hq2 : z2 < 0
      · go_wp2_with fail
        go_ret
        exact ⟨rfl, HG6.out⟩
      · rw [HBT.out.1 ⟨by omega, by omega⟩] at HBG
        go_wp2_with fail
        refine HBG.out.mono ?_
        rintro e w10 ⟨rfl, hg10⟩
        go_wp2_with fail
        go_ret
        exact ⟨rfl, HG6.out.trans hg10⟩
end Go.Proofs.YticgdjnekbobgaaDoor
