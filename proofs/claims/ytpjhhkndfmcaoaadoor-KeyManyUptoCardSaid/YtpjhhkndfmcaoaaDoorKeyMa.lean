/- Walk of the law KeyMany: any values' key, rising and falling; any bytes as such a key. -/
import Derived.Test.YtpjhhkndfmcaoaaDoorKeyAM
set_option linter.unusedVariables false
set_option linter.unusedSimpArgs false
namespace Go.Proofs.YtpjhhkndfmcaoaaDoor
open Go.RowKit Go.Shelf Go.WideShapes

theorem InL.nilK (w : World) : InL w none 0 [] := by
  unfold InL In
  rw [IsV]
  exact ⟨rfl, rfl, rfl, rfl, rfl, by decide, by decide, by decide, by simp, by simp, by simp, by simp, by simp, by simp, ⟨by simp [u8s], fun h => by simp at h⟩, fun i h => absurd h (by simp), fun i h => absurd h (by simp)⟩
theorem InL.asK (k : Int) (h1 : -9223372036854775808 ≤ k) (h2 : k ≤ 9223372036854775807) {w : World} {A : Option Addr} {cap : Nat} {vs : List V} (h : InL w A cap vs) : In w (.mk k 0 [] vs []) ⟨k, 0, none, 0, 0, A, vs.length, cap, none, 0, 0⟩ := by
  unfold InL In at *
  rw [IsV] at h ⊢
  obtain ⟨e1, e2, e3, e4, e5, h1', h2', h3, h4, h5, h6, h7, h8, h9, hb, hL, hF⟩ := h
  exact ⟨rfl, e2, e3, e4, e5, h1, h2, h3, h4, h5, h6, h7, h8, h9, hb, hL, hF⟩
/-- What key.Parts tells, both ways in one. -/
theorem KPartsC.both {w w' : World} {g : Option (List V)} {e : Ending} (h : KPartsC w g e w') : ∃ (A : Option Addr) (cap : Nat) (f : Int) (u : List V), e = .returned (.tuple #[.slice A u.length cap, .int .i64 f]) ∧ InL w' A cap u ∧ Grow w w' ∧ ((g = none ∧ f = 14 ∧ u = []) ∨ (g = some u ∧ f = 0)) := by
  obtain ⟨hg, h1, h2⟩ := h
  cases g with
  | none => exact ⟨none, 0, 14, [], h2 rfl, InL.nilK w', hg, .inl ⟨rfl, rfl, rfl⟩⟩
  | some u =>
    obtain ⟨A, cap, e, hi⟩ := h1 u rfl
    exact ⟨A, cap, 0, u, e, IsV.mono (fun _ _ h => ⟨h.1, Nat.zero_le _, h.2.2⟩) _ _ hi, hg, .inr ⟨rfl, rfl⟩⟩
theorem RPartsC.both {w w' : World} {g : Option (List V)} {e : Ending} (h : RPartsC w g e w') : ∃ (A : Option Addr) (cap : Nat) (t : Bool) (u : List V), e = .returned (.tuple #[.slice A u.length cap, .bool t]) ∧ InL w' A cap u ∧ Grow w w' ∧ ((g = none ∧ t = false) ∨ (g = some u ∧ t = true)) := by
  obtain ⟨hg, h1, h2⟩ := h
  cases g with
  | none => exact ⟨none, 0, false, [], h2 rfl, InL.nilK w', hg, .inl ⟨rfl, rfl⟩⟩
  | some u =>
    obtain ⟨A, cap, e, hi⟩ := h1 u rfl
    exact ⟨A, cap, true, u, e, hi, hg, .inr ⟨rfl, rfl⟩⟩
theorem count_leK {v : V} : ∀ (l : List V), v ∈ l → v.count ≤ (l.map V.count).sum
  | x :: l, h => by
    simp only [List.map_cons, List.sum_cons]
    rcases List.mem_cons.1 h with rfl | h
    · omega
    · have := count_leK l h; omega
set_option maxHeartbeats 800000 in
theorem klist_same (vs : List V) (A B : Option Addr) (ca cb : Nat) (w : World) (ha : InL w A ca vs) (hb : InL w B cb vs) :
    Calls Tryd.prog 27 #[.slice A vs.length ca, .slice B vs.length cb] w fun e w' => e = .returned (.bool true) ∧ Grow w w' := by
  have HC := hide (same_any (.mk 0 0 [] vs []) (.mk 0 0 [] vs []) w _ _ (ha.asK 0 (by decide) (by decide)) (hb.asK 0 (by decide) (by decide)))
  rw [sameB_self] at HC
  clear ha hb
  go_enter Tryd.func27, Tryd.ntmps27
  go_wp2_with fail
  refine HC.out.mono ?_
  rintro e w2 ⟨rfl, hg⟩
  have HG := hide hg
  clear hg
  go_wp2_with fail
  go_ret
  exact ⟨rfl, HG.out⟩

set_option maxRecDepth 100000 in
set_option maxHeartbeats 6400000 in
theorem kmany_any (l : List V) (A : Option Addr) (ac : Nat) (ts : List Bool) (F : Option Addr) (fc : Nat) (b : List UInt8) (B : Option Addr) (bc : Nat) (w : World) (hT : Tabs w) (hv : InL w A ac l) (hll : l.length ≤ 1000000000) (hsz : ∀ v ∈ l, v.formed = true → v.bytes.length ≤ 140737488355328)
    (hf : InBo w F ts) (hts : ts.length ≤ 1000000000) (hb : InB w B b) (hl : b.length ≤ 1000000000) (hcap : b.length ≤ bc) :
    Calls Tryd.prog 4 #[.slice A l.length ac, .slice F ts.length fc, .slice B b.length bc] w fun e w' => e = .returned (.bool true) ∧ Grow w w' := by
  have hw0 : 0 < w.heap.size := by have := hT.lt; omega
  have HT := hide hT
  have HV := hide hv
  have HSZ := hide hsz
  have HF := hide hf
  have HBB := hide hb
  clear hT hv hsz hf hb
  go_enter Tryd.func4, Tryd.ntmps4
  go_wp2_with fail
  refine (vast_any l A ac _ HV.out).mono ?_
  rintro e w2 ⟨rfl, hg2⟩
  have HG2 := hide hg2
  clear hg2
  by_cases hbig : 20000 ≤ (l.map V.count).sum
  · rw [decide_eq_true hbig]
    go_wp2_with fail
    go_ret
    exact ⟨rfl, HG2.out⟩
  rw [decide_eq_false hbig]
  have HMILD := hide (InL.mildK HV.out (fun v hv => by have := count_leK l hv; omega))
  clear hbig
  obtain ⟨KB, ke, hke⟩ : ∃ kb ke, allK l ts = (kb, ke) := ⟨_, _, rfl⟩
  have HOF := hide (all_anyM l ts A F ac fc w2 HMILD.out (HT.out.grow HG2.out) (HV.out.grow HG2.out) (HF.out.grow HG2.out) (by omega))
  rw [hke] at HOF
  have HKE := hide hke
  clear hke
  go_wp2_with fail
  refine HOF.out.mono ?_
  rintro e w3 ⟨b3, A3, c3, rfl, hb3, hr3, hg3⟩
  dsimp only at hr3 ⊢
  have HG3 := hide (HG2.out.trans hg3)
  have HR3 := hide hr3
  clear hg3 hr3 hb3
  have HKB := hide (kparts_any b ts B F bc fc w3 (HT.out.grow HG3.out) (HBB.out.grow HG3.out) (HF.out.grow HG3.out) hl hcap hts)
  go_wp2_with fail
  refine HKB.out.mono ?_
  rintro e w4 hk4
  obtain ⟨A4, c4, f, u, rfl, hx4, hg4, hR⟩ := KPartsC.both hk4
  have HG4 := hide (HG3.out.trans hg4)
  have HR4 := hide (HR3.out.grow hg4)
  have HI4 := hide hx4
  have HRR := hide hR
  clear hk4 hx4 hg4 hR HKB
  have HOF2 := rAll_closed l ts A F ac fc w4 (fun v hv => ⟨(HMILD.out v hv).1, HSZ.out v hv⟩) (HV.out.grow HG4.out) (HF.out.grow HG4.out) (by omega) (by omega)
  rw [HKE.out] at HOF2
  have HOF2 := hide HOF2
  go_wp2_with fail
  refine HOF2.out.mono ?_
  rintro e w5 ⟨b5, A5, c5, rfl, hb5, hr5, hg5⟩
  dsimp only at hr5 ⊢
  have HG5 := hide (HG4.out.trans hg5)
  have HR5 := hide (HR4.out.grow hg5)
  have HS5 := hide hr5
  have HI5 := hide (HI4.out.grow hg5)
  clear hg5 hr5 hb5 HOF2 HOF
  have HRB := hide (rparts_any b ts B F bc fc w5 (by have := HG5.out.size; omega) (HBB.out.grow HG5.out) (HF.out.grow HG5.out) hcap hts)
  go_wp2_with fail
  refine HRB.out.mono ?_
  rintro e w6 hk6
  obtain ⟨A6, c6, ok, y, rfl, hy6, hg6, hR6⟩ := RPartsC.both hk6
  rw [← partsK_same (b.length + 16) (by omega)] at hR6
  have HG6 := hide (HG5.out.trans hg6)
  have HR6 := hide (HR5.out.grow hg6)
  have HS6 := hide (HS5.out.grow hg6)
  have HI6 := hide (HI5.out.grow hg6)
  have HJ6 := hide hy6
  have HRY := hide hR6
  clear hk6 hy6 hg6 hR6 HRB
  go_wp2_with fail
  refine (kawake_any _ (HT.out.grow HG6.out)).mono ?_
  rintro e w7 ⟨rfl, hg7⟩
  have hs1 := conv_row (HR6.out.grow hg7)
  have hs2 := conv_row (HS6.out.grow hg7)
  have HG7 := hide (HG6.out.trans hg7)
  have HI7 := hide (HI6.out.grow hg7)
  have HJ7 := hide (HJ6.out.grow hg7)
  clear hg7
  rcases HRR.out with ⟨r1, hf, hu⟩ | ⟨r1, hf⟩
  · rcases HRY.out with ⟨r2, ht⟩ | ⟨r2, ht⟩
    · subst hf ht hu
      clear r1 r2
      go_wp2_with fail
      go_ret
      exact ⟨rfl, HG7.out⟩
    · rw [r1] at r2; cases r2
  · rcases HRY.out with ⟨r2, ht⟩ | ⟨r2, ht⟩
    · rw [r1] at r2; cases r2
    · have huy : u = y := by rw [r1] at r2; injection r2
      subst hf ht huy
      clear r1 r2
      go_wp2_with fail
      refine (klist_same u _ _ _ _ _ HI7.out HJ7.out).mono ?_
      rintro e w8 ⟨rfl, hg8⟩
      have HG8 := hide (HG7.out.trans hg8)
      clear hg8
      go_wp2_with fail
      go_ret
      exact ⟨rfl, HG8.out⟩
end Go.Proofs.YtpjhhkndfmcaoaaDoor
