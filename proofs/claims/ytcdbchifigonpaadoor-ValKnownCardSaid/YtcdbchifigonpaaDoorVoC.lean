/- Walk of val.compare: values held against one another by the program. -/
import Derived.Test.YtcdbchifigonpaaDoorVoT
set_option linter.unusedVariables false
set_option linter.unusedSimpArgs false
namespace Go.Proofs.YtcdbchifigonpaaDoor
open Go.RowKit Go.Shelf

theorem foldC_at : ∀ (l : List Int) (j : Nat) (h : j < l.length), (∀ i (hi : i < l.length), i < j → l[i] = 0) → l[j] ≠ 0 → foldC l = l[j]
  | [], j, h, _, _ => by simp at h
  | x :: l, 0, h, _, hn => by simp only [List.getElem_cons_zero] at hn ⊢; rw [foldC, orC_n _ hn]
  | x :: l, j + 1, h, h0, hn => by
    have hx : x = 0 := h0 0 (by simp) (by omega)
    simp only [List.getElem_cons_succ] at hn ⊢
    rw [foldC, hx, orC_0]
    exact foldC_at l j (by simpa using h) (fun i hi hij => h0 (i + 1) (by simpa using hi) (by omega)) hn
theorem foldC_0 : ∀ (l : List Int), (∀ i (hi : i < l.length), l[i] = 0) → foldC l = 0
  | [], _ => rfl
  | x :: l, h => by
    have hx : x = 0 := h 0 (by simp)
    rw [foldC, hx, orC_0]
    exact foldC_0 l (fun i hi => h (i + 1) (by simpa using hi))
namespace V
theorem cmpL_at {l l' : List V} {j : Nat} (h1 : j < l.length) (h2 : j < l'.length) (h : ∀ i (h1 : i < l.length) (h2 : i < l'.length), i < j → cmp l[i] l'[i] = 0) (hn : cmp l[j] l'[j] ≠ 0) : cmpL l l' = cmp l[j] l'[j] := by
  unfold cmpL
  have hl : ((l.zip l').map fun p => cmp p.1 p.2).length = min l.length l'.length := by simp
  rw [foldC_at _ j (by rw [hl]; omega) (fun i hi hij => ?_) (by simpa using hn)]
  · simp
  · rw [hl] at hi
    have := h i (by omega) (by omega) hij
    simpa using this
theorem cmpL_0 {l l' : List V} (h : ∀ i (h1 : i < l.length) (h2 : i < l'.length), cmp l[i] l'[i] = 0) : cmpL l l' = 0 := by
  unfold cmpL
  refine foldC_0 _ (fun i hi => ?_)
  have hl : ((l.zip l').map fun p => cmp p.1 p.2).length = min l.length l'.length := by simp
  rw [hl] at hi
  have := h i (by omega) (by omega)
  simpa using this
theorem cmpF_at {l l' : List (ByteArray × V)} {j : Nat} (h1 : j < l.length) (h2 : j < l'.length) (h : ∀ i (h1 : i < l.length) (h2 : i < l'.length), i < j → cmpP l[i] l'[i] = 0) (hn : cmpP l[j] l'[j] ≠ 0) : cmpF l l' = cmpP l[j] l'[j] := by
  unfold cmpF
  have hl : ((l.zip l').map fun p => cmpP p.1 p.2).length = min l.length l'.length := by simp
  rw [foldC_at _ j (by rw [hl]; omega) (fun i hi hij => ?_) (by simpa using hn)]
  · simp
  · rw [hl] at hi
    have := h i (by omega) (by omega) hij
    simpa using this
theorem cmpF_0 {l l' : List (ByteArray × V)} (h : ∀ i (h1 : i < l.length) (h2 : i < l'.length), cmpP l[i] l'[i] = 0) : cmpF l l' = 0 := by
  unfold cmpF
  refine foldC_0 _ (fun i hi => ?_)
  have hl : ((l.zip l').map fun p => cmpP p.1 p.2).length = min l.length l'.length := by simp
  rw [hl] at hi
  have := h i (by omega) (by omega)
  simpa using this
end V
theorem orC_assoc (a b c : Int) : orC (orC a b) c = orC a (orC b c) := by unfold orC; split <;> simp_all

/-- Two values held against one another by the program. -/
def CmpC (x y : V) : Prop := ∀ (w : World) (c c' : Cv), In w x c → In w y c' →
  Calls Tryd.prog 68 #[c.agg, c'.agg] w fun e w' => e = .returned (.int .i64 (V.cmp x y)) ∧ Grow w w'

set_option maxRecDepth 100000 in
set_option maxHeartbeats 3200000 in
theorem vcompare_diff (x y : V) (h : cls x.k ≠ cls y.k) : CmpC x y := by
  intro w c c' hx hy
  obtain ⟨k, n, b, l, f⟩ := x
  obtain ⟨k', n', b', l', f'⟩ := y
  change cls k ≠ cls k' at h
  have HE := hide (show sg (cls k) (cls k') = V.cmp (.mk k n b l f) (.mk k' n' b' l' f') by rw [V.cmp_mk, if_pos h])
  obtain ⟨aB, aL, aF, cB, cL, cF, rfl, -⟩ := hx.open
  obtain ⟨bB, bL, bF, dB, dL, dF, rfl, -⟩ := hy.open
  have HG := hide (((Grow.refl w).alloc (.cells (Cv.mk k n aB b.length cB aL l.length cL aF f.length cF).cells 37)).alloc (.cells (Cv.mk k' n' bB b'.length dB bL l'.length dL bF f'.length dF).cells 37))
  have HA := hide (fun w => class_any k w)
  have HB := hide (fun w => class_any k' w)
  have HC := hide (fun w => cmpi_any (cls k) (cls k') w)
  have hz : (sg (cls k) (cls k') != 0) = true := by have := sg_ne h; simpa using this
  obtain ⟨z, hzz⟩ : ∃ z, sg (cls k) (cls k') = z := ⟨_, rfl⟩
  rw [hzz] at hz HC HE
  rw [← HE.out]
  clear hx hy h hzz
  go_enter Tryd.func68, Tryd.ntmps68
  go_wp2_with fail
  go_quiet ((first | (go_at_call 83; exact Calls.quiet_of_same ((HA.out _).mono fun e w' h => ⟨h.1, h.2.symm⟩)) | (go_at_call 83; exact Calls.quiet_of_same ((HB.out _).mono fun e w' h => ⟨h.1, h.2.symm⟩)) | (go_at_call 82; exact Calls.quiet_of_same ((HC.out _).mono fun e w' h => ⟨h.1, h.2.symm⟩))))
  go_wp2_with fail
  go_ret
  exact ⟨rfl, HG.out.drewN _⟩

set_option maxRecDepth 100000 in
set_option maxHeartbeats 6400000 in
theorem vcompare_tail (k : Int) (n n' : Nat) (b b' : List UInt8) (l l' : List V) (f f' : List (ByteArray × V)) (c c' : Cv) (w : World) (hk2 : (k == 2) = false) (hk3 : (k == 3) = false) (hk4 : (k == 4) = false) (hk5 : (k == 5) = false) (hk6 : (k == 6) = false)
    (hv : In w (.mk k n b l f) c) (hv' : In w (.mk k n' b' l' f') c') (hl : ∀ x ∈ l, ∀ y ∈ l', CmpC x y) (hf : ∀ x ∈ f, ∀ y ∈ f', CmpC x.2 y.2) :
    Calls Tryd.prog 68 #[c.agg, c'.agg] w fun e w' => e = .returned (.int .i64 (orC (V.cmpL l l') (orC (V.cmpF f f') (orC (sg (l.length : Int) (l'.length : Int)) (sg (f.length : Int) (f'.length : Int)))))) ∧ Grow w w' := by
  obtain ⟨aB, aL, aF, cB, cL, cF, rfl, h1, h2, h3, h4, h5, h6, h7, h8, h9, hb⟩ := hv.open
  obtain ⟨aB', aL', aF', cB', cL', cF', rfl, h1', h2', h3', h4', h5', h6', h7', h8', h9', hb'⟩ := hv'.open
  have HV := hide hv
  have HV' := hide hv'
  have Hl := hide hl
  have Hf := hide hf
  have HA := hide (fun w => class_any k w)
  have HC := hide (fun w => cmpi_any (cls k) (cls k) w)
  rw [sg_eq rfl] at HC
  obtain ⟨M, hM⟩ : ∃ M, min l.length l'.length = M := ⟨_, rfl⟩
  have hMi : min (l.length : Int) (l'.length : Int) = (M : Int) := by omega
  obtain ⟨M2, hM2⟩ : ∃ M, min f.length f'.length = M := ⟨_, rfl⟩
  have hMi2 : min (f.length : Int) (f'.length : Int) = (M2 : Int) := by omega
  have hMa : M ≤ l.length := by omega
  have hMb : M ≤ l'.length := by omega
  have hMc : M2 ≤ f.length := by omega
  have hMd : M2 ≤ f'.length := by omega
  have HM := hide hM
  have HM2 := hide hM2
  clear hv hv' hb hb' h1 h2 h3 h4 h5 h6 h8 h1' h2' h3' h4' h5' h6' h8' hl hf hM hM2
  go_enter Tryd.func68, Tryd.ntmps68
  go_wp2_with fail
  go_quiet ((first | (go_at_call 83; exact Calls.quiet_of_same ((HA.out _).mono fun e w' h => ⟨h.1, h.2.symm⟩)) | (go_at_call 82; exact Calls.quiet_of_same ((HC.out _).mono fun e w' h => ⟨h.1, h.2.symm⟩))))
  go_wp2_with fail
  go_loopg [50] (M + 1) (fun gk i wr => ∃ j : Nat, j ≤ M ∧ gk + j = M + 1 ∧ i = .int .i64 j ∧ (∀ i (h1 : i < l.length) (h2 : i < l'.length), i < j → V.cmp l[i] l'[i] = 0) ∧ Grow w wr ∧
    Blk wr w.heap.size 37 (Cv.cells ⟨k, (n : Int), aB, b.length, cB, aL, l.length, cL, aF, f.length, cF⟩) ∧ Blk wr (w.heap.size + 1) 37 (Cv.cells ⟨k, (n' : Int), aB', b'.length, cB', aL', l'.length, cL', aF', f'.length, cF'⟩))
  case atStart => exact ⟨0, by omega, by omega, rfl, fun i _ _ h => absurd h (by omega), (((Grow.refl w).alloc _).alloc _).drewN _, ((Blk.new _ _ _).alloc _).drewN _, (Blk.new' (by simp) _ _).drewN _⟩
  case round =>
    obtain ⟨j, hj, hg, rfl, heq, hw, hB, hB'⟩ := hrel
    obtain ⟨gk', rfl⟩ : ∃ g, gk = g + 1 := ⟨gk - 1, by omega⟩
    have hc3 := hB.cell
    have hc3' := hB'.cell
    have HW := hide hw
    have HEQ := hide heq
    have HB := hide hB
    have HB' := hide hB'
    by_cases hlt : j < M
    · have hlt1 : j < l.length := by omega
      have hlt' : j < l'.length := by omega
      obtain ⟨bk, o, x, ha, hbk, e0, e1, e2, e3, e4, hx⟩ := (HV.out.grow hw).elemL j hlt1
      obtain ⟨bk', o', x', ha', hbk', e0', e1', e2', e3', e4', hx'⟩ := (HV'.out.grow hw).elemL j hlt'
      dsimp only at ha ha'
      subst ha ha'
      have HX := hide hx
      have HX' := hide hx'
      have Hlj := hide (Hl.out _ (List.getElem_mem hlt1) _ (List.getElem_mem hlt'))
      clear hw hx hx' hB hB' heq
      have hz0 : w.heap.size < wr.heap.size := HB.out.lt
      have hz1 : w.heap.size + 1 < wr.heap.size := HB'.out.lt
      obtain ⟨z, hz⟩ : ∃ z, V.cmp l[j] l'[j] = z := ⟨_, rfl⟩
      have HJ := hide (fun w2 (hgr : Grow wr w2) => Hlj.out w2 x x' (HX.out.grow hgr) (HX'.out.grow hgr))
      rw [hz] at HJ
      have HZ := hide hz
      clear hz
      by_cases he : z = 0
      · subst he
        go_wp2_with fail
        go_region_held3 (fun w' => ∀ b o, b < wr.heap.size → w'.cell? ⟨b, o, none⟩ = wr.cell? ⟨b, o, none⟩) (first | exact fun _ _ _ => rfl | exact fun b o h => hgr.below.cell (p := ⟨b, o, none⟩) h)
          (first | (go_at_call 68; refine (HJ.out _ (Grow.refl wr).drew).mono ?_; rintro e w2 ⟨rfl, hb2⟩; have hgr : Grow wr w2 := (Grow.refl wr).drew.trans hb2))
        have HGR := hide hgr
        clear hgr hb2
        go_wp2_with fail
        go_roundg gk'
        case measure => omega
        case rel =>
          refine ⟨j + 1, by omega, by omega, by go_num, fun i h1 h2 h3 => ?_, HW.out.trans HGR.out, HB.out.grow HGR.out, HB'.out.grow HGR.out⟩
          rcases Nat.lt_or_ge i j with h | h
          · exact HEQ.out i h1 h2 h
          · obtain rfl : i = j := by omega
            exact HZ.out
      · have hzq : (z != 0) = true := by simpa using he
        have HE := hide he
        have HR := hide (V.cmpL_at hlt1 hlt' HEQ.out (by rw [HZ.out]; exact he))
        clear he
        go_wp2_with fail
        go_region_held3 (fun w' => ∀ b o, b < wr.heap.size → w'.cell? ⟨b, o, none⟩ = wr.cell? ⟨b, o, none⟩) (first | exact fun _ _ _ => rfl | exact fun b o h => hgr.below.cell (p := ⟨b, o, none⟩) h)
          (first | (go_at_call 68; refine (HJ.out _ (Grow.refl wr).drew).mono ?_; rintro e w2 ⟨rfl, hb2⟩; have hgr : Grow wr w2 := (Grow.refl wr).drew.trans hb2))
        have HGR := hide hgr
        clear hgr hb2
        go_wp2_with fail
        go_ret
        refine ⟨ret_int ?_, HW.out.trans HGR.out⟩
        rw [HR.out, HZ.out, orC_n _ HE.out]
    · obtain rfl : j = M := by omega
      have HL0 := hide (show V.cmpL l l' = 0 from V.cmpL_0 (fun i h1 h2 => HEQ.out i h1 h2 (by have := HM.out; omega)))
      clear hw hB hB' heq HEQ hlt hg
      go_wp2_with fail
      have HW1 := hide HW.out
      go_loopg [75] (M2 + 1) (fun gk i wr => ∃ j : Nat, j ≤ M2 ∧ gk + j = M2 + 1 ∧ i = .int .i64 j ∧ (∀ i (h1 : i < f.length) (h2 : i < f'.length), i < j → V.cmpP f[i] f'[i] = 0) ∧ Grow w wr ∧
        Blk wr w.heap.size 37 (Cv.cells ⟨k, (n : Int), aB, b.length, cB, aL, l.length, cL, aF, f.length, cF⟩) ∧ Blk wr (w.heap.size + 1) 37 (Cv.cells ⟨k, (n' : Int), aB', b'.length, cB', aL', l'.length, cL', aF', f'.length, cF'⟩))
      case atStart => exact ⟨0, by omega, by omega, rfl, fun i _ _ h => absurd h (by omega), HW.out, HB.out, HB'.out⟩
      case round =>
        obtain ⟨j, hj, hg, rfl, heq, hw, hB, hB'⟩ := hrel
        obtain ⟨gk', rfl⟩ : ∃ g, gk = g + 1 := ⟨gk - 1, by omega⟩
        clear hc3 hc3' HW HW1 HB HB'
        have hc3 := hB.cell
        have hc3' := hB'.cell
        have HW := hide hw
        have HEQ := hide heq
        have HB := hide hB
        have HB' := hide hB'
        have hz0 : w.heap.size < wr.heap.size := HB.out.lt
        have hz1 : w.heap.size + 1 < wr.heap.size := HB'.out.lt
        by_cases hlt : j < M2
        · have hlt1 : j < f.length := by omega
          have hlt' : j < f'.length := by omega
          obtain ⟨bk, o, x, ha, hbk, es, esz, e0, e1, e2, e3, e4, hx⟩ := (HV.out.grow hw).elemF j hlt1
          obtain ⟨bk', o', x', ha', hbk', es', esz', e0', e1', e2', e3', e4', hx'⟩ := (HV'.out.grow hw).elemF j hlt'
          dsimp only at ha ha'
          subst ha ha'
          have HX := hide hx
          have HX' := hide hx'
          have Hlj := hide (Hf.out _ (List.getElem_mem hlt1) _ (List.getElem_mem hlt'))
          clear hw hx hx' hB hB' heq
          have HP := hide (show V.cmpP f[j] f'[j] = orC (Lib.compareBytes f[j].1.data.toList f'[j].1.data.toList) (V.cmp f[j].2 f'[j].2) from rfl)
          have HS := hide (fun w2 => scmp_any f[j].1 f'[j].1 w2)
          obtain ⟨s1, hs1⟩ : ∃ s, f[j].1 = s := ⟨_, rfl⟩
          obtain ⟨s2, hs2⟩ : ∃ s, f'[j].1 = s := ⟨_, rfl⟩
          obtain ⟨z2, hz2⟩ : ∃ z, V.cmp f[j].2 f'[j].2 = z := ⟨_, rfl⟩
          have HJ := hide (fun w2 (hgr : Grow wr w2) => Hlj.out w2 x x' (HX.out.grow hgr) (HX'.out.grow hgr))
          rw [hz2] at HJ HP
          rw [hs1, hs2] at HS HP
          rw [hs1] at es
          rw [hs2] at es'
          obtain ⟨z1, hz1'⟩ : ∃ z, Lib.compareBytes s1.data.toList s2.data.toList = z := ⟨_, rfl⟩
          rw [hz1'] at HS HP
          obtain ⟨z, hzz⟩ : ∃ z, orC z1 z2 = z := ⟨_, rfl⟩
          have HO := hide (fun g cap t w2 hB => or2_any z1 z2 g cap t w2 hB)
          rw [hzz] at HO HP
          clear hs1 hs2 hz2 hz1' hzz
          by_cases he : z = 0
          · subst he
            go_wp2_with fail
            go_region_held3 (fun w' => ∀ b o, b < wr.heap.size → w'.cell? ⟨b, o, none⟩ = wr.cell? ⟨b, o, none⟩) (first | exact fun _ _ _ => rfl | exact fun b o h => hgr.below.cell (p := ⟨b, o, none⟩) h | exact fun b o h => (hgr.alloc _).below.cell (p := ⟨b, o, none⟩) h | exact fun b o h => ((hgr.alloc _).drew).below.cell (p := ⟨b, o, none⟩) h)
              (first | (go_at_call 68; refine (HJ.out _ (Grow.refl wr).drew).mono ?_; rintro e w2 ⟨rfl, hb2⟩; have hgr : Grow wr w2 := (Grow.refl wr).drew.trans hb2) | (go_at_call 88; refine (HS.out _).mono ?_; rintro e w2 ⟨rfl, rfl⟩) | (go_at_call 87; refine (HO.out _ _ _ _ (Blk.new _ _ _)).mono ?_; rintro e w2 ⟨rfl, rfl⟩))
            all_goals
              have HGR := hide (hgr.alloc (.cells #[.int .i64 z1, .int .i64 z2] 3))
              clear hgr hb2
              go_wp2_with fail
              go_roundg gk'
              case measure => omega
              case rel =>
                refine ⟨j + 1, by omega, by omega, by go_num, fun i h1 h2 h3 => ?_, HW.out.trans HGR.out, HB.out.grow HGR.out, HB'.out.grow HGR.out⟩
                rcases Nat.lt_or_ge i j with h | h
                · exact HEQ.out i h1 h2 h
                · obtain rfl : i = j := by omega
                  exact HP.out
          · have hzq : (z != 0) = true := by simpa using he
            have HE := hide he
            have HR := hide (V.cmpF_at hlt1 hlt' HEQ.out (by rw [HP.out]; exact he))
            clear he
            go_wp2_with fail
            go_region_held3 (fun w' => ∀ b o, b < wr.heap.size → w'.cell? ⟨b, o, none⟩ = wr.cell? ⟨b, o, none⟩) (first | exact fun _ _ _ => rfl | exact fun b o h => hgr.below.cell (p := ⟨b, o, none⟩) h | exact fun b o h => (hgr.alloc _).below.cell (p := ⟨b, o, none⟩) h | exact fun b o h => ((hgr.alloc _).drew).below.cell (p := ⟨b, o, none⟩) h)
              (first | (go_at_call 68; refine (HJ.out _ (Grow.refl wr).drew).mono ?_; rintro e w2 ⟨rfl, hb2⟩; have hgr : Grow wr w2 := (Grow.refl wr).drew.trans hb2) | (go_at_call 88; refine (HS.out _).mono ?_; rintro e w2 ⟨rfl, rfl⟩) | (go_at_call 87; refine (HO.out _ _ _ _ (Blk.new _ _ _)).mono ?_; rintro e w2 ⟨rfl, rfl⟩))
            all_goals
              have HGR := hide (hgr.alloc (.cells #[.int .i64 z1, .int .i64 z2] 3))
              clear hgr hb2
              go_wp2_with fail
              go_ret
              refine ⟨ret_int ?_, HW.out.trans HGR.out⟩
              rw [HL0.out, orC_0, HR.out, HP.out, orC_n _ HE.out]
        · obtain rfl : j = M2 := by omega
          have HF0 := hide (show V.cmpF f f' = 0 from V.cmpF_0 (fun i h1 h2 => HEQ.out i h1 h2 (by have := HM2.out; omega)))
          clear hw hB hB' heq HEQ hlt hg
          have HC1 := hide (fun w => cmpi_any (l.length : Int) (l'.length : Int) w)
          have HC2 := hide (fun w => cmpi_any (f.length : Int) (f'.length : Int) w)
          obtain ⟨z1, hz1'⟩ : ∃ z, sg (l.length : Int) (l'.length : Int) = z := ⟨_, rfl⟩
          obtain ⟨z2, hz2'⟩ : ∃ z, sg (f.length : Int) (f'.length : Int) = z := ⟨_, rfl⟩
          rw [hz1'] at HC1
          rw [hz2'] at HC2
          have HZ1 := hide hz1'
          have HZ2 := hide hz2'
          have HO := hide (fun g cap t w2 hB => or2_any z1 z2 g cap t w2 hB)
          clear hz1' hz2'
          go_wp2_with fail
          go_region_held3 (fun w' => ∀ b o, b < wr.heap.size → w'.cell? ⟨b, o, none⟩ = wr.cell? ⟨b, o, none⟩) (first | exact fun _ _ _ => rfl | exact fun b o h => ((Grow.refl wr).alloc _).below.cell (p := ⟨b, o, none⟩) h | exact fun b o h => (((Grow.refl wr).alloc _).drew).below.cell (p := ⟨b, o, none⟩) h)
            (first | (go_at_call 82; (with_reducible refine (HC1.out _).mono ?_); rintro e w2 ⟨rfl, rfl⟩) | (go_at_call 82; (with_reducible refine (HC2.out _).mono ?_); rintro e w2 ⟨rfl, rfl⟩) | (go_at_call 87; refine (HO.out _ _ _ _ (Blk.drew (Blk.new _ _ _))).mono ?_; rintro e w2 ⟨rfl, rfl⟩) | (go_at_call 87; refine (HO.out _ _ _ _ (Blk.new _ _ _)).mono ?_; rintro e w2 ⟨rfl, rfl⟩))
          all_goals
            have HGR := hide (((Grow.refl wr).alloc (.cells #[.int .i64 z1, .int .i64 z2] 3)).drew)
            go_wp2_with fail
            go_ret
            refine ⟨ret_int ?_, HW.out.trans HGR.out⟩
            rw [HL0.out, HF0.out, orC_0, orC_0, HZ1.out, HZ2.out]
set_option maxRecDepth 100000 in
set_option maxHeartbeats 3200000 in
theorem vcompare_num (k k' : Int) (n n' : Nat) (hk : k = 3 ∨ k = 4) (hk' : k' = 3 ∨ k' = 4) : CmpC (.mk k n [] [] []) (.mk k' n' [] [] []) := by
  intro w c c' hx hy
  rw [V.number_cmp hk hk']
  have HN := hide (fun w2 (hg : Grow w w2) => numbers_any k k' n n' c c' w2 hk hk' (hx.grow hg) (hy.grow hg))
  obtain ⟨aB, aL, aF, cB, cL, cF, rfl, -⟩ := hx.open
  obtain ⟨bB, bL, bF, dB, dL, dF, rfl, -⟩ := hy.open
  have HG := hide (((Grow.refl w).alloc (.cells (Cv.mk k n aB 0 cB aL 0 cL aF 0 cF).cells 37)).alloc (.cells (Cv.mk k' n' bB 0 dB bL 0 dL bF 0 dF).cells 37))
  have HA := hide (fun w => class_any k w)
  have HA2 := hide (fun w => class_any k' w)
  have HC := hide (fun w => cmpi_any 3 3 w)
  rw [sg_eq rfl] at HC
  rw [show cls k = 3 by rcases hk with rfl | rfl <;> rfl] at HA
  rw [show cls k' = 3 by rcases hk' with rfl | rfl <;> rfl] at HA2
  have hk2 : (k == 2) = false := by rcases hk with rfl | rfl <;> rfl
  clear hx hy
  rcases hk with rfl | rfl
  all_goals
    go_enter Tryd.func68, Tryd.ntmps68
    go_wp2_with fail
    go_quiet ((first | (go_at_call 83; exact Calls.quiet_of_same ((HA.out _).mono fun e w' h => ⟨h.1, h.2.symm⟩)) | (go_at_call 83; exact Calls.quiet_of_same ((HA2.out _).mono fun e w' h => ⟨h.1, h.2.symm⟩)) | (go_at_call 82; exact Calls.quiet_of_same ((HC.out _).mono fun e w' h => ⟨h.1, h.2.symm⟩))))
    go_wp2_with fail
    refine (HN.out _ (HG.out.drewN _)).mono ?_
    rintro e w2 ⟨rfl, hg⟩
    have HG2 := hide ((HG.out.drewN _).trans hg)
    clear hg
    go_wp2_with fail
    go_ret
    exact ⟨rfl, HG2.out⟩
set_option maxRecDepth 100000 in
set_option maxHeartbeats 3200000 in
theorem vcompare_bool (n n' : Nat) : CmpC (.mk 2 n [] [] []) (.mk 2 n' [] [] []) := by
  intro w c c' hx hy
  have HE := hide (show sg n n' = V.cmp (.mk 2 n [] [] []) (.mk 2 n' [] [] []) by rw [V.cmp_mk]; rfl)
  rw [← HE.out]
  obtain ⟨aB, aL, aF, cB, cL, cF, rfl, -⟩ := hx.open
  obtain ⟨bB, bL, bF, dB, dL, dF, rfl, -⟩ := hy.open
  have HG := hide (((Grow.refl w).alloc (.cells (Cv.mk 2 n aB 0 cB aL 0 cL aF 0 cF).cells 37)).alloc (.cells (Cv.mk 2 n' bB 0 dB bL 0 dL bF 0 dF).cells 37))
  have HA := hide (fun w => class_any 2 w)
  have HA2 := hide (fun w => class_any 2 w)
  have HC := hide (fun w => cmpi_any 2 2 w)
  rw [sg_eq rfl] at HC
  rw [show cls 2 = 2 from rfl] at HA HA2
  have HN := hide (fun w => cmpu64_any n n' w)
  clear hx hy
  go_enter Tryd.func68, Tryd.ntmps68
  go_wp2_with fail
  go_quiet ((first | (go_at_call 83; exact Calls.quiet_of_same ((HA.out _).mono fun e w' h => ⟨h.1, h.2.symm⟩)) | (go_at_call 83; exact Calls.quiet_of_same ((HA2.out _).mono fun e w' h => ⟨h.1, h.2.symm⟩)) | (go_at_call 82; exact Calls.quiet_of_same ((HC.out _).mono fun e w' h => ⟨h.1, h.2.symm⟩))))
  go_wp2_with (go_at_call 84; refine (HN.out _).mono ?_; rintro e w2 ⟨rfl, rfl⟩)
  go_ret
  exact ⟨rfl, HG.out.drewN _⟩
set_option maxRecDepth 100000 in
set_option maxHeartbeats 3200000 in
theorem vcompare_text (k : Int) (b b' : List UInt8) (hk : k = 5 ∨ k = 6) : CmpC (.mk k 0 b [] []) (.mk k 0 b' [] []) := by
  intro w c c' hx hy
  have HE := hide (show Lib.compareBytes b b' = V.cmp (.mk k 0 b [] []) (.mk k 0 b' [] []) by rw [V.cmp_mk, if_neg (by simp), if_neg (by omega), if_neg (by omega), if_pos hk])
  rw [← HE.out]
  obtain ⟨aB, aL, aF, cB, cL, cF, rfl, -, -, -, -, -, -, -, -, -, hb⟩ := hx.open
  obtain ⟨bB, bL, bF, dB, dL, dF, rfl, -, -, -, -, -, -, -, -, -, hb'⟩ := hy.open
  have HG := hide (((Grow.refl w).alloc (.cells (Cv.mk k 0 aB b.length cB aL 0 cL aF 0 cF).cells 37)).alloc (.cells (Cv.mk k 0 bB b'.length dB bL 0 dL bF 0 dF).cells 37))
  have HA := hide (fun w => class_any k w)
  have HA2 := hide (fun w => class_any k w)
  have HC := hide (fun w => cmpi_any k k w)
  rw [sg_eq rfl] at HC
  rw [show cls k = k by rcases hk with rfl | rfl <;> rfl] at HA HA2
  have HN := hide (fun w2 (hg : Grow w w2) => balg_anyV b b' aB bB cB dB w2 (hb.grow hg) (hb'.grow hg))
  have hk2 : (k == 2) = false := by rcases hk with rfl | rfl <;> rfl
  have hk3 : (k == 3) = false := by rcases hk with rfl | rfl <;> rfl
  have hk4 : (k == 4) = false := by rcases hk with rfl | rfl <;> rfl
  clear hx hy hb hb'
  rcases hk with rfl | rfl
  all_goals
    go_enter Tryd.func68, Tryd.ntmps68
    go_wp2_with fail
    go_quiet ((first | (go_at_call 83; exact Calls.quiet_of_same ((HA.out _).mono fun e w' h => ⟨h.1, h.2.symm⟩)) | (go_at_call 83; exact Calls.quiet_of_same ((HA2.out _).mono fun e w' h => ⟨h.1, h.2.symm⟩)) | (go_at_call 82; exact Calls.quiet_of_same ((HC.out _).mono fun e w' h => ⟨h.1, h.2.symm⟩))))
    go_wp2_with (go_at_call 86; refine (HN.out _ (HG.out.drewN _)).mono ?_; rintro e w2 ⟨rfl, rfl⟩)
    go_ret
    exact ⟨rfl, HG.out.drewN _⟩
/-- Good values held against one another by the program. -/
theorem vcompare_any (x : V) : ∀ y : V, x.formed = true → y.formed = true → CmpC x y := by
  induction x using V.ind with
  | h k n b l f hl hf =>
    intro y hx hy
    obtain ⟨k', n', b', l', f'⟩ := y
    by_cases hcl : cls k ≠ cls k'
    · exact vcompare_diff _ _ hcl
    have hcl : cls k = cls k' := Decidable.byContradiction hcl
    rcases V.formed_cases hx with h | ⟨m, hm, h⟩ | ⟨m, h⟩ | ⟨m, h⟩ | ⟨m, hm, h⟩ | ⟨m, h⟩ | ⟨m, hm, h⟩ | ⟨m, hm, hnd, h⟩ <;> cases h <;>
    rcases V.formed_cases hy with h | ⟨m', hm', h⟩ | ⟨m', h⟩ | ⟨m', h⟩ | ⟨m', hm', h⟩ | ⟨m', h⟩ | ⟨m', hm', h⟩ | ⟨m', hm', hnd', h⟩ <;> cases h <;>
    first
    | exact absurd hcl (by decide)
    | exact vcompare_num _ _ _ _ (by decide) (by decide)
    | exact vcompare_bool _ _
    | exact vcompare_text _ _ _ (by decide)
    | skip
    · intro w c c' h h'
      refine (vcompare_tail 1 0 0 [] [] [] [] [] [] c c' w rfl rfl rfl rfl rfl h h' (fun _ hx => by simp at hx) (fun _ hx => by simp at hx)).mono ?_
      rintro e w' ⟨rfl, hg⟩
      exact ⟨ret_int (by rw [V.cmp_mk]; rfl), hg⟩
    · intro w c c' h h'
      refine (vcompare_tail 7 0 0 [] [] l l' [] [] c c' w rfl rfl rfl rfl rfl h h' (fun x hx y hy => hl x hx y (hm x hx) (hm' y hy)) (fun _ hx => by simp at hx)).mono ?_
      rintro e w' ⟨rfl, hg⟩
      refine ⟨ret_int ?_, hg⟩
      rw [V.cmp_mk, if_neg (by simp), if_neg (by decide), if_neg (by decide), if_neg (by decide)]
      have e0 : V.cmpF [] [] = 0 := rfl
      have e1 : sg (([] : List (ByteArray × V)).length : Int) (([] : List (ByteArray × V)).length : Int) = 0 := rfl
      rw [e0, e1, orC_assoc]
      simp only [List.length_nil, Nat.add_zero, orC_0]
      unfold orC; repeat' split
      all_goals first | rfl | contradiction | omega
    · intro w c c' h h'
      refine (vcompare_tail 8 0 0 [] [] [] [] f f' c c' w rfl rfl rfl rfl rfl h h' (fun _ hx => by simp at hx) (fun x hx y hy => hf x hx y.2 (hm x hx).2 (hm' y hy).2)).mono ?_
      rintro e w' ⟨rfl, hg⟩
      refine ⟨ret_int ?_, hg⟩
      rw [V.cmp_mk, if_neg (by simp), if_neg (by decide), if_neg (by decide), if_neg (by decide)]
      have e0 : V.cmpL [] [] = 0 := rfl
      have e1 : sg (([] : List V).length : Int) (([] : List V).length : Int) = 0 := rfl
      rw [e0, e1, orC_assoc]
      simp only [List.length_nil, Nat.zero_add, orC_0]
end Go.Proofs.YtcdbchifigonpaaDoor
