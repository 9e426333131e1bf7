/- Walk of munimentref2.Compare: values held against one another by the document's answer. -/
import Derived.Test.YtpjhhkndfmcaoaaDoorVoC
import Derived.Test.YtpjhhkndfmcaoaaDoorTxt
import Derived.Deep.DeepCutAuto
set_option linter.unusedVariables false
set_option linter.unusedSimpArgs false
namespace Go.Proofs.YtpjhhkndfmcaoaaDoor
open Go.RowKit Go.Shelf

/-- Two values held against one another by the document's answer. -/
def CmpR (x y : V) : Prop := ∀ (w : World) (c c' : Cv), In w x c → In w y c' →
  Calls Tryd.prog 38 #[c.agg, c'.agg] w fun e w' => e = .returned (.int .i64 (V.cmp x y)) ∧ Grow w w'
/-- A text as bytes, wherever it is made. -/
theorem conv_all (s : ByteArray) : ∃ (cap : World → Nat) (BW : World → World), ∀ w, (convert 9 23 (.string s)).run Tryd.prog w = .ok (.slice (some ⟨w.heap.size, 0, none⟩) s.size (cap w)) (BW w) ∧ Grow w (BW w) ∧ InB (BW w) (some ⟨w.heap.size, 0, none⟩) s.data.toList :=
  ⟨fun w => Classical.choose (conv_bytes2 w s), fun w => Classical.choose (Classical.choose_spec (conv_bytes2 w s)), fun w => by
    have h := Classical.choose_spec (Classical.choose_spec (conv_bytes2 w s))
    exact ⟨h.1, h.2.2.1, h.2.2.2⟩⟩

set_option maxRecDepth 100000 in
set_option maxHeartbeats 3200000 in
theorem rcompare_diff (x y : V) (h : cls x.k ≠ cls y.k) : CmpR x y := by
  intro w c c' hx hy
  obtain ⟨k, n, b, l, f⟩ := x
  obtain ⟨k', n', b', l', f'⟩ := y
  change cls k ≠ cls k' at h
  have HE := hide (show sg (cls k) (cls k') = V.cmp (.mk k n b l f) (.mk k' n' b' l' f') by rw [V.cmp_mk, if_pos h])
  obtain ⟨aB, aL, aF, cB, cL, cF, rfl, -⟩ := hx.open
  obtain ⟨bB, bL, bF, dB, dL, dF, rfl, -⟩ := hy.open
  have HG := hide (((Grow.refl w).alloc (.cells (Cv.mk k n aB b.length cB aL l.length cL aF f.length cF).cells 27)).alloc (.cells (Cv.mk k' n' bB b'.length dB bL l'.length dL bF f'.length dF).cells 27))
  have HA := hide (fun w => rclass_any k w)
  have HA2 := hide (fun w => rclass_any k' w)
  have HC := hide (fun w => rcmpi_any (cls k) (cls k') w)
  have hz : (cls k != cls k') = true := by simpa using h
  obtain ⟨z, hzz⟩ : ∃ z, sg (cls k) (cls k') = z := ⟨_, rfl⟩
  rw [hzz] at HC HE
  rw [← HE.out]
  clear hx hy h hzz
  go_enter Tryd.func38, Tryd.ntmps38
  go_wp2_with fail
  go_quiet ((first | (go_at_call 81; exact Calls.quiet_of_same ((HA.out _).mono fun e w' h => ⟨h.1, h.2.symm⟩)) | (go_at_call 81; exact Calls.quiet_of_same ((HA2.out _).mono fun e w' h => ⟨h.1, h.2.symm⟩)) | (go_at_call 82; exact Calls.quiet_of_same ((HC.out _).mono fun e w' h => ⟨h.1, h.2.symm⟩))))
  go_wp2_with fail
  go_quiet ((first | (go_at_call 81; exact quiet_again (HA.out _)) | (go_at_call 81; exact quiet_again (HA2.out _)) | (go_at_call 82; exact quiet_again (HC.out _))))
  go_wp2_with fail
  go_ret
  exact ⟨rfl, (HG.out.drewN _).drewN _⟩

set_option maxRecDepth 100000 in
set_option maxHeartbeats 6400000 in
theorem rcompare_tail (k : Int) (n n' : Nat) (b b' : List UInt8) (l l' : List V) (f f' : List (ByteArray × V)) (c c' : Cv) (w : World) (hk2 : (k == 2) = false) (hk3 : (k == 3) = false) (hk4 : (k == 4) = false) (hk5 : (k == 5) = false) (hk6 : (k == 6) = false)
    (hv : In w (.mk k n b l f) c) (hv' : In w (.mk k n' b' l' f') c') (hl : ∀ x ∈ l, ∀ y ∈ l', CmpR x y) (hf : ∀ x ∈ f, ∀ y ∈ f', CmpR x.2 y.2) :
    Calls Tryd.prog 38 #[c.agg, c'.agg] w fun e w' => e = .returned (.int .i64 (orC (V.cmpL l l') (orC (V.cmpF f f') (sg ((l.length : Int) + (f.length : Int)) ((l'.length : Int) + (f'.length : Int)))))) ∧ Grow w w' := by
  obtain ⟨aB, aL, aF, cB, cL, cF, rfl, h1, h2, h3, h4, h5, h6, h7, h8, h9, hb⟩ := hv.open
  obtain ⟨aB', aL', aF', cB', cL', cF', rfl, h1', h2', h3', h4', h5', h6', h7', h8', h9', hb'⟩ := hv'.open
  have HV := hide hv
  have HV' := hide hv'
  have Hl := hide hl
  have Hf := hide hf
  have HA := hide (fun w => rclass_any k w)
  have HA2 := hide (fun w => rclass_any k w)
  have HC := hide (fun w => rcmpi_any (cls k) (cls k) w)
  clear hv hv' hb hb' h1 h2 h3 h4 h5 h6 h8 h1' h2' h3' h4' h5' h6' h8' hl hf
  go_enter Tryd.func38, Tryd.ntmps38
  go_wp2_with fail
  go_quiet ((first | (go_at_call 81; exact Calls.quiet_of_same ((HA.out _).mono fun e w' h => ⟨h.1, h.2.symm⟩)) | (go_at_call 81; exact Calls.quiet_of_same ((HA2.out _).mono fun e w' h => ⟨h.1, h.2.symm⟩)) | (go_at_call 82; exact Calls.quiet_of_same ((HC.out _).mono fun e w' h => ⟨h.1, h.2.symm⟩))))
  go_wp2_with fail
  go_loopg [5] (l.length + 1) (fun gk i wr => ∃ j : Nat, j ≤ l.length ∧ j ≤ l'.length ∧ gk + j = l.length + 1 ∧ i = .int .i64 j ∧ (∀ i (h1 : i < l.length) (h2 : i < l'.length), i < j → V.cmp l[i] l'[i] = 0) ∧ Grow w wr ∧
    Blk wr w.heap.size 27 (Cv.cells ⟨k, (n : Int), aB, b.length, cB, aL, l.length, cL, aF, f.length, cF⟩) ∧ Blk wr (w.heap.size + 1) 27 (Cv.cells ⟨k, (n' : Int), aB', b'.length, cB', aL', l'.length, cL', aF', f'.length, cF'⟩))
  case atStart => exact ⟨0, by omega, by omega, by omega, rfl, fun i _ _ h => absurd h (by omega), (((Grow.refl w).alloc _).alloc _).drewN _, ((Blk.new _ _ _).alloc _).drewN _, (Blk.new' (by simp) _ _).drewN _⟩
  case round =>
    obtain ⟨j, hj, hjb, hg, rfl, heq, hw, hB, hB'⟩ := hrel
    obtain ⟨gk', rfl⟩ : ∃ g, gk = g + 1 := ⟨gk - 1, by omega⟩
    have hc3 := hB.cell
    have hc3' := hB'.cell
    have HW := hide hw
    have HEQ := hide heq
    have HB := hide hB
    have HB' := hide hB'
    have hz0 : w.heap.size < wr.heap.size := HB.out.lt
    have hz1 : w.heap.size + 1 < wr.heap.size := HB'.out.lt
    by_cases hlt : j < l.length ∧ j < l'.length
    · obtain ⟨hlt1, hlt'⟩ := hlt
      obtain ⟨bk, o, x, ha, hbk, e0, e1, e2, e3, e4, hx⟩ := (HV.out.grow hw).elemL j hlt1
      obtain ⟨bk', o', x', ha', hbk', e0', e1', e2', e3', e4', hx'⟩ := (HV'.out.grow hw).elemL j hlt'
      dsimp only at ha ha'
      subst ha ha'
      have HX := hide hx
      have HX' := hide hx'
      have Hlj := hide (Hl.out _ (List.getElem_mem hlt1) _ (List.getElem_mem hlt'))
      clear hw hx hx' hB hB' heq
      obtain ⟨z, hz⟩ : ∃ z, V.cmp l[j] l'[j] = z := ⟨_, rfl⟩
      have HJ := hide (fun w2 (hgr : Grow wr w2) => Hlj.out w2 x x' (HX.out.grow hgr) (HX'.out.grow hgr))
      rw [hz] at HJ
      have HZ := hide hz
      clear hz
      by_cases he : z = 0
      · subst he
        go_wp2_with fail
        go_region_held3 (fun w' => ∀ b o, b < wr.heap.size → w'.cell? ⟨b, o, none⟩ = wr.cell? ⟨b, o, none⟩) (first | exact fun _ _ _ => rfl | exact fun b o h => hgr.below.cell (p := ⟨b, o, none⟩) h)
          (first | (go_at_call 38; refine (HJ.out _ (Grow.refl wr).drew).mono ?_; rintro e w2 ⟨rfl, hb2⟩; have hgr : Grow wr w2 := (Grow.refl wr).drew.trans hb2))
        have HGR := hide hgr
        clear hgr hb2
        go_wp2_with fail
        go_roundg gk'
        case measure => omega
        case rel =>
          refine ⟨j + 1, by omega, by omega, by omega, by go_num, fun i h1 h2 h3 => ?_, HW.out.trans HGR.out, HB.out.grow HGR.out, HB'.out.grow HGR.out⟩
          rcases Nat.lt_or_ge i j with h | h
          · exact HEQ.out i h1 h2 h
          · obtain rfl : i = j := by omega
            exact HZ.out
      · have hzq : (z != 0) = true := by simpa using he
        have HE := hide he
        have HR := hide (V.cmpL_at hlt1 hlt' HEQ.out (by rw [HZ.out]; exact he))
        clear he
        go_wp2_with fail
        go_region_held3 (fun w' => ∀ b o, b < wr.heap.size → w'.cell? ⟨b, o, none⟩ = wr.cell? ⟨b, o, none⟩) (first | exact fun _ _ _ => rfl | exact fun b o h => hgr.below.cell (p := ⟨b, o, none⟩) h)
          (first | (go_at_call 38; refine (HJ.out _ (Grow.refl wr).drew).mono ?_; rintro e w2 ⟨rfl, hb2⟩; have hgr : Grow wr w2 := (Grow.refl wr).drew.trans hb2))
        have HGR := hide hgr
        clear hgr hb2
        go_wp2_with fail
        go_ret
        refine ⟨ret_int ?_, HW.out.trans HGR.out⟩
        rw [HR.out, HZ.out, orC_n _ HE.out]
    · have HL0 := hide (show V.cmpL l l' = 0 from V.cmpL_0 (fun i h1 h2 => HEQ.out i h1 h2 (by omega)))
      have hend : j = l.length ∨ (j < l.length ∧ j = l'.length) := by omega
      clear hw hB hB' heq HEQ hlt hg
      rcases hend with hjl | ⟨hjl, hjl'⟩
      all_goals
        first | subst hjl | skip
        try subst hjl'
        go_wp2_with fail
        go_loopg [7] (f.length + 1) (fun gk i wr => ∃ j : Nat, j ≤ f.length ∧ j ≤ f'.length ∧ gk + j = f.length + 1 ∧ i = .int .i64 j ∧ (∀ i (h1 : i < f.length) (h2 : i < f'.length), i < j → V.cmpP f[i] f'[i] = 0) ∧ Grow w wr ∧
          Blk wr w.heap.size 27 (Cv.cells ⟨k, (n : Int), aB, b.length, cB, aL, l.length, cL, aF, f.length, cF⟩) ∧ Blk wr (w.heap.size + 1) 27 (Cv.cells ⟨k, (n' : Int), aB', b'.length, cB', aL', l'.length, cL', aF', f'.length, cF'⟩))
        case atStart => exact ⟨0, by omega, by omega, by omega, rfl, fun i _ _ h => absurd h (by omega), HW.out, HB.out, HB'.out⟩
        case round =>
          obtain ⟨j, hj, hjb, hg, rfl, heq, hw, hB, hB'⟩ := hrel
          obtain ⟨gk', rfl⟩ : ∃ g, gk = g + 1 := ⟨gk - 1, by omega⟩
          clear hc3 hc3' HW HB HB' hz0 hz1
          have hc3 := hB.cell
          have hc3' := hB'.cell
          have HW := hide hw
          have HEQ := hide heq
          have HB := hide hB
          have HB' := hide hB'
          have hz0 : w.heap.size < wr.heap.size := HB.out.lt
          have hz1 : w.heap.size + 1 < wr.heap.size := HB'.out.lt
          by_cases hlt : j < f.length ∧ j < f'.length
          · obtain ⟨hlt1, hlt'⟩ := hlt
            obtain ⟨bk, o, x, ha, hbk, es, esz, e0, e1, e2, e3, e4, hx⟩ := (HV.out.grow hw).elemF j hlt1
            obtain ⟨bk', o', x', ha', hbk', es', esz', e0', e1', e2', e3', e4', hx'⟩ := (HV'.out.grow hw).elemF j hlt'
            dsimp only at ha ha'
            subst ha ha'
            have HX := hide hx
            have HX' := hide hx'
            have Hlj := hide (Hf.out _ (List.getElem_mem hlt1) _ (List.getElem_mem hlt'))
            clear hw hx hx' hB hB' heq
            have HP := hide (show V.cmpP f[j] f'[j] = orC (Lib.compareBytes f[j].1.data.toList f'[j].1.data.toList) (V.cmp f[j].2 f'[j].2) from rfl)
            obtain ⟨s1, hs1⟩ : ∃ s, f[j].1 = s := ⟨_, rfl⟩
            obtain ⟨s2, hs2⟩ : ∃ s, f'[j].1 = s := ⟨_, rfl⟩
            obtain ⟨z2, hz2⟩ : ∃ z, V.cmp f[j].2 f'[j].2 = z := ⟨_, rfl⟩
            have HJ := hide (fun w2 (hgr : Grow wr w2) => Hlj.out w2 x x' (HX.out.grow hgr) (HX'.out.grow hgr))
            rw [hz2] at HJ HP
            rw [hs1, hs2] at HP
            rw [hs1] at es esz
            rw [hs2] at es' esz'
            have HT := hide (fun W A B c d (ha : InB W A s1.data.toList) (hb : InB W B s2.data.toList) => rtext_any s1.data.toList s2.data.toList A B c d W ha hb (by simpa using esz) (by simpa using esz'))
            rw [show s1.data.toList.length = s1.size by simp, show s2.data.toList.length = s2.size by simp] at HT
            obtain ⟨z1, hz1'⟩ : ∃ z, Lib.compareBytes s1.data.toList s2.data.toList = z := ⟨_, rfl⟩
            rw [hz1'] at HT HP
            clear hs1 hs2 hz2 hz1' esz esz'
            obtain ⟨p1, B1, hB1⟩ := conv_all s1
            obtain ⟨p2, B2, hB2⟩ := conv_all s2
            have hr1 := fun w => (hB1 w).1
            have hr2 := fun w => (hB2 w).1
            have G1 := hide (fun w => (hB1 w).2.1)
            have G2 := hide (fun w => (hB2 w).2.1)
            have I1 := hide (fun w => (hB1 w).2.2)
            have I2 := hide (fun w => (hB2 w).2.2)
            clear hB1 hB2
            by_cases hzz : z1 = 0
            · subst hzz
              rw [orC_0] at HP
              by_cases he : z2 = 0
              · subst he
                go_upto_region 21 with fail
                go_cut [8] from 76 to 122 (fun k wx => k = .int .i64 0 ∧ Grow wr wx)
                case first =>
                  refine wp_region_noPanic ?_
                  refine wp_region_held_drew (S := fun w' => ∀ b o, b < wr.heap.size → w'.cell? ⟨b, o, none⟩ = wr.cell? ⟨b, o, none⟩) (by kernel_rfl) (fun _ _ _ => rfl) (fun hHeld => ?_)
                  refine wpAnyH_take (i := 0) (v := ?_) (by simp only [List.getElem?_toArray, List.getElem?_cons_succ, List.getElem?_cons_zero]; rfl) (by kernel_rfl) (by kernel_rfl) (by kernel_rfl) (fun _ _ _ h => h) (Or.inl ⟨by rfl, ?_⟩) (by assumption) ?_
                  rotate_left 1
                  · (intro w hSw; (try dsimp only at hSw); go_simp; try with_reducible rfl)
                  try simp only [Act.put, List.setIfInBounds_toArray, List.set_cons_zero, List.set_cons_succ]
                  refine wpAnyH_take (i := 1) (v := ?_) (by simp only [List.getElem?_toArray, List.getElem?_cons_succ, List.getElem?_cons_zero]; rfl) (by kernel_rfl) (by kernel_rfl) (by kernel_rfl) (fun _ _ _ h => h) (Or.inl ⟨by rfl, ?_⟩) (by assumption) ?_
                  rotate_left 1
                  · (intro w hSw; (try dsimp only at hSw); go_simp; try with_reducible rfl)
                  try simp only [Act.put, List.setIfInBounds_toArray, List.set_cons_zero, List.set_cons_succ]
                  refine wpAnyH_take (i := 2) (v := ?_) (by simp only [List.getElem?_toArray, List.getElem?_cons_succ, List.getElem?_cons_zero]; rfl) (by kernel_rfl) (by kernel_rfl) (by kernel_rfl) (fun _ _ _ h => h) (Or.inl ⟨by rfl, ?_⟩) (by assumption) ?_
                  rotate_left 1
                  · (intro w hSw; (try dsimp only at hSw); go_simp; try with_reducible rfl)
                  try simp only [Act.put, List.setIfInBounds_toArray, List.set_cons_zero, List.set_cons_succ]
                  refine wpAnyH_take (i := 3) (v := ?_) (by simp only [List.getElem?_toArray, List.getElem?_cons_succ, List.getElem?_cons_zero]; rfl) (by kernel_rfl) (by kernel_rfl) (by kernel_rfl) (fun _ _ _ h => h) (Or.inl ⟨by rfl, ?_⟩) (by assumption) ?_
                  rotate_left 1
                  · (intro w hSw; (try dsimp only at hSw); go_simp; try with_reducible rfl)
                  try simp only [Act.put, List.setIfInBounds_toArray, List.set_cons_zero, List.set_cons_succ]
                  refine wpAnyH_take (i := 4) (v := ?_) (by simp only [List.getElem?_toArray, List.getElem?_cons_succ, List.getElem?_cons_zero]; rfl) (by kernel_rfl) (by kernel_rfl) (by kernel_rfl) (fun _ _ _ h => h) (Or.inl ⟨by rfl, ?_⟩) (by assumption) ?_
                  rotate_left 1
                  · (intro w hSw; (try dsimp only at hSw); go_simp; try with_reducible rfl)
                  try simp only [Act.put, List.setIfInBounds_toArray, List.set_cons_zero, List.set_cons_succ]
                  refine wpAnyH_take (i := 5) (v := ?_) (by simp only [List.getElem?_toArray, List.getElem?_cons_succ, List.getElem?_cons_zero]; rfl) (by kernel_rfl) (by kernel_rfl) (by kernel_rfl) (fun _ _ _ h => h) (Or.inl ⟨by rfl, ?_⟩) (by assumption) ?_
                  rotate_left 1
                  · (intro w hSw; (try dsimp only at hSw); go_simp; try with_reducible rfl)
                  try simp only [Act.put, List.setIfInBounds_toArray, List.set_cons_zero, List.set_cons_succ]
                  refine wpAnyH_take (i := 7) (v := ?_) (by simp only [List.getElem?_toArray, List.getElem?_cons_succ, List.getElem?_cons_zero]; rfl) (by kernel_rfl) (by kernel_rfl) (by kernel_rfl) (fun _ _ _ h => h) (Or.inl ⟨by rfl, ?_⟩) (by assumption) ?_
                  rotate_left 1
                  · (intro w hSw; (try dsimp only at hSw); go_simp; try with_reducible rfl)
                  try simp only [Act.put, List.setIfInBounds_toArray, List.set_cons_zero, List.set_cons_succ]
                  refine wpAnyH_take (i := 8) (v := ?_) (by simp only [List.getElem?_toArray, List.getElem?_cons_succ, List.getElem?_cons_zero]; rfl) (by kernel_rfl) (by kernel_rfl) (by kernel_rfl) (fun _ _ _ h => h) (Or.inl ⟨by rfl, ?_⟩) (by assumption) ?_
                  rotate_left 1
                  · (intro w hSw; (try dsimp only at hSw); go_simp; try with_reducible rfl)
                  try simp only [Act.put, List.setIfInBounds_toArray, List.set_cons_zero, List.set_cons_succ]
                  refine wpAnyH_take (i := 9) (v := ?_) (by simp only [List.getElem?_toArray, List.getElem?_cons_succ, List.getElem?_cons_zero]; rfl) (by kernel_rfl) (by kernel_rfl) (by kernel_rfl) (fun _ _ _ h => h) (Or.inl ⟨by rfl, ?_⟩) (by assumption) ?_
                  rotate_left 1
                  · (intro w hSw; (try dsimp only at hSw); go_simp; try with_reducible rfl)
                  try simp only [Act.put, List.setIfInBounds_toArray, List.set_cons_zero, List.set_cons_succ]
                  refine wpAnyH_take (i := 10) (v := ?_) (by simp only [List.getElem?_toArray, List.getElem?_cons_succ, List.getElem?_cons_zero]; rfl) (by kernel_rfl) (by kernel_rfl) (by kernel_rfl) (fun _ _ _ h => h) (Or.inl ⟨by rfl, ?_⟩) (by assumption) ?_
                  rotate_left 1
                  · (intro w hSw; (try dsimp only at hSw); go_simp; try with_reducible rfl)
                  try simp only [Act.put, List.setIfInBounds_toArray, List.set_cons_zero, List.set_cons_succ]
                  refine wpAnyH_take (i := 11) (v := ?_) (by simp only [List.getElem?_toArray, List.getElem?_cons_succ, List.getElem?_cons_zero]; rfl) (by kernel_rfl) (by kernel_rfl) (by kernel_rfl) (fun _ _ _ h => h) (Or.inl ⟨by rfl, ?_⟩) (by assumption) ?_
                  rotate_left 1
                  · (intro w hSw; (try dsimp only at hSw); go_simp; try with_reducible rfl)
                  try simp only [Act.put, List.setIfInBounds_toArray, List.set_cons_zero, List.set_cons_succ]
                  refine wpAnyH_take (i := 12) (v := ?_) (by simp only [List.getElem?_toArray, List.getElem?_cons_succ, List.getElem?_cons_zero]; rfl) (by kernel_rfl) (by kernel_rfl) (by kernel_rfl) (fun _ _ _ h => h) (Or.inl ⟨by rfl, ?_⟩) (by assumption) ?_
                  rotate_left 1
                  · (intro w hSw; (try dsimp only at hSw); go_simp; try with_reducible rfl)
                  try simp only [Act.put, List.setIfInBounds_toArray, List.set_cons_zero, List.set_cons_succ]
                  refine wpAnyH_ready (rs := [6, 13]) (by kernel_rfl) (by simp) ?_
                  refine AllReadyH.cons (by simp only [List.getElem?_toArray, List.getElem?_cons_succ, List.getElem?_cons_zero]; rfl) (fun K hK => ?_) ?_
                  · go_simp
                    refine hK.out _ _ (fun b o h => ((Grow.refl wr).drew.trans (G1.out _)).below.cell (p := ⟨b, o, none⟩) h) (fun hHeld => ?_)
                    clear hK K
                    try simp only [Act.put, List.setIfInBounds_toArray, List.set_cons_zero, List.set_cons_succ]
                    refine wpAnyH_ready (rs := [13]) (by kernel_rfl) (by simp) ?_
                    refine AllReadyH.cons (by simp only [List.getElem?_toArray, List.getElem?_cons_succ, List.getElem?_cons_zero]; rfl) (fun K hK => ?_) AllReadyH.nil
                    go_simp
                    refine hK.out _ _ (fun b o h => (((Grow.refl wr).drew.trans (G1.out _)).trans (G2.out _)).below.cell (p := ⟨b, o, none⟩) h) (fun hHeld => ?_)
                    clear hK K
                    try simp only [Act.put, List.setIfInBounds_toArray, List.set_cons_zero, List.set_cons_succ]
                    refine wpAnyH_ready (rs := [14]) (by kernel_rfl) (by simp) ?_
                    refine AllReadyH.cons (by simp only [List.getElem?_toArray, List.getElem?_cons_succ, List.getElem?_cons_zero]; rfl) (fun K hK => ?_) AllReadyH.nil
                    go_simp
                    go_at_call 84
                    refine (HT.out _ _ _ _ _ ((I1.out _).grow (G2.out _)) (I2.out _)).mono ?_
                    rintro e wt ⟨rfl, hbt⟩
                    have hgt : Grow wr wt := (((Grow.refl wr).drew.trans (G1.out _)).trans (G2.out _)).trans hbt
                    refine hK.out _ _ (fun b o h => (hgt).below.cell (p := ⟨b, o, none⟩) h) (fun hHeld => ?_)
                    clear hK K
                    try simp only [Act.put, List.setIfInBounds_toArray, List.set_cons_zero, List.set_cons_succ]
                    refine wpAnyH_take (i := 15) (v := ?_) (by simp only [List.getElem?_toArray, List.getElem?_cons_succ, List.getElem?_cons_zero]; rfl) (by kernel_rfl) (by kernel_rfl) (by kernel_rfl) (fun _ _ _ h => h) (Or.inl ⟨by rfl, ?_⟩) (by assumption) ?_
                    rotate_left 1
                    · (intro w hSw; (try dsimp only at hSw); go_simp; try with_reducible rfl)
                    try simp only [Act.put, List.setIfInBounds_toArray, List.set_cons_zero, List.set_cons_succ]
                    refine wpAnyH_done (by kernel_rfl) ?_ _
                    refine NoPanic.normal ?_
                    go_wp2_with fail
                    go_meet
                    exact ⟨rfl, hgt⟩
                  refine AllReadyH.cons (by simp only [List.getElem?_toArray, List.getElem?_cons_succ, List.getElem?_cons_zero]; rfl) (fun K hK => ?_) AllReadyH.nil
                  go_simp
                  refine hK.out _ _ (fun b o h => ((Grow.refl wr).drew.trans (G2.out _)).below.cell (p := ⟨b, o, none⟩) h) (fun hHeld => ?_)
                  clear hK K
                  try simp only [Act.put, List.setIfInBounds_toArray, List.set_cons_zero, List.set_cons_succ]
                  refine wpAnyH_ready (rs := [6]) (by kernel_rfl) (by simp) ?_
                  refine AllReadyH.cons (by simp only [List.getElem?_toArray, List.getElem?_cons_succ, List.getElem?_cons_zero]; rfl) (fun K hK => ?_) AllReadyH.nil
                  go_simp
                  refine hK.out _ _ (fun b o h => (((Grow.refl wr).drew.trans (G2.out _)).trans (G1.out _)).below.cell (p := ⟨b, o, none⟩) h) (fun hHeld => ?_)
                  clear hK K
                  try simp only [Act.put, List.setIfInBounds_toArray, List.set_cons_zero, List.set_cons_succ]
                  refine wpAnyH_ready (rs := [14]) (by kernel_rfl) (by simp) ?_
                  refine AllReadyH.cons (by simp only [List.getElem?_toArray, List.getElem?_cons_succ, List.getElem?_cons_zero]; rfl) (fun K hK => ?_) AllReadyH.nil
                  go_simp
                  go_at_call 84
                  refine (HT.out _ _ _ _ _ (I1.out _) ((I2.out _).grow (G1.out _))).mono ?_
                  rintro e wt ⟨rfl, hbt⟩
                  have hgt : Grow wr wt := (((Grow.refl wr).drew.trans (G2.out _)).trans (G1.out _)).trans hbt
                  refine hK.out _ _ (fun b o h => (hgt).below.cell (p := ⟨b, o, none⟩) h) (fun hHeld => ?_)
                  clear hK K
                  try simp only [Act.put, List.setIfInBounds_toArray, List.set_cons_zero, List.set_cons_succ]
                  refine wpAnyH_take (i := 15) (v := ?_) (by simp only [List.getElem?_toArray, List.getElem?_cons_succ, List.getElem?_cons_zero]; rfl) (by kernel_rfl) (by kernel_rfl) (by kernel_rfl) (fun _ _ _ h => h) (Or.inl ⟨by rfl, ?_⟩) (by assumption) ?_
                  rotate_left 1
                  · (intro w hSw; (try dsimp only at hSw); go_simp; try with_reducible rfl)
                  try simp only [Act.put, List.setIfInBounds_toArray, List.set_cons_zero, List.set_cons_succ]
                  refine wpAnyH_done (by kernel_rfl) ?_ _
                  refine NoPanic.normal ?_
                  go_wp2_with fail
                  go_meet
                  exact ⟨rfl, hgt⟩
                case rest =>
                  obtain ⟨rfl, hgt⟩ := hcut
                  rename World => wx
                  have HGT := hide hgt
                  clear hgt
                  have hct := (HB.out.grow HGT.out).cell
                  have hct' := (HB'.out.grow HGT.out).cell
                  have hkeep : ∀ b o, b < wr.heap.size → wx.cell? ⟨b, o, none⟩ = wr.cell? ⟨b, o, none⟩ := fun b o h => HGT.out.below.cell (p := ⟨b, o, none⟩) h
                  have hzt := HGT.out.size
                  go_wp2_with fail
                  go_region_held3 (fun w' => ∀ b o, b < wr.heap.size → w'.cell? ⟨b, o, none⟩ = wr.cell? ⟨b, o, none⟩) (first | exact hkeep | exact fun b o h => hgr.below.cell (p := ⟨b, o, none⟩) h)
                    (first | (go_at_call 38; refine (HJ.out _ HGT.out.drew).mono ?_; rintro e w2 ⟨rfl, hb2⟩; have hgr : Grow wr w2 := HGT.out.drew.trans hb2))
                  have HGR := hide hgr
                  clear hgr hb2
                  go_wp2_with fail
                  go_roundg gk'
                  case measure => omega
                  case rel =>
                    refine ⟨j + 1, by omega, by omega, by omega, by go_num, fun i h1 h2 h3 => ?_, HW.out.trans HGR.out, HB.out.grow HGR.out, HB'.out.grow HGR.out⟩
                    rcases Nat.lt_or_ge i j with h | h
                    · exact HEQ.out i h1 h2 h
                    · obtain rfl : i = j := by omega
                      exact HP.out
              · have hzq : (z2 != 0) = true := by simpa using he
                have HE := hide he
                have HR := hide (V.cmpF_at hlt1 hlt' HEQ.out (by rw [HP.out]; exact he))
                clear he
                go_upto_region 21 with fail
                go_cut [8] from 76 to 122 (fun k wx => k = .int .i64 0 ∧ Grow wr wx)
                case first =>
                  refine wp_region_noPanic ?_
                  refine wp_region_held_drew (S := fun w' => ∀ b o, b < wr.heap.size → w'.cell? ⟨b, o, none⟩ = wr.cell? ⟨b, o, none⟩) (by kernel_rfl) (fun _ _ _ => rfl) (fun hHeld => ?_)
                  refine wpAnyH_take (i := 0) (v := ?_) (by simp only [List.getElem?_toArray, List.getElem?_cons_succ, List.getElem?_cons_zero]; rfl) (by kernel_rfl) (by kernel_rfl) (by kernel_rfl) (fun _ _ _ h => h) (Or.inl ⟨by rfl, ?_⟩) (by assumption) ?_
                  rotate_left 1
                  · (intro w hSw; (try dsimp only at hSw); go_simp; try with_reducible rfl)
                  try simp only [Act.put, List.setIfInBounds_toArray, List.set_cons_zero, List.set_cons_succ]
                  refine wpAnyH_take (i := 1) (v := ?_) (by simp only [List.getElem?_toArray, List.getElem?_cons_succ, List.getElem?_cons_zero]; rfl) (by kernel_rfl) (by kernel_rfl) (by kernel_rfl) (fun _ _ _ h => h) (Or.inl ⟨by rfl, ?_⟩) (by assumption) ?_
                  rotate_left 1
                  · (intro w hSw; (try dsimp only at hSw); go_simp; try with_reducible rfl)
                  try simp only [Act.put, List.setIfInBounds_toArray, List.set_cons_zero, List.set_cons_succ]
                  refine wpAnyH_take (i := 2) (v := ?_) (by simp only [List.getElem?_toArray, List.getElem?_cons_succ, List.getElem?_cons_zero]; rfl) (by kernel_rfl) (by kernel_rfl) (by kernel_rfl) (fun _ _ _ h => h) (Or.inl ⟨by rfl, ?_⟩) (by assumption) ?_
                  rotate_left 1
                  · (intro w hSw; (try dsimp only at hSw); go_simp; try with_reducible rfl)
                  try simp only [Act.put, List.setIfInBounds_toArray, List.set_cons_zero, List.set_cons_succ]
                  refine wpAnyH_take (i := 3) (v := ?_) (by simp only [List.getElem?_toArray, List.getElem?_cons_succ, List.getElem?_cons_zero]; rfl) (by kernel_rfl) (by kernel_rfl) (by kernel_rfl) (fun _ _ _ h => h) (Or.inl ⟨by rfl, ?_⟩) (by assumption) ?_
                  rotate_left 1
                  · (intro w hSw; (try dsimp only at hSw); go_simp; try with_reducible rfl)
                  try simp only [Act.put, List.setIfInBounds_toArray, List.set_cons_zero, List.set_cons_succ]
                  refine wpAnyH_take (i := 4) (v := ?_) (by simp only [List.getElem?_toArray, List.getElem?_cons_succ, List.getElem?_cons_zero]; rfl) (by kernel_rfl) (by kernel_rfl) (by kernel_rfl) (fun _ _ _ h => h) (Or.inl ⟨by rfl, ?_⟩) (by assumption) ?_
                  rotate_left 1
                  · (intro w hSw; (try dsimp only at hSw); go_simp; try with_reducible rfl)
                  try simp only [Act.put, List.setIfInBounds_toArray, List.set_cons_zero, List.set_cons_succ]
                  refine wpAnyH_take (i := 5) (v := ?_) (by simp only [List.getElem?_toArray, List.getElem?_cons_succ, List.getElem?_cons_zero]; rfl) (by kernel_rfl) (by kernel_rfl) (by kernel_rfl) (fun _ _ _ h => h) (Or.inl ⟨by rfl, ?_⟩) (by assumption) ?_
                  rotate_left 1
                  · (intro w hSw; (try dsimp only at hSw); go_simp; try with_reducible rfl)
                  try simp only [Act.put, List.setIfInBounds_toArray, List.set_cons_zero, List.set_cons_succ]
                  refine wpAnyH_take (i := 7) (v := ?_) (by simp only [List.getElem?_toArray, List.getElem?_cons_succ, List.getElem?_cons_zero]; rfl) (by kernel_rfl) (by kernel_rfl) (by kernel_rfl) (fun _ _ _ h => h) (Or.inl ⟨by rfl, ?_⟩) (by assumption) ?_
                  rotate_left 1
                  · (intro w hSw; (try dsimp only at hSw); go_simp; try with_reducible rfl)
                  try simp only [Act.put, List.setIfInBounds_toArray, List.set_cons_zero, List.set_cons_succ]
                  refine wpAnyH_take (i := 8) (v := ?_) (by simp only [List.getElem?_toArray, List.getElem?_cons_succ, List.getElem?_cons_zero]; rfl) (by kernel_rfl) (by kernel_rfl) (by kernel_rfl) (fun _ _ _ h => h) (Or.inl ⟨by rfl, ?_⟩) (by assumption) ?_
                  rotate_left 1
                  · (intro w hSw; (try dsimp only at hSw); go_simp; try with_reducible rfl)
                  try simp only [Act.put, List.setIfInBounds_toArray, List.set_cons_zero, List.set_cons_succ]
                  refine wpAnyH_take (i := 9) (v := ?_) (by simp only [List.getElem?_toArray, List.getElem?_cons_succ, List.getElem?_cons_zero]; rfl) (by kernel_rfl) (by kernel_rfl) (by kernel_rfl) (fun _ _ _ h => h) (Or.inl ⟨by rfl, ?_⟩) (by assumption) ?_
                  rotate_left 1
                  · (intro w hSw; (try dsimp only at hSw); go_simp; try with_reducible rfl)
                  try simp only [Act.put, List.setIfInBounds_toArray, List.set_cons_zero, List.set_cons_succ]
                  refine wpAnyH_take (i := 10) (v := ?_) (by simp only [List.getElem?_toArray, List.getElem?_cons_succ, List.getElem?_cons_zero]; rfl) (by kernel_rfl) (by kernel_rfl) (by kernel_rfl) (fun _ _ _ h => h) (Or.inl ⟨by rfl, ?_⟩) (by assumption) ?_
                  rotate_left 1
                  · (intro w hSw; (try dsimp only at hSw); go_simp; try with_reducible rfl)
                  try simp only [Act.put, List.setIfInBounds_toArray, List.set_cons_zero, List.set_cons_succ]
                  refine wpAnyH_take (i := 11) (v := ?_) (by simp only [List.getElem?_toArray, List.getElem?_cons_succ, List.getElem?_cons_zero]; rfl) (by kernel_rfl) (by kernel_rfl) (by kernel_rfl) (fun _ _ _ h => h) (Or.inl ⟨by rfl, ?_⟩) (by assumption) ?_
                  rotate_left 1
                  · (intro w hSw; (try dsimp only at hSw); go_simp; try with_reducible rfl)
                  try simp only [Act.put, List.setIfInBounds_toArray, List.set_cons_zero, List.set_cons_succ]
                  refine wpAnyH_take (i := 12) (v := ?_) (by simp only [List.getElem?_toArray, List.getElem?_cons_succ, List.getElem?_cons_zero]; rfl) (by kernel_rfl) (by kernel_rfl) (by kernel_rfl) (fun _ _ _ h => h) (Or.inl ⟨by rfl, ?_⟩) (by assumption) ?_
                  rotate_left 1
                  · (intro w hSw; (try dsimp only at hSw); go_simp; try with_reducible rfl)
                  try simp only [Act.put, List.setIfInBounds_toArray, List.set_cons_zero, List.set_cons_succ]
                  refine wpAnyH_ready (rs := [6, 13]) (by kernel_rfl) (by simp) ?_
                  refine AllReadyH.cons (by simp only [List.getElem?_toArray, List.getElem?_cons_succ, List.getElem?_cons_zero]; rfl) (fun K hK => ?_) ?_
                  · go_simp
                    refine hK.out _ _ (fun b o h => ((Grow.refl wr).drew.trans (G1.out _)).below.cell (p := ⟨b, o, none⟩) h) (fun hHeld => ?_)
                    clear hK K
                    try simp only [Act.put, List.setIfInBounds_toArray, List.set_cons_zero, List.set_cons_succ]
                    refine wpAnyH_ready (rs := [13]) (by kernel_rfl) (by simp) ?_
                    refine AllReadyH.cons (by simp only [List.getElem?_toArray, List.getElem?_cons_succ, List.getElem?_cons_zero]; rfl) (fun K hK => ?_) AllReadyH.nil
                    go_simp
                    refine hK.out _ _ (fun b o h => (((Grow.refl wr).drew.trans (G1.out _)).trans (G2.out _)).below.cell (p := ⟨b, o, none⟩) h) (fun hHeld => ?_)
                    clear hK K
                    try simp only [Act.put, List.setIfInBounds_toArray, List.set_cons_zero, List.set_cons_succ]
                    refine wpAnyH_ready (rs := [14]) (by kernel_rfl) (by simp) ?_
                    refine AllReadyH.cons (by simp only [List.getElem?_toArray, List.getElem?_cons_succ, List.getElem?_cons_zero]; rfl) (fun K hK => ?_) AllReadyH.nil
                    go_simp
                    go_at_call 84
                    refine (HT.out _ _ _ _ _ ((I1.out _).grow (G2.out _)) (I2.out _)).mono ?_
                    rintro e wt ⟨rfl, hbt⟩
                    have hgt : Grow wr wt := (((Grow.refl wr).drew.trans (G1.out _)).trans (G2.out _)).trans hbt
                    refine hK.out _ _ (fun b o h => (hgt).below.cell (p := ⟨b, o, none⟩) h) (fun hHeld => ?_)
                    clear hK K
                    try simp only [Act.put, List.setIfInBounds_toArray, List.set_cons_zero, List.set_cons_succ]
                    refine wpAnyH_take (i := 15) (v := ?_) (by simp only [List.getElem?_toArray, List.getElem?_cons_succ, List.getElem?_cons_zero]; rfl) (by kernel_rfl) (by kernel_rfl) (by kernel_rfl) (fun _ _ _ h => h) (Or.inl ⟨by rfl, ?_⟩) (by assumption) ?_
                    rotate_left 1
                    · (intro w hSw; (try dsimp only at hSw); go_simp; try with_reducible rfl)
                    try simp only [Act.put, List.setIfInBounds_toArray, List.set_cons_zero, List.set_cons_succ]
                    refine wpAnyH_done (by kernel_rfl) ?_ _
                    refine NoPanic.normal ?_
                    go_wp2_with fail
                    go_meet
                    exact ⟨rfl, hgt⟩
                  refine AllReadyH.cons (by simp only [List.getElem?_toArray, List.getElem?_cons_succ, List.getElem?_cons_zero]; rfl) (fun K hK => ?_) AllReadyH.nil
                  go_simp
                  refine hK.out _ _ (fun b o h => ((Grow.refl wr).drew.trans (G2.out _)).below.cell (p := ⟨b, o, none⟩) h) (fun hHeld => ?_)
                  clear hK K
                  try simp only [Act.put, List.setIfInBounds_toArray, List.set_cons_zero, List.set_cons_succ]
                  refine wpAnyH_ready (rs := [6]) (by kernel_rfl) (by simp) ?_
                  refine AllReadyH.cons (by simp only [List.getElem?_toArray, List.getElem?_cons_succ, List.getElem?_cons_zero]; rfl) (fun K hK => ?_) AllReadyH.nil
                  go_simp
                  refine hK.out _ _ (fun b o h => (((Grow.refl wr).drew.trans (G2.out _)).trans (G1.out _)).below.cell (p := ⟨b, o, none⟩) h) (fun hHeld => ?_)
                  clear hK K
                  try simp only [Act.put, List.setIfInBounds_toArray, List.set_cons_zero, List.set_cons_succ]
                  refine wpAnyH_ready (rs := [14]) (by kernel_rfl) (by simp) ?_
                  refine AllReadyH.cons (by simp only [List.getElem?_toArray, List.getElem?_cons_succ, List.getElem?_cons_zero]; rfl) (fun K hK => ?_) AllReadyH.nil
                  go_simp
                  go_at_call 84
                  refine (HT.out _ _ _ _ _ (I1.out _) ((I2.out _).grow (G1.out _))).mono ?_
                  rintro e wt ⟨rfl, hbt⟩
                  have hgt : Grow wr wt := (((Grow.refl wr).drew.trans (G2.out _)).trans (G1.out _)).trans hbt
                  refine hK.out _ _ (fun b o h => (hgt).below.cell (p := ⟨b, o, none⟩) h) (fun hHeld => ?_)
                  clear hK K
                  try simp only [Act.put, List.setIfInBounds_toArray, List.set_cons_zero, List.set_cons_succ]
                  refine wpAnyH_take (i := 15) (v := ?_) (by simp only [List.getElem?_toArray, List.getElem?_cons_succ, List.getElem?_cons_zero]; rfl) (by kernel_rfl) (by kernel_rfl) (by kernel_rfl) (fun _ _ _ h => h) (Or.inl ⟨by rfl, ?_⟩) (by assumption) ?_
                  rotate_left 1
                  · (intro w hSw; (try dsimp only at hSw); go_simp; try with_reducible rfl)
                  try simp only [Act.put, List.setIfInBounds_toArray, List.set_cons_zero, List.set_cons_succ]
                  refine wpAnyH_done (by kernel_rfl) ?_ _
                  refine NoPanic.normal ?_
                  go_wp2_with fail
                  go_meet
                  exact ⟨rfl, hgt⟩
                case rest =>
                  obtain ⟨rfl, hgt⟩ := hcut
                  rename World => wx
                  have HGT := hide hgt
                  clear hgt
                  have hkeep : ∀ b o, b < wr.heap.size → wx.cell? ⟨b, o, none⟩ = wr.cell? ⟨b, o, none⟩ := fun b o h => HGT.out.below.cell (p := ⟨b, o, none⟩) h
                  have hzt := HGT.out.size
                  go_wp2_with fail
                  go_region_held3 (fun w' => ∀ b o, b < wr.heap.size → w'.cell? ⟨b, o, none⟩ = wr.cell? ⟨b, o, none⟩) (first | exact hkeep | exact fun b o h => hgr.below.cell (p := ⟨b, o, none⟩) h)
                    (first | (go_at_call 38; refine (HJ.out _ HGT.out.drew).mono ?_; rintro e w2 ⟨rfl, hb2⟩; have hgr : Grow wr w2 := HGT.out.drew.trans hb2))
                  have HGR := hide hgr
                  clear hgr hb2
                  go_wp2_with fail
                  go_ret
                  refine ⟨ret_int ?_, HW.out.trans HGR.out⟩
                  rw [HL0.out, orC_0, HR.out, HP.out, orC_n _ HE.out]
            · have hzq1 : (z1 == 0) = false := by simpa using hzz
              have hzq2 : (z1 != 0) = true := by simpa using hzz
              have HE := hide hzz
              rw [orC_n _ hzz] at HP
              have HR := hide (V.cmpF_at hlt1 hlt' HEQ.out (by rw [HP.out]; exact hzz))
              clear hzz
              go_upto_region 21 with fail
              go_cut [8] from 76 to 122 (fun k wx => k = .int .i64 z1 ∧ Grow wr wx)
              case first =>
                refine wp_region_noPanic ?_
                refine wp_region_held_drew (S := fun w' => ∀ b o, b < wr.heap.size → w'.cell? ⟨b, o, none⟩ = wr.cell? ⟨b, o, none⟩) (by kernel_rfl) (fun _ _ _ => rfl) (fun hHeld => ?_)
                refine wpAnyH_take (i := 0) (v := ?_) (by simp only [List.getElem?_toArray, List.getElem?_cons_succ, List.getElem?_cons_zero]; rfl) (by kernel_rfl) (by kernel_rfl) (by kernel_rfl) (fun _ _ _ h => h) (Or.inl ⟨by rfl, ?_⟩) (by assumption) ?_
                rotate_left 1
                · (intro w hSw; (try dsimp only at hSw); go_simp; try with_reducible rfl)
                try simp only [Act.put, List.setIfInBounds_toArray, List.set_cons_zero, List.set_cons_succ]
                refine wpAnyH_take (i := 1) (v := ?_) (by simp only [List.getElem?_toArray, List.getElem?_cons_succ, List.getElem?_cons_zero]; rfl) (by kernel_rfl) (by kernel_rfl) (by kernel_rfl) (fun _ _ _ h => h) (Or.inl ⟨by rfl, ?_⟩) (by assumption) ?_
                rotate_left 1
                · (intro w hSw; (try dsimp only at hSw); go_simp; try with_reducible rfl)
                try simp only [Act.put, List.setIfInBounds_toArray, List.set_cons_zero, List.set_cons_succ]
                refine wpAnyH_take (i := 2) (v := ?_) (by simp only [List.getElem?_toArray, List.getElem?_cons_succ, List.getElem?_cons_zero]; rfl) (by kernel_rfl) (by kernel_rfl) (by kernel_rfl) (fun _ _ _ h => h) (Or.inl ⟨by rfl, ?_⟩) (by assumption) ?_
                rotate_left 1
                · (intro w hSw; (try dsimp only at hSw); go_simp; try with_reducible rfl)
                try simp only [Act.put, List.setIfInBounds_toArray, List.set_cons_zero, List.set_cons_succ]
                refine wpAnyH_take (i := 3) (v := ?_) (by simp only [List.getElem?_toArray, List.getElem?_cons_succ, List.getElem?_cons_zero]; rfl) (by kernel_rfl) (by kernel_rfl) (by kernel_rfl) (fun _ _ _ h => h) (Or.inl ⟨by rfl, ?_⟩) (by assumption) ?_
                rotate_left 1
                · (intro w hSw; (try dsimp only at hSw); go_simp; try with_reducible rfl)
                try simp only [Act.put, List.setIfInBounds_toArray, List.set_cons_zero, List.set_cons_succ]
                refine wpAnyH_take (i := 4) (v := ?_) (by simp only [List.getElem?_toArray, List.getElem?_cons_succ, List.getElem?_cons_zero]; rfl) (by kernel_rfl) (by kernel_rfl) (by kernel_rfl) (fun _ _ _ h => h) (Or.inl ⟨by rfl, ?_⟩) (by assumption) ?_
                rotate_left 1
                · (intro w hSw; (try dsimp only at hSw); go_simp; try with_reducible rfl)
                try simp only [Act.put, List.setIfInBounds_toArray, List.set_cons_zero, List.set_cons_succ]
                refine wpAnyH_take (i := 5) (v := ?_) (by simp only [List.getElem?_toArray, List.getElem?_cons_succ, List.getElem?_cons_zero]; rfl) (by kernel_rfl) (by kernel_rfl) (by kernel_rfl) (fun _ _ _ h => h) (Or.inl ⟨by rfl, ?_⟩) (by assumption) ?_
                rotate_left 1
                · (intro w hSw; (try dsimp only at hSw); go_simp; try with_reducible rfl)
                try simp only [Act.put, List.setIfInBounds_toArray, List.set_cons_zero, List.set_cons_succ]
                refine wpAnyH_take (i := 7) (v := ?_) (by simp only [List.getElem?_toArray, List.getElem?_cons_succ, List.getElem?_cons_zero]; rfl) (by kernel_rfl) (by kernel_rfl) (by kernel_rfl) (fun _ _ _ h => h) (Or.inl ⟨by rfl, ?_⟩) (by assumption) ?_
                rotate_left 1
                · (intro w hSw; (try dsimp only at hSw); go_simp; try with_reducible rfl)
                try simp only [Act.put, List.setIfInBounds_toArray, List.set_cons_zero, List.set_cons_succ]
                refine wpAnyH_take (i := 8) (v := ?_) (by simp only [List.getElem?_toArray, List.getElem?_cons_succ, List.getElem?_cons_zero]; rfl) (by kernel_rfl) (by kernel_rfl) (by kernel_rfl) (fun _ _ _ h => h) (Or.inl ⟨by rfl, ?_⟩) (by assumption) ?_
                rotate_left 1
                · (intro w hSw; (try dsimp only at hSw); go_simp; try with_reducible rfl)
                try simp only [Act.put, List.setIfInBounds_toArray, List.set_cons_zero, List.set_cons_succ]
                refine wpAnyH_take (i := 9) (v := ?_) (by simp only [List.getElem?_toArray, List.getElem?_cons_succ, List.getElem?_cons_zero]; rfl) (by kernel_rfl) (by kernel_rfl) (by kernel_rfl) (fun _ _ _ h => h) (Or.inl ⟨by rfl, ?_⟩) (by assumption) ?_
                rotate_left 1
                · (intro w hSw; (try dsimp only at hSw); go_simp; try with_reducible rfl)
                try simp only [Act.put, List.setIfInBounds_toArray, List.set_cons_zero, List.set_cons_succ]
                refine wpAnyH_take (i := 10) (v := ?_) (by simp only [List.getElem?_toArray, List.getElem?_cons_succ, List.getElem?_cons_zero]; rfl) (by kernel_rfl) (by kernel_rfl) (by kernel_rfl) (fun _ _ _ h => h) (Or.inl ⟨by rfl, ?_⟩) (by assumption) ?_
                rotate_left 1
                · (intro w hSw; (try dsimp only at hSw); go_simp; try with_reducible rfl)
                try simp only [Act.put, List.setIfInBounds_toArray, List.set_cons_zero, List.set_cons_succ]
                refine wpAnyH_take (i := 11) (v := ?_) (by simp only [List.getElem?_toArray, List.getElem?_cons_succ, List.getElem?_cons_zero]; rfl) (by kernel_rfl) (by kernel_rfl) (by kernel_rfl) (fun _ _ _ h => h) (Or.inl ⟨by rfl, ?_⟩) (by assumption) ?_
                rotate_left 1
                · (intro w hSw; (try dsimp only at hSw); go_simp; try with_reducible rfl)
                try simp only [Act.put, List.setIfInBounds_toArray, List.set_cons_zero, List.set_cons_succ]
                refine wpAnyH_take (i := 12) (v := ?_) (by simp only [List.getElem?_toArray, List.getElem?_cons_succ, List.getElem?_cons_zero]; rfl) (by kernel_rfl) (by kernel_rfl) (by kernel_rfl) (fun _ _ _ h => h) (Or.inl ⟨by rfl, ?_⟩) (by assumption) ?_
                rotate_left 1
                · (intro w hSw; (try dsimp only at hSw); go_simp; try with_reducible rfl)
                try simp only [Act.put, List.setIfInBounds_toArray, List.set_cons_zero, List.set_cons_succ]
                refine wpAnyH_ready (rs := [6, 13]) (by kernel_rfl) (by simp) ?_
                refine AllReadyH.cons (by simp only [List.getElem?_toArray, List.getElem?_cons_succ, List.getElem?_cons_zero]; rfl) (fun K hK => ?_) ?_
                · go_simp
                  refine hK.out _ _ (fun b o h => ((Grow.refl wr).drew.trans (G1.out _)).below.cell (p := ⟨b, o, none⟩) h) (fun hHeld => ?_)
                  clear hK K
                  try simp only [Act.put, List.setIfInBounds_toArray, List.set_cons_zero, List.set_cons_succ]
                  refine wpAnyH_ready (rs := [13]) (by kernel_rfl) (by simp) ?_
                  refine AllReadyH.cons (by simp only [List.getElem?_toArray, List.getElem?_cons_succ, List.getElem?_cons_zero]; rfl) (fun K hK => ?_) AllReadyH.nil
                  go_simp
                  refine hK.out _ _ (fun b o h => (((Grow.refl wr).drew.trans (G1.out _)).trans (G2.out _)).below.cell (p := ⟨b, o, none⟩) h) (fun hHeld => ?_)
                  clear hK K
                  try simp only [Act.put, List.setIfInBounds_toArray, List.set_cons_zero, List.set_cons_succ]
                  refine wpAnyH_ready (rs := [14]) (by kernel_rfl) (by simp) ?_
                  refine AllReadyH.cons (by simp only [List.getElem?_toArray, List.getElem?_cons_succ, List.getElem?_cons_zero]; rfl) (fun K hK => ?_) AllReadyH.nil
                  go_simp
                  go_at_call 84
                  refine (HT.out _ _ _ _ _ ((I1.out _).grow (G2.out _)) (I2.out _)).mono ?_
                  rintro e wt ⟨rfl, hbt⟩
                  have hgt : Grow wr wt := (((Grow.refl wr).drew.trans (G1.out _)).trans (G2.out _)).trans hbt
                  refine hK.out _ _ (fun b o h => (hgt).below.cell (p := ⟨b, o, none⟩) h) (fun hHeld => ?_)
                  clear hK K
                  try simp only [Act.put, List.setIfInBounds_toArray, List.set_cons_zero, List.set_cons_succ]
                  refine wpAnyH_take (i := 15) (v := ?_) (by simp only [List.getElem?_toArray, List.getElem?_cons_succ, List.getElem?_cons_zero]; rfl) (by kernel_rfl) (by kernel_rfl) (by kernel_rfl) (fun _ _ _ h => h) (Or.inl ⟨by rfl, ?_⟩) (by assumption) ?_
                  rotate_left 1
                  · (intro w hSw; (try dsimp only at hSw); go_simp; try with_reducible rfl)
                  try simp only [Act.put, List.setIfInBounds_toArray, List.set_cons_zero, List.set_cons_succ]
                  refine wpAnyH_done (by kernel_rfl) ?_ _
                  refine NoPanic.normal ?_
                  go_wp2_with fail
                  go_meet
                  exact ⟨rfl, hgt⟩
                refine AllReadyH.cons (by simp only [List.getElem?_toArray, List.getElem?_cons_succ, List.getElem?_cons_zero]; rfl) (fun K hK => ?_) AllReadyH.nil
                go_simp
                refine hK.out _ _ (fun b o h => ((Grow.refl wr).drew.trans (G2.out _)).below.cell (p := ⟨b, o, none⟩) h) (fun hHeld => ?_)
                clear hK K
                try simp only [Act.put, List.setIfInBounds_toArray, List.set_cons_zero, List.set_cons_succ]
                refine wpAnyH_ready (rs := [6]) (by kernel_rfl) (by simp) ?_
                refine AllReadyH.cons (by simp only [List.getElem?_toArray, List.getElem?_cons_succ, List.getElem?_cons_zero]; rfl) (fun K hK => ?_) AllReadyH.nil
                go_simp
                refine hK.out _ _ (fun b o h => (((Grow.refl wr).drew.trans (G2.out _)).trans (G1.out _)).below.cell (p := ⟨b, o, none⟩) h) (fun hHeld => ?_)
                clear hK K
                try simp only [Act.put, List.setIfInBounds_toArray, List.set_cons_zero, List.set_cons_succ]
                refine wpAnyH_ready (rs := [14]) (by kernel_rfl) (by simp) ?_
                refine AllReadyH.cons (by simp only [List.getElem?_toArray, List.getElem?_cons_succ, List.getElem?_cons_zero]; rfl) (fun K hK => ?_) AllReadyH.nil
                go_simp
                go_at_call 84
                refine (HT.out _ _ _ _ _ (I1.out _) ((I2.out _).grow (G1.out _))).mono ?_
                rintro e wt ⟨rfl, hbt⟩
                have hgt : Grow wr wt := (((Grow.refl wr).drew.trans (G2.out _)).trans (G1.out _)).trans hbt
                refine hK.out _ _ (fun b o h => (hgt).below.cell (p := ⟨b, o, none⟩) h) (fun hHeld => ?_)
                clear hK K
                try simp only [Act.put, List.setIfInBounds_toArray, List.set_cons_zero, List.set_cons_succ]
                refine wpAnyH_take (i := 15) (v := ?_) (by simp only [List.getElem?_toArray, List.getElem?_cons_succ, List.getElem?_cons_zero]; rfl) (by kernel_rfl) (by kernel_rfl) (by kernel_rfl) (fun _ _ _ h => h) (Or.inl ⟨by rfl, ?_⟩) (by assumption) ?_
                rotate_left 1
                · (intro w hSw; (try dsimp only at hSw); go_simp; try with_reducible rfl)
                try simp only [Act.put, List.setIfInBounds_toArray, List.set_cons_zero, List.set_cons_succ]
                refine wpAnyH_done (by kernel_rfl) ?_ _
                refine NoPanic.normal ?_
                go_wp2_with fail
                go_meet
                exact ⟨rfl, hgt⟩
              case rest =>
                obtain ⟨rfl, hgt⟩ := hcut
                rename World => wx
                have HGT := hide hgt
                clear hgt
                go_wp2_with fail
                go_ret
                refine ⟨ret_int ?_, HW.out.trans HGT.out⟩
                rw [HL0.out, orC_0, HR.out, HP.out, orC_n _ HE.out]
          · have HF0 := hide (show V.cmpF f f' = 0 from V.cmpF_0 (fun i h1 h2 => HEQ.out i h1 h2 (by omega)))
            have hend : j = f.length ∨ (j < f.length ∧ j = f'.length) := by omega
            clear hw hB hB' heq HEQ hlt hg
            have HN := hide (fun w => rcmpi_any ((l.length : Int) + (f.length : Int)) ((l'.length : Int) + (f'.length : Int)) w)
            rcases hend with hjl | ⟨hjl, hjl'⟩
            all_goals
              first | subst hjl | skip
              try subst hjl'
              go_wp2_with (go_at_call 82; refine (HN.out _).mono ?_; rintro e w2 ⟨rfl, rfl⟩)
              go_ret
              refine ⟨ret_int ?_, HW.out⟩
              rw [HL0.out, HF0.out, orC_0, orC_0]
set_option maxRecDepth 100000 in
set_option maxHeartbeats 3200000 in
theorem rcompare_num (k k' : Int) (n n' : Nat) (hk : k = 3 ∨ k = 4) (hk' : k' = 3 ∨ k' = 4) : CmpR (.mk k n [] [] []) (.mk k' n' [] [] []) := by
  intro w c c' hx hy
  rw [V.number_cmp hk hk']
  have HN := hide (fun w2 (hg : Grow w w2) => rnumber_any k k' n n' c c' w2 hk hk' (hx.grow hg) (hy.grow hg))
  obtain ⟨aB, aL, aF, cB, cL, cF, rfl, -⟩ := hx.open
  obtain ⟨bB, bL, bF, dB, dL, dF, rfl, -⟩ := hy.open
  have HG := hide (((Grow.refl w).alloc (.cells (Cv.mk k n aB 0 cB aL 0 cL aF 0 cF).cells 27)).alloc (.cells (Cv.mk k' n' bB 0 dB bL 0 dL bF 0 dF).cells 27))
  have HA := hide (fun w => rclass_any k w)
  have HA2 := hide (fun w => rclass_any k' w)
  have HC := hide (fun w => rcmpi_any 3 3 w)
  rw [sg_eq rfl] at HC
  rw [show cls k = 3 by rcases hk with rfl | rfl <;> rfl] at HA
  rw [show cls k' = 3 by rcases hk' with rfl | rfl <;> rfl] at HA2
  have hk2 : (k == 2) = false := by rcases hk with rfl | rfl <;> rfl
  clear hx hy
  rcases hk with rfl | rfl
  all_goals
    go_enter Tryd.func38, Tryd.ntmps38
    go_wp2_with fail
    go_quiet ((first | (go_at_call 81; exact Calls.quiet_of_same ((HA.out _).mono fun e w' h => ⟨h.1, h.2.symm⟩)) | (go_at_call 81; exact Calls.quiet_of_same ((HA2.out _).mono fun e w' h => ⟨h.1, h.2.symm⟩)) | (go_at_call 82; exact Calls.quiet_of_same ((HC.out _).mono fun e w' h => ⟨h.1, h.2.symm⟩))))
    go_wp2_with fail
    refine (HN.out _ (HG.out.drewN _)).mono ?_
    rintro e w2 ⟨rfl, hg⟩
    have HG2 := hide ((HG.out.drewN _).trans hg)
    clear hg
    go_wp2_with fail
    go_ret
    exact ⟨rfl, HG2.out⟩
set_option maxRecDepth 100000 in
set_option maxHeartbeats 3200000 in
theorem rcompare_bool (n n' : Nat) (hn : n ≤ 1) (hn' : n' ≤ 1) : CmpR (.mk 2 n [] [] []) (.mk 2 n' [] [] []) := by
  intro w c c' hx hy
  have HE := hide (show sg n n' = V.cmp (.mk 2 n [] [] []) (.mk 2 n' [] [] []) by rw [V.cmp_mk]; rfl)
  rw [← HE.out]
  obtain ⟨aB, aL, aF, cB, cL, cF, rfl, -⟩ := hx.open
  obtain ⟨bB, bL, bF, dB, dL, dF, rfl, -⟩ := hy.open
  have HG := hide (((Grow.refl w).alloc (.cells (Cv.mk 2 n aB 0 cB aL 0 cL aF 0 cF).cells 27)).alloc (.cells (Cv.mk 2 n' bB 0 dB bL 0 dL bF 0 dF).cells 27))
  have HA := hide (fun w => rclass_any 2 w)
  have HA2 := hide (fun w => rclass_any 2 w)
  have HC := hide (fun w => rcmpi_any 2 2 w)
  rw [sg_eq rfl] at HC
  rw [show cls 2 = 2 from rfl] at HA HA2
  have HN := hide (fun w => rcmpi_any n n' w)
  clear hx hy
  go_enter Tryd.func38, Tryd.ntmps38
  go_wp2_with fail
  go_quiet ((first | (go_at_call 81; exact Calls.quiet_of_same ((HA.out _).mono fun e w' h => ⟨h.1, h.2.symm⟩)) | (go_at_call 81; exact Calls.quiet_of_same ((HA2.out _).mono fun e w' h => ⟨h.1, h.2.symm⟩)) | (go_at_call 82; exact Calls.quiet_of_same ((HC.out _).mono fun e w' h => ⟨h.1, h.2.symm⟩))))
  go_wp2_with (go_at_call 82; refine (HN.out _).mono ?_; rintro e w2 ⟨rfl, rfl⟩)
  go_ret
  exact ⟨rfl, HG.out.drewN _⟩
set_option maxRecDepth 100000 in
set_option maxHeartbeats 3200000 in
theorem rcompare_text (k : Int) (b b' : List UInt8) (hk : k = 5 ∨ k = 6) : CmpR (.mk k 0 b [] []) (.mk k 0 b' [] []) := by
  intro w c c' hx hy
  have HE := hide (show Lib.compareBytes b b' = V.cmp (.mk k 0 b [] []) (.mk k 0 b' [] []) by rw [V.cmp_mk, if_neg (by simp), if_neg (by omega), if_neg (by omega), if_pos hk])
  rw [← HE.out]
  obtain ⟨aB, aL, aF, cB, cL, cF, rfl, -, -, -, -, hbl, -, -, -, -, hb⟩ := hx.open
  obtain ⟨bB, bL, bF, dB, dL, dF, rfl, -, -, -, -, hbl', -, -, -, -, hb'⟩ := hy.open
  have HG := hide (((Grow.refl w).alloc (.cells (Cv.mk k 0 aB b.length cB aL 0 cL aF 0 cF).cells 27)).alloc (.cells (Cv.mk k 0 bB b'.length dB bL 0 dL bF 0 dF).cells 27))
  have HA := hide (fun w => rclass_any k w)
  have HA2 := hide (fun w => rclass_any k w)
  have HC := hide (fun w => rcmpi_any k k w)
  rw [sg_eq rfl] at HC
  rw [show cls k = k by rcases hk with rfl | rfl <;> rfl] at HA HA2
  have HN := hide (fun w2 (hg : Grow w w2) => rtext_any b b' aB bB cB dB w2 (hb.grow hg) (hb'.grow hg) hbl hbl')
  have hk2 : (k == 2) = false := by rcases hk with rfl | rfl <;> rfl
  have hk3 : (k == 3) = false := by rcases hk with rfl | rfl <;> rfl
  have hk4 : (k == 4) = false := by rcases hk with rfl | rfl <;> rfl
  clear hx hy hb hb'
  rcases hk with rfl | rfl
  all_goals
    go_enter Tryd.func38, Tryd.ntmps38
    go_wp2_with fail
    go_quiet ((first | (go_at_call 81; exact Calls.quiet_of_same ((HA.out _).mono fun e w' h => ⟨h.1, h.2.symm⟩)) | (go_at_call 81; exact Calls.quiet_of_same ((HA2.out _).mono fun e w' h => ⟨h.1, h.2.symm⟩)) | (go_at_call 82; exact Calls.quiet_of_same ((HC.out _).mono fun e w' h => ⟨h.1, h.2.symm⟩))))
    go_wp2_with (go_at_call 84; refine (HN.out _ (HG.out.drewN _)).mono ?_; rintro e w2 ⟨rfl, hg⟩)
    go_ret
    exact ⟨rfl, (HG.out.drewN _).trans hg⟩
/-- Good values held against one another by the program. -/
theorem rcompare_any (x : V) : ∀ y : V, x.formed = true → y.formed = true → CmpR x y := by
  induction x using V.ind with
  | h k n b l f hl hf =>
    intro y hx hy
    obtain ⟨k', n', b', l', f'⟩ := y
    by_cases hcl : cls k ≠ cls k'
    · exact rcompare_diff _ _ hcl
    have hcl : cls k = cls k' := Decidable.byContradiction hcl
    rcases V.formed_cases hx with h | ⟨m, hm, h⟩ | ⟨m, h⟩ | ⟨m, h⟩ | ⟨m, hm, h⟩ | ⟨m, h⟩ | ⟨m, hm, h⟩ | ⟨m, hm, hnd, h⟩ <;> cases h <;>
    rcases V.formed_cases hy with h | ⟨m', hm', h⟩ | ⟨m', h⟩ | ⟨m', h⟩ | ⟨m', hm', h⟩ | ⟨m', h⟩ | ⟨m', hm', h⟩ | ⟨m', hm', hnd', h⟩ <;> cases h <;>
    first
    | exact absurd hcl (by decide)
    | exact rcompare_num _ _ _ _ (by decide) (by decide)
    | exact rcompare_bool _ _ hm hm'
    | exact rcompare_text _ _ _ (by decide)
    | skip
    · intro w c c' h h'
      refine (rcompare_tail 1 0 0 [] [] [] [] [] [] c c' w rfl rfl rfl rfl rfl h h' (fun _ hx => by simp at hx) (fun _ hx => by simp at hx)).mono ?_
      rintro e w' ⟨rfl, hg⟩
      exact ⟨ret_int (by rw [V.cmp_mk]; rfl), hg⟩
    · intro w c c' h h'
      refine (rcompare_tail 7 0 0 [] [] l l' [] [] c c' w rfl rfl rfl rfl rfl h h' (fun x hx y hy => hl x hx y (hm x hx) (hm' y hy)) (fun _ hx => by simp at hx)).mono ?_
      rintro e w' ⟨rfl, hg⟩
      refine ⟨ret_int ?_, hg⟩
      rw [V.cmp_mk, if_neg (by simp), if_neg (by decide), if_neg (by decide), if_neg (by decide)]
      have e0 : V.cmpF [] [] = 0 := rfl
      rw [e0, orC_assoc]
      simp only [List.length_nil, Nat.add_zero, orC_0, Int.natCast_zero, Int.add_zero]
    · intro w c c' h h'
      refine (rcompare_tail 8 0 0 [] [] [] [] f f' c c' w rfl rfl rfl rfl rfl h h' (fun _ hx => by simp at hx) (fun x hx y hy => hf x hx y.2 (hm x hx).2 (hm' y hy).2)).mono ?_
      rintro e w' ⟨rfl, hg⟩
      refine ⟨ret_int ?_, hg⟩
      rw [V.cmp_mk, if_neg (by simp), if_neg (by decide), if_neg (by decide), if_neg (by decide)]
      have e0 : V.cmpL [] [] = 0 := rfl
      rw [e0, orC_assoc]
      simp only [List.length_nil, Nat.zero_add, orC_0, Int.natCast_zero, Int.zero_add]
end Go.Proofs.YtpjhhkndfmcaoaaDoor
