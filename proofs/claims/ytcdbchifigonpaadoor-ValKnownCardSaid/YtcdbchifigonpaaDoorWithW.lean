/- Walk of val.With: a document with a field put. -/
import Derived.Test.YtcdbchifigonpaaDoorWithP
import Derived.Test.YtcdbchifigonpaaDoorPathR
import Derived.Deep.DeepCutAuto
import Derived.Deep.CutBlock
set_option linter.unusedVariables false
set_option linter.unusedSimpArgs false
namespace Go.Proofs.YtcdbchifigonpaaDoor
open Go.RowKit Go.Shelf

theorem with_res {F : Func} {W : World} {vb : Nat} {tmps : Array Value} {u : Value} (hF : F.results = #[ResultVar.cell 6 37, ResultVar.tmp 7]) (h2 : tmps.getD 6 undef = .pointer (some ⟨vb, 0, none⟩)) (h3 : tmps.getD 7 undef = u) (c : Cv) (hv : Blk W vb 37 c.cells) :
    (results F tmps).run Tryd.prog W = .ok (.tuple #[c.agg, u]) W := by
  have hl := run_loadVar_row (P := Tryd.prog) W vb 37 37 c.cells (0, 0) _ hv Tryd.underlying37 rfl info_val
  have h2' : tmps[6]?.getD undef = .pointer (some ⟨vb, 0, none⟩) := by simpa using h2
  have h3' : tmps[7]?.getD undef = u := by simpa using h3
  simp [results, hF, h2', h3', asAddr, hl]
set_option maxRecDepth 100000 in
set_option maxHeartbeats 800000 in
theorem with_kind (v x : V) (s : ByteArray) (c d : Cv) (w : World) (hk : v.k ≠ 8) (hv : In w v c) :
    Calls Tryd.prog 18 #[c.agg, .string s, d.agg] w (WithC w (withG v s x)) := by
  have hck : c.k = v.k := by obtain ⟨k, n, b, l, f⟩ := v; obtain ⟨aB, aL, aF, cB, cL, cF, rfl, -⟩ := hv.open; rfl
  have HY := hide (show withG v s x = .error 4 by rw [withG, if_neg (fun h => hk h.1)])
  have hkq : (c.k == 8) = false := by rw [hck]; simpa using hk
  have hkn : ¬ c.k = 8 := by rw [hck]; exact hk
  have HG0 := hide ((((Grow.refl w).alloc (.cells c.cells 37)).alloc (.cells d.cells 37)).alloc (.cells Cv.zero.cells 37))
  have HB := hide (Blk.new' (w := (w.alloc (.cells c.cells 37)).alloc (.cells d.cells 37)) (g := w.heap.size + 1 + 1) (by simp) 37 Cv.zero.cells)
  clear hk hck hv
  go_enter Tryd.func18, Tryd.ntmps18
  go_wp2_with fail
  refine bodyPost_ret (with_res rfl rfl rfl Cv.zero HB.out) rfl (WithC.no HY.out (by decide) HG0.out)
set_option maxRecDepth 100000 in
set_option maxHeartbeats 800000 in
theorem with_bad (v x : V) (s : ByteArray) (c d : Cv) (w : World) (hT : Tabs w) (hcount : v.count ≤ 20000) (hk : v.k = 8) (hgd : v.good ≠ 0) (hv : In w v c) :
    Calls Tryd.prog 18 #[c.agg, .string s, d.agg] w (WithC w (withG v s x)) := by
  have hck : c.k = 8 := by rw [← hk]; obtain ⟨k, n, b, l, f⟩ := v; obtain ⟨aB, aL, aF, cB, cL, cF, rfl, -⟩ := hv.open; rfl
  obtain ⟨c1, cn, aB, nB, cB, aL, nL, cL, aF, nF, cF⟩ := c
  replace hck : c1 = 8 := hck
  subst hck
  have HY := hide (show withG v s x = .error 4 by rw [withG, if_neg (fun h => hgd h.2)])
  have hg0 := (((Grow.refl w).alloc (.cells (Cv.cells ⟨8, cn, aB, nB, cB, aL, nL, cL, aF, nF, cF⟩) 37)).alloc (.cells d.cells 37)).alloc (.cells Cv.zero.cells 37)
  have HG0 := hide hg0
  have HB := hide (Blk.new' (w := (w.alloc (.cells (Cv.cells ⟨8, cn, aB, nB, cB, aL, nL, cL, aF, nF, cF⟩) 37)).alloc (.cells d.cells 37)) (g := w.heap.size + 1 + 1) (by simp) 37 Cv.zero.cells)
  have HGo := hide (good_any v _ _ hcount (hT.grow hg0) (hv.grow hg0))
  obtain ⟨g, hg⟩ : ∃ g, v.good = g := ⟨_, rfl⟩
  rw [hg] at hgd HGo
  have hgz : (g == 0) = false := by simpa using hgd
  clear hk hgd hv hg0 hT hg hcount
  go_enter Tryd.func18, Tryd.ntmps18
  go_wp2_with fail
  refine HGo.out.mono ?_
  rintro e w1 ⟨rfl, hg1⟩
  have HG1 := hide (HG0.out.trans hg1)
  have HB1 := hide (HB.out.grow hg1)
  have hc1 := HB1.out.cell
  have hlt1 := HB1.out.lt
  have hz1 := HB1.out.frozen
  clear hg1
  go_wp2_with fail
  refine bodyPost_ret (with_res rfl rfl rfl Cv.zero (set5_blk (c := Cv.zero) HB1.out)) rfl (WithC.no HY.out (by decide) (HG1.out.set5v (vb := w.heap.size + 1 + 1) (by omega) Cv.zero))
set_option maxRecDepth 100000 in
set_option maxHeartbeats 6400000 in
theorem with_good (f : List (ByteArray × V)) (x : V) (s : ByteArray) (c d : Cv) (w : World) (hT : Tabs w) (hcount : (V.mk 8 0 [] [] f).count + x.count ≤ 20000) (hs : s.size ≤ 140737488355328) (hgd : (V.mk 8 0 [] [] f).good = 0) (hv : In w (.mk 8 0 [] [] f) c) (hx : In w x d) :
    Calls Tryd.prog 18 #[c.agg, .string s, d.agg] w (WithC w (withG (.mk 8 0 [] [] f) s x)) := by
  obtain ⟨-, hnd, hf64⟩ := good_doc rfl hgd
  replace hf64 : f.length ≤ 64 := hf64
  have HWC := hide (Nat.le_trans (withV_count (s := s) (x := x) hnd) hcount)
  have HY := hide (show withG (.mk 8 0 [] [] f) s x = if (withV (.mk 8 0 [] [] f) s x).good = 0 then .ok (withV (.mk 8 0 [] [] f) s x) else .error (withV (.mk 8 0 [] [] f) s x).good by rw [withG, if_pos ⟨rfl, hgd⟩])
  obtain ⟨aB, aL, aF, cB, cL, cF, hce, -⟩ := hv.open
  replace hce : c = ⟨8, 0, aB, 0, cB, aL, 0, cL, aF, f.length, cF⟩ := hce
  subst hce
  have hg0 := (((Grow.refl w).alloc (.cells (Cv.cells ⟨8, 0, aB, 0, cB, aL, 0, cL, aF, f.length, cF⟩) 37)).alloc (.cells d.cells 37)).alloc (.cells Cv.zero.cells 37)
  have HG0 := hide hg0
  have HBc := hide (((Blk.new w 37 (Cv.cells ⟨8, 0, aB, 0, cB, aL, 0, cL, aF, f.length, cF⟩)).alloc (.cells d.cells 37)).alloc (.cells Cv.zero.cells 37))
  have HBd := hide ((Blk.new' (w := w.alloc (.cells (Cv.cells ⟨8, 0, aB, 0, cB, aL, 0, cL, aF, f.length, cF⟩) 37)) (g := w.heap.size + 1) (by simp) 37 d.cells).alloc (.cells Cv.zero.cells 37))
  have HBz := hide (Blk.new' (w := (w.alloc (.cells (Cv.cells ⟨8, 0, aB, 0, cB, aL, 0, cL, aF, f.length, cF⟩) 37)).alloc (.cells d.cells 37)) (g := w.heap.size + 1 + 1) (by simp) 37 Cv.zero.cells)
  have HGo := hide (good_any (.mk 8 0 [] [] f) _ _ (by omega) (hT.grow hg0) (hv.grow hg0))
  rw [hgd] at HGo
  have HV := hide hv
  have HX := hide hx
  have HT := hide hT
  have HS := hide hs
  have HF := hide hf64
  obtain ⟨m1, hm1⟩ : ∃ m, f.length + 1 = m := ⟨_, rfl⟩
  obtain ⟨cur, hcs, hrun⟩ := make_fldsS m1 (by omega)
  have hm2 : (f.length : Int) + 1 = (m1 : Int) := by omega
  obtain ⟨i0, hi0, hz0, hz1, hz2⟩ := info_parts info_fld3
  have Hi0 := hide hi0; have Hz0 := hide hz0; have Hz1 := hide hz1; have Hz2 := hide hz2
  have HCS := hide hcs
  have HM1 := hide hm1
  clear hv hx hT hs hg0 hgd hcount hnd hi0 hz0 hz1 hz2 hcs
  go_enter Tryd.func18, Tryd.ntmps18
  go_wp2_with fail
  refine HGo.out.mono ?_
  rintro e w1 ⟨rfl, hg1⟩
  have HG1 := hide (HG0.out.trans hg1)
  have HB2 := hide (HBc.out.grow hg1)
  have HB3 := hide (HBd.out.grow hg1)
  have HB4 := hide (HBz.out.grow hg1)
  have hc2 := HB2.out.cell
  have hlt2 := HB2.out.lt
  have HL4 := hide HB4.out.lt
  clear hg1
  go_wp2_with fail
  have HR0 := hide (show FRow w (w1.alloc (.cells cur 52)) w1.heap.size (.slice (some ⟨w1.heap.size, 0, none⟩) 0 m1) [] from ⟨World.ownsRow_made w1 cur m1 (Nat.le_refl _) (by simp only [maxLen]; have := HM1.out; omega) HCS.out, fun y hy => by simp at hy⟩)
  clear hm1 hm2 hrun
  go_loopg [8, 9, 11, 31] (f.length + 1) (fun gk o t u i wr => ∃ (j : Nat) (es : List VE) (A : Option Addr) (cap : Nat), j ≤ f.length ∧ gk + j = f.length + 1 ∧ i = .int .i64 j ∧ t = .bool (hasF (f.take j) s) ∧ o = .slice A j cap ∧ j = es.length ∧ es.map (fun y => (y.s, y.v)) = putF (f.take j) s x ∧
    Grow w wr ∧ w1.heap.size ≤ wr.heap.size ∧ Blk wr w.heap.size 37 (Cv.cells ⟨8, 0, aB, 0, cB, aL, 0, cL, aF, f.length, cF⟩) ∧ Blk wr (w.heap.size + 1) 37 d.cells ∧ Blk wr (w.heap.size + 1 + 1) 37 Cv.zero.cells ∧ FRow w wr w1.heap.size (.slice A j cap) es)
  case atStart => exact ⟨0, [], _, _, by omega, by omega, rfl, rfl, rfl, rfl, rfl, HG1.out.alloc _, by simp, HB2.out.alloc _, HB3.out.alloc _, HB4.out.alloc _, HR0.out⟩
  case round =>
    obtain ⟨j, es, A, cap, hj, hgk, rfl, rfl, rfl, hje, hem, hw, hwz, h2, h3, h4, hR⟩ := hrel
    have HW := hide hw
    have HWZ := hide hwz
    have H2 := hide h2
    have H3 := hide h3
    have H4 := hide h4
    have HR := hide hR
    have HE := hide hem
    have HJ := hide hje
    have hc2r := h2.cell
    have hc3r := h3.cell
    have hlt2r := h2.lt
    clear hw h2 h3 h4 hR hem hc2 hlt2 hje hwz
    obtain ⟨gk', rfl⟩ : ∃ g, gk = g + 1 := ⟨gk - 1, by omega⟩
    by_cases hlt : j < f.length
    · obtain ⟨bk, o, y, ha, hbk, es0, esz, e0, e1, e2, e3, e4, hy⟩ := HV.out.elemF j hlt
      dsimp only at ha
      subst ha
      replace es0 := (HW.out.below.cell hbk).trans es0; replace e0 := (HW.out.below.cell hbk).trans e0; replace e1 := (HW.out.below.cell hbk).trans e1; replace e2 := (HW.out.below.cell hbk).trans e2; replace e3 := (HW.out.below.cell hbk).trans e3; replace e4 := (HW.out.below.cell hbk).trans e4
      replace hbk := Nat.lt_of_lt_of_le hbk HW.out.size
      have HYI := hide hy
      have HSZ := hide esz
      obtain ⟨q, hq⟩ : ∃ q, f[j].1 = q := ⟨_, rfl⟩
      rw [hq] at es0 HSZ
      have HQ := hide hq
      obtain ⟨tb, htb⟩ : ∃ tb, hasF (f.take j) s = tb := ⟨_, rfl⟩
      rw [htb]
      have HTB := hide htb
      have HGA := hide (fun z : Cv => HW.out.alloc (.cells (z.fcells q) 52))
      have HA2 := hide (fun z : Cv => H2.out.alloc (.cells (z.fcells q) 52))
      have HA3 := hide (fun z : Cv => H3.out.alloc (.cells (z.fcells q) 52))
      have HA4 := hide (fun z : Cv => H4.out.alloc (.cells (z.fcells q) 52))
      have HRA := hide (fun z : Cv => HR.out.grow ((Grow.refl wr).alloc (.cells (z.fcells q) 52)))
      have HN := hide (fun z : Cv => Blk.new wr 52 (z.fcells q))
      obtain ⟨tc, htc⟩ : ∃ tc, (q.toList == s.toList) = tc := ⟨_, rfl⟩
      have HTC := hide (show tc = true ↔ q = s by rw [← htc]; exact str_beq q s)
      clear hy hq htb esz
      go_upto_if 38 with fail
      go_cut [9] (fun t wx => ∃ (z : V) (cz : Cv), t = .bool (hasF (f.take (j + 1)) s) ∧ putF (f.take (j + 1)) s x = putF (f.take j) s x ++ [(q, z)] ∧ In w z cz ∧ Grow w wx ∧ wr.heap.size + 1 = wx.heap.size ∧ Blk wx w.heap.size 37 (Cv.cells ⟨8, 0, aB, 0, cB, aL, 0, cL, some ⟨bk, o, none⟩, f.length, cF⟩) ∧
        Blk wx (w.heap.size + 1) 37 d.cells ∧ Blk wx (w.heap.size + 1 + 1) 37 Cv.zero.cells ∧ Blk wx wr.heap.size 52 (cz.fcells q) ∧ FRow w wx w1.heap.size (.slice A j cap) es)
      case first =>
        have hcn := (HN.out y).cell
        have hltn := (HN.out y).lt
        have hzn := (HN.out y).frozen
        clear htc
        have hlt3 := (HA3.out y).lt
        have hd3 := (HA3.out y).cell
        cases tc
        rotate_left 1
        · have he : q = s := HTC.out.1 rfl
          have HHF := hide (show hasF (f.take (j + 1)) s = true by rw [hasF_snoc hlt, HQ.out, decide_eq_true he, Bool.or_true])
          have HPF := hide (show putF (f.take (j + 1)) s x = putF (f.take j) s x ++ [(q, x)] by rw [putF_snoc hlt, if_pos (HQ.out.trans he), HQ.out])
          clear he
          go_wp2_with fail
          go_meet
          have hl := HWZ.out
          have hl4 := HL4.out
          exact ⟨x, d, by rw [HHF.out], HPF.out, HX.out, HGA.out d, by simp, HA2.out d, HA3.out d, HA4.out d, HN.out d, HRA.out d⟩
        · have he : q ≠ s := fun h => by have := HTC.out.2 h; cases this
          have HHF := hide (show hasF (f.take (j + 1)) s = tb by rw [hasF_snoc hlt, HQ.out, decide_eq_false he, Bool.or_false, HTB.out])
          have HPF := hide (show putF (f.take (j + 1)) s x = putF (f.take j) s x ++ [(q, f[j].2)] by rw [putF_snoc hlt, if_neg (by rw [HQ.out]; exact he), ← HQ.out])
          clear he
          go_wp2_with fail
          go_meet
          exact ⟨f[j].2, y, by rw [HHF.out], HPF.out, HYI.out, HGA.out y, by simp, HA2.out y, HA3.out y, HA4.out y, HN.out y, HRA.out y⟩
      case rest =>
      clear htc
      obtain ⟨z, cz, rfl, hpf, hz, hwx, hsz, b2, b3, b4, bn, hr⟩ := hcut
      rename World => wx
      have HPF := hide hpf
      have HZ := hide hz
      have HWX := hide hwx
      have HB2x := hide b2
      have HB3x := hide b3
      have HB4x := hide b4
      have HRX := hide hr
      have hcn := bn.cell
      have hown := hr.own
      rw [← HJ.out] at hown
      have HOWN := hide hown
      have hl := HWZ.out
      have hj64 := HF.out
      obtain ⟨tb2, htb2⟩ : ∃ tb2, hasF (f.take (j + 1)) s = tb2 := ⟨_, rfl⟩
      rw [htb2]
      have HTB2 := hide htb2
      clear hpf hz hwx b2 b3 b4 hr bn hc2r hc3r hown htb2
      go_wp2_with (at_builtin; refine wpList_append_src rfl (.tmp 41) (.tmp 43) 35 35 rfl w1.heap.size 52 i0 _ 6 104 under_flds Hi0.out Hz0.out Hz1.out Hz2.out rfl (.slice A j cap) j (cellsOf nameHead es) rfl (HOWN.out.alloc _) _ 1 (nameHead q ++ cz.cells.toList) rfl (Src.oneF q cz _) (by omega) (by simp only [maxLen]; omega) (by simp; omega) ?_; intro A3 c3 w4 hown3 hgr3 hat3)
      have hl4 := HL4.out
      have HG4 := hide ((HWX.out.alloc (.cells (cz.fcells q) 52)).grown hgr3 (fun k hk => by have := (HRX.out.own_lt hk).1; omega))
      have HB24 := hide (Blk.own (HB2x.out.alloc _) hgr3 (fun k hk => by have := (HRX.out.own_lt hk).1; omega))
      have HB34 := hide (Blk.own (HB3x.out.alloc _) hgr3 (fun k hk => by have := (HRX.out.own_lt hk).1; omega))
      have HB44 := hide (Blk.own (HB4x.out.alloc _) hgr3 (fun k hk => by have := (HRX.out.own_lt hk).1; omega))
      have HZ4 := hide (show w1.heap.size ≤ w4.heap.size by have := hgr3.size; simp at this; omega)
      have HR4 := hide (FRow.add (s := q) (lo := 0) (hi := 0) HRX.out.part (HSZ.out) HZ.out (by rw [← HJ.out]; exact hown3))
      clear hown3 hgr3 hat3
      go_wp2_with fail
      go_roundg gk'
      case measure => omega
      case rel =>
        refine ⟨j + 1, es ++ [⟨q, z, cz, 0, 0⟩], A3, c3, by omega, by omega, by go_num, by rw [HTB2.out], rfl, by simp [← HJ.out], ?_, HG4.out, HZ4.out, HB24.out, HB34.out, HB44.out, HR4.out⟩
        rw [List.map_append, HE.out, HPF.out]
        rfl
    · obtain rfl : j = f.length := by omega
      rw [List.take_length] at HE
      obtain ⟨tb, htb⟩ : ∃ tb, hasF f s = tb := ⟨_, rfl⟩
      rw [List.take_length, htb]
      have hf64 := HF.out
      have hown := HR.out.own
      rw [← HJ.out] at hown
      have HOWN := hide hown
      have hl := HWZ.out
      have hl4 := HL4.out
      clear hown
      go_upto_if 47 with fail
      go_cut [8] (fun o wx => ∃ (es' : List VE) (A' : Option Addr) (cap' : Nat), o = .slice A' es'.length cap' ∧ es'.map (fun y => (y.s, y.v)) = withF f s x ∧ es'.length ≤ 65 ∧ Grow w wx ∧ w1.heap.size ≤ wx.heap.size ∧ Blk wx (w.heap.size + 1 + 1) 37 Cv.zero.cells ∧ FRow w wx w1.heap.size (.slice A' es'.length cap') es')
      case first =>
        cases tb
        · have HWF := hide (show withF f s x = putF f s x ++ [(s, x)] by rw [withF, htb]; rfl)
          clear htb
          go_wp2_with (at_builtin; refine wpList_append_src rfl (.tmp 48) (.tmp 52) 35 35 rfl w1.heap.size 52 i0 _ 6 104 under_flds Hi0.out Hz0.out Hz1.out Hz2.out rfl (.slice A f.length cap) f.length (cellsOf nameHead es) rfl (HOWN.out.alloc _) _ 1 (nameHead s ++ d.cells.toList) rfl (Src.oneF s d _) (by omega) (by simp only [maxLen]; omega) (by simp; omega) ?_; intro A3 c3 w4 hown3 hgr3 hat3)
          have HG4 := hide ((HW.out.alloc (.cells (d.fcells s) 52)).grown hgr3 (fun k hk => by have := (HR.out.own_lt hk).1; omega))
          have HB44 := hide (Blk.own (H4.out.alloc _) hgr3 (fun k hk => by have := (HR.out.own_lt hk).1; omega))
          have HZ4 := hide (show w1.heap.size ≤ w4.heap.size by have := hgr3.size; simp at this; omega)
          have HR4 := hide (FRow.add (s := s) (lo := 0) (hi := 0) HR.out.part HS.out HX.out (by rw [← HJ.out]; exact hown3))
          clear hown3 hgr3 hat3
          have hel : (es ++ [(⟨s, x, d, 0, 0⟩ : VE)]).length = f.length + 1 := by simp [← HJ.out]
          go_wp2_with fail
          go_meet
          exact ⟨es ++ [⟨s, x, d, 0, 0⟩], A3, c3, by rw [hel], by rw [List.map_append, HE.out, HWF.out]; rfl, by have := HF.out; omega, HG4.out, HZ4.out, HB44.out, by rw [hel]; exact HR4.out⟩
        · have HWF := hide (show withF f s x = putF f s x by rw [withF, htb]; simp)
          clear htb
          go_wp2_with fail
          go_meet
          exact ⟨es, A, cap, by rw [← HJ.out], by rw [HE.out, HWF.out], by have := HJ.out; have := HF.out; omega, HW.out, HWZ.out, H4.out, by rw [← HJ.out]; exact HR.out⟩
      case rest =>
      obtain ⟨es', A', cap', rfl, hem, hl65, hwx, hzx, b4, hr⟩ := hcut
      rename World => wx
      obtain ⟨VW, hVW⟩ : ∃ VW, withV (V.mk 8 0 [] [] f) s x = VW := ⟨_, rfl⟩
      rw [hVW] at HWC HY
      have HWX := hide hwx
      have HIN := hide (show In wx VW ⟨8, 0, none, 0, 0, none, 0, 0, A', es'.length, cap'⟩ by
        rw [← hVW]
        show In wx (.mk 8 0 [] [] (withF f s x)) _
        rw [← hem]
        exact hr.in_ hwx rfl (by omega))
      have hga := (Grow.refl wx).alloc (.cells (Cv.cells ⟨8, 0, none, 0, 0, none, 0, 0, A', es'.length, cap'⟩) 37)
      have HGA := hide (HWX.out.trans hga)
      have HB4 := hide (b4.grow hga)
      have HBN := hide (Blk.new wx 37 (Cv.cells ⟨8, 0, none, 0, 0, none, 0, 0, A', es'.length, cap'⟩))
      have HGo2 := hide (good_anyM VW _ _ (V.mild_of HWC.out (HIN.out.grow hga)) (HT.out.grow HGA.out) (HIN.out.grow hga))
      have hlx := hzx
      clear hwx b4 hr hga hem hVW hc2r hc3r htb
      obtain ⟨gN, hgN⟩ : ∃ gN, VW.good = gN := ⟨_, rfl⟩
      rw [hgN] at HGo2 HY
      have HGN := hide hgN
      clear hgN
      go_wp2_with fail
      refine HGo2.out.mono ?_
      rintro e w5 ⟨rfl, hg5⟩
      have HG5 := hide (HGA.out.trans hg5)
      have HB45 := hide (HB4.out.grow hg5)
      have HBN5 := hide (HBN.out.grow hg5)
      have HIN5 := hide (HIN.out.grow (((Grow.refl wx).alloc (.cells (Cv.cells ⟨8, 0, none, 0, 0, none, 0, 0, A', es'.length, cap'⟩) 37)).trans hg5))
      have hcn5 := HBN5.out.cell
      have hltn5 := HBN5.out.lt
      have hc45 := HB45.out.cell
      have hlt45 := HB45.out.lt
      have hz45 := HB45.out.frozen
      clear hg5
      by_cases h0 : gN = 0
      · subst h0
        rw [if_pos rfl] at HY
        go_wp2_with fail
        refine (copy_any VW (good_sml HGN.out) _ _ HIN5.out).mono ?_
        rintro e w6 ⟨x6, rfl, hx6, hg6⟩
        have HX6 := hide hx6
        have HG6 := hide (HG5.out.trans hg6)
        have HB6 := hide (HB45.out.grow hg6)
        have HL6 := hide HB45.out.lt
        have hc6 := HB6.out.cell
        have hlt6 := HB6.out.lt
        have hz6 := HB6.out.frozen
        clear hx6 hg6 hcn5 hltn5 hc45 hlt45 hz45
        go_wp2_with fail
        refine bodyPost_ret (with_res rfl rfl rfl x6 (set5_from (c := x6) HB6.out)) rfl (WithC.yes HY.out (HG6.out.set5v (vb := w.heap.size + 1 + 1) (by omega) x6) (isv_in (isv_set5 HX6.out.atW HL6.out x6)))
      · rw [if_neg h0] at HY
        have hgz : (gN == 0) = false := by simpa using h0
        have H0 := hide h0
        clear h0
        go_wp2_with fail
        refine bodyPost_ret (with_res rfl rfl rfl Cv.zero (set5_blk (c := Cv.zero) HB45.out)) rfl (WithC.no HY.out H0.out (HG5.out.set5v (vb := w.heap.size + 1 + 1) (by omega) Cv.zero))
theorem with_any (v x : V) (s : ByteArray) (c d : Cv) (w : World) (hT : Tabs w) (hcount : v.count + x.count ≤ 20000) (hs : s.size ≤ 140737488355328) (hv : In w v c) (hx : In w x d) :
    Calls Tryd.prog 18 #[c.agg, .string s, d.agg] w (WithC w (withG v s x)) := by
  by_cases hk : v.k = 8
  · by_cases hgd : v.good = 0
    · have he := (good_doc hk hgd).1
      rw [he] at hcount hgd hv ⊢
      exact with_good v.f x s c d w hT hcount hs hgd hv hx
    · exact with_bad v x s c d w hT (by omega) hk hgd hv
  · exact with_kind v x s c d w hk hv
end Go.Proofs.YtcdbchifigonpaaDoor
