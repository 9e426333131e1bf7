/- Walk of munimentref2.With: the document's answer: a field more, or another value of it. -/
import Derived.Test.YtfkljmhpcdplhaaDoorWithW
set_option linter.unusedVariables false
set_option linter.unusedSimpArgs false
namespace Go.Proofs.YtfkljmhpcdplhaaDoor
open Go.RowKit Go.Shelf

theorem rwith_res {F : Func} {W : World} {vb : Nat} {tmps : Array Value} (hF : F.results = #[ResultVar.cell 6 37]) (h2 : tmps.getD 6 undef = .pointer (some ⟨vb, 0, none⟩)) (c : Cv) (hv : Blk W vb 37 c.cells) :
    (results F tmps).run Tryd.prog W = .ok c.agg W := by
  have hl := run_loadVar_row (P := Tryd.prog) W vb 37 37 c.cells (0, 0) _ hv Tryd.underlying37 rfl info_val
  have h2' : tmps[6]?.getD undef = .pointer (some ⟨vb, 0, none⟩) := by simpa using h2
  simp [results, hF, h2', asAddr, hl]
/-- A value, in the world. -/
def RWithC (w : World) (v : V) (e : Ending) (w' : World) : Prop := ∃ c : Cv, e = .returned c.agg ∧ In w' v c ∧ Grow w w'
set_option maxRecDepth 100000 in
set_option maxHeartbeats 1600000 in
theorem rwith_any (v x : V) (s : ByteArray) (c d : Cv) (w : World) (hf64 : v.f.length ≤ 64) (hs : s.size ≤ 140737488355328) (hv : In w v c) (hx : In w x d) :
    Calls Tryd.prog 23 #[c.agg, .string s, d.agg] w (RWithC w (withV v s x)) := by
  obtain ⟨k, n, b, l, f⟩ := v
  replace hf64 : f.length ≤ 64 := hf64
  obtain ⟨aB, aL, aF, cB, cL, cF, hce, -⟩ := hv.open
  subst hce
  have HG0 := hide ((((Grow.refl w).alloc (.cells (Cv.cells ⟨k, (n : Int), aB, b.length, cB, aL, l.length, cL, aF, f.length, cF⟩) 37)).alloc (.cells d.cells 37)).alloc (.cells Cv.zero.cells 37))
  have HBc := hide (((Blk.new w 37 (Cv.cells ⟨k, (n : Int), aB, b.length, cB, aL, l.length, cL, aF, f.length, cF⟩)).alloc (.cells d.cells 37)).alloc (.cells Cv.zero.cells 37))
  have HBd := hide ((Blk.new' (w := w.alloc (.cells (Cv.cells ⟨k, (n : Int), aB, b.length, cB, aL, l.length, cL, aF, f.length, cF⟩) 37)) (g := w.heap.size + 1) (by simp) 37 d.cells).alloc (.cells Cv.zero.cells 37))
  have HBz := hide (Blk.new' (w := (w.alloc (.cells (Cv.cells ⟨k, (n : Int), aB, b.length, cB, aL, l.length, cL, aF, f.length, cF⟩) 37)).alloc (.cells d.cells 37)) (g := w.heap.size + 1 + 1) (by simp) 37 Cv.zero.cells)
  have HBo := hide (Blk.new' (w := ((w.alloc (.cells (Cv.cells ⟨k, (n : Int), aB, b.length, cB, aL, l.length, cL, aF, f.length, cF⟩) 37)).alloc (.cells d.cells 37)).alloc (.cells Cv.zero.cells 37)) (g := w.heap.size + 1 + 1 + 1) (by simp) 37 (Cv.cells ⟨8, 0, none, 0, 0, none, 0, 0, none, 0, 0⟩))
  have HV := hide hv
  have HX := hide hx
  have HS := hide hs
  have HF := hide hf64
  obtain ⟨i0, hi0, hz0, hz1, hz2⟩ := info_parts info_fld3
  have Hi0 := hide hi0; have Hz0 := hide hz0; have Hz1 := hide hz1; have Hz2 := hide hz2
  clear hv hx hs hi0 hz0 hz1 hz2 hf64
  go_enter Tryd.func23, Tryd.ntmps23
  go_wp2_with fail
  go_loopg [8, 9, 10] (f.length + 1) (fun gk t i u wr => ∃ (j : Nat) (es : List VE) (A : Option Addr) (cap : Nat), j ≤ f.length ∧ gk + j = f.length + 1 ∧ i = .int .i64 j ∧ t = .bool (hasF (f.take j) s) ∧ j = es.length ∧ es.map (fun y => (y.s, y.v)) = putF (f.take j) s x ∧
    Grow w wr ∧ Blk wr w.heap.size 37 (Cv.cells ⟨k, (n : Int), aB, b.length, cB, aL, l.length, cL, aF, f.length, cF⟩) ∧ Blk wr (w.heap.size + 1) 37 d.cells ∧ Blk wr (w.heap.size + 1 + 1) 37 Cv.zero.cells ∧ Blk wr (w.heap.size + 1 + 1 + 1) 37 (Cv.cells ⟨8, 0, none, 0, 0, none, 0, 0, A, j, cap⟩) ∧ FRow w wr (w.heap.size + 4) (.slice A j cap) es)
  case atStart => exact ⟨0, [], none, 0, by omega, by omega, rfl, rfl, rfl, rfl, HG0.out.alloc _, HBc.out.alloc _, HBd.out.alloc _, HBz.out.alloc _, HBo.out, ⟨World.ownsRow_nil _ _ _ _, fun y hy => by simp at hy⟩⟩
  case round =>
    obtain ⟨j, es, A, cap, hj, hgk, rfl, rfl, hje, hem, hw, h2, h3, h4, h5, hR⟩ := hrel
    have HW := hide hw
    have H2 := hide h2
    have H3 := hide h3
    have H4 := hide h4
    have H5 := hide h5
    have HR := hide hR
    have HE := hide hem
    have HJ := hide hje
    have HL5 := hide h5.lt
    have hc2r := h2.cell
    have hc3r := h3.cell
    have hc5r := h5.cell
    have hlt2r := h2.lt
    clear hw h2 h3 h4 h5 hR hem hje
    obtain ⟨gk', rfl⟩ : ∃ g, gk = g + 1 := ⟨gk - 1, by omega⟩
    by_cases hlt : j < f.length
    · obtain ⟨bk, o, y, ha, hbk, es0, esz, e0, e1, e2, e3, e4, hy⟩ := HV.out.elemF j hlt
      dsimp only at ha
      subst ha
      replace es0 := (HW.out.below.cell hbk).trans es0; replace e0 := (HW.out.below.cell hbk).trans e0; replace e1 := (HW.out.below.cell hbk).trans e1; replace e2 := (HW.out.below.cell hbk).trans e2; replace e3 := (HW.out.below.cell hbk).trans e3; replace e4 := (HW.out.below.cell hbk).trans e4
      replace hbk := Nat.lt_of_lt_of_le hbk HW.out.size
      have HYI := hide hy
      have HSZ := hide esz
      obtain ⟨q, hq⟩ : ∃ q, f[j].1 = q := ⟨_, rfl⟩
      rw [hq] at es0 HSZ
      have HQ := hide hq
      obtain ⟨tb, htb⟩ : ∃ tb, hasF (f.take j) s = tb := ⟨_, rfl⟩
      rw [htb]
      have HTB := hide htb
      have HGA := hide (fun z : Cv => HW.out.alloc (.cells (z.fcells q) 52))
      have HA2 := hide (fun z : Cv => H2.out.alloc (.cells (z.fcells q) 52))
      have HA3 := hide (fun z : Cv => H3.out.alloc (.cells (z.fcells q) 52))
      have HA4 := hide (fun z : Cv => H4.out.alloc (.cells (z.fcells q) 52))
      have HA5 := hide (fun z : Cv => H5.out.alloc (.cells (z.fcells q) 52))
      have HRA := hide (fun z : Cv => HR.out.grow ((Grow.refl wr).alloc (.cells (z.fcells q) 52)))
      have HN := hide (fun z : Cv => Blk.new wr 52 (z.fcells q))
      obtain ⟨tc, htc⟩ : ∃ tc, (q.toList == s.toList) = tc := ⟨_, rfl⟩
      have HTC := hide (show tc = true ↔ q = s by rw [← htc]; exact str_beq q s)
      clear hy hq htb esz
      go_upto_if 27 with fail
      go_cut [8] (fun t wx => ∃ (z : V) (cz : Cv), t = .bool (hasF (f.take (j + 1)) s) ∧ putF (f.take (j + 1)) s x = putF (f.take j) s x ++ [(q, z)] ∧ In w z cz ∧ Grow w wx ∧ wr.heap.size + 1 = wx.heap.size ∧ Blk wx w.heap.size 37 (Cv.cells ⟨k, (n : Int), aB, b.length, cB, aL, l.length, cL, some ⟨bk, o, none⟩, f.length, cF⟩) ∧
        Blk wx (w.heap.size + 1) 37 d.cells ∧ Blk wx (w.heap.size + 1 + 1) 37 Cv.zero.cells ∧ Blk wx (w.heap.size + 1 + 1 + 1) 37 (Cv.cells ⟨8, 0, none, 0, 0, none, 0, 0, A, j, cap⟩) ∧ Blk wx wr.heap.size 52 (cz.fcells q) ∧ FRow w wx (w.heap.size + 4) (.slice A j cap) es)
      case first =>
        have hcn := (HN.out y).cell
        have hltn := (HN.out y).lt
        have hzn := (HN.out y).frozen
        have hl5 := HL5.out
        clear htc
        have hlt3 := (HA3.out y).lt
        have hd3 := (HA3.out y).cell
        cases tc
        rotate_left 1
        · have he : q = s := HTC.out.1 rfl
          have HHF := hide (show hasF (f.take (j + 1)) s = true by rw [hasF_snoc hlt, HQ.out, decide_eq_true he, Bool.or_true])
          have HPF := hide (show putF (f.take (j + 1)) s x = putF (f.take j) s x ++ [(q, x)] by rw [putF_snoc hlt, if_pos (HQ.out.trans he), HQ.out])
          clear he
          go_wp2_with fail
          go_meet
          exact ⟨x, d, by rw [HHF.out], HPF.out, HX.out, HGA.out d, by simp, HA2.out d, HA3.out d, HA4.out d, HA5.out d, HN.out d, HRA.out d⟩
        · have he : q ≠ s := fun h => by have := HTC.out.2 h; cases this
          have HHF := hide (show hasF (f.take (j + 1)) s = tb by rw [hasF_snoc hlt, HQ.out, decide_eq_false he, Bool.or_false, HTB.out])
          have HPF := hide (show putF (f.take (j + 1)) s x = putF (f.take j) s x ++ [(q, f[j].2)] by rw [putF_snoc hlt, if_neg (by rw [HQ.out]; exact he), ← HQ.out])
          clear he
          go_wp2_with fail
          go_meet
          exact ⟨f[j].2, y, by rw [HHF.out], HPF.out, HYI.out, HGA.out y, by simp, HA2.out y, HA3.out y, HA4.out y, HA5.out y, HN.out y, HRA.out y⟩
      case rest =>
      clear htc
      obtain ⟨z, cz, rfl, hpf, hz, hwx, hsz, b2, b3, b4, b5, bn, hr⟩ := hcut
      rename World => wx
      have HPF := hide hpf
      have HZ := hide hz
      have HWX := hide hwx
      have HB2x := hide b2
      have HB3x := hide b3
      have HB4x := hide b4
      have HB5x := hide b5
      have HRX := hide hr
      have hcn := bn.cell
      have hc5 := b5.cell
      have hlt5 := b5.lt
      have hown := hr.own
      rw [← HJ.out] at hown
      have HOWN := hide hown
      have hl5 := HL5.out
      have hj64 := HF.out
      obtain ⟨tb2, htb2⟩ : ∃ tb2, hasF (f.take (j + 1)) s = tb2 := ⟨_, rfl⟩
      rw [htb2]
      have HTB2 := hide htb2
      clear hpf hz hwx b2 b3 b4 b5 hr bn hc2r hc3r hc5r hown htb2
      go_wp2_with (at_builtin; refine wpList_append_src rfl (.tmp 31) (.tmp 33) 35 35 rfl (w.heap.size + 4) 52 i0 _ 6 104 under_flds Hi0.out Hz0.out Hz1.out Hz2.out rfl (.slice A j cap) j (cellsOf nameHead es) rfl (HOWN.out.alloc _) _ 1 (nameHead q ++ cz.cells.toList) rfl (Src.oneF q cz _) (by omega) (by simp only [maxLen]; omega) (by simp; omega) ?_; intro A3 c3 w4 hown3 hgr3 hat3; have hB54 := Blk.own (HB5x.out.alloc (.cells (cz.fcells q) 52)) hgr3 (fun k hk => by have := (HRX.out.own_lt hk).1; omega); have hc54 := hB54.cell; have hlt54 := hB54.lt; have hz54 := hB54.frozen)
      have HG4 := hide (((HWX.out.alloc (.cells (cz.fcells q) 52)).grown hgr3 (fun k hk => by have := (HRX.out.own_lt hk).1; omega)).setCell (p := ⟨w.heap.size + 1 + 1 + 1, 4, none⟩) (show w.heap.size ≤ w.heap.size + 1 + 1 + 1 by omega) (.slice A3 (j + 1) c3))
      have HB24 := hide ((Blk.own (HB2x.out.alloc _) hgr3 (fun k hk => by have := (HRX.out.own_lt hk).1; omega)).far (p := ⟨w.heap.size + 1 + 1 + 1, 4, none⟩) (show w.heap.size ≠ w.heap.size + 1 + 1 + 1 by omega) (.slice A3 (j + 1) c3))
      have HB34 := hide ((Blk.own (HB3x.out.alloc _) hgr3 (fun k hk => by have := (HRX.out.own_lt hk).1; omega)).far (p := ⟨w.heap.size + 1 + 1 + 1, 4, none⟩) (show w.heap.size + 1 ≠ w.heap.size + 1 + 1 + 1 by omega) (.slice A3 (j + 1) c3))
      have HB44 := hide ((Blk.own (HB4x.out.alloc _) hgr3 (fun k hk => by have := (HRX.out.own_lt hk).1; omega)).far (p := ⟨w.heap.size + 1 + 1 + 1, 4, none⟩) (show w.heap.size + 1 + 1 ≠ w.heap.size + 1 + 1 + 1 by omega) (.slice A3 (j + 1) c3))
      have HB54 := hide (hB54.set_ 4 (.slice A3 (j + 1) c3))
      have HR4 := hide (FRow.add (s := q) (lo := 0) (hi := 0) HRX.out.part (HSZ.out) HZ.out (by rw [← HJ.out]; exact hown3))
      have HR5 := hide (HR4.out.kept (grown_set w4 (w.heap.size + 1 + 1 + 1) 4 (.slice A3 (j + 1) c3)) (fun k hk e => by injection e with e; have := (HR4.out.own_lt hk).1; omega))
      clear hown3 hgr3 hat3
      go_wp2_with fail
      go_roundg gk'
      case measure => omega
      case rel =>
        refine ⟨j + 1, es ++ [⟨q, z, cz, 0, 0⟩], A3, c3, by omega, by omega, by go_num, by rw [HTB2.out], by simp [← HJ.out], ?_, HG4.out, HB24.out, HB34.out, HB44.out, HB54.out, HR5.out⟩
        rw [List.map_append, HE.out, HPF.out]
        rfl
    · obtain rfl : j = f.length := by omega
      rw [List.take_length] at HE
      obtain ⟨tb, htb⟩ : ∃ tb, hasF f s = tb := ⟨_, rfl⟩
      rw [List.take_length, htb]
      have hf64 := HF.out
      have hown := HR.out.own
      rw [← HJ.out] at hown
      have HOWN := hide hown
      have hl5 := HL5.out
      clear hown
      go_upto_if 37 with fail
      go_cut [] (fun wx => ∃ (es' : List VE) (A' : Option Addr) (cap' : Nat), es'.map (fun y => (y.s, y.v)) = withF f s x ∧ es'.length ≤ 65 ∧ Grow w wx ∧ Blk wx (w.heap.size + 1 + 1) 37 Cv.zero.cells ∧ Blk wx (w.heap.size + 1 + 1 + 1) 37 (Cv.cells ⟨8, 0, none, 0, 0, none, 0, 0, A', es'.length, cap'⟩) ∧ FRow w wx (w.heap.size + 4) (.slice A' es'.length cap') es')
      case first =>
        cases tb
        · have HWF := hide (show withF f s x = putF f s x ++ [(s, x)] by rw [withF, htb]; rfl)
          clear htb
          have hlt5 := H5.out.lt
          go_wp2_with (at_builtin; refine wpList_append_src rfl (.tmp 39) (.tmp 43) 35 35 rfl (w.heap.size + 4) 52 i0 _ 6 104 under_flds Hi0.out Hz0.out Hz1.out Hz2.out rfl (.slice A f.length cap) f.length (cellsOf nameHead es) rfl (HOWN.out.alloc _) _ 1 (nameHead s ++ d.cells.toList) rfl (Src.oneF s d _) (by omega) (by simp only [maxLen]; omega) (by simp; omega) ?_; intro A3 c3 w4 hown3 hgr3 hat3; have hB54 := Blk.own (H5.out.alloc (.cells (d.fcells s) 52)) hgr3 (fun k hk => by have := (HR.out.own_lt hk).1; omega); have hc54 := hB54.cell; have hlt54 := hB54.lt; have hz54 := hB54.frozen)
          have HG4 := hide (((HW.out.alloc (.cells (d.fcells s) 52)).grown hgr3 (fun k hk => by have := (HR.out.own_lt hk).1; omega)).setCell (p := ⟨w.heap.size + 1 + 1 + 1, 4, none⟩) (show w.heap.size ≤ w.heap.size + 1 + 1 + 1 by omega) (.slice A3 (f.length + 1) c3))
          have HB44 := hide ((Blk.own (H4.out.alloc _) hgr3 (fun k hk => by have := (HR.out.own_lt hk).1; omega)).far (p := ⟨w.heap.size + 1 + 1 + 1, 4, none⟩) (show w.heap.size + 1 + 1 ≠ w.heap.size + 1 + 1 + 1 by omega) (.slice A3 (f.length + 1) c3))
          have HB54 := hide (hB54.set_ 4 (.slice A3 (f.length + 1) c3))
          have HR4 := hide (FRow.add (s := s) (lo := 0) (hi := 0) HR.out.part HS.out HX.out (by rw [← HJ.out]; exact hown3))
          have HR5 := hide (HR4.out.kept (grown_set w4 (w.heap.size + 1 + 1 + 1) 4 (.slice A3 (f.length + 1) c3)) (fun k hk e => by injection e with e; have := (HR4.out.own_lt hk).1; omega))
          clear hown3 hgr3 hat3
          have hel : (es ++ [(⟨s, x, d, 0, 0⟩ : VE)]).length = f.length + 1 := by simp [← HJ.out]
          go_wp2_with fail
          go_meet
          exact ⟨es ++ [⟨s, x, d, 0, 0⟩], A3, c3, by rw [List.map_append, HE.out, HWF.out]; rfl, by have := HF.out; omega, HG4.out, HB44.out, by rw [hel]; exact HB54.out, by rw [hel]; exact HR5.out⟩
        · have HWF := hide (show withF f s x = putF f s x by rw [withF, htb]; simp)
          clear htb
          go_wp2_with fail
          go_meet
          exact ⟨es, A, cap, by rw [HE.out, HWF.out], by have := HJ.out; have := HF.out; omega, HW.out, H4.out, by rw [← HJ.out]; exact H5.out, by rw [← HJ.out]; exact HR.out⟩
      case rest =>
      obtain ⟨es', A', cap', hem, hl65, hwx, b4, b5, hr⟩ := hcut
      rename World => wx
      have hc5 := b5.cell
      have hlt5 := b5.lt
      have hc4 := b4.cell
      have hlt4 := b4.lt
      have hz4 := b4.frozen
      have HB4 := hide b4
      have HWX := hide hwx
      have HEM := hide hem
      have HR := hide hr
      have HL := hide hl65
      clear hem hwx b4 b5 hr hc2r hc3r hc5r htb
      go_wp2_with fail
      have HS5 := set5_from (c := ⟨8, 0, none, 0, 0, none, 0, 0, A', es'.length, cap'⟩) HB4.out
      have HR5 := fun (tm : Array Value) (h2 : tm.getD 6 undef = .pointer (some ⟨w.heap.size + 1 + 1, 0, none⟩)) => rwith_res (F := Tryd.f23) (tmps := tm) rfl h2 _ HS5
      have HG5 := HWX.out.set5v (vb := w.heap.size + 1 + 1) (by omega) ⟨8, 0, none, 0, 0, none, 0, 0, A', es'.length, cap'⟩
      have HK5 := HR.out.kept (set5_grown wx (w.heap.size + 1 + 1) ⟨8, 0, none, 0, 0, none, 0, 0, A', es'.length, cap'⟩) (fun k hk e => by injection e with e; have := (HR.out.own_lt hk).1; omega)
      have HI5 := HK5.in_ HG5 rfl (by have := HL.out; omega)
      rw [HEM.out] at HI5
      exact bodyPost_ret (HR5 _ rfl) rfl ⟨_, rfl, HI5, HG5⟩
end Go.Proofs.YtfkljmhpcdplhaaDoor
