/- Walk of munimentref2.Path. -/
import Derived.Test.YtfkljmhpcdplhaaDoorPathR
import Derived.Deep.DeepCutAuto
import Derived.Deep.CutBlock
set_option linter.unusedVariables false
set_option linter.unusedSimpArgs false
namespace Go.Proofs.YtfkljmhpcdplhaaDoor
open Go.RowKit Go.Shelf

/-- Where a path leads within a good value. -/
def pathF (v : V) (s : ByteArray) : Option V := if s.toList = [] then some v else pathL v (pathN s)
set_option maxRecDepth 100000 in
set_option maxHeartbeats 3200000 in
theorem rpath_empty (v : V) (s : ByteArray) (c : Cv) (w : World) (w0 : World) (hg0 : Grow w0 w) (hse : s.toList = []) (hv : In w0 v c) :
    Calls Tryd.prog 22 #[c.agg, .string s] w (StepL w0 w (pathF v s)) := by
  rw [pathF, if_pos hse]
  have HG := hide (fun x : Cv => ((Grow.refl w).alloc (.cells c.cells 37)).alloc (.cells x.cells 37))
  have HB := hide (fun x : Cv => Blk.new' (w := w.alloc (.cells c.cells 37)) (g := w.heap.size + 1) (by simp) 37 x.cells)
  have HV := hide hv
  clear hv
  go_enter Tryd.func22, Tryd.ntmps22
  go_wp2_with fail
  refine bodyPost_ret (step_res rfl rfl rfl c (HB.out c)) rfl (StepL.yes rfl (HG.out c) HV.out)
set_option maxRecDepth 100000 in
set_option maxHeartbeats 3200000 in
theorem rpath_round (k : Int) (n : Nat) (b : List UInt8) (l : List V) (f : List (ByteArray × V)) (s : ByteArray) (c : Cv) (w : World) (hf : (V.mk k n b l f).formed = true) (hse : ¬ s.toList = []) (hs : s.size < 4294967281) (w0 : World) (hg0 : Grow w0 w) (hv : In w0 (.mk k n b l f) c)
    (ih : ∀ (u : V) (t : ByteArray) (cu : Cv) (W : World), t.size < s.size → u.formed = true → Grow w0 W → In w0 u cu → Calls Tryd.prog 22 #[cu.agg, .string t] W (StepL w0 W (pathF u t))) :
    Calls Tryd.prog 22 #[c.agg, .string s] w (StepL w0 w (pathF (.mk k n b l f) s)) := by
  obtain ⟨aB, aL, aF, cB, cL, cF, hce, -, -, -, -, -, h6, h7, h8, h9, -⟩ := hv.open
  subst hce
  have HG := hide (((Grow.refl w).alloc (.cells (Cv.cells ⟨k, (n : Int), aB, b.length, cB, aL, l.length, cL, aF, f.length, cF⟩) 37)).alloc (.cells Cv.zero.cells 37))
  have HB2 := hide ((Blk.new w 37 (Cv.cells ⟨k, (n : Int), aB, b.length, cB, aL, l.length, cL, aF, f.length, cF⟩)).alloc (.cells Cv.zero.cells 37))
  have HB4 := hide (Blk.new' (w := w.alloc (.cells (Cv.cells ⟨k, (n : Int), aB, b.length, cB, aL, l.length, cL, aF, f.length, cF⟩) 37)) (g := w.heap.size + 1) (by simp) 37 Cv.zero.cells)
  have hse2 : s.toList.isEmpty = false := by simpa using hse
  have HGW := hide hg0
  have HV := hide hv
  have HIH := hide ih
  have HF := hide hf
  have hlen : s.data.toList.length = s.size := by simp
  clear hv ih hf hg0
  go_enter Tryd.func22, Tryd.ntmps22
  go_upto_block 0 with fail
  go_cut [6] (fun i wx => wx = ((w.alloc (.cells (Cv.cells ⟨k, (n : Int), aB, b.length, cB, aL, l.length, cL, aF, f.length, cF⟩) 37)).alloc (.cells Cv.zero.cells 37)) ∧ ∃ j : Nat, j ≤ s.size ∧ i = .int .i64 j ∧ (∀ i (hi : i < s.data.toList.length), i < j → s.data.toList[i] ≠ 46) ∧ (∀ (h : j < s.data.toList.length), s.data.toList[j] = 46))
  case first =>
    go_wp2_with fail
    go_loopg [6] (s.size + 1) (fun gk i wr => wr = ((w.alloc (.cells (Cv.cells ⟨k, (n : Int), aB, b.length, cB, aL, l.length, cL, aF, f.length, cF⟩) 37)).alloc (.cells Cv.zero.cells 37)) ∧ ∃ j : Nat, j ≤ s.size ∧ gk + j = s.size + 1 ∧ i = .int .i64 j ∧ (∀ i (hi : i < s.data.toList.length), i < j → s.data.toList[i] ≠ 46))
    case atStart => exact ⟨rfl, 0, by omega, by omega, rfl, fun i _ h => absurd h (by omega)⟩
    case round =>
      obtain ⟨rfl, j, hj, hgk, rfl, hne⟩ := hrel
      have HN := hide hne
      clear hne
      obtain ⟨gk', rfl⟩ : ∃ g, gk = g + 1 := ⟨gk - 1, by omega⟩
      by_cases hlt : j < s.size
      · obtain ⟨y, hy⟩ : ∃ y, s[j]'hlt = y := ⟨_, rfl⟩
        have hyd : s.data.toList[j]'(by omega) = y := by rw [← hy, bytes_get s j hlt]
        by_cases hd : y = 46
        · have HD := hide (hyd.trans hd)
          have hd2 : ((y.toNat : Int) == 46) = true := by rw [hd]; rfl
          go_wp2_with fail
          go_meet
          exact ⟨rfl, j, hj, rfl, HN.out, fun _ => HD.out⟩
        · have hd2 : ((y.toNat : Int) == 46) = false := by
            simp only [beq_eq_false_iff_ne, ne_eq]
            intro h
            exact hd (UInt8.toNat_inj.1 (by have : y.toNat = 46 := by omega
                                            rw [this]; rfl))
          have HD := hide (fun h => hd (hyd.symm.trans h))
          go_wp2_with fail
          go_roundg gk'
          case measure => omega
          case rel =>
            refine ⟨rfl, j + 1, by omega, by omega, by go_num, fun i hi hij => ?_⟩
            by_cases hij2 : i = j
            · subst hij2
              exact HD.out
            · exact HN.out i hi (by omega)
      · obtain rfl : j = s.size := by omega
        go_wp2_with fail
        go_meet
        exact ⟨rfl, s.size, hj, rfl, HN.out, fun h => absurd h (by omega)⟩
  case rest =>
  obtain ⟨rfl, j, hj, rfl, hne, hdot⟩ := hcut
  have HNE := hide hne
  have HDOT := hide hdot
  clear hne hdot
  obtain ⟨hd, hhd⟩ : ∃ hd, s.extract 0 j = hd := ⟨_, rfl⟩
  have HHD := hide hhd
  go_upto_if 33 with fail
  have HGb := hide (fun x : Cv => HG.out.alloc (.cells x.cells 37))
  have HB2b := hide (fun x : Cv => HB2.out.alloc (.cells x.cells 37))
  have HB4b := hide (fun x : Cv => HB4.out.alloc (.cells x.cells 37))
  have HB8b := hide (fun x : Cv => Blk.new' (w := ((w.alloc (.cells (Cv.cells ⟨k, (n : Int), aB, b.length, cB, aL, l.length, cL, aF, f.length, cF⟩) 37)).alloc (.cells Cv.zero.cells 37))) (g := w.heap.size + 1 + 1) (by simp) 37 x.cells)
  go_cut [9, 10] (fun t z wx => ∃ (tb : Bool) (xc : Cv) (u : V), t = .bool tb ∧ Grow w wx ∧ Blk wx w.heap.size 37 (Cv.cells ⟨k, (n : Int), aB, b.length, cB, aL, l.length, cL, aF, f.length, cF⟩) ∧ Blk wx (w.heap.size + 1) 37 Cv.zero.cells ∧ Blk wx (w.heap.size + 1 + 1) 37 xc.cells ∧
    In w0 u xc ∧ ((tb = true ∧ stepV (.mk k n b l f) hd = some u ∧ k = 7) ∨ (tb = false ∧ (k = 7 → stepV (.mk k n b l f) hd = none) ∧ xc = Cv.zero)))
  case first =>
    have HI := hide (fun w => rindex_any hd w)
    by_cases hk : k = 7
    · subst hk
      obtain ⟨z, hz⟩ : ∃ z, ixN hd.data.toList = z := ⟨_, rfl⟩
      have HST := hide (stepV_list (n := n) (b := b) (l := l) (f := f) (s := hd))
      rw [hz] at HI HST
      clear hz
      by_cases hz0 : 0 ≤ z
      · rw [if_pos hz0] at HST
        by_cases hz1 : z < l.length
        · obtain ⟨i, rfl⟩ : ∃ i : Nat, z = i := ⟨z.toNat, by omega⟩
          have hi : i < l.length := by omega
          rw [Int.toNat_natCast, List.getElem?_eq_getElem hi] at HST
          obtain ⟨bk, o, x, ha, hbk, e0, e1, e2, e3, e4, hx⟩ := HV.out.elemL i hi
          dsimp only at ha
          subst ha
          have HX := hide hx
          have e0z : (((w.alloc (.cells (Cv.cells ⟨7, (n : Int), aB, b.length, cB, some ⟨bk, o, none⟩, l.length, cL, aF, f.length, cF⟩) 37)).alloc (.cells Cv.zero.cells 37)).alloc (.cells #[.int .i64 0, .int .u64 0, .slice none 0 0, .slice none 0 0, .slice none 0 0] 37)).cell? ⟨bk, o + i * 5, none⟩ = some (.int .i64 x.k) := ((HGW.out.trans (HGb.out Cv.zero)).below.cell hbk).trans e0
          have e1z : (((w.alloc (.cells (Cv.cells ⟨7, (n : Int), aB, b.length, cB, some ⟨bk, o, none⟩, l.length, cL, aF, f.length, cF⟩) 37)).alloc (.cells Cv.zero.cells 37)).alloc (.cells #[.int .i64 0, .int .u64 0, .slice none 0 0, .slice none 0 0, .slice none 0 0] 37)).cell? ⟨bk, o + i * 5 + 1, none⟩ = some (.int .u64 x.n) := ((HGW.out.trans (HGb.out Cv.zero)).below.cell hbk).trans e1
          have e2z : (((w.alloc (.cells (Cv.cells ⟨7, (n : Int), aB, b.length, cB, some ⟨bk, o, none⟩, l.length, cL, aF, f.length, cF⟩) 37)).alloc (.cells Cv.zero.cells 37)).alloc (.cells #[.int .i64 0, .int .u64 0, .slice none 0 0, .slice none 0 0, .slice none 0 0] 37)).cell? ⟨bk, o + i * 5 + 2, none⟩ = some (.slice x.aB x.nB x.cB) := ((HGW.out.trans (HGb.out Cv.zero)).below.cell hbk).trans e2
          have e3z : (((w.alloc (.cells (Cv.cells ⟨7, (n : Int), aB, b.length, cB, some ⟨bk, o, none⟩, l.length, cL, aF, f.length, cF⟩) 37)).alloc (.cells Cv.zero.cells 37)).alloc (.cells #[.int .i64 0, .int .u64 0, .slice none 0 0, .slice none 0 0, .slice none 0 0] 37)).cell? ⟨bk, o + i * 5 + 3, none⟩ = some (.slice x.aL x.nL x.cL) := ((HGW.out.trans (HGb.out Cv.zero)).below.cell hbk).trans e3
          have e4z : (((w.alloc (.cells (Cv.cells ⟨7, (n : Int), aB, b.length, cB, some ⟨bk, o, none⟩, l.length, cL, aF, f.length, cF⟩) 37)).alloc (.cells Cv.zero.cells 37)).alloc (.cells #[.int .i64 0, .int .u64 0, .slice none 0 0, .slice none 0 0, .slice none 0 0] 37)).cell? ⟨bk, o + i * 5 + 4, none⟩ = some (.slice x.aF x.nF x.cF) := ((HGW.out.trans (HGb.out Cv.zero)).below.cell hbk).trans e4
          clear hx hz0 hz1
          go_wp2_with (go_at_call 53; refine (HI.out _).mono ?_; rintro e w' ⟨rfl, rfl⟩)
          go_meet
          exact ⟨true, x, l[i], rfl, HGb.out x, HB2b.out x, HB4b.out x, HB8b.out x, HX.out, .inl ⟨rfl, HST.out, by simp⟩⟩
        · have hn : l[z.toNat]? = none := List.getElem?_eq_none (by omega)
          rw [hn] at HST
          clear hn
          go_wp2_with (go_at_call 53; refine (HI.out _).mono ?_; rintro e w' ⟨rfl, rfl⟩)
          go_meet
          exact ⟨false, Cv.zero, V.zero, rfl, HGb.out Cv.zero, HB2b.out Cv.zero, HB4b.out Cv.zero, HB8b.out Cv.zero, In.zero_ w0, .inr ⟨rfl, fun _ => HST.out, rfl⟩⟩
      · rw [if_neg hz0] at HST
        go_wp2_with (go_at_call 53; refine (HI.out _).mono ?_; rintro e w' ⟨rfl, rfl⟩)
        go_meet
        exact ⟨false, Cv.zero, V.zero, rfl, HGb.out Cv.zero, HB2b.out Cv.zero, HB4b.out Cv.zero, HB8b.out Cv.zero, In.zero_ w0, .inr ⟨rfl, fun _ => HST.out, rfl⟩⟩
    · have hkq : (k == 7) = false := by simpa using hk
      have HK := hide hk
      clear hk
      go_wp2_with fail
      go_meet
      exact ⟨false, Cv.zero, V.zero, rfl, HGb.out Cv.zero, HB2b.out Cv.zero, HB4b.out Cv.zero, HB8b.out Cv.zero, In.zero_ w0, .inr ⟨rfl, fun h => absurd h HK.out, rfl⟩⟩
  case rest =>
  obtain ⟨tb, xc, u, rfl, hw, hb2, hb4, hb8, hu, hh⟩ := hcut
  have hform := HF.out
  rw [V.formed_mk] at hform
  simp only [Bool.and_eq_true, List.all_eq_true, decide_eq_true_eq] at hform
  have HND := hide hform.2
  have H7 := hide (show k = 7 → f.length = 0 by
    intro h
    have := hform.1.1.1
    unfold V.own at this
    simp only [Bool.and_eq_true, decide_eq_true_eq] at this
    omega)
  have HH := hide hh
  have HW := hide hw
  have HB2w := hide hb2
  have HB4w := hide hb4
  have HB8w := hide hb8
  have HU := hide hu
  have hc2 := hb2.cell
  have hlt2 := hb2.lt
  clear hform hh hw hb2 hb4 hb8 hu
  rename World => wy
  go_wp2_with fail
  go_loopg [9, 11] (f.length + 1) (fun gk t i wr => ∃ (p : Nat) (tb : Bool) (xc : Cv) (u : V), p ≤ f.length ∧ gk + p = f.length + 1 ∧ i = .int .i64 p ∧ t = .bool tb ∧ Grow w wr ∧ Blk wr w.heap.size 37 (Cv.cells ⟨k, (n : Int), aB, b.length, cB, aL, l.length, cL, aF, f.length, cF⟩) ∧ Blk wr (w.heap.size + 1) 37 Cv.zero.cells ∧ Blk wr (w.heap.size + 1 + 1) 37 xc.cells ∧
    In w0 u xc ∧ ((tb = true ∧ stepV (.mk k n b l f) hd = some u) ∨ (tb = false ∧ (k = 7 → stepV (.mk k n b l f) hd = none) ∧ xc = Cv.zero ∧ ∀ i (hi : i < f.length), i < p → f[i].1 ≠ hd)))
  case atStart =>
    refine ⟨0, tb, xc, u, by omega, by omega, rfl, rfl, HW.out, HB2w.out, HB4w.out, HB8w.out, HU.out, ?_⟩
    rcases HH.out with ⟨h1, h2, -⟩ | ⟨h1, h2, h3⟩
    · exact .inl ⟨h1, h2⟩
    · exact .inr ⟨h1, h2, h3, fun i _ h => absurd h (by omega)⟩
  case round =>
    obtain ⟨p, tb2, xc2, u2, hp, hgk, rfl, rfl, hwr, hr2, hr4, hr8, hu2, hh2⟩ := hrel
    have HH2 := hide hh2
    have HWR := hide hwr
    have HR2 := hide hr2
    have HR4 := hide hr4
    have HR8 := hide hr8
    have HU2 := hide hu2
    have hc2r := hr2.cell
    have hlt2r := hr2.lt
    clear hh2 hwr hr2 hr4 hr8 hu2
    obtain ⟨gk', rfl⟩ : ∃ g, gk = g + 1 := ⟨gk - 1, by omega⟩
    by_cases hlt : p < f.length
    · have HK7 := hide (show k ≠ 7 from fun h => by have := H7.out h; omega)
      obtain ⟨bk, o, x, ha, hbk, es, esz, e0, e1, e2, e3, e4, hx⟩ := HV.out.elemF p hlt
      dsimp only at ha
      subst ha
      replace es := ((HGW.out.trans HWR.out).below.cell hbk).trans es; replace e0 := ((HGW.out.trans HWR.out).below.cell hbk).trans e0; replace e1 := ((HGW.out.trans HWR.out).below.cell hbk).trans e1; replace e2 := ((HGW.out.trans HWR.out).below.cell hbk).trans e2; replace e3 := ((HGW.out.trans HWR.out).below.cell hbk).trans e3; replace e4 := ((HGW.out.trans HWR.out).below.cell hbk).trans e4
      replace hbk := Nat.lt_of_lt_of_le hbk (HGW.out.trans HWR.out).size
      have HX := hide hx
      obtain ⟨q, hq⟩ : ∃ q, f[p].1 = q := ⟨_, rfl⟩
      rw [hq] at es
      have HQ := hide hq
      have hc8 := HR8.out.cell
      have hlt8 := HR8.out.lt
      have hz8 := HR8.out.frozen
      clear hx hq
      by_cases he : q = hd
      · have HST := hide (show stepV (.mk k n b l f) hd = some f[p].2 by rw [stepV_doc HK7.out, find_any HND.out hlt (HQ.out.trans he)]; rfl)
        have he2 : (q.toList == hd.toList) = true := by rw [he]; simp
        clear he
        go_wp2_with fail
        go_roundg gk'
        case measure => omega
        case rel =>
          exact ⟨p + 1, true, x, f[p].2, by omega, by omega, by go_num, rfl, HWR.out.set5v (Nat.le_add_right _ 2) x, HR2.out.set5o (by omega) x, HR4.out.set5o (by omega) x, set5_from (c := x) HR8.out, HX.out, .inl ⟨rfl, HST.out⟩⟩
      · have HE := hide he
        have he2 : (q.toList == hd.toList) = false := by
          simp only [beq_eq_false_iff_ne, ne_eq]
          intro h
          rw [toList_data, toList_data] at h
          exact he (ByteArray.ext (Array.ext' h))
        clear he
        go_wp2_with fail
        go_roundg gk'
        case measure => omega
        case rel =>
          refine ⟨p + 1, tb2, xc2, u2, by omega, by omega, by go_num, rfl, HWR.out, HR2.out, HR4.out, HR8.out, HU2.out, ?_⟩
          rcases HH2.out with h1 | ⟨h1, h2, h3, h4⟩
          · exact .inl h1
          · refine .inr ⟨h1, h2, h3, fun i hi hij => ?_⟩
            by_cases hij2 : i = p
            · subst hij2
              rw [HQ.out]
              exact HE.out
            · exact h4 i hi (by omega)
    · obtain rfl : p = f.length := by omega
      have HPP := hide (show pathF (.mk k n b l f) s = (stepV (.mk k n b l f) hd).bind fun u => pathL u (if j = s.size then [] else pathN (s.extract (j + 1) s.size)) by
        rw [pathF, if_neg hse]
        by_cases hjs : j = s.size
        · rw [if_pos hjs, pathN_one (fun i hi => HNE.out i hi (by omega)), ← HHD.out, hjs, ByteArray.extract_zero_size]
          rfl
        · rw [if_neg hjs, pathN_cons (k := j) (by omega) HNE.out (HDOT.out (by omega)), HHD.out]
          rfl)
      have hc4 := HR4.out.cell
      have hlt4 := HR4.out.lt
      have hz4 := HR4.out.frozen
      have hc8 := HR8.out.cell
      have hlt8 := HR8.out.lt
      rcases HH2.out with ⟨rfl, hst⟩ | ⟨rfl, hno, rfl, hall⟩
      · have HST := hide hst
        clear hst
        by_cases hjs : j = s.size
        · have HP := hide (show pathF (.mk k n b l f) s = some u2 by rw [HPP.out, HST.out, if_pos hjs]; rfl)
          subst hjs
          go_wp2_with fail
          refine bodyPost_ret (step_res rfl rfl rfl xc2 (set5_from (c := xc2) HR4.out)) rfl (StepL.yes HP.out (HWR.out.set5v (Nat.le_succ _) xc2) HU2.out)
        · by_cases hj1 : j + 1 = s.size
          · have HFU := hide (stepV_formed HST.out HF.out)
            have HP := hide (show pathF (.mk k n b l f) s = none by
              have hz : (s.extract (j + 1) s.size).size = 0 := by rw [ByteArray.size_extract]; omega
              have hz2 : (s.extract (j + 1) s.size).data.toList.length = 0 := by simpa using hz
              rw [HPP.out, HST.out, if_neg hjs, pathN_one (fun i hi => absurd hi (by omega))]
              show (stepV u2 _).bind _ = none
              rw [stepV_empty HFU.out hz]
              rfl)
            have hb1 : ((j : Int) == (s.size : Int)) = false := by simp only [beq_eq_false_iff_ne, ne_eq]; omega
            have hb2 : ((j : Int) + 1 == (s.size : Int)) = true := by simp only [beq_iff_eq]; omega
            clear hjs hj1
            go_wp2_with fail
            refine bodyPost_ret (step_res rfl rfl rfl Cv.zero (set5_blk (c := Cv.zero) HR4.out)) rfl (StepL.no HP.out (HWR.out.set5v (Nat.le_succ _) Cv.zero))
          · have HFU := hide (stepV_formed HST.out HF.out)
            have hjlt : j < s.size := by omega
            have hsz : (s.extract (j + 1) s.size).size = s.size - (j + 1) := by rw [ByteArray.size_extract]; omega
            have HP := hide (show pathF (.mk k n b l f) s = pathF u2 (s.extract (j + 1) s.size) by
              rw [HPP.out, HST.out, if_neg hjs, pathF, if_neg]
              · rfl
              · intro h
                rw [toList_data] at h
                have h0 : (s.extract (j + 1) s.size).data.toList.length = 0 := by rw [h]; rfl
                have h1 : (s.extract (j + 1) s.size).data.toList.length = (s.extract (j + 1) s.size).size := by simp
                omega)
            have HC := hide (HIH.out u2 (s.extract (j + 1) s.size) xc2 wr.drew (by omega) HFU.out (HGW.out.trans HWR.out.drew) HU2.out)
            have hb1 : ((j : Int) == (s.size : Int)) = false := by simp only [beq_eq_false_iff_ne, ne_eq]; omega
            clear hjs hsz
            obtain ⟨y, hy⟩ : ∃ y, j + 1 = y := ⟨_, rfl⟩
            have hyj : (j : Int) + 1 = (y : Int) := by omega
            have hys : y ≤ s.size := by omega
            have hyw : IntKind.i64.wrap (y : Int) = (y : Int) := by rw [IntKind.wrap_i64]; omega
            have hy0 : (0 : Int) ≤ (y : Int) := by omega
            have hy1 : (y : Int) ≤ (s.size : Int) := by omega
            rw [hy] at HP HC
            have hb2 : ((y : Int) == (s.size : Int)) = false := by simp only [beq_eq_false_iff_ne, ne_eq]; omega
            go_upto_region 22 with fail
            go_region_law ((go_simp; go_at_call 22; refine HC.out.mono ?_; rintro e w2 ⟨hg2, x, t, u3, rfl, hx, hh⟩; have hb4 := (HR4.out.grow ((Grow.refl wr).drew.trans hg2)); have hc4b := hb4.cell; have hlt4b := hb4.lt; have hz4b := hb4.frozen))
            go_wp2_with fail
            refine bodyPost_ret (step_res rfl rfl rfl x (set5_from (c := x) hb4)) rfl ?_
            exact ⟨(HWR.out.trans ((Grow.refl wr).drew.trans hg2)).set5v (Nat.le_succ _) x, x, t, u3, rfl, hx, by rw [HP.out]; exact hh⟩
      · have HNO := hide (show stepV (.mk k n b l f) hd = none by
          by_cases hk : k = 7
          · exact hno hk
          · rw [stepV_doc hk, find_no (fun i hi => hall i hi hi)]; rfl)
        have HP := hide (show pathF (.mk k n b l f) s = none by rw [HPP.out, HNO.out]; rfl)
        clear hno hall
        go_wp2_with fail
        refine bodyPost_ret (step_res rfl rfl rfl Cv.zero (set5_blk (c := Cv.zero) HR4.out)) rfl (StepL.no HP.out (HWR.out.set5v (Nat.le_succ _) Cv.zero))
theorem rpath_any (w0 : World) : ∀ (n : Nat) (v : V) (s : ByteArray) (c : Cv) (w : World), s.size ≤ n → s.size < 4294967281 → v.formed = true → Grow w0 w → In w0 v c →
    Calls Tryd.prog 22 #[c.agg, .string s] w (StepL w0 w (pathF v s))
  | 0, v, s, c, w, hn, hs, hf, hg, hv => rpath_empty v s c w w0 hg (by rw [toList_data]; exact List.length_eq_zero_iff.1 (by have h : s.data.toList.length = s.size := (by simp); omega)) hv
  | n + 1, v, s, c, w, hn, hs, hf, hg, hv => by
    by_cases hse : s.toList = []
    · exact rpath_empty v s c w w0 hg hse hv
    · obtain ⟨k, m, b, l, f⟩ := v
      exact rpath_round k m b l f s c w hf hse hs w0 hg hv (fun u t cu W ht hu hgW hcu => rpath_any w0 n u t cu W (by omega) (by omega) hu hgW hcu)
end Go.Proofs.YtfkljmhpcdplhaaDoor
