/- Walk of val.Path. -/
import Derived.Test.YtcdbchifigonpaaDoorStepP
import Derived.Test.YtcdbchifigonpaaDoorShelfS
import Derived.Test.YtcdbchifigonpaaDoorKeyCC
set_option linter.unusedVariables false
set_option linter.unusedSimpArgs false
namespace Go.Proofs.YtcdbchifigonpaaDoor
open Go.RowKit Go.Shelf

/-- Where the names of a path lead. -/
def pathL : V → List ByteArray → Option V
  | v, [] => some v
  | v, s :: r => (stepV v s).bind fun u => pathL u r
def dotB : ByteArray := ⟨#[46]⟩
/-- The names of a path. -/
def pathN (s : ByteArray) : List ByteArray := Lib.splitB dotB 0 (Lib.countB s dotB) s
/-- Where a path leads. -/
def pathV (v : V) (s : ByteArray) : Option V := if v.good = 0 then (if s.toList = [] then some v else pathL v (pathN s)) else none
/-- The library's greatest length is a number. -/
def Len1 (w : World) : Prop := ∃ m, w.cell? ⟨2, 0, none⟩ = some (.int .i64 m) ∧ 2 < w.heap.size
theorem Len1.grow {w w' : World} (h : Len1 w) (hg : Grow w w') : Len1 w' := by
  obtain ⟨m, h1, h2⟩ := h
  exact ⟨m, (hg.below.cell h2).trans h1, Nat.lt_of_lt_of_le h2 hg.size⟩
theorem pathN_length (s : ByteArray) : (pathN s).length = Lib.countB s dotB + 1 := Lib.splitB_all dotB (by decide) 0 _ s rfl
theorem split_any (s : ByteArray) (w : World) (hM : Len1 w) (hs : s.size < 4294967281) : Calls Tryd.prog 41 #[.string s, .string dotB] w fun e w' =>
    e = .returned (.slice (some ⟨w.heap.size, 0, none⟩) (pathN s).length (pathN s).length) ∧ w' = w.alloc (.cells ((pathN s).map Value.string).toArray 9) := by
  obtain ⟨m, h1, h2⟩ := hM
  rw [pathN_length]
  exact Any.strings_Split (P := Tryd.prog) { Tryd.laysSplit with } Tryd.laysSplit.i9 s dotB m w hs h1 (by decide)
theorem stepV_sml {v u : V} {s : ByteArray} (h : stepV v s = some u) (hs : v.sml) : u.sml := by
  obtain ⟨k, n, b, l, f⟩ := v
  rw [V.sml_mk] at hs
  obtain ⟨-, -, -, hl, hf⟩ := hs
  by_cases hk : k = 7
  · subst hk
    rw [stepV_list] at h
    split at h
    · exact hl _ (List.mem_of_getElem? h)
    · cases h
  · rw [stepV_doc hk] at h
    obtain ⟨x, hx, rfl⟩ := Option.map_eq_some_iff.1 h
    exact hf _ (List.mem_of_find?_eq_some hx)
theorem Blk.set5o {W : World} {b vb : Nat} {t : TypeId} {cs : Array Value} (h : Blk W b t cs) (hne : b ≠ vb) (c : Cv) : Blk (set5 W vb c) b t cs :=
  ((((h.far (p := ⟨vb, 0, none⟩) hne _).far (p := ⟨vb, 1, none⟩) hne _).far (p := ⟨vb, 2, none⟩) hne _).far (p := ⟨vb, 3, none⟩) hne _).far (p := ⟨vb, 4, none⟩) hne _
theorem mem_flat_le {α : Type} (g : α → List UInt8) : ∀ (l : List α) (x : α), x ∈ l → (g x).length ≤ ((l.map g).flatten).length
  | y :: r, x, h => by
    rw [List.map_cons, List.flatten_cons, List.length_append]
    rcases List.mem_cons.1 h with h | h
    · rw [h]; omega
    · have := mem_flat_le g r x h; omega
/-- A value of good shape and of not too many bytes has no part too long. -/
theorem formed_sml (v : V) : v.formed = true → v.bytes.length ≤ 1000000000 → v.sml := by
  refine V.ind (p := fun v => v.formed = true → v.bytes.length ≤ 1000000000 → v.sml) (fun k n b l f ihl ihf hf hb => ?_) v
  have hc := count_le (V.mk k n b l f) hf
  rw [V.count_mk] at hc
  have h1 : l.length ≤ (l.map V.count).sum := by
    clear ihl hf hb hc
    induction l with
    | nil => simp
    | cons x r ih => have := V.count_pos x; simp only [List.map_cons, List.sum_cons, List.length_cons]; omega
  have h2 : f.length ≤ (f.map fun x => x.2.count).sum := by
    clear ihf hf hb hc
    induction f with
    | nil => simp
    | cons x r ih => have := V.count_pos x.2; simp only [List.map_cons, List.sum_cons, List.length_cons]; omega
  rw [V.formed_mk] at hf
  simp only [Bool.and_eq_true, List.all_eq_true, decide_eq_true_eq] at hf
  have ho := hf.1.1.1
  unfold V.own at ho
  simp only [Bool.and_eq_true, decide_eq_true_eq] at ho
  rw [V.bytes_mk] at hb hc
  rw [V.sml_mk]
  refine ⟨?_, by omega, by omega, fun x hx => ihl x hx (hf.1.1.2 x hx) ?_, fun x hx => ihf x hx (hf.1.2 x hx).2 ?_⟩
  · by_cases hk : k = 5 ∨ k = 6
    · rw [if_neg (by omega), if_neg (by omega), if_pos hk] at hb
      simp only [List.length_cons, List.length_append] at hb
      omega
    · omega
  · have h7 : k = 7 := by
      rcases ho.1.2 with h | h
      · exact h
      · rw [List.length_eq_zero_iff.1 h] at hx; simp at hx
    subst h7
    have hm := mem_flat_le V.bytes l x hx
    simp at hb
    have hb2 : (l.map V.bytes).flatten.length ≤ 1000000000 := by simp only [List.length_flatten, List.map_map]; omega
    omega
  · have h8 : k = 8 := by
      rcases ho.2 with h | h
      · exact h
      · rw [List.length_eq_zero_iff.1 h] at hx; simp at hx
    subst h8
    have hm := mem_flat_le (fun x : ByteArray × V => V.item x.1 x.2.bytes) f x hx
    have hi : (V.item x.1 x.2.bytes).length = x.1.size + x.2.bytes.length + 1 := by rw [V.item]; simp
    have hb2 : (f.map fun x : ByteArray × V => V.item x.1 x.2.bytes).flatten.length ≤ 1000000000 := by
      rw [if_neg (by decide), if_neg (by decide), if_neg (by decide), if_neg (by decide), if_pos rfl] at hb
      simp only [List.length_cons] at hb
      omega
    omega
theorem good_sml {v : V} (h : v.good = 0) : v.sml := formed_sml v (V.good_formed h).1 (by have := (V.good_formed h).2; omega)
set_option maxRecDepth 100000 in
set_option maxHeartbeats 3200000 in
theorem vpath_bad (v : V) (s : ByteArray) (c : Cv) (w : World) (hT : Tabs w) (hcount : v.count ≤ 20000) (hv : In w v c) (hgd : v.good ≠ 0) :
    Calls Tryd.prog 15 #[c.agg, .string s] w (StepC w (pathV v s)) := by
  have hg0 := ((Grow.refl w).alloc (.cells c.cells 37)).alloc (.cells Cv.zero.cells 37)
  have HG0 := hide hg0
  have HB4 := hide (Blk.new' (w := w.alloc (.cells c.cells 37)) (g := w.heap.size + 1) (by simp) 37 Cv.zero.cells)
  have HGo := hide (good_any v _ c hcount (hT.grow hg0) (hv.grow hg0))
  clear hg0 hT hcount hv
  rw [pathV]
  rw [if_neg hgd]
  obtain ⟨g, hg⟩ : ∃ g, v.good = g := ⟨_, rfl⟩
  rw [hg] at hgd HGo
  have hgz : (g == 0) = false := by simpa using hgd
  clear hgd hg
  go_enter Tryd.func15, Tryd.ntmps15
  go_wp2_with fail
  refine HGo.out.mono ?_
  rintro e w1 ⟨rfl, hg⟩
  have HG1 := hide (HG0.out.trans hg)
  have HB41 := hide (HB4.out.grow hg)
  have hc4 := HB41.out.cell
  have hlt4 := HB41.out.lt
  have hz4 := HB41.out.frozen
  clear hg
  go_wp2_with fail
  refine bodyPost_ret (step_res rfl rfl rfl Cv.zero (set5_blk (c := Cv.zero) HB41.out)) rfl (StepC.no rfl (HG1.out.set5v (Nat.le_succ _) Cv.zero))
set_option maxRecDepth 100000 in
set_option maxHeartbeats 3200000 in
theorem vpath_good (v : V) (s : ByteArray) (c : Cv) (w : World) (hT : Tabs w) (hM : Len1 w) (hcount : v.count ≤ 20000) (hs : s.size < 4294967281) (hv : In w v c) (hgd : v.good = 0) :
    Calls Tryd.prog 15 #[c.agg, .string s] w (StepC w (pathV v s)) := by
  have hg0 := ((Grow.refl w).alloc (.cells c.cells 37)).alloc (.cells Cv.zero.cells 37)
  have HG0 := hide hg0
  have HB2 := hide ((Blk.new w 37 c.cells).alloc (.cells Cv.zero.cells 37))
  have HB4 := hide (Blk.new' (w := w.alloc (.cells c.cells 37)) (g := w.heap.size + 1) (by simp) 37 Cv.zero.cells)
  have HGo := hide (good_any v _ c hcount (hT.grow hg0) (hv.grow hg0))
  have HCp := hide (copy_any v (good_sml hgd))
  have HSm := hide (good_sml hgd)
  have HM := hide (hM.grow hg0)
  have HV := hide hv
  have HS := hide hs
  clear hg0 hv hT hM hcount hs
  rw [pathV]
  · rw [if_pos hgd]
    rw [hgd] at HGo
    clear hgd
    by_cases hse : s.toList = []
    · rw [if_pos hse]
      go_enter Tryd.func15, Tryd.ntmps15
      go_wp2_with fail
      refine HGo.out.mono ?_
      rintro e w1 ⟨rfl, hg⟩
      have HG1 := hide (HG0.out.trans hg)
      have HB21 := hide (HB2.out.grow hg)
      have HB41 := hide (HB4.out.grow hg)
      have hc2 := HB21.out.cell
      have hc4 := HB41.out.cell
      have HV1 := hide (HV.out.grow HG1.out)
      clear hg
      go_wp2_with fail
      refine (HCp.out _ _ HV1.out).mono ?_
      rintro e w2 ⟨x, rfl, hx, hg2⟩
      have HX := hide hx
      have HG2 := hide (HG1.out.trans hg2)
      have HL2 := hide (HB41.out.lt)
      have HB42 := hide (HB41.out.grow hg2)
      have hc42 := HB42.out.cell
      have hlt42 := HB42.out.lt
      have hz42 := HB42.out.frozen
      clear hx hg2 hc2 hc4
      go_wp2_with fail
      refine bodyPost_ret (step_res rfl rfl rfl x (set5_from (c := x) HB42.out)) rfl (StepC.yes rfl (HG2.out.set5v (Nat.le_succ _) x) (HG1.out.size) (isv_set5 HX.out.atW HL2.out x))
    · rw [if_neg hse]
      have hse2 : s.toList.isEmpty = false := by simpa using hse
      go_enter Tryd.func15, Tryd.ntmps15
      go_wp2_with fail
      refine HGo.out.mono ?_
      rintro e w1 ⟨rfl, hg⟩
      have HG1 := hide (HG0.out.trans hg)
      have HB21 := hide (HB2.out.grow hg)
      have HB41 := hide (HB4.out.grow hg)
      have hc2 := HB21.out.cell
      have hc4 := HB41.out.cell
      have HSp := hide (split_any s w1 (HM.out.grow hg) HS.out)
      clear hg
      go_wp2_with fail
      refine HSp.out.mono ?_
      rintro e wS ⟨rfl, hwS⟩
      have HLS := hide (show w1.heap.size < wS.heap.size by rw [hwS]; simp)
      have HGS := hide (HG1.out.trans (show Grow w1 wS by rw [hwS]; exact (Grow.refl w1).alloc _))
      have HB2S := hide (HB21.out.grow (show Grow w1 wS by rw [hwS]; exact (Grow.refl w1).alloc _))
      have HB4S := hide (HB41.out.grow (show Grow w1 wS by rw [hwS]; exact (Grow.refl w1).alloc _))
      have HNS := hide (show Blk wS w1.heap.size 9 ((pathN s).map Value.string).toArray by rw [hwS]; exact Blk.new w1 _ _)
      have HL1 := hide (HB41.out.lt)
      clear hc2 hc4 hwS
      have hnl : (pathN s).length ≤ 4294967282 := by
        have := Lib.countB_le dotB (by decide) s.size s (Nat.le_refl _)
        have := HS.out
        rw [pathN_length]
        omega
      obtain ⟨ns, hns⟩ : ∃ ns, pathN s = ns := ⟨_, rfl⟩
      rw [hns] at HNS hnl ⊢
      obtain ⟨nb, hnb⟩ : ∃ nb, w1.heap.size = nb := ⟨_, rfl⟩
      rw [hnb] at HNS HLS HL1 ⊢
      have HNE := hide hns
      clear hns hnb
      go_wp2_with fail
      go_loopg [7, 8, 20] (ns.length + 1) (fun gk x y i wr => ∃ (j : Nat) (u : V) (cu : Cv), j ≤ ns.length ∧ gk + j = ns.length + 1 ∧ i = .int .i64 j ∧ pathL v ns = pathL u (ns.drop j) ∧ u.sml ∧ In w u cu ∧ Grow w wr ∧
        Blk wr w.heap.size 37 cu.cells ∧ Blk wr (w.heap.size + 1) 37 Cv.zero.cells ∧ Blk wr nb 9 (ns.map Value.string).toArray)
      case atStart => exact ⟨0, v, c, by omega, by omega, rfl, rfl, HSm.out, HV.out, HGS.out, HB2S.out, HB4S.out, HNS.out⟩
      case round =>
        obtain ⟨j, u, cu, hj, hgk, rfl, hp, hus, hu, hw, h2, h4, hN⟩ := hrel
        have HP := hide hp
        have HUS := hide hus
        have HU := hide hu
        have HW := hide hw
        have H2 := hide h2
        have H4 := hide h4
        have HN := hide hN
        have hc2 := h2.cell
        have hc4 := h4.cell
        have hcn := hN.cell
        obtain ⟨gk', rfl⟩ : ∃ g, gk = g + 1 := ⟨gk - 1, by omega⟩
        clear hp hus hu hw h2 h4 hN
        by_cases hlt : j < ns.length
        · have hlt2 := HN.out.lt
          go_wp2_with fail
          refine (step_any u ns[j] cu w wr HW.out HU.out).mono ?_
          rintro e w2 ⟨hg2, x, t, u2, rfl, hx, hh⟩
          have HX := hide hx
          have HG2 := hide (HW.out.trans hg2)
          have H22 := hide (H2.out.grow hg2)
          have H42 := hide (H4.out.grow hg2)
          have HN2 := hide (HN.out.grow hg2)
          have hcb := H22.out.cell
          have hltb := H22.out.lt
          have hzb := H22.out.frozen
          clear hg2 hc2 hc4 hcn hx
          rcases hh with ⟨hy, rfl⟩ | ⟨hn, rfl, -, -⟩
          · have HY := hide hy
            clear hy
            go_wp2_with fail
            go_roundg gk'
            case measure => omega
            case rel =>
              refine ⟨j + 1, u2, x, by omega, by omega, by go_num, ?_, stepV_sml HY.out HUS.out, HX.out, HG2.out.set5v (Nat.le_refl _) x, set5_from (c := x) H22.out, H42.out.set5o (by omega) x, HN2.out.set5o (by have := HL1.out; omega) x⟩
              rw [HP.out, List.drop_eq_getElem_cons hlt]
              show (stepV u ns[j]).bind _ = _
              rw [HY.out]
              rfl
          · have HY := hide (show pathL v (pathN s) = none by
              rw [HNE.out, HP.out, List.drop_eq_getElem_cons hlt]
              show (stepV u ns[j]).bind _ = _
              rw [hn]
              rfl)
            clear hn
            have H4b := hide (H42.out.set5o (vb := w.heap.size) (by omega) x)
            have hcd := H42.out.cell
            have hltd := H42.out.lt
            have hzd := H42.out.frozen
            go_wp2_with fail
            refine bodyPost_ret (step_res rfl rfl rfl Cv.zero (set5_blk (c := Cv.zero) H4b.out)) rfl (StepC.no HY.out ((HG2.out.set5v (Nat.le_refl _) x).set5v (Nat.le_succ _) Cv.zero))
        · obtain rfl : j = ns.length := by omega
          go_wp2_with fail
          refine (copy_any u HUS.out _ _ (HU.out.grow HW.out)).mono ?_
          rintro e w2 ⟨x, rfl, hx, hg2⟩
          have HX := hide hx
          have HG2 := hide (HW.out.trans hg2)
          have HL2 := hide (H4.out.lt)
          have HB42 := hide (H4.out.grow hg2)
          have hc42 := HB42.out.cell
          have hlt42 := HB42.out.lt
          have hz42 := HB42.out.frozen
          clear hx hg2 hc2 hc4 hcn
          have HY := hide (show pathL v (pathN s) = some u by
            rw [HNE.out, HP.out, List.drop_length]
            rfl)
          go_wp2_with fail
          refine bodyPost_ret (step_res rfl rfl rfl x (set5_from (c := x) HB42.out)) rfl (StepC.yes HY.out (HG2.out.set5v (Nat.le_succ _) x) (HW.out.size) (isv_set5 HX.out.atW HL2.out x))
theorem vpath_any (v : V) (s : ByteArray) (c : Cv) (w : World) (hT : Tabs w) (hM : Len1 w) (hcount : v.count ≤ 20000) (hs : s.size < 4294967281) (hv : In w v c) :
    Calls Tryd.prog 15 #[c.agg, .string s] w (StepC w (pathV v s)) := by
  by_cases hgd : v.good = 0
  · exact vpath_good v s c w hT hM hcount hs hv hgd
  · exact vpath_bad v s c w hT hcount hv hgd
end Go.Proofs.YtcdbchifigonpaaDoor
