/- The law ValBack holds of every value and byte string that comes in. -/
import Derived.Test.YtkgjfkpabdlgbaaDoorAwake
import Derived.Test.YtkgjfkpabdlgbaaDoorCount
set_option linter.unusedVariables false
set_option linter.unusedSimpArgs false
namespace Go.Proofs.YtkgjfkpabdlgbaaDoor
open Go.RowKit Go.ChangeShapes Go.ChangeAt Go.Shelf Go.WideShapes

/-- The first bytes of bytes. -/
theorem InB.take {w : World} {A : Option Addr} {b : List UInt8} (h : InB w A b) (k : Nat) : InB w A (b.take k) := by
  refine ⟨by simp [u8s], fun h0 => ?_⟩
  obtain ⟨bk, o, e, hc⟩ := h.2 (by rw [List.length_take] at h0; omega)
  refine ⟨bk, o, e, fun j u hu => hc j u ?_⟩
  unfold u8s at hu ⊢
  rw [List.map_take] at hu
  rw [List.getElem?_take] at hu
  split at hu
  · exact hu
  · cases hu

/-- One value in a block of its own, as a list. -/
theorem InL.one {w : World} {v : V} {c : Cv} (h : In w v c) : InL (w.alloc (.cells c.cells 27)) (some ⟨w.heap.size, 0, none⟩) 1 [v] := by
  have hg := (Grow.refl w).alloc (.cells c.cells 27)
  have hB := Blk.new w 27 c.cells
  have h' := h.grow hg
  unfold InL In
  rw [IsV]
  refine ⟨rfl, rfl, rfl, rfl, rfl, by decide, by decide, by decide, by simp, by simp, by simp, by simp, by simp, by simp, ⟨rfl, fun h => by simp at h⟩, fun i hi => ?_, fun i hi => by simp at hi⟩
  obtain rfl : i = 0 := by simpa using hi
  refine ⟨w.heap.size, 0, c, rfl, ?_, h'⟩
  have hlt := hB.lt
  refine ⟨⟨hB.cell 0, Nat.zero_le _, hlt⟩, ⟨hB.cell 1, Nat.zero_le _, hlt⟩, ⟨hB.cell 2, Nat.zero_le _, hlt⟩, ⟨hB.cell 3, Nat.zero_le _, hlt⟩, ⟨hB.cell 4, Nat.zero_le _, hlt⟩⟩

theorem good_fit {w : World} {v : V} {c : Cv} (h : In w v c) : v.fit := IsV.fit v c h
/-- Bytes of a row, less the last. -/
theorem good_pos (v : V) : 0 < v.bytes.length := by
  obtain ⟨k, n, b, l, f⟩ := v
  rw [V.bytes_mk]; simp

set_option maxRecDepth 100000 in
set_option maxHeartbeats 1600000 in
theorem back_any (v : V) (c : Cv) (b : List UInt8) (A : Option Addr) (cap : Nat) (w : World) (hT : Tabs w) (hv : In w v c) (hb : InB w A b) (hl : b.length ≤ 140737488355328) (hcap : b.length ≤ cap) :
    Calls Tryd.prog 4 #[c.agg, .slice A b.length cap] w fun e w' => e = .returned (.bool true) ∧ Grow w w' := by
  have HG0 := hide ((Grow.refl w).alloc (.cells c.cells 27))
  have HT := hide hT
  have HB := hide hb
  have HV := hide hv
  clear hT hb hv
  go_enter Tryd.func4, Tryd.ntmps4
  go_wp2_with fail
  refine (awake_any _ (HT.out.grow HG0.out)).mono ?_
  rintro e w1 ⟨rfl, hg1⟩
  have hB1 := (Blk.new w 27 c.cells).grow hg1
  have hc := hB1.cell
  have hlt := hB1.lt
  have HB1 := hide hB1
  have HG1 := hide (HG0.out.trans hg1)
  clear hg1 hB1
  go_wp2_with fail
  refine (vast_any [v] _ 1 _ (InL.one (HV.out.grow HG1.out))).mono ?_
  rintro e w2 ⟨rfl, hg2⟩
  have hB2 := (HB1.out.alloc _).grow hg2
  have hc2 := hB2.cell
  have hlt2 := hB2.lt
  have HB2 := hide hB2
  have HG2 := hide ((HG1.out.alloc _).trans hg2)
  clear hg2 hB2 hc hlt
  by_cases hbig : 20000 ≤ (List.map V.count [v]).sum
  · rw [decide_eq_true hbig]
    go_wp2_with fail
    go_ret
    exact ⟨rfl, HG2.out⟩
  rw [decide_eq_false hbig]
  have hcount : v.count ≤ 20000 := by simp at hbig; omega
  by_cases g0 : v.good = 0
  · go_wp2_with fail
    refine (put_good v _ c hcount (HT.out.grow HG2.out) (HV.out.grow HG2.out) g0).mono ?_
    rintro e w3 ⟨base, A3, c3, rfl, hbase, hr3, hg3⟩
    have hB3 := HB2.out.grow hg3
    have hc3 := hB3.cell
    have hlt3 := hB3.lt
    have HB3 := hide hB3
    have HG3 := hide (HG2.out.trans hg3)
    have HR3 := hide hr3
    clear hg3 hB3 hc2 hlt2 hr3
    go_wp2_with fail
    obtain ⟨hfm, hmost, hdep, hlen⟩ := good_iff.1 g0
    obtain ⟨bk3, o3, rfl, _⟩ := HR3.out.reads.1.2 (good_pos v)
    have hpos := good_pos v
    have hcap3 := HR3.out.cap
    have hfit := good_fit HV.out
    refine (get_any v.bytes _ c3 _ (HT.out.grow HG3.out) HR3.out.reads.1 (by omega) HR3.out.cap).mono ?_
    intro e w4 h4
    rw [rdAll_good hfit g0] at h4
    obtain ⟨cx, rfl, hin4, hg4⟩ := h4
    have hB4 := (HB3.out.grow hg4).alloc (.cells cx.cells 27)
    have HX4 := hide (Blk.new w4 27 cx.cells)
    have HI4 := hide (hin4.in_.grow ((Grow.refl w4).alloc (.cells cx.cells 27)))
    have HG4 := hide ((HG3.out.trans hg4).alloc (.cells cx.cells 27))
    have HR4 := hide ((HR3.out.grow hg4).alloc (.cells cx.cells 27))
    have HB4 := hide hB4
    clear hin4 hg4 hc3 hlt3 hB4
    obtain ⟨X, hX⟩ : ∃ X, X = Obj.cells cx.cells 27 := ⟨_, rfl⟩
    have hz4 : (w4.alloc X).heap.size = w4.heap.size + 1 := by simp
    have hrow5 : Row ((w4.alloc X).alloc (.cells #[] 5)) (w4.alloc X).heap.size (.slice (some ⟨w4.heap.size + 1, 0, none⟩) 0 0) 0 [] := by
      have h := Row.made (w := w4.alloc X) #[] 0 (by simp [maxLen]) rfl
      rwa [hz4] at h ⊢
    rw [hX] at hrow5 hz4
    have HRow5 := hide hrow5
    have hlen1 : (v.bytes ++ [1]).length = v.bytes.length + 1 := by simp
    clear hrow5 hX
    go_wp2_with (first
      | (at_builtin; refine app_src (ys := v.bytes) rfl (.tmp 34) (.tmp 35) _ rfl rfl HRow5.out _ rfl (Src.ofReads under_u8s (HR4.out.alloc _).reads.1 (u8s_one v.bytes)) (by omega) (by simp) ?_; intro A5 c5 w5 hr5 hg5; have HG5 := hide (Below.trans ((Grow.refl (w4.alloc (.cells cx.cells 27))).alloc (.cells #[] 5)) (Grew.below hg5 HRow5.out (by simp))); rw [Nat.zero_add, List.nil_append] at hr5; have HR5 := hide hr5; clear hr5 hg5)
      | (at_builtin; refine app_src (ys := [1]) rfl (.tmp 36) (.tmp 37) _ rfl rfl (HR5.out.alloc _) _ rfl (src_one 1 rfl (Blk.new w5 _ _)) (by simp only [List.length_cons, List.length_nil]; omega) (by have := Grow.size HG5.out; simp at this ⊢; omega) ?_; intro A6 c6 w6 hr6 hg6; have HG6 := hide (Below.trans (Below.alloc HG5.out (Grow.size HG5.out) (.cells #[.int .u8 1] 5)) (Grew.below hg6 (HR5.out.alloc _) (by have := Grow.size HG5.out; simp at this ⊢; omega))); have HR6 := hide hr6; clear hr6 hg6))
    obtain ⟨e5, he5⟩ := rdAll_more hfit g0 1
    have hx5 : e5 ≠ 0 := by have := rdAll_err he5; unfold Err at this; omega
    have HG6' := hide (Grow.trans HG4.out HG6.out)
    have hcall := get_any (v.bytes ++ [1]) A6 c6 w6 (HT.out.grow HG6'.out) HR6.out.reads.1 (by omega) (by have := HR6.out.cap; simp only [List.length_cons, List.length_nil] at this; omega)
    rw [hlen1, he5] at hcall
    refine hcall.mono ?_
    rintro e w7 ⟨rfl, hg7⟩
    have HG7 := hide ((HG6'.out.trans hg7).alloc (.cells Cv.zero.cells 27))
    have HG47 := hide ((Grow.trans HG6.out hg7).alloc (.cells Cv.zero.cells 27))
    clear hg7 hcall
    go_wp2_with fail
    obtain ⟨e6, he6⟩ := rdAll_less hfit g0 (v.bytes.length - 1) (by omega)
    have hx6 : e6 ≠ 0 := by have := rdAll_err he6; unfold Err at this; omega
    have hlen6 : (v.bytes.take (v.bytes.length - 1)).length = v.bytes.length - 1 := by rw [List.length_take]; omega
    have hcall := get_any (v.bytes.take (v.bytes.length - 1)) (some ⟨bk3, o3, none⟩) c3 _ (HT.out.grow HG7.out) ((HR4.out.grow HG47.out).reads.1.take _) (by omega) (by omega)
    rw [hlen6, he6] at hcall
    refine hcall.mono ?_
    rintro e w8 ⟨rfl, hg8⟩
    have HG48 := hide (HG47.out.trans hg8)
    have hBv := HB4.out.grow HG48.out
    have hBx := HX4.out.grow HG48.out
    have hcv := hBv.cell
    have hltv := hBv.lt
    have hcx := hBx.cell
    have hltx := hBx.lt
    have HG8 := hide ((HG4.out.trans HG48.out).alloc (.cells Cv.zero.cells 27))
    have HI8 := hide (HI4.out.grow (HG48.out.alloc (.cells Cv.zero.cells 27)))
    have hb5 : (e5 == 0) = false := by simp [hx5]
    have hb6 : (e6 == 0) = false := by simp [hx6]
    clear hg8 hcall hBv hBx
    go_wp2_with fail
    refine (lawSame_any v v _ cx c HI8.out (HV.out.grow HG8.out)).mono ?_
    rintro e w9 ⟨rfl, hg9⟩
    rw [sameB_self]
    have HG9 := hide (HG8.out.trans hg9)
    clear hg9 hcv hltv hcx hltx
    go_wp2_with fail
    cases hrd : rdAll b with
    | error x =>
      refine (get_any b A cap _ (HT.out.grow HG9.out) (HB.out.grow HG9.out) hl hcap).mono ?_
      intro e wa ha
      rw [hrd] at ha
      obtain ⟨rfl, hga⟩ := ha
      have hx : x ≠ 0 := by have := rdAll_err hrd; unfold Err at this; omega
      have HGA := hide (HG9.out.trans hga)
      clear hga
      go_wp2_with fail
      refine (zero_any V.zero _ Cv.zero (In.num 0 0 (by omega) (by omega) (by omega))).mono ?_
      rintro e wb ⟨rfl, hgb⟩
      rw [sameB_self]
      have HGB := hide ((HGA.out.alloc _).trans hgb)
      clear hgb
      go_wp2_with fail
      go_ret
      exact ⟨rfl, HGB.out⟩
    | ok y =>
      obtain ⟨gy, hyb⟩ := rdAll_sound hrd
      refine (get_any b A cap _ (HT.out.grow HG9.out) (HB.out.grow HG9.out) hl hcap).mono ?_
      intro e wa ha
      rw [hrd] at ha
      obtain ⟨cy, rfl, hin, hga⟩ := ha
      have HIA := hide (hin.in_.grow ((Grow.refl wa).alloc (.cells cy.cells 27)))
      have HGA := hide ((HG9.out.trans hga).alloc (.cells cy.cells 27))
      clear hin hga
      go_wp2_with fail
      refine (put_good y _ cy (by have := good_small gy; omega) (HT.out.grow HGA.out) HIA.out gy).mono ?_
      rintro e wb ⟨basey, Ay, capy, rfl, hby, hry, hgb⟩
      have hBb := (Blk.new wa 27 cy.cells).grow hgb
      have hcb := hBb.cell
      have hltb := hBb.lt
      have HGB := hide (HGA.out.trans hgb)
      have HIB := hide (HIA.out.grow hgb)
      have hcv1 := conv_row hry
      have hcv2 := conv_bstr (cap := cap) rfl (HB.out.grow HGB.out)
      rw [hyb] at hcv1
      clear hgb hBb
      go_wp2_with fail
      refine (good_any y _ cy (by have := good_small gy; omega) (HT.out.grow HGB.out) HIB.out).mono ?_
      rintro e wc ⟨rfl, hgc⟩
      rw [gy]
      have HGC := hide (HGB.out.trans hgc)
      clear hgc
      go_wp2_with fail
      go_ret
      exact ⟨rfl, HGC.out⟩
  · go_wp2_with fail
    refine (put_bad v _ c hcount (HT.out.grow HG2.out) (HV.out.grow HG2.out) g0).mono ?_
    rintro e w3 ⟨rfl, hg3⟩
    have HGZ := hide (HG2.out.trans hg3)
    clear hg3 hc2 hlt2
    go_wp2_with fail
    cases hrd : rdAll b with
    | error x =>
      refine (get_any b A cap _ (HT.out.grow HGZ.out) (HB.out.grow HGZ.out) hl hcap).mono ?_
      intro e wa ha
      rw [hrd] at ha
      obtain ⟨rfl, hga⟩ := ha
      have hx : x ≠ 0 := by have := rdAll_err hrd; unfold Err at this; omega
      have HGA := hide (HGZ.out.trans hga)
      clear hga
      go_wp2_with fail
      refine (zero_any V.zero _ Cv.zero (In.num 0 0 (by omega) (by omega) (by omega))).mono ?_
      rintro e wb ⟨rfl, hgb⟩
      rw [sameB_self]
      have HGB := hide ((HGA.out.alloc _).trans hgb)
      clear hgb
      go_wp2_with fail
      go_ret
      exact ⟨rfl, HGB.out⟩
    | ok y =>
      obtain ⟨gy, hyb⟩ := rdAll_sound hrd
      refine (get_any b A cap _ (HT.out.grow HGZ.out) (HB.out.grow HGZ.out) hl hcap).mono ?_
      intro e wa ha
      rw [hrd] at ha
      obtain ⟨cy, rfl, hin, hga⟩ := ha
      have HIA := hide (hin.in_.grow ((Grow.refl wa).alloc (.cells cy.cells 27)))
      have HGA := hide ((HGZ.out.trans hga).alloc (.cells cy.cells 27))
      clear hin hga
      go_wp2_with fail
      refine (put_good y _ cy (by have := good_small gy; omega) (HT.out.grow HGA.out) HIA.out gy).mono ?_
      rintro e wb ⟨basey, Ay, capy, rfl, hby, hry, hgb⟩
      have hBb := (Blk.new wa 27 cy.cells).grow hgb
      have hcb := hBb.cell
      have hltb := hBb.lt
      have HGB := hide (HGA.out.trans hgb)
      have HIB := hide (HIA.out.grow hgb)
      have hcv1 := conv_row hry
      have hcv2 := conv_bstr (cap := cap) rfl (HB.out.grow HGB.out)
      rw [hyb] at hcv1
      clear hgb hBb
      go_wp2_with fail
      refine (good_any y _ cy (by have := good_small gy; omega) (HT.out.grow HGB.out) HIB.out).mono ?_
      rintro e wc ⟨rfl, hgc⟩
      rw [gy]
      have HGC := hide (HGB.out.trans hgc)
      clear hgc
      go_wp2_with fail
      go_ret
      exact ⟨rfl, HGC.out⟩
end Go.Proofs.YtkgjfkpabdlgbaaDoor
