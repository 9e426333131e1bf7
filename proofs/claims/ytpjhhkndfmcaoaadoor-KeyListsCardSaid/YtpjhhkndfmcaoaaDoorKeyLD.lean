/- Walks: the reader of keys: lists. · Walks: the reader of keys: documents; any value. -/
import Derived.Test.YtpjhhkndfmcaoaaDoorKeyU
import Derived.RegionDies
import Derived.Deep.RegionLaw
set_option linter.unusedVariables false
set_option linter.unusedSimpArgs false
namespace Go.Proofs.YtpjhhkndfmcaoaaDoor
open Go.RowKit Go.Shelf Go.WideShapes

/-- The reader reads values, g of them within one another at most. -/
def ValK (g pb hi : Nat) (t : Bool) (L : Nat) : Prop := ∀ (w : World) (bs : List UInt8), Kr w pb hi t bs → bs.length ≤ L →
  Calls Tryd.prog 110 #[.pointer (some ⟨pb, 0, none⟩), .int .i64 ((g : Int) - 1)] w (KVal w pb hi t (kd false g bs))
/-- What has been read of a list. -/
def KSo (f : List UInt8 → KGot) (n0 : Nat) (r0 : List UInt8) (m : Nat) (rest : List UInt8) (es : List VE) : Prop :=
  rest.length < m ∧ kdL false f n0 r0 = (kdL false f m rest).map fun p => (es.map VE.v ++ p.1, p.2)
theorem KSo.start (f : List UInt8 → KGot) (n0 : Nat) (r0 : List UInt8) (h : r0.length < n0) : KSo f n0 r0 n0 r0 [] := ⟨h, by cases kdL false f n0 r0 <;> rfl⟩
theorem KSo.nil {f : List UInt8 → KGot} {n0 : Nat} {r0 : List UInt8} {m : Nat} {es : List VE} (h : KSo f n0 r0 m [] es) : kdL false f n0 r0 = none := by
  obtain ⟨m, rfl⟩ : ∃ k, m = k + 1 := ⟨m - 1, by have := h.1; omega⟩
  rw [h.2]; rfl
theorem KSo.done {f : List UInt8 → KGot} {n0 : Nat} {r0 : List UInt8} {m : Nat} {r : List UInt8} {es : List VE} (h : KSo f n0 r0 m (0 :: r) es) : kdL false f n0 r0 = some (es.map VE.v, r) := by
  obtain ⟨m, rfl⟩ : ∃ k, m = k + 1 := ⟨m - 1, by have := h.1; omega⟩
  rw [h.2, kdL, if_pos rfl]; simp
theorem KSo.fail {f : List UInt8 → KGot} {n0 : Nat} {r0 : List UInt8} {m : Nat} {y : UInt8} {r : List UInt8} {es : List VE} (h : KSo f n0 r0 m (y :: r) es) (hy : y ≠ 0) (hf : f r = none) : kdL false f n0 r0 = none := by
  obtain ⟨m, rfl⟩ : ∃ k, m = k + 1 := ⟨m - 1, by have := h.1; omega⟩
  rw [h.2, kdL, if_neg hy, if_neg (by simp), hf]; rfl
theorem KSo.step {f : List UInt8 → KGot} {n0 : Nat} {r0 : List UInt8} {m : Nat} {y : UInt8} {r r' : List UInt8} {es : List VE} {x : VE} (h : KSo f n0 r0 m (y :: r) es) (hy : y ≠ 0) (hf : f r = some (x.v, r')) (hl : r'.length ≤ r.length) : KSo f n0 r0 (m - 1) r' (es ++ [x]) := by
  obtain ⟨m, rfl⟩ : ∃ k, m = k + 1 := ⟨m - 1, by have := h.1; omega⟩
  refine ⟨by have := h.1; rw [List.length_cons] at this; omega, ?_⟩
  rw [h.2, kdL, if_neg hy, if_neg (by simp), hf]
  simp only [Nat.add_sub_cancel]
  cases kdL false f m r' <;> simp

set_option maxRecDepth 100000 in
set_option maxHeartbeats 6400000 in
theorem kval_96 (d pb hi : Nat) (t : Bool) (c : UInt8) (bs : List UInt8) (hl : bs.length ≤ 1000000000) (hx : c.toNat = 96) (w : World) (hd48 : d ≤ 1000) (h : Kr w pb hi t (c :: bs)) (hV : ValK d pb hi t 1000000000) :
    Calls Tryd.prog 110 #[.pointer (some ⟨pb, 0, none⟩), .int .i64 d] w (KVal w pb hi t (kd false (d + 1) (c :: bs))) := by
  obtain ⟨i0, hi0, hz0', hz1, hz2⟩ := info_parts info_val3
  have Hi0 := hide hi0
  have Hz0 := hide hz0'
  have Hz1 := hide hz1
  have Hz2 := hide hz2
  clear hi0 hz0' hz1 hz2
  have HVK := hide hV
  have HKD := hide (show kd false (d + 1) (c :: bs) = (kdL false (kd false d) (bs.length + 1) bs).map (fun p => (V.mk 7 0 [] p.1 [], p.2)) by rw [kd_cons, if_neg (by omega), if_neg (by omega), if_neg (by omega), if_neg (by omega), if_neg (by omega), if_pos hx])
  clear hV
  have hlt := h.lt
  have HB0 := hide (Blk.new w 27 Cv.zero.cells)
  have H := hide (h.grow ((Grow.refl w).alloc (.cells Cv.zero.cells 27)))
  have HG := hide ((GB.refl w pb).grow ((Grow.refl w).alloc (.cells Cv.zero.cells 27)))
  have hz0 : w.heap.size + 1 ≤ (w.alloc (.cells Cv.zero.cells 27)).heap.size := by simp
  clear h
  go_enter Tryd.func110, Tryd.ntmps110
  go_wp2_with fail
  refine (kmust_yes _).mono ?_
  rintro e w' ⟨rfl, rfl⟩
  go_wp2_with fail
  refine (kbyte_yes pb hi t c bs _ H.out).mono ?_
  rintro e w1 ⟨rfl, hk1, hg1, hz1⟩
  rw [hx]
  have hB1 := HB0.out.own hg1 (fun k e => by injection e with e; omega)
  have hc1 := hB1.cell
  have hf1 := hB1.frozen
  have hl1 := hB1.lt
  have HB1 := hide (hB1.set_ 0 (.int .i64 7))
  have HK1 := hide (hk1.kept (grown_set w1 w.heap.size 0 (.int .i64 7)) hlt)
  have HG1 := hide ((HG.out.trans hg1).set (Nat.le_refl _) 0 (.int .i64 7))
  have hz1' : w.heap.size + 1 ≤ (w1.setCell ⟨w.heap.size, 0, none⟩ (.int .i64 7)).heap.size := by simp [World.setCell]; omega
  clear hk1 hg1 hz1 hz0 hB1
  go_wp2_with fail
  generalize w1.setCell ⟨w.heap.size, 0, none⟩ (.int .i64 7) = W1 at HB1 HK1 HG1 hz1' ⊢
  clear hc1 hf1 hl1
  go_loopg [] (bs.length + 1) (fun gk wr => ∃ (rest : List UInt8) (m : Nat) (es : List VE) (A : Option Addr) (cap : Nat), gk = rest.length + 1 ∧ es.length + rest.length ≤ bs.length ∧ KSo (kd false d) (bs.length + 1) bs m rest es ∧
    VRow wr 27 noHead 5 w.heap.size w.heap.size (w.heap.size + 1) (.slice A es.length cap) es ∧ Kr wr pb hi t rest ∧ GB w wr pb ∧ Blk wr w.heap.size 27 #[.int .i64 7, .int .u64 0, .slice none 0 0, .slice A es.length cap, .slice none 0 0] ∧ w.heap.size + 1 ≤ wr.heap.size)
  case atStart => exact ⟨bs, bs.length + 1, [], none, 0, rfl, by simp, KSo.start _ _ _ (by omega), ⟨World.ownsRow_nil _ _ _ _, fun x hx => by simp at hx, fun i j hi => by simp at hi⟩, HK1.out, HG1.out, HB1.out, hz1'⟩
  case round =>
    obtain ⟨rest, m, es, A, cap, rfl, hel, hso, hv, hk, hg, hB, hzr⟩ := hrel
    have HSO := hide hso
    have HV := hide hv
    have HK := hide hk
    have HGr := hide hg
    have HBr := hide hB
    clear hso hv hk hg hB HK1 HG1 HB1
    cases rest with
    | nil =>
      go_wp2_with fail
      refine (kbyte_no pb hi t _ HK.out).mono ?_
      rintro e w2 ⟨rfl, rfl⟩
      go_wp2_with fail
      exact ⟨rfl, KVal.none_ (hi := hi) (by rw [HKD.out, HSO.out.nil]; rfl) ⟨rfl, HGr.out⟩⟩
    | cons y r =>
      rw [List.length_cons] at hel
      have hyl := y.toNat_lt
      by_cases hy : y = 0
      · subst hy
        go_wp2_with fail
        refine (kbyte_yes pb hi t 0 r _ HK.out).mono ?_
        rintro e w2 ⟨rfl, hk2, hg2, hz2⟩
        have hB2 := HBr.out.own hg2 (fun k e => by injection e with e; omega)
        have hc2 := hB2.cell
        have hf2 := hB2.frozen
        have hl2 := hB2.lt
        have HB2 := hide hB2
        have HK2 := hide hk2
        have HG2 := hide (HGr.out.trans hg2)
        have HV2 := hide (HV.out.gb hg2 (by omega) hlt)
        clear hB2 hk2 hg2 hz2
        go_wp2_with fail
        exact kval_endS (v := V.mk 7 0 [] (es.map VE.v) []) (c := ⟨7, 0, none, 0, 0, A, es.length, cap, none, 0, 0⟩) (by rw [HKD.out, HSO.out.done]; rfl) rfl HB2.out (Nat.le_refl _) hlt HG2.out HK2.out (HV2.out.isLK rfl (by omega) (by omega) (by omega))
      · have hyn : ((y.toNat : Int) != 0) = true := by
          have : y.toNat ≠ 0 := fun e => hy (UInt8.toNat_inj.1 e)
          simp; omega
        have HY := hide hy
        clear hy
        go_wp2_with fail
        refine (kbyte_yes pb hi t y r _ HK.out).mono ?_
        rintro e w2 ⟨rfl, hk2, hg2, hz2⟩
        have hB2 := HBr.out.own hg2 (fun k e => by injection e with e; omega)
        have hc2 := hB2.cell
        have hf2 := hB2.frozen
        have hl2 := hB2.lt
        have HB2 := hide hB2
        have HK2 := hide hk2
        have HG2 := hide (HGr.out.trans hg2)
        have HV2 := hide (HV.out.gb hg2 (by omega) hlt)
        have hz2' : w.heap.size + 1 ≤ w2.heap.size := by omega
        clear hB2 hk2 hg2 hz2
        have hab : IntKind.i64.wrap ((d : Int) - 1) = (d : Int) - 1 := IntWalk.i64_in _ (by omega)
        have hcall := HVK.out w2.drew r (HK2.out.grow (Grow.refl w2).drew) (by omega)
        cases hfx : kd false d r with
        | none =>
          rw [hfx] at hcall
          have HC := hide hcall
          have HE := hide (fun w3 (h : GB w2.drew w3 pb) => KVal.none_ (hi := hi) (w := w) (w' := w3) (pb := pb) (t := t) (got := kd false (d + 1) (c :: bs)) (r := .panicked (thrown 14)) (by rw [HKD.out, HSO.out.fail HY.out hfx]; rfl) ⟨rfl, (HG2.out.grow (Grow.refl w2).drew).trans h⟩)
          clear hcall hfx
          go_wp2_with fail
          go_region_dies
          all_goals
            refine HC.out.mono ?_
            rintro e w3 ⟨rfl, hg3⟩
            exact And.intro rfl (HE.out _ hg3)
        | some xr =>
          obtain ⟨xv, r'⟩ := xr
          rw [hfx] at hcall
          have HC := hide hcall
          have HX := hide hfx
          have hrl : r'.length ≤ r.length := by
            obtain ⟨⟨p, e, _⟩, _⟩ := kd_tail _ _ _ _ _ hfx
            have := congrArg List.length e
            rw [List.length_append] at this; omega
          clear hcall hfx
          go_wp2_with fail
          go_region_law ((first | (refine step_append_src (by rfl) (.tmp 45) (.tmp 50) 24 24 (by rfl) (w.heap.size + 1) 27 i0 _ 5 88 under_vals Hi0.out Hz0.out Hz1.out Hz2.out (by rfl) (.slice A es.length cap) es.length (cellsOf noHead es) (by rfl) (hown3.alloc _) _ 1 cx.cells.toList (by rfl) (Src.oneV cx _) (by omega) (by simp only [maxLen]; omega) (by simp; omega) ?_; intro A4 c4 w4 hown4 hgr4 hat4; have hB4 := Blk.own (hB3.alloc _) hgr4 (fun k hk => by have := (hv3.own_lt hk).1; omega); have hc4 := hB4.cell; have hf4 := hB4.frozen) | (go_simp; go_at_call 110; refine HC.out.mono ?_; rintro e w3 ⟨cx, rfl, hx3, hk3, hg3⟩; have hB3 := Blk.own HB2.out.drew hg3 (fun k e => by injection e with e; omega); have hc3 := hB3.cell; have hc3a := (hB3.alloc (.cells cx.cells 27)).cell; have hz3 : w2.heap.size ≤ w3.heap.size := hg3.size; have hv3 := VRow.gb (HV2.out.grow (Grow.refl w2).drew) hg3 (by omega) hlt; have hown3 := hv3.own)))
          all_goals
            have HV4 := hide (VRow.set (VRow.add (s := ⟨#[]⟩) (m0 := w2.heap.size) hv3 (fun k hk => ((HV2.out).own_lt hk).2) (by omega) (by omega) (fun y hy => ((HV2.out).part y hy).2.2.2.1) hx3 hown4 hgr4 hat4) (by omega) 3 (.slice A4 (es.length + 1) c4))
            have HB4 := hide (hB4.set_ 3 (.slice A4 (es.length + 1) c4))
            have HG4 := hide (GB.set (GB.own (((HG2.out.grow (Grow.refl w2).drew).trans hg3).grow ((Grow.refl w3).alloc _)) hgr4 (fun k hk => by have := (hv3.own_lt hk).1; omega)) (Nat.le_refl _) 3 (.slice A4 (es.length + 1) c4))
            have HK4 := hide (Kr.kept (Kr.own (hk3.grow ((Grow.refl w3).alloc _)) hgr4 (fun k hk => by have := (hv3.own_lt hk).1; omega)) (grown_set w4 w.heap.size 3 (.slice A4 (es.length + 1) c4)) hlt)
            have hz4 : w.heap.size + 1 ≤ (w4.setCell ⟨w.heap.size, 3, none⟩ (.slice A4 (es.length + 1) c4)).heap.size := by
              have := hgr4.size
              simp [World.setCell] at this ⊢
              omega
            clear hB3 hB4 hc3 hc3a hc4 hf4 hx3 hk3 hg3 hv3 hown3 hown4 hgr4 hat4 hc2 hf2
            go_wp2_with fail
            go_roundg (r'.length + 1)
            case measure => simp only [List.length_cons]; omega
            case rel =>
              have hn : (es ++ [(⟨⟨#[]⟩, xv, cx, w2.heap.size, w3.heap.size⟩ : VE)]).length = es.length + 1 := by simp
              exact ⟨r', m - 1, es ++ [⟨⟨#[]⟩, xv, cx, w2.heap.size, w3.heap.size⟩], A4, c4, rfl, by rw [hn]; omega, HSO.out.step HY.out HX.out hrl, by rw [hn]; exact HV4.out, HK4.out, HG4.out, by rw [hn]; exact HB4.out, hz4⟩
end Go.Proofs.YtpjhhkndfmcaoaaDoor

set_option linter.unusedVariables false
set_option linter.unusedSimpArgs false
namespace Go.Proofs.YtpjhhkndfmcaoaaDoor
open Go.RowKit Go.Shelf Go.WideShapes

/-- What has been read of a document. -/
def KSoF (f : List UInt8 → KGot) (n0 : Nat) (r0 : List UInt8) (m : Nat) (rest : List UInt8) (es : List VE) : Prop :=
  rest.length < m ∧ kdF false f n0 r0 = (kdF false f m rest).map fun p => ((es.map fun x => (x.s, x.v)) ++ p.1, p.2)
theorem KSoF.start (f : List UInt8 → KGot) (n0 : Nat) (r0 : List UInt8) (h : r0.length < n0) : KSoF f n0 r0 n0 r0 [] := ⟨h, by cases kdF false f n0 r0 <;> rfl⟩
section
variable {f : List UInt8 → KGot} {n0 : Nat} {r0 : List UInt8} {m : Nat} {es : List VE} {y : UInt8} {r : List UInt8}
theorem KSoF.pos {rest : List UInt8} (h : KSoF f n0 r0 m rest es) : ∃ k, m = k + 1 := ⟨m - 1, by have := h.1; omega⟩
theorem KSoF.nil (h : KSoF f n0 r0 m [] es) : kdF false f n0 r0 = none := by
  obtain ⟨m, rfl⟩ := h.pos
  rw [h.2]; rfl
theorem KSoF.done (h : KSoF f n0 r0 m (0 :: r) es) : kdF false f n0 r0 = some (es.map (fun x => (x.s, x.v)), r) := by
  obtain ⟨m, rfl⟩ := h.pos
  rw [h.2, kdF, if_pos rfl]; simp
theorem KSoF.noname (h : KSoF f n0 r0 m (y :: r) es) (hy : y ≠ 0) (hf : unesc false r = none) : kdF false f n0 r0 = none := by
  obtain ⟨m, rfl⟩ := h.pos
  rw [h.2, kdF, if_neg hy, if_neg (by simp), hf]; rfl
theorem KSoF.fail {b q : List UInt8} (h : KSoF f n0 r0 m (y :: r) es) (hy : y ≠ 0) (hn : unesc false r = some (b, q)) (hf : f q = none) : kdF false f n0 r0 = none := by
  obtain ⟨m, rfl⟩ := h.pos
  rw [h.2, kdF, if_neg hy, if_neg (by simp), hn]
  simp only [hf]; rfl
theorem KSoF.step {b q r' : List UInt8} {x : VE} (h : KSoF f n0 r0 m (y :: r) es) (hy : y ≠ 0) (hn : unesc false r = some (b, q)) (hs : x.s = ⟨b.toArray⟩) (hf : f q = some (x.v, r')) (hl : r'.length ≤ r.length) : KSoF f n0 r0 (m - 1) r' (es ++ [x]) := by
  obtain ⟨m, rfl⟩ := h.pos
  refine ⟨by have := h.1; rw [List.length_cons] at this; omega, ?_⟩
  rw [h.2, kdF, if_neg hy, if_neg (by simp), hn]
  simp only [hf, Nat.add_sub_cancel, ← hs]
  cases kdF false f m r' <;> simp
end

set_option maxRecDepth 100000 in
set_option maxHeartbeats 6400000 in
theorem kval_112 (d pb hi : Nat) (t : Bool) (c : UInt8) (bs : List UInt8) (hl : bs.length ≤ 1000000000) (hx : c.toNat = 112) (w : World) (hd48 : d ≤ 1000) (h : Kr w pb hi t (c :: bs)) (hV : ValK d pb hi t 1000000000) :
    Calls Tryd.prog 110 #[.pointer (some ⟨pb, 0, none⟩), .int .i64 d] w (KVal w pb hi t (kd false (d + 1) (c :: bs))) := by
  obtain ⟨i0, hi0, hz0', hz1, hz2⟩ := info_parts info_fld3
  have Hi0 := hide hi0
  have Hz0 := hide hz0'
  have Hz1 := hide hz1
  have Hz2 := hide hz2
  clear hi0 hz0' hz1 hz2
  have HVK := hide hV
  have HKD := hide (show kd false (d + 1) (c :: bs) = (kdF false (kd false d) (bs.length + 1) bs).map (fun p => (V.mk 8 0 [] [] p.1, p.2)) by rw [kd_cons, if_neg (by omega), if_neg (by omega), if_neg (by omega), if_neg (by omega), if_neg (by omega), if_neg (by omega), if_pos hx])
  clear hV
  have hlt := h.lt
  have HB0 := hide (Blk.new w 27 Cv.zero.cells)
  have H := hide (h.grow ((Grow.refl w).alloc (.cells Cv.zero.cells 27)))
  have HG := hide ((GB.refl w pb).grow ((Grow.refl w).alloc (.cells Cv.zero.cells 27)))
  have hz0 : w.heap.size + 1 ≤ (w.alloc (.cells Cv.zero.cells 27)).heap.size := by simp
  clear h
  go_enter Tryd.func110, Tryd.ntmps110
  go_wp2_with fail
  refine (kmust_yes _).mono ?_
  rintro e w' ⟨rfl, rfl⟩
  go_wp2_with fail
  refine (kbyte_yes pb hi t c bs _ H.out).mono ?_
  rintro e w1 ⟨rfl, hk1, hg1, hz1⟩
  rw [hx]
  have hB1 := HB0.out.own hg1 (fun k e => by injection e with e; omega)
  have hc1 := hB1.cell
  have hf1 := hB1.frozen
  have hl1 := hB1.lt
  have HB1 := hide (hB1.set_ 0 (.int .i64 8))
  have HK1 := hide (hk1.kept (grown_set w1 w.heap.size 0 (.int .i64 8)) hlt)
  have HG1 := hide ((HG.out.trans hg1).set (Nat.le_refl _) 0 (.int .i64 8))
  have hz1' : w.heap.size + 1 ≤ (w1.setCell ⟨w.heap.size, 0, none⟩ (.int .i64 8)).heap.size := by simp [World.setCell]; omega
  clear hk1 hg1 hz1 hz0 hB1
  go_wp2_with fail
  generalize w1.setCell ⟨w.heap.size, 0, none⟩ (.int .i64 8) = W1 at HB1 HK1 HG1 hz1' ⊢
  clear hc1 hf1 hl1
  go_loopg [5] (bs.length + 1) (fun gk _ wr => ∃ (rest : List UInt8) (m : Nat) (es : List VE) (A : Option Addr) (cap : Nat), gk = rest.length + 1 ∧ es.length + rest.length ≤ bs.length ∧ KSoF (kd false d) (bs.length + 1) bs m rest es ∧
    (∀ x ∈ es, x.s.size ≤ bs.length) ∧ VRow wr 77 nameHead 6 w.heap.size w.heap.size (w.heap.size + 1) (.slice A es.length cap) es ∧ Kr wr pb hi t rest ∧ GB w wr pb ∧ Blk wr w.heap.size 27 #[.int .i64 8, .int .u64 0, .slice none 0 0, .slice none 0 0, .slice A es.length cap] ∧ w.heap.size + 1 ≤ wr.heap.size)
  case atStart => exact ⟨bs, bs.length + 1, [], none, 0, rfl, by simp, KSoF.start _ _ _ (by omega), fun x hx => by simp at hx, ⟨World.ownsRow_nil _ _ _ _, fun x hx => by simp at hx, fun i j hi => by simp at hi⟩, HK1.out, HG1.out, HB1.out, hz1'⟩
  case round =>
    obtain ⟨rest, m, es, A, cap, rfl, hel, hso, hss, hv, hk, hg, hB, hzr⟩ := hrel
    have HSS := hide hss
    have HSO := hide hso
    have HV := hide hv
    have HK := hide hk
    have HGr := hide hg
    have HBr := hide hB
    clear hso hss hv hk hg hB HK1 HG1 HB1
    cases rest with
    | nil =>
      go_wp2_with fail
      refine (kbyte_no pb hi t _ HK.out).mono ?_
      rintro e w2 ⟨rfl, rfl⟩
      go_wp2_with fail
      exact ⟨rfl, KVal.none_ (hi := hi) (by rw [HKD.out, HSO.out.nil]; rfl) ⟨rfl, HGr.out⟩⟩
    | cons y r =>
      rw [List.length_cons] at hel
      have hyl := y.toNat_lt
      by_cases hy : y = 0
      · subst hy
        go_wp2_with fail
        refine (kbyte_yes pb hi t 0 r _ HK.out).mono ?_
        rintro e w2 ⟨rfl, hk2, hg2, hz2⟩
        have hB2 := HBr.out.own hg2 (fun k e => by injection e with e; omega)
        have hc2 := hB2.cell
        have hf2 := hB2.frozen
        have hl2 := hB2.lt
        have HB2 := hide hB2
        have HK2 := hide hk2
        have HG2 := hide (HGr.out.trans hg2)
        have HV2 := hide (HV.out.gb hg2 (by omega) hlt)
        clear hB2 hk2 hg2 hz2
        go_wp2_with fail
        exact kval_endS (v := V.mk 8 0 [] [] (es.map fun x => (x.s, x.v))) (c := ⟨8, 0, none, 0, 0, none, 0, 0, A, es.length, cap⟩) (by rw [HKD.out, HSO.out.done]; rfl) rfl HB2.out (Nat.le_refl _) hlt HG2.out HK2.out (HV2.out.isFK (fun x hx => by have := HSS.out x hx; omega) rfl (by omega) (by omega) (by omega))
      · have hyn : ((y.toNat : Int) != 0) = true := by
          have : y.toNat ≠ 0 := fun e => hy (UInt8.toNat_inj.1 e)
          simp; omega
        have HY := hide hy
        clear hy
        go_wp2_with fail
        refine (kbyte_yes pb hi t y r _ HK.out).mono ?_
        rintro e w2 ⟨rfl, hk2, hg2, hz2⟩
        have hB2 := HBr.out.own hg2 (fun k e => by injection e with e; omega)
        have hc2 := hB2.cell
        have hf2 := hB2.frozen
        have hl2 := hB2.lt
        have HB2 := hide hB2
        have HK2 := hide hk2
        have HG2 := hide (HGr.out.trans hg2)
        have HV2 := hide (HV.out.gb hg2 (by omega) hlt)
        have hz2' : w.heap.size + 1 ≤ w2.heap.size := by omega
        clear hB2 hk2 hg2 hz2
        have hstr := kstr_any pb hi t r w2 HK2.out (by omega)
        cases hfn : unesc false r with
        | none =>
          rw [hfn] at hstr
          have HC := hide hstr
          have HE := hide (fun w3 (h : GB w2 w3 pb) => KVal.none_ (hi := hi) (w := w) (w' := w3) (pb := pb) (t := t) (got := kd false (d + 1) (c :: bs)) (r := .panicked (thrown 14)) (by rw [HKD.out, HSO.out.noname HY.out hfn]; rfl) ⟨rfl, HG2.out.trans h⟩)
          clear hstr hfn hc2 hf2
          go_wp2_with fail
          refine HC.out.mono ?_
          rintro e w3 ⟨rfl, hg3⟩
          have HE3 := hide (HE.out _ hg3)
          clear hg3
          go_wp2_with fail
          exact ⟨rfl, HE3.out⟩
        | some sr =>
          obtain ⟨nb, q⟩ := sr
          rw [hfn] at hstr
          have HSTR := hide hstr
          have HFN := hide hfn
          have hql : nb.length + q.length ≤ r.length := by
            obtain ⟨p, e, h1, h2⟩ := unesc_tail _ _ _ _ hfn
            have := congrArg List.length e
            rw [List.length_append] at this; omega
          clear hstr hfn hc2 hf2 hl2
          go_wp2_with fail
          refine HSTR.out.mono ?_
          rintro e w3 ⟨NA, nc, rfl, hnr, hk3, hg3⟩
          have hcv := conv_row hnr
          have hB3 := HB2.out.own hg3 (fun k e => by injection e with e; omega)
          have hc2 := hB3.cell
          have hf2 := hB3.frozen
          have hl2 := hB3.lt
          have HB3' := hide hB3
          have HK3' := hide hk3
          have HG3' := hide (HG2.out.trans hg3)
          have HV3' := hide (HV2.out.gb hg3 (by omega) hlt)
          have hz3' : w.heap.size + 1 ≤ w3.heap.size := by have := GB.size hg3; omega
          obtain ⟨s, hs⟩ : ∃ s : ByteArray, s = ⟨nb.toArray⟩ := ⟨_, rfl⟩
          rw [← hs] at hcv
          have hssz : s.size = nb.length := by rw [hs]; rfl
          have HSN := hide hs
          have hssz2 : s.size ≤ bs.length := by omega
          clear hB3 hnr hk3 hg3 hs hssz
          clear HK2 HB2 HG2 HV2
          have hab : IntKind.i64.wrap ((d : Int) - 1) = (d : Int) - 1 := IntWalk.i64_in _ (by omega)
          have hcall := HVK.out w3.drew q (HK3'.out.grow (Grow.refl w3).drew) (by omega)
          cases hfx : kd false d q with
          | none =>
            rw [hfx] at hcall
            have HC := hide hcall
            have HE := hide (fun w4 (h : GB w3.drew w4 pb) => KVal.none_ (hi := hi) (w := w) (w' := w4) (pb := pb) (t := t) (got := kd false (d + 1) (c :: bs)) (r := .panicked (thrown 14)) (by rw [HKD.out, HSO.out.fail HY.out HFN.out hfx]; rfl) ⟨rfl, (HG3'.out.grow (Grow.refl w3).drew).trans h⟩)
            clear hcall hfx
            go_wp2_with fail
            go_region_dies
            all_goals
              refine HC.out.mono ?_
              rintro e w4 ⟨rfl, hg3⟩
              exact And.intro rfl (HE.out _ hg3)
          | some xr =>
            obtain ⟨xv, r'⟩ := xr
            rw [hfx] at hcall
            have HC := hide hcall
            have HX := hide hfx
            have hrl : r'.length ≤ q.length := by
              obtain ⟨⟨p, e, _⟩, _⟩ := kd_tail _ _ _ _ _ hfx
              have := congrArg List.length e
              rw [List.length_append] at this; omega
            clear hcall hfx
            go_wp2_with fail
            go_region_law ((first | (refine step_append_src (by rfl) (.tmp 63) (.tmp 70) 25 25 (by rfl) (w.heap.size + 1) 77 i0 _ 6 104 under_flds Hi0.out Hz0.out Hz1.out Hz2.out (by rfl) (.slice A es.length cap) es.length (cellsOf nameHead es) (by rfl) (hown3.alloc _) _ 1 (nameHead s ++ cx.cells.toList) (by rfl) (Src.oneF s cx _) (by omega) (by simp only [maxLen]; omega) (by simp; omega) ?_; intro A4 c4 w5 hown4 hgr4 hat4; have hB4 := Blk.own (hB3.alloc _) hgr4 (fun k hk => by have := (hv3.own_lt hk).1; omega); have hc4 := hB4.cell; have hf4 := hB4.frozen) | (go_simp; go_at_call 110; refine HC.out.mono ?_; rintro e w4 ⟨cx, rfl, hx3, hk3, hg3⟩; have hB3 := Blk.own HB3'.out.drew hg3 (fun k e => by injection e with e; omega); have hc3 := hB3.cell; have hc3a := (hB3.alloc (.cells (cx.fcells s) 77)).cell; have hz3 : w3.heap.size ≤ w4.heap.size := hg3.size; have hv3 := VRow.gb (HV3'.out.grow (Grow.refl w3).drew) hg3 (by omega) hlt; have hown3 := hv3.own)))
            all_goals
              have HV4 := hide (VRow.set (VRow.add (s := s) (m0 := w3.heap.size) hv3 (fun k hk => ((HV3'.out).own_lt hk).2) (by omega) (by omega) (fun y hy => ((HV3'.out).part y hy).2.2.2.1) hx3 hown4 hgr4 hat4) (by omega) 4 (.slice A4 (es.length + 1) c4))
              have HB4 := hide (hB4.set_ 4 (.slice A4 (es.length + 1) c4))
              have HG4 := hide (GB.set (GB.own (((HG3'.out.grow (Grow.refl w3).drew).trans hg3).grow ((Grow.refl w4).alloc _)) hgr4 (fun k hk => by have := (hv3.own_lt hk).1; omega)) (Nat.le_refl _) 4 (.slice A4 (es.length + 1) c4))
              have HK4 := hide (Kr.kept (Kr.own (hk3.grow ((Grow.refl w4).alloc _)) hgr4 (fun k hk => by have := (hv3.own_lt hk).1; omega)) (grown_set w5 w.heap.size 4 (.slice A4 (es.length + 1) c4)) hlt)
              have hz4 : w.heap.size + 1 ≤ (w5.setCell ⟨w.heap.size, 4, none⟩ (.slice A4 (es.length + 1) c4)).heap.size := by
                have := hgr4.size
                simp [World.setCell] at this ⊢
                omega
              clear hB3 hB4 hc3 hc3a hc4 hf4 hx3 hk3 hg3 hv3 hown3 hown4 hgr4 hat4 hc2 hf2
              go_wp2_with fail
              go_roundg (r'.length + 1)
              case measure => simp only [List.length_cons]; omega
              case rel =>
                have hn : (es ++ [(⟨s, xv, cx, w3.heap.size, w4.heap.size⟩ : VE)]).length = es.length + 1 := by simp
                exact ⟨r', m - 1, es ++ [⟨s, xv, cx, w3.heap.size, w4.heap.size⟩], A4, c4, rfl, by rw [hn]; omega, HSO.out.step (x := ⟨s, xv, cx, w3.heap.size, w4.heap.size⟩) HY.out (b := nb) HFN.out HSN.out HX.out (by omega), (fun x hx => by
                  rcases List.mem_append.1 hx with hx | hx
                  · exact HSS.out x hx
                  · rw [List.mem_singleton] at hx; subst hx; exact hssz2), by rw [hn]; exact HV4.out, HK4.out, HG4.out, by rw [hn]; exact HB4.out, hz4⟩

/-- The reader reads any value. -/
theorem valK_any (pb hi : Nat) (t : Bool) (g : Nat) (hg : g ≤ 1000) : ValK g pb hi t 1000000000 := by
  induction g with
  | zero =>
    intro w bs h hl
    have e : ((0 : Nat) : Int) - 1 = -1 := rfl
    rw [e]
    have : kd false 0 bs = none := by cases bs <;> rfl
    rw [this]
    exact kval_deep pb hi t bs w h
  | succ d ih =>
    intro w bs h hl
    have ih := ih (by omega)
    have e : ((d + 1 : Nat) : Int) - 1 = (d : Int) := by omega
    rw [e]
    cases bs with
    | nil => exact kval_nil d pb hi t w (by omega) h
    | cons c bs =>
      rw [List.length_cons] at hl
      by_cases h1 : c.toNat = 16
      · exact kval_16 d pb hi t c bs h1 w (by omega) h
      by_cases h2 : c.toNat = 32
      · cases bs with
        | nil => exact kval_32n d pb hi t c h2 w (by omega) h
        | cons y bs => exact kval_32 d pb hi t c y bs h2 w (by omega) h
      by_cases h3 : c.toNat = 48
      · exact kval_48 d pb hi t c bs h3 w (by omega) h
      by_cases h4 : c.toNat = 64
      · exact kval_64 d pb hi t c bs (by omega) h4 w (by omega) h
      by_cases h5 : c.toNat = 80
      · exact kval_80 d pb hi t c bs (by omega) h5 w (by omega) h
      by_cases h6 : c.toNat = 96
      · exact kval_96 d pb hi t c bs (by omega) h6 w (by omega) h ih
      by_cases h7 : c.toNat = 112
      · exact kval_112 d pb hi t c bs (by omega) h7 w (by omega) h ih
      · exact kval_none d pb hi t c bs h1 h2 h3 h4 h5 h6 h7 w (by omega) h
end Go.Proofs.YtpjhhkndfmcaoaaDoor
