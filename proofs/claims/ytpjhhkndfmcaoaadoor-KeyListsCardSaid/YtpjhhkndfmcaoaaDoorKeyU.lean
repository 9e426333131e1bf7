/- Walks: the reader of keys: values without parts. -/
import Derived.Test.YtpjhhkndfmcaoaaDoorKeyRS
set_option linter.unusedVariables false
set_option linter.unusedSimpArgs false
namespace Go.Proofs.YtpjhhkndfmcaoaaDoor
open Go.RowKit Go.Shelf Go.WideShapes

theorem VRow.isLK {W : World} {lo vb base n cap : Nat} {A : Option Addr} {es : List VE} (h : VRow W 27 noHead 5 lo vb base (.slice A n cap) es) (hn : n = es.length) (h1 : lo ≤ base) (h2 : vb < base) (h64 : n ≤ 140737488355328) :
    IsS (fun p u => CF W p u ∧ p.block ≠ vb) (.mk 7 0 [] (es.map VE.v) []) ⟨7, 0, none, 0, 0, A, n, cap, none, 0, 0⟩ (fun q => lo ≤ q ∧ q < W.heap.size) := by
  have hcap := h.cap hn
  rw [IsS]
  refine ⟨rfl, rfl, rfl, by rw [List.length_map]; exact hn, rfl, by omega, by omega, by omega, by simp, by simp, by show (es.map VE.v).length ≤ cap; rw [List.length_map]; omega, by rw [List.length_map]; omega, by simp, by simp, ⟨by simp [u8s], fun h => by simp at h⟩,
    ⟨fun i q => ∃ x, es[i]? = some x ∧ x.lo ≤ q ∧ q < x.hi, fun i hi => ?_, fun i j hij hj q hq hq' => ?_⟩, ⟨fun _ _ => False, fun i hi => absurd hi (by simp), fun _ _ _ _ _ h => h.elim⟩⟩
  · rw [List.length_map] at hi
    obtain ⟨g, rfl, hb, hlt, hcell⟩ := h.cellAt (k := 0) (fun _ => rfl) rfl hn i hi
    obtain ⟨p1, p2, p3, p4⟩ := h.part es[i] (List.getElem_mem hi)
    refine ⟨g, 0, es[i].c, rfl, ⟨Nat.le_trans h1 hb, hlt⟩, ?_, ?_, ?_, ?_⟩
    · rintro ⟨x, hx, q⟩
      rw [List.getElem?_eq_getElem hi] at hx
      injection hx with hx
      subst hx
      exact p3 g rfl q
    · rintro q ⟨x, hx, q1, q2⟩
      rw [List.getElem?_eq_getElem hi] at hx
      injection hx with hx
      subst hx
      have := p4.1
      exact ⟨Nat.le_trans p1 q1, by omega⟩
    · exact ⟨⟨hcell 0 _ (by omega) rfl, by show g ≠ vb; omega⟩, ⟨hcell 1 _ (by omega) rfl, by show g ≠ vb; omega⟩, ⟨hcell 2 _ (by omega) rfl, by show g ≠ vb; omega⟩, ⟨hcell 3 _ (by omega) rfl, by show g ≠ vb; omega⟩, ⟨hcell 4 _ (by omega) rfl, by show g ≠ vb; omega⟩⟩
    · rw [List.getElem_map]
      exact IsS.mono _ _ _ _ (fun p u q s => ⟨q, by have := s.1; omega⟩) (fun q s => ⟨_, List.getElem?_eq_getElem hi, s⟩) p4.2
  · rw [List.length_map] at hj
    have hi' : i < es.length := Nat.lt_trans hij hj
    obtain ⟨x, hx, q1, q2⟩ := hq
    obtain ⟨y, hy, q3, q4⟩ := hq'
    rw [List.getElem?_eq_getElem hi'] at hx
    rw [List.getElem?_eq_getElem hj] at hy
    injection hx with hx
    injection hy with hy
    subst hx hy
    have := h.apart i j (by omega) hj hij
    omega

theorem VRow.isFK {W : World} {lo vb base n cap : Nat} {A : Option Addr} {es : List VE} (h : VRow W 77 nameHead 6 lo vb base (.slice A n cap) es) (hs : ∀ x ∈ es, x.s.size ≤ 140737488355328) (hn : n = es.length) (h1 : lo ≤ base) (h2 : vb < base) (h64 : n ≤ 140737488355328) :
    IsS (fun p u => CF W p u ∧ p.block ≠ vb) (.mk 8 0 [] [] (es.map fun x => (x.s, x.v))) ⟨8, 0, none, 0, 0, none, 0, 0, A, n, cap⟩ (fun q => lo ≤ q ∧ q < W.heap.size) := by
  have hcap := h.cap hn
  rw [IsS]
  refine ⟨rfl, rfl, rfl, rfl, by rw [List.length_map]; exact hn, by omega, by omega, by omega, by simp, by simp, by simp, by simp, by show (es.map fun x => (x.s, x.v)).length ≤ cap; rw [List.length_map]; omega, by rw [List.length_map]; omega, ⟨by simp [u8s], fun h => by simp at h⟩,
    ⟨fun _ _ => False, fun i hi => absurd hi (by simp), fun _ _ _ _ _ h => h.elim⟩, ⟨fun i q => ∃ x, es[i]? = some x ∧ x.lo ≤ q ∧ q < x.hi, fun i hi => ?_, fun i j hij hj q hq hq' => ?_⟩⟩
  · rw [List.length_map] at hi
    obtain ⟨g, rfl, hb, hlt, hcell⟩ := h.cellAt (k := 1) (fun _ => rfl) rfl hn i hi
    obtain ⟨p1, p2, p3, p4⟩ := h.part es[i] (List.getElem_mem hi)
    refine ⟨g, 0, es[i].c, rfl, ⟨Nat.le_trans h1 hb, hlt⟩, ?_, ?_, ?_, ?_, ?_, ?_⟩
    · rintro ⟨x, hx, q⟩
      rw [List.getElem?_eq_getElem hi] at hx
      injection hx with hx
      subst hx
      exact p3 g rfl q
    · rintro q ⟨x, hx, q1, q2⟩
      rw [List.getElem?_eq_getElem hi] at hx
      injection hx with hx
      subst hx
      have := p4.1
      exact ⟨Nat.le_trans p1 q1, by omega⟩
    · rw [List.getElem_map]
      exact ⟨hcell 0 _ (by omega) rfl, by show g ≠ vb; omega⟩
    · rw [List.getElem_map]
      exact hs _ (List.getElem_mem hi)
    · exact ⟨⟨hcell 1 _ (by omega) rfl, by show g ≠ vb; omega⟩, ⟨hcell 2 _ (by omega) rfl, by show g ≠ vb; omega⟩, ⟨hcell 3 _ (by omega) rfl, by show g ≠ vb; omega⟩, ⟨hcell 4 _ (by omega) rfl, by show g ≠ vb; omega⟩, ⟨hcell 5 _ (by omega) rfl, by show g ≠ vb; omega⟩⟩
    · rw [List.getElem_map]
      exact IsS.mono _ _ _ _ (fun p u q s => ⟨q, by have := s.1; omega⟩) (fun q s => ⟨_, List.getElem?_eq_getElem hi, s⟩) p4.2
  · rw [List.length_map] at hj
    have hi' : i < es.length := Nat.lt_trans hij hj
    obtain ⟨x, hx, q1, q2⟩ := hq
    obtain ⟨y, hy, q3, q4⟩ := hq'
    rw [List.getElem?_eq_getElem hi'] at hx
    rw [List.getElem?_eq_getElem hj] at hy
    injection hx with hx
    injection hy with hy
    subst hx hy
    have := h.apart i j (by omega) hj hij
    omega


/-- What a reading of a key comes to. -/
def KVal (w : World) (pb hi : Nat) (t : Bool) (got : KGot) (e : Ending) (w' : World) : Prop :=
  match got with
  | none => KP w pb e w'
  | some (v, r) => ∃ c : Cv, e = .returned c.agg ∧ InS w' w.heap.size w'.heap.size v c ∧ Kr w' pb hi t r ∧ GB w w' pb
theorem KVal.none_ {w w' : World} {pb hi : Nat} {t : Bool} {got : KGot} {r : Ending} (h : got = none) (hk : KP w pb r w') : KVal w pb hi t got r w' := by
  subst h; exact hk
theorem kval_endS {w W : World} {pb vb hi : Nat} {t : Bool} {v : V} {r : List UInt8} {c : Cv} {tmps : Array Value} {got : KGot} (hgot : got = some (v, r)) (hp : tmps.getD 4 undef = .pointer (some ⟨vb, 0, none⟩)) (hB : Blk W vb 27 c.cells) (hvb : w.heap.size ≤ vb) (hpb : pb < vb)
    (hg : GB w W pb) (hr : Kr W pb hi t r) (hv : IsS (fun p u => CF W p u ∧ p.block ≠ vb) v c (fun q => w.heap.size ≤ q ∧ q < W.heap.size)) :
    bodyPost Tryd.prog Tryd.f110 (KVal w pb hi t got) .ret { tmps := tmps, defers := [] } (set5 W vb c) := by
  subst hgot
  refine bodyPost_ret (results_cell_row rfl _ _ vb 27 c.cells (0, 0) _ hp (set5_blk hB) Tryd.underlying27 rfl (by rw [info_val]; rfl)) rfl ?_
  refine ⟨c, rfl, ⟨Nat.le_refl _, ?_⟩, hr.kept (set5_grown W vb c) hpb, set5_gb hg hvb c⟩
  rw [set5_size]
  exact IsS.mono v c _ _ (fun p u h s => h.1.block ((set5_grown W vb c).block _ s.2 (fun e => h.2 (by injection e)))) (fun q h => h) hv
theorem kval_end {w W : World} {pb vb hi : Nat} {t : Bool} {v : V} {r : List UInt8} {c : Cv} {tmps : Array Value} {got : KGot} (hgot : got = some (v, r)) (hp : tmps.getD 4 undef = .pointer (some ⟨vb, 0, none⟩)) (hB : Blk W vb 27 c.cells) (hvb : w.heap.size ≤ vb) (hpb : pb < vb)
    (hg : GB w W pb) (hr : Kr W pb hi t r) (hv : IsV (fun p u => (AtW W w.heap.size W.heap.size p u ∧ W.frozen? p = false) ∧ p.block ≠ vb) v c) (hfl : v.l = [] ∧ v.f = []) :
    bodyPost Tryd.prog Tryd.f110 (KVal w pb hi t got) .ret { tmps := tmps, defers := [] } (set5 W vb c) :=
  kval_endS hgot hp hB hvb hpb hg hr (IsS.flat hfl (fun _ _ h => ⟨⟨⟨h.1.1.1, h.1.2⟩, h.2⟩, h.1.1.2⟩) hv)
theorem kdN_plain {bs : List UInt8} {v : V} {r : List UInt8} (h : kdN bs = some (v, r)) : v = V.mk v.k v.n [] [] [] ∧ v.n < 18446744073709551616 ∧ (v.k = 3 ∨ v.k = 4) := by
  have hfit := (kdN_tail h).2
  have key : v = V.mk v.k v.n [] [] [] ∧ (v.k = 3 ∨ v.k = 4) := by
    cases bs with
    | nil => cases h
    | cons y b =>
      rw [kdN] at h
      split at h
      · split at h
        · injection h with h; injection h with h1 h2; subst h1; exact ⟨rfl, .inr rfl⟩
        · cases h
      · split at h
        · split at h
          · injection h with h; injection h with h1 h2; subst h1; exact ⟨rfl, .inr rfl⟩
          · split at h
            · split at h
              · injection h with h; injection h with h1 h2; subst h1; exact ⟨rfl, .inl rfl⟩
              · cases h
            · cases h
        · cases h
  refine ⟨key.1, ?_, key.2⟩
  rw [key.1, V.fit] at hfit
  exact hfit.1
set_option maxRecDepth 100000 in
set_option maxHeartbeats 1600000 in
theorem kval_deep (pb hi : Nat) (t : Bool) (bs : List UInt8) (w : World) (h : Kr w pb hi t bs) : Calls Tryd.prog 110 #[.pointer (some ⟨pb, 0, none⟩), .int .i64 (-1)] w (KVal w pb hi t none) := by
  clear h
  go_enter Tryd.func110, Tryd.ntmps110
  go_wp2_with (go_at_call 149; refine (kmust_no _).mono ?_; rintro e w' ⟨rfl, rfl⟩)
  exact ⟨rfl, rfl, (GB.refl w pb).grow ((Grow.refl w).alloc _)⟩
set_option maxRecDepth 100000 in
set_option maxHeartbeats 3200000 in
theorem kval_nil (d pb hi : Nat) (t : Bool) (w : World) (hd48 : d ≤ 1000) (h : Kr w pb hi t ([])) : Calls Tryd.prog 110 #[.pointer (some ⟨pb, 0, none⟩), .int .i64 d] w (KVal w pb hi t (kd false (d + 1) ([]))) := by
  have hlt := h.lt
  have HB0 := hide (Blk.new w 27 Cv.zero.cells)
  have H := hide (h.grow ((Grow.refl w).alloc (.cells Cv.zero.cells 27)))
  have HG := hide ((GB.refl w pb).grow ((Grow.refl w).alloc (.cells Cv.zero.cells 27)))
  have hz0 : w.heap.size + 1 ≤ (w.alloc (.cells Cv.zero.cells 27)).heap.size := by simp
  clear h
  go_enter Tryd.func110, Tryd.ntmps110
  go_wp2_with fail
  refine (kmust_yes _).mono ?_
  rintro e w' ⟨rfl, rfl⟩
  go_wp2_with fail
  refine (kbyte_no pb hi t _ H.out).mono ?_
  rintro e w1 ⟨rfl, rfl⟩
  go_wp2_with fail
  exact ⟨rfl, KVal.none_ rfl ⟨rfl, HG.out⟩⟩
set_option maxRecDepth 100000 in
set_option maxHeartbeats 3200000 in
theorem kval_16 (d pb hi : Nat) (t : Bool) (c : UInt8) (bs : List UInt8) (hx : c.toNat = 16) (w : World) (hd48 : d ≤ 1000) (h : Kr w pb hi t (c :: bs)) : Calls Tryd.prog 110 #[.pointer (some ⟨pb, 0, none⟩), .int .i64 d] w (KVal w pb hi t (kd false (d + 1) (c :: bs))) := by
  have hlt := h.lt
  have HB0 := hide (Blk.new w 27 Cv.zero.cells)
  have H := hide (h.grow ((Grow.refl w).alloc (.cells Cv.zero.cells 27)))
  have HG := hide ((GB.refl w pb).grow ((Grow.refl w).alloc (.cells Cv.zero.cells 27)))
  have hz0 : w.heap.size + 1 ≤ (w.alloc (.cells Cv.zero.cells 27)).heap.size := by simp
  clear h
  go_enter Tryd.func110, Tryd.ntmps110
  go_wp2_with fail
  refine (kmust_yes _).mono ?_
  rintro e w' ⟨rfl, rfl⟩
  go_wp2_with fail
  refine (kbyte_yes pb hi t c bs _ H.out).mono ?_
  rintro e w1 ⟨rfl, hk1, hg1, hz1⟩
  have HK1 := hide hk1
  have HB1 := hide (HB0.out.own hg1 (fun k e => by injection e with e; omega))
  have HG1 := hide (HG.out.trans hg1)
  have hz1' : w.heap.size + 1 ≤ w1.heap.size := by omega
  clear hk1 hg1 hz1 hz0
  rw [hx]
  have hB1 := HB1.out
  have hc1 := hB1.cell
  have hf1 := hB1.frozen
  have hl1 := hB1.lt
  clear hB1
  go_wp2_with fail
  exact kval_end (v := V.mk 1 0 [] [] []) (c := ⟨1, 0, none, 0, 0, none, 0, 0, none, 0, 0⟩) (by rw [kd_cons, if_pos hx]) rfl (HB1.out.set_ 0 (.int .i64 1)) (Nat.le_refl _) hlt (HG1.out.set (Nat.le_refl _) 0 (.int .i64 1)) (HK1.out.kept (grown_set w1 w.heap.size 0 (.int .i64 1)) hlt) (by rw [IsV]; simp [Reads, u8s]) ⟨rfl, rfl⟩
set_option maxRecDepth 100000 in
set_option maxHeartbeats 3200000 in
theorem kval_32n (d pb hi : Nat) (t : Bool) (c : UInt8) (hx : c.toNat = 32) (w : World) (hd48 : d ≤ 1000) (h : Kr w pb hi t ([c])) : Calls Tryd.prog 110 #[.pointer (some ⟨pb, 0, none⟩), .int .i64 d] w (KVal w pb hi t (kd false (d + 1) ([c]))) := by
  have hlt := h.lt
  have HB0 := hide (Blk.new w 27 Cv.zero.cells)
  have H := hide (h.grow ((Grow.refl w).alloc (.cells Cv.zero.cells 27)))
  have HG := hide ((GB.refl w pb).grow ((Grow.refl w).alloc (.cells Cv.zero.cells 27)))
  have hz0 : w.heap.size + 1 ≤ (w.alloc (.cells Cv.zero.cells 27)).heap.size := by simp
  clear h
  go_enter Tryd.func110, Tryd.ntmps110
  go_wp2_with fail
  refine (kmust_yes _).mono ?_
  rintro e w' ⟨rfl, rfl⟩
  go_wp2_with fail
  refine (kbyte_yes pb hi t c [] _ H.out).mono ?_
  rintro e w1 ⟨rfl, hk1, hg1, hz1⟩
  have HK1 := hide hk1
  have HB1 := hide (HB0.out.own hg1 (fun k e => by injection e with e; omega))
  have HG1 := hide (HG.out.trans hg1)
  have hz1' : w.heap.size + 1 ≤ w1.heap.size := by omega
  clear hk1 hg1 hz1 hz0
  rw [hx]
  have hB1 := HB1.out
  have hc1 := hB1.cell
  have hf1 := hB1.frozen
  have hl1 := hB1.lt
  clear hB1
  go_wp2_with fail
  refine (kbyte_no pb hi t _ HK1.out).mono ?_
  rintro e w2 ⟨rfl, rfl⟩
  go_wp2_with fail
  exact ⟨rfl, KVal.none_ (hi := hi) (by rw [kd_cons, if_neg (by omega), if_pos hx]) ⟨rfl, HG1.out⟩⟩
set_option maxRecDepth 100000 in
set_option maxHeartbeats 3200000 in
theorem kval_32 (d pb hi : Nat) (t : Bool) (c : UInt8) (y : UInt8) (bs : List UInt8) (hx : c.toNat = 32) (w : World) (hd48 : d ≤ 1000) (h : Kr w pb hi t (c :: y :: bs)) : Calls Tryd.prog 110 #[.pointer (some ⟨pb, 0, none⟩), .int .i64 d] w (KVal w pb hi t (kd false (d + 1) (c :: y :: bs))) := by
  have hlt := h.lt
  have HB0 := hide (Blk.new w 27 Cv.zero.cells)
  have H := hide (h.grow ((Grow.refl w).alloc (.cells Cv.zero.cells 27)))
  have HG := hide ((GB.refl w pb).grow ((Grow.refl w).alloc (.cells Cv.zero.cells 27)))
  have hz0 : w.heap.size + 1 ≤ (w.alloc (.cells Cv.zero.cells 27)).heap.size := by simp
  clear h
  go_enter Tryd.func110, Tryd.ntmps110
  go_wp2_with fail
  refine (kmust_yes _).mono ?_
  rintro e w' ⟨rfl, rfl⟩
  go_wp2_with fail
  refine (kbyte_yes pb hi t c (y :: bs) _ H.out).mono ?_
  rintro e w1 ⟨rfl, hk1, hg1, hz1⟩
  have HK1 := hide hk1
  have HB1 := hide (HB0.out.own hg1 (fun k e => by injection e with e; omega))
  have HG1 := hide (HG.out.trans hg1)
  have hz1' : w.heap.size + 1 ≤ w1.heap.size := by omega
  clear hk1 hg1 hz1 hz0
  rw [hx]
  go_wp2_with fail
  refine (kbyte_yes pb hi t y bs _ HK1.out).mono ?_
  rintro e w2 ⟨rfl, hk2, hg2, hz2⟩
  have hyl := y.toNat_lt
  have hwr : IntKind.u64.wrap (y.toNat : Int) = (y.toNat : Int) := by rw [IntKind.wrap_u64]; omega
  have hB2 := HB1.out.own hg2 (fun k e => by injection e with e; omega)
  have hc2 := hB2.cell
  have hf2 := hB2.frozen
  have hl2 := hB2.lt
  have HB2 := hide hB2
  have HK2 := hide hk2
  have HG2 := hide (HG1.out.trans hg2)
  clear hB2 hk2 hg2 hz2
  go_wp2_with fail
  exact kval_end (v := V.mk 2 y.toNat [] [] []) (c := ⟨2, y.toNat, none, 0, 0, none, 0, 0, none, 0, 0⟩) (by rw [kd_cons, if_neg (by omega), if_pos hx]) rfl ((HB2.out.set_ 0 (.int .i64 2)).set_ 1 (.int .u64 y.toNat)) (Nat.le_refl _) hlt ((HG2.out.set (Nat.le_refl _) 0 (.int .i64 2)).set (Nat.le_refl _) 1 (.int .u64 y.toNat)) ((HK2.out.kept (grown_set w2 w.heap.size 0 (.int .i64 2)) hlt).kept (grown_set _ w.heap.size 1 (.int .u64 y.toNat)) hlt) (by rw [IsV]; simp [Reads, u8s]; omega) ⟨rfl, rfl⟩
set_option maxRecDepth 100000 in
set_option maxHeartbeats 3200000 in
theorem kval_48 (d pb hi : Nat) (t : Bool) (c : UInt8) (bs : List UInt8) (hx : c.toNat = 48) (w : World) (hd48 : d ≤ 1000) (h : Kr w pb hi t (c :: bs)) : Calls Tryd.prog 110 #[.pointer (some ⟨pb, 0, none⟩), .int .i64 d] w (KVal w pb hi t (kd false (d + 1) (c :: bs))) := by
  have hlt := h.lt
  have HB0 := hide (Blk.new w 27 Cv.zero.cells)
  have H := hide (h.grow ((Grow.refl w).alloc (.cells Cv.zero.cells 27)))
  have HG := hide ((GB.refl w pb).grow ((Grow.refl w).alloc (.cells Cv.zero.cells 27)))
  have hz0 : w.heap.size + 1 ≤ (w.alloc (.cells Cv.zero.cells 27)).heap.size := by simp
  clear h
  go_enter Tryd.func110, Tryd.ntmps110
  go_wp2_with fail
  refine (kmust_yes _).mono ?_
  rintro e w' ⟨rfl, rfl⟩
  go_wp2_with fail
  refine (kbyte_yes pb hi t c bs _ H.out).mono ?_
  rintro e w1 ⟨rfl, hk1, hg1, hz1⟩
  have HK1 := hide hk1
  have HB1 := hide (HB0.out.own hg1 (fun k e => by injection e with e; omega))
  have HG1 := hide (HG.out.trans hg1)
  have hz1' : w.heap.size + 1 ≤ w1.heap.size := by omega
  clear hk1 hg1 hz1 hz0
  rw [hx]
  have hnum := knum_any pb hi t bs w1 HK1.out
  have hkd : kd false (d + 1) (c :: bs) = kdN bs := by rw [kd_cons, if_neg (by omega), if_neg (by omega), if_pos hx]
  have HKD := hide hkd
  clear hkd
  cases hg : kdN bs with
  | none =>
    rw [hg] at hnum
    have HN := hide hnum
    have HGG := hide (HKD.out.trans hg)
    clear hnum hg
    go_wp2_with fail
    refine HN.out.mono ?_
    rintro e w2 ⟨rfl, hg2⟩
    have HG2 := hide (HG1.out.trans hg2)
    clear hg2
    go_wp2_with fail
    exact ⟨rfl, KVal.none_ HGG.out ⟨rfl, HG2.out⟩⟩
  | some p =>
    obtain ⟨v, r⟩ := p
    rw [hg] at hnum
    have HN := hide hnum
    have HGG := hide (HKD.out.trans hg)
    have hpl : v = V.mk v.k v.n [] [] [] ∧ v.n < 18446744073709551616 ∧ (v.k = 3 ∨ v.k = 4) := kdN_plain hg
    clear hnum hg
    go_wp2_with fail
    refine HN.out.mono ?_
    rintro e w2 ⟨rfl, hk2, hg2⟩
    have hB2 := HB1.out.own hg2 (fun k e => by injection e with e; omega)
    have hc2 := hB2.cell
    have hf2 := hB2.frozen
    have hl2 := hB2.lt
    have HB2 := hide hB2
    have HK2 := hide hk2
    have HG2 := hide (HG1.out.trans hg2)
    have HPL := hide hpl
    clear hB2 hk2 hg2 hpl
    go_wp2_with fail
    obtain ⟨p1, p2, p3⟩ := HPL.out
    have hb5 : Blk (set5 w2 w.heap.size (flatC v)) w.heap.size 27 (flatC v).cells := set5_from (c := flatC v) HB2.out
    exact kval_end (w := w) (v := v) (c := flatC v) HGG.out rfl hb5 (Nat.le_refl _) hlt (set5_gb HG2.out (Nat.le_refl _) (flatC v)) (HK2.out.kept (set5_grown w2 w.heap.size (flatC v)) hlt) (by
      obtain ⟨vk, vn, vb, vl, vf⟩ := v
      injection p1 with _ _ q1 q2 q3
      subst q1 q2 q3
      have p3' : vk = 3 ∨ vk = 4 := p3
      have p2' : vn < 18446744073709551616 := p2
      clear p3 p2
      rw [IsV]
      simp [Reads, u8s]
      rcases p3' with h | h <;> subst h <;> omega) (by rw [p1]; exact ⟨rfl, rfl⟩)
set_option maxRecDepth 100000 in
set_option maxHeartbeats 3200000 in
theorem kval_64 (d pb hi : Nat) (t : Bool) (c : UInt8) (bs : List UInt8) (hl : bs.length ≤ 140737488000000) (hx : c.toNat = 64) (w : World) (hd48 : d ≤ 1000) (h : Kr w pb hi t (c :: bs)) : Calls Tryd.prog 110 #[.pointer (some ⟨pb, 0, none⟩), .int .i64 d] w (KVal w pb hi t (kd false (d + 1) (c :: bs))) := by
  have hlt := h.lt
  have HB0 := hide (Blk.new w 27 Cv.zero.cells)
  have H := hide (h.grow ((Grow.refl w).alloc (.cells Cv.zero.cells 27)))
  have HG := hide ((GB.refl w pb).grow ((Grow.refl w).alloc (.cells Cv.zero.cells 27)))
  have hz0 : w.heap.size + 1 ≤ (w.alloc (.cells Cv.zero.cells 27)).heap.size := by simp
  clear h
  go_enter Tryd.func110, Tryd.ntmps110
  go_wp2_with fail
  refine (kmust_yes _).mono ?_
  rintro e w' ⟨rfl, rfl⟩
  go_wp2_with fail
  refine (kbyte_yes pb hi t c bs _ H.out).mono ?_
  rintro e w1 ⟨rfl, hk1, hg1, hz1⟩
  have HK1 := hide hk1
  have HB1 := hide (HB0.out.own hg1 (fun k e => by injection e with e; omega))
  have HG1 := hide (HG.out.trans hg1)
  have hz1' : w.heap.size + 1 ≤ w1.heap.size := by omega
  clear hk1 hg1 hz1 hz0
  rw [hx]
  have hstr := kstr_any pb hi t bs w1 HK1.out hl
  have hkd : kd false (d + 1) (c :: bs) = (unesc false bs).map (fun p => (V.mk 5 0 p.1 [] [], p.2)) := by rw [kd_cons, if_neg (by omega), if_neg (by omega), if_neg (by omega), if_pos hx]
  have HKD := hide hkd
  clear hkd
  cases hg : unesc false bs with
  | none =>
    rw [hg] at hstr
    have HN := hide hstr
    have HGG := hide (show kd false (d + 1) (c :: bs) = none by rw [HKD.out, hg]; rfl)
    clear hstr hg
    go_wp2_with fail
    refine HN.out.mono ?_
    rintro e w2 ⟨rfl, hg2⟩
    have HG2 := hide (HG1.out.trans hg2)
    clear hg2
    go_wp2_with fail
    exact ⟨rfl, KVal.none_ HGG.out ⟨rfl, HG2.out⟩⟩
  | some p =>
    obtain ⟨b, r⟩ := p
    rw [hg] at hstr
    have HN := hide hstr
    have HGG := hide (show kd false (d + 1) (c :: bs) = some (V.mk 5 0 b [] [], r) by rw [HKD.out, hg]; rfl)
    have hbl : b.length ≤ bs.length := by
      obtain ⟨p, e, _, h2⟩ := unesc_tail _ _ _ _ hg
      have := congrArg List.length e
      rw [List.length_append] at this; omega
    clear hstr hg
    go_wp2_with fail
    refine HN.out.mono ?_
    rintro e w2 ⟨A2, c2, rfl, hr2, hk2, hg2⟩
    have hB2 := HB1.out.own hg2 (fun k e => by injection e with e; omega)
    have hc2 := hB2.cell
    have hf2 := hB2.frozen
    have hl2 := hB2.lt
    have hcap := hr2.cap
    have hfrom := hr2.from_
    have HB2 := hide hB2
    have HK2 := hide hk2
    have HG2 := hide (HG1.out.trans hg2)
    have HFR := hide hfrom
    clear hB2 hk2 hg2 hr2 hfrom
    go_wp2_with fail
    refine kval_end (w := w) (v := V.mk 5 0 b [] []) (c := ⟨5, 0, A2, b.length, c2, none, 0, 0, none, 0, 0⟩) HGG.out rfl ((HB2.out.set_ 0 (.int .i64 5)).set_ 2 (.slice A2 b.length c2)) (Nat.le_refl _) hlt ((HG2.out.set (Nat.le_refl _) 0 (.int .i64 5)).set (Nat.le_refl _) 2 (.slice A2 b.length c2)) ((HK2.out.kept (grown_set w2 w.heap.size 0 (.int .i64 5)) hlt).kept (grown_set _ w.heap.size 2 (.slice A2 b.length c2)) hlt) ?_ ⟨rfl, rfl⟩
    rw [IsV]
    refine ⟨rfl, rfl, rfl, rfl, rfl, by omega, by omega, by omega, hcap, by omega, Nat.le_refl _, by simp, Nat.le_refl _, by simp, ?_, fun i h => absurd h (by simp), fun i h => absurd h (by simp)⟩
    refine HFR.out.mono (fun p u h => ⟨⟨⟨?_, by have := h.1.2.1; omega, by simpa [World.setCell] using h.1.2.2⟩, by rw [frozen_setCell, frozen_setCell]; exact h.2⟩, by have := h.1.2.1; omega⟩)
    have hne : p.block ≠ w.heap.size := by have := h.1.2.1; omega
    rw [World.cell?_setCell_other _ _ _ _ (fun e => hne (by rw [← e])), World.cell?_setCell_other _ _ _ _ (fun e => hne (by rw [← e]))]
    exact h.1.1
set_option maxRecDepth 100000 in
set_option maxHeartbeats 3200000 in
theorem kval_80 (d pb hi : Nat) (t : Bool) (c : UInt8) (bs : List UInt8) (hl : bs.length ≤ 140737488000000) (hx : c.toNat = 80) (w : World) (hd48 : d ≤ 1000) (h : Kr w pb hi t (c :: bs)) : Calls Tryd.prog 110 #[.pointer (some ⟨pb, 0, none⟩), .int .i64 d] w (KVal w pb hi t (kd false (d + 1) (c :: bs))) := by
  have hlt := h.lt
  have HB0 := hide (Blk.new w 27 Cv.zero.cells)
  have H := hide (h.grow ((Grow.refl w).alloc (.cells Cv.zero.cells 27)))
  have HG := hide ((GB.refl w pb).grow ((Grow.refl w).alloc (.cells Cv.zero.cells 27)))
  have hz0 : w.heap.size + 1 ≤ (w.alloc (.cells Cv.zero.cells 27)).heap.size := by simp
  clear h
  go_enter Tryd.func110, Tryd.ntmps110
  go_wp2_with fail
  refine (kmust_yes _).mono ?_
  rintro e w' ⟨rfl, rfl⟩
  go_wp2_with fail
  refine (kbyte_yes pb hi t c bs _ H.out).mono ?_
  rintro e w1 ⟨rfl, hk1, hg1, hz1⟩
  have HK1 := hide hk1
  have HB1 := hide (HB0.out.own hg1 (fun k e => by injection e with e; omega))
  have HG1 := hide (HG.out.trans hg1)
  have hz1' : w.heap.size + 1 ≤ w1.heap.size := by omega
  clear hk1 hg1 hz1 hz0
  rw [hx]
  have hstr := kstr_any pb hi t bs w1 HK1.out hl
  have hkd : kd false (d + 1) (c :: bs) = (unesc false bs).map (fun p => (V.mk 6 0 p.1 [] [], p.2)) := by rw [kd_cons, if_neg (by omega), if_neg (by omega), if_neg (by omega), if_neg (by omega), if_pos hx]
  have HKD := hide hkd
  clear hkd
  cases hg : unesc false bs with
  | none =>
    rw [hg] at hstr
    have HN := hide hstr
    have HGG := hide (show kd false (d + 1) (c :: bs) = none by rw [HKD.out, hg]; rfl)
    clear hstr hg
    go_wp2_with fail
    refine HN.out.mono ?_
    rintro e w2 ⟨rfl, hg2⟩
    have HG2 := hide (HG1.out.trans hg2)
    clear hg2
    go_wp2_with fail
    exact ⟨rfl, KVal.none_ HGG.out ⟨rfl, HG2.out⟩⟩
  | some p =>
    obtain ⟨b, r⟩ := p
    rw [hg] at hstr
    have HN := hide hstr
    have HGG := hide (show kd false (d + 1) (c :: bs) = some (V.mk 6 0 b [] [], r) by rw [HKD.out, hg]; rfl)
    have hbl : b.length ≤ bs.length := by
      obtain ⟨p, e, _, h2⟩ := unesc_tail _ _ _ _ hg
      have := congrArg List.length e
      rw [List.length_append] at this; omega
    clear hstr hg
    go_wp2_with fail
    refine HN.out.mono ?_
    rintro e w2 ⟨A2, c2, rfl, hr2, hk2, hg2⟩
    have hB2 := HB1.out.own hg2 (fun k e => by injection e with e; omega)
    have hc2 := hB2.cell
    have hf2 := hB2.frozen
    have hl2 := hB2.lt
    have hcap := hr2.cap
    have hfrom := hr2.from_
    have HB2 := hide hB2
    have HK2 := hide hk2
    have HG2 := hide (HG1.out.trans hg2)
    have HFR := hide hfrom
    clear hB2 hk2 hg2 hr2 hfrom
    go_wp2_with fail
    refine kval_end (w := w) (v := V.mk 6 0 b [] []) (c := ⟨6, 0, A2, b.length, c2, none, 0, 0, none, 0, 0⟩) HGG.out rfl ((HB2.out.set_ 0 (.int .i64 6)).set_ 2 (.slice A2 b.length c2)) (Nat.le_refl _) hlt ((HG2.out.set (Nat.le_refl _) 0 (.int .i64 6)).set (Nat.le_refl _) 2 (.slice A2 b.length c2)) ((HK2.out.kept (grown_set w2 w.heap.size 0 (.int .i64 6)) hlt).kept (grown_set _ w.heap.size 2 (.slice A2 b.length c2)) hlt) ?_ ⟨rfl, rfl⟩
    rw [IsV]
    refine ⟨rfl, rfl, rfl, rfl, rfl, by omega, by omega, by omega, hcap, by omega, Nat.le_refl _, by simp, Nat.le_refl _, by simp, ?_, fun i h => absurd h (by simp), fun i h => absurd h (by simp)⟩
    refine HFR.out.mono (fun p u h => ⟨⟨⟨?_, by have := h.1.2.1; omega, by simpa [World.setCell] using h.1.2.2⟩, by rw [frozen_setCell, frozen_setCell]; exact h.2⟩, by have := h.1.2.1; omega⟩)
    have hne : p.block ≠ w.heap.size := by have := h.1.2.1; omega
    rw [World.cell?_setCell_other _ _ _ _ (fun e => hne (by rw [← e])), World.cell?_setCell_other _ _ _ _ (fun e => hne (by rw [← e]))]
    exact h.1.1
set_option maxRecDepth 100000 in
set_option maxHeartbeats 3200000 in
theorem kval_none (d pb hi : Nat) (t : Bool) (c : UInt8) (bs : List UInt8) (h1 : c.toNat ≠ 16) (h2 : c.toNat ≠ 32) (h3 : c.toNat ≠ 48) (h4 : c.toNat ≠ 64) (h5 : c.toNat ≠ 80) (h6 : c.toNat ≠ 96) (h7 : c.toNat ≠ 112) (w : World) (hd48 : d ≤ 1000) (h : Kr w pb hi t (c :: bs)) : Calls Tryd.prog 110 #[.pointer (some ⟨pb, 0, none⟩), .int .i64 d] w (KVal w pb hi t (kd false (d + 1) (c :: bs))) := by
  have hlt := h.lt
  have HB0 := hide (Blk.new w 27 Cv.zero.cells)
  have H := hide (h.grow ((Grow.refl w).alloc (.cells Cv.zero.cells 27)))
  have HG := hide ((GB.refl w pb).grow ((Grow.refl w).alloc (.cells Cv.zero.cells 27)))
  have hz0 : w.heap.size + 1 ≤ (w.alloc (.cells Cv.zero.cells 27)).heap.size := by simp
  clear h
  have hcl := c.toNat_lt
  have n1 : ((c.toNat : Int) == 16) = false := by simp; omega
  have n2 : ((c.toNat : Int) == 32) = false := by simp; omega
  have n3 : ((c.toNat : Int) == 48) = false := by simp; omega
  have n4 : ((c.toNat : Int) == 64) = false := by simp; omega
  have n5 : ((c.toNat : Int) == 80) = false := by simp; omega
  have n6 : ((c.toNat : Int) == 96) = false := by simp; omega
  have n7 : ((c.toNat : Int) == 112) = false := by simp; omega
  have HNO := hide (show kd false (d + 1) (c :: bs) = none by rw [kd_cons, if_neg h1, if_neg h2, if_neg h3, if_neg h4, if_neg h5, if_neg h6, if_neg h7])
  clear h1 h2 h3 h4 h5 h6 h7
  go_enter Tryd.func110, Tryd.ntmps110
  go_wp2_with fail
  refine (kmust_yes _).mono ?_
  rintro e w' ⟨rfl, rfl⟩
  go_wp2_with fail
  refine (kbyte_yes pb hi t c bs _ H.out).mono ?_
  rintro e w1 ⟨rfl, hk1, hg1, hz1⟩
  have HK1 := hide hk1
  have HB1 := hide (HB0.out.own hg1 (fun k e => by injection e with e; omega))
  have HG1 := hide (HG.out.trans hg1)
  have hz1' : w.heap.size + 1 ≤ w1.heap.size := by omega
  clear hk1 hg1 hz1 hz0
  go_wp2_with fail
  refine (kmust_no _).mono ?_
  rintro e w2 ⟨rfl, rfl⟩
  go_wp2_with fail
  exact ⟨rfl, KVal.none_ HNO.out ⟨rfl, HG1.out⟩⟩
end Go.Proofs.YtpjhhkndfmcaoaaDoor
