/- Walks of munimentref4.back: values without parts. · Walks of munimentref4.back: texts, bytes, lists. · Walks of munimentref4.back: documents; the whole. -/
import Derived.Test.YtpjhhkndfmcaoaaDoorKeyIJ
import Derived.Test.YtpjhhkndfmcaoaaDoorKeyCC
import Derived.Test.YtpjhhkndfmcaoaaDoorKeyMB
import Derived.Test.YtpjhhkndfmcaoaaDoorKeyU
set_option linter.unusedVariables false
set_option linter.unusedSimpArgs false
namespace Go.Proofs.YtpjhhkndfmcaoaaDoor
open Go.RowKit Go.Shelf Go.WideShapes

/-- What back tells of a place: the value lies in new memory, its parts apart. -/
def BkS (w : World) (b : List UInt8) (g : KGot) (e : Ending) (w' : World) : Prop :=
  (∀ v r, g = some (v, r) → ∃ c : Cv, r.length ≤ b.length ∧ e = .returned (.tuple #[c.agg, .int .i64 ((b.length - r.length : Nat) : Int), .bool true]) ∧ InS w' w.heap.size w'.heap.size v c ∧ Grow w w') ∧
  (g = none → ∃ (c : Cv) (z : Int), e = .returned (.tuple #[c.agg, .int .i64 z, .bool false]) ∧ Grow w w')
theorem BkS.bkc {w w' : World} {b : List UInt8} {g : KGot} {e : Ending} (h : BkS w b g e w') : BkC w b g e w' :=
  ⟨fun v r q => (by obtain ⟨c, h1, h2, h3, h4⟩ := h.1 v r q; exact ⟨c, h1, h2, h3.atW, h4⟩), h.2⟩
theorem bk_res {W : World} {vb : Nat} {tmps : Array Value} {z : Int} {t : Bool} (h4 : tmps.getD 4 undef = .pointer (some ⟨vb, 0, none⟩)) (h5 : tmps.getD 5 undef = .int .i64 z) (h6 : tmps.getD 6 undef = .bool t) (c : Cv) (hv : Blk W vb 27 c.cells) :
    (results Tryd.f59 tmps).run Tryd.prog W = .ok (.tuple #[c.agg, .int .i64 z, .bool t]) W := by
  have hvc := hv.cell
  have h4' : tmps[4]?.getD undef = .pointer (some ⟨vb, 0, none⟩) := by simpa using h4
  have h5' : tmps[5]?.getD undef = .int .i64 z := by simpa using h5
  have h6' : tmps[6]?.getD undef = .bool t := by simpa using h6
  simp [results, Tryd.results59, go_sem, h4', h5', h6', hvc]
theorem bk_no {w W : World} {b : List UInt8} {g : KGot} {tmps : Array Value} {z : Int} (c : Cv) (hg : g = none) (h4 : tmps.getD 4 undef = .pointer (some ⟨w.heap.size, 0, none⟩)) (h5 : tmps.getD 5 undef = .int .i64 z) (h6 : tmps.getD 6 undef = .bool false)
    (hB : Blk W w.heap.size 27 c.cells) (hG : Grow w W) : bodyPost Tryd.prog Tryd.f59 (BkS w b g) .ret { tmps := tmps, defers := [] } W :=
  bodyPost_ret (bk_res h4 h5 h6 c hB) rfl ⟨fun v r e => (by rw [hg] at e; cases e), fun _ => ⟨c, z, rfl, hG⟩⟩
theorem bk_yes {w W : World} {b : List UInt8} {g : KGot} {tmps : Array Value} {k : Nat} {v : V} (c : Cv) (hk : k ≤ b.length) (hg : g = some (v, b.drop k)) (h4 : tmps.getD 4 undef = .pointer (some ⟨w.heap.size, 0, none⟩)) (h5 : tmps.getD 5 undef = .int .i64 (k : Int)) (h6 : tmps.getD 6 undef = .bool true)
    (hB : Blk W w.heap.size 27 c.cells) (hG : Grow w W) (hv : IsS (CF W) v c (fun q => w.heap.size ≤ q ∧ q < W.heap.size)) : bodyPost Tryd.prog Tryd.f59 (BkS w b g) .ret { tmps := tmps, defers := [] } W := by
  refine bodyPost_ret (bk_res h4 h5 h6 c hB) rfl ⟨fun v' r e => ?_, fun e => by rw [hg] at e; cases e⟩
  rw [hg] at e
  injection e with e
  injection e with e1 e2
  subst e1 e2
  have hl : (b.drop k).length = b.length - k := List.length_drop
  exact ⟨c, by omega, by rw [hl, show b.length - (b.length - k) = k by omega], ⟨Nat.le_refl _, hv⟩, hG⟩
/-- The world behind the two results' cells. -/
abbrev F2 (w : World) (c : Cv) : World := (w.alloc (.cells c.cells 27)).alloc (.cells Cv.zero.cells 27)
theorem F2_grow (w : World) (c : Cv) : Grow w (F2 w c) := ((Grow.refl w).alloc _).alloc _
theorem F2_blk (w : World) (c : Cv) : Blk (F2 w c) w.heap.size 27 c.cells := (Blk.new w _ _).alloc _
theorem bk_no2 {w : World} {b : List UInt8} {g : KGot} {tmps : Array Value} {z : Int} (hg : g = none) (h4 : tmps.getD 4 undef = .pointer (some ⟨w.heap.size, 0, none⟩)) (h5 : tmps.getD 5 undef = .int .i64 z) (h6 : tmps.getD 6 undef = .bool false) :
    bodyPost Tryd.prog Tryd.f59 (BkS w b g) .ret { tmps := tmps, defers := [] } (F2 w Cv.zero) := bk_no Cv.zero hg h4 h5 h6 (F2_blk w _) (F2_grow w _)
theorem flat_isS {C : Addr → Value → Prop} {S : Nat → Prop} (k : Int) (n : Nat) (h1 : -9223372036854775808 ≤ k) (h2 : k ≤ 9223372036854775807) (hn : n < 18446744073709551616) : IsS C (.mk k n [] [] []) ⟨k, n, none, 0, 0, none, 0, 0, none, 0, 0⟩ S := by
  rw [IsS]
  exact ⟨rfl, rfl, rfl, rfl, rfl, h1, h2, hn, by simp, by simp, by simp, by simp, by simp, by simp, ⟨by simp [u8s], fun h => by simp at h⟩, ⟨fun _ _ => False, fun i hi => absurd hi (by simp), fun _ _ _ _ _ h => h.elim⟩, ⟨fun _ _ => False, fun i hi => absurd hi (by simp), fun _ _ _ _ _ h => h.elim⟩⟩
theorem bk_yes2 {w : World} {b : List UInt8} {g : KGot} {tmps : Array Value} (k : Nat) (kk : Int) (n : Nat) (hk : k ≤ b.length) (h1 : -9223372036854775808 ≤ kk) (h2 : kk ≤ 9223372036854775807) (hn : n < 18446744073709551616) (hg : g = some (.mk kk n [] [] [], b.drop k)) (h4 : tmps.getD 4 undef = .pointer (some ⟨w.heap.size, 0, none⟩)) (h5 : tmps.getD 5 undef = .int .i64 (k : Int)) (h6 : tmps.getD 6 undef = .bool true) :
    bodyPost Tryd.prog Tryd.f59 (BkS w b g) .ret { tmps := tmps, defers := [] } (F2 w ⟨kk, n, none, 0, 0, none, 0, 0, none, 0, 0⟩) :=
  bk_yes _ hk hg h4 h5 h6 (F2_blk w _) (F2_grow w _) (flat_isS kk n h1 h2 hn)
theorem drop_kd (g : Nat) {b : List UInt8} {a : Nat} (h : a < b.length) : kd true (g + 1) (b.drop a) = kd true (g + 1) (b[a] :: b.drop (a + 1)) := by rw [List.drop_eq_getElem_cons h]
theorem InB.midK {w : World} {bk o : Nat} {b : List UInt8} (h : InB w (some ⟨bk, o, none⟩) b) (k n : Nat) : InB w (some ⟨bk, o + k, none⟩) ((b.drop k).take n) := by
  refine ⟨by simp [u8s], fun h0 => ?_⟩
  obtain ⟨bk', o', e, hc⟩ := h.2 (by rw [List.length_take, List.length_drop] at h0; omega)
  injection e with e
  injection e with e1 e2
  subst e1 e2
  refine ⟨bk, o + k, rfl, fun j u hu => ?_⟩
  unfold u8s at hu
  rw [List.map_take, List.map_drop, List.getElem?_take] at hu
  split at hu
  · rw [List.getElem?_drop] at hu
    have := hc (k + j) u hu
    rwa [← Nat.add_assoc] at this
  · cases hu
theorem kdN_short {l : List UInt8} (h : l.length < 9) : kdN l = none := by
  cases l with
  | nil => rfl
  | cons y r =>
    rw [List.length_cons] at h
    rw [kdN]
    split
    · exact if_neg (by omega)
    · exact if_neg (by omega)
theorem kdN_nan {r : List UInt8} (h : 8 ≤ r.length) : kdN (0 :: r) = some (.mk 4 (ofBe (r.take 8)) [] [] [], r.drop 8) := by rw [kdN, if_pos rfl, if_pos h]
theorem kdN_mid {y : UInt8} {r : List UInt8} (hy : y ≠ 0) (h : r.length < 11) : kdN (y :: r) = none := by rw [kdN, if_neg hy, if_neg (by omega)]
theorem kdN_num {y z : UInt8} {r : List UInt8} {m rs : Nat} (hy : y ≠ 0) (h : 11 ≤ r.length) (hz : r[10]? = some z) (hm : backN (ofBe (r.take 8)) = m) (hrs : ofBe ((r.drop 8).take 2) = rs) : kdN (y :: r) =
    if z = 1 then some (V.mk 4 m [] [] [], r.drop 11)
    else if (Ieee.double.order m 14114281232179134464 = some .gt ∨ Ieee.double.order m 14114281232179134464 = some .eq) ∧ Ieee.double.order m 4890909195324358656 = some .lt then
      (match floatToIntVal .f64 m .i64 with
       | some n => some (V.mk 3 ((n + (rs : Int)) % 18446744073709551616).toNat [] [] [], r.drop 11)
       | none => none)
    else none := by
  rw [kdN, if_neg hy, if_pos h, hz, hm, hrs]
  simp only [Option.some.injEq]
  try rfl
theorem at_b {w : World} {bk o : Nat} {b : List UInt8} (h : InB w (some ⟨bk, o, none⟩) b) (j : Nat) (hj : j < b.length) : w.cell? ⟨bk, o + j, none⟩ = some (.int .u8 (b[j].toNat : Int)) := by
  obtain ⟨bk', o', e, _, hc⟩ := h.at_ j hj
  injection e with e
  injection e with e1 e2
  subst e1 e2
  exact hc

set_option maxRecDepth 100000 in
set_option maxHeartbeats 1600000 in
theorem bk_nil (g a : Nat) (b : List UInt8) (B : Option Addr) (bc : Nat) (w : World) (hl : b.length ≤ 1000000000) (ha : b.length ≤ a) (ha2 : a ≤ 2000000000) : Calls Tryd.prog 59 #[.slice B b.length bc, .int .i64 a] w (BkS w b (kd true (g + 1) (b.drop a))) := by
  have HKD := hide (show kd true (g + 1) (b.drop a) = none by rw [List.drop_eq_nil_of_le ha]; rfl)
  have hrc := (F2_blk w Cv.zero).cell
  have hrf := (F2_blk w Cv.zero).frozen
  have hnc := (Blk.new' (w := w.alloc (.cells Cv.zero.cells 27)) (g := w.heap.size + 1) (by simp) 27 Cv.zero.cells).cell
  go_enter Tryd.func59, Tryd.ntmps59
  go_wp2_with fail
  exact bk_no2 HKD.out rfl rfl rfl

set_option maxRecDepth 100000 in
set_option maxHeartbeats 1600000 in
theorem bk_16 (g a : Nat) (b : List UInt8) (B : Option Addr) (bc : Nat) (w : World) (hb : InB w B b) (hl : b.length ≤ 1000000000) (ha : a < b.length) (hc : b[a].toNat = 16) : Calls Tryd.prog 59 #[.slice B b.length bc, .int .i64 a] w (BkS w b (kd true (g + 1) (b.drop a))) := by
  obtain ⟨bk, o, hBe, hbk, hcell⟩ := hb.at_ a ha
  subst hBe
  have HB := hide (hb.grow (F2_grow w Cv.zero))
  have hrc := (F2_blk w Cv.zero).cell
  have hrf := (F2_blk w Cv.zero).frozen
  have hnc := (Blk.new' (w := w.alloc (.cells Cv.zero.cells 27)) (g := w.heap.size + 1) (by simp) 27 Cv.zero.cells).cell
  have hcc := ((F2_grow w Cv.zero).below.cell (p := ⟨bk, o + a, none⟩) hbk).trans hcell
  have hbk2 : bk < w.heap.size + 1 + 1 := by omega
  obtain ⟨q, hq⟩ : ∃ q, a + 1 = q := ⟨_, rfl⟩
  have hw1 : IntKind.i64.wrap ((a : Int) + 1) = (q : Int) := by rw [IntWalk.i64_in _ (by omega)]; omega
  have hqa : a < q := by omega
  have hql : q ≤ b.length := by omega
  clear hcell hb
  rw [hc] at hcc
  have HC := hide hc
  clear hc
  have HKD := hide (show kd true (g + 1) (b.drop a) = some (.mk 1 0 [] [] [], b.drop q) by rw [drop_kd g ha, kd_cons, if_pos HC.out, hq])
  clear hq
  go_enter Tryd.func59, Tryd.ntmps59
  go_wp2_with fail
  exact bk_yes2 q 1 0 hql (by omega) (by omega) (by omega) HKD.out rfl rfl rfl

set_option maxRecDepth 100000 in
set_option maxHeartbeats 1600000 in
theorem bk_32 (g a : Nat) (b : List UInt8) (B : Option Addr) (bc : Nat) (w : World) (hb : InB w B b) (hl : b.length ≤ 1000000000) (ha : a < b.length) (hc : b[a].toNat = 32) : Calls Tryd.prog 59 #[.slice B b.length bc, .int .i64 a] w (BkS w b (kd true (g + 1) (b.drop a))) := by
  obtain ⟨bk, o, hBe, hbk, hcell⟩ := hb.at_ a ha
  subst hBe
  have HB := hide (hb.grow (F2_grow w Cv.zero))
  have hrc := (F2_blk w Cv.zero).cell
  have hrf := (F2_blk w Cv.zero).frozen
  have hnc := (Blk.new' (w := w.alloc (.cells Cv.zero.cells 27)) (g := w.heap.size + 1) (by simp) 27 Cv.zero.cells).cell
  have hcc := ((F2_grow w Cv.zero).below.cell (p := ⟨bk, o + a, none⟩) hbk).trans hcell
  have hbk2 : bk < w.heap.size + 1 + 1 := by omega
  obtain ⟨q, hq⟩ : ∃ q, a + 1 = q := ⟨_, rfl⟩
  have hw1 : IntKind.i64.wrap ((a : Int) + 1) = (q : Int) := by rw [IntWalk.i64_in _ (by omega)]; omega
  have hqa : a < q := by omega
  have hql : q ≤ b.length := by omega
  clear hcell hb
  rw [hc] at hcc
  have HC := hide hc
  clear hc
  by_cases hqb : q < b.length
  · have HKD := hide (show kd true (g + 1) (b.drop a) = some (.mk 2 b[q].toNat [] [] [], b.drop (q + 1)) by rw [drop_kd g ha, kd_cons, if_neg (by rw [HC.out]; decide), if_pos HC.out, hq, List.drop_eq_getElem_cons hqb])
    obtain ⟨bk', o', e, hbk', hcell⟩ := HB.out.at_ q hqb
    injection e with e
    injection e with e1 e2
    subst e1 e2
    obtain ⟨y, hy⟩ : ∃ y, b[q].toNat = y := ⟨_, rfl⟩
    rw [hy] at hcell HKD
    have hyl : y < 256 := by rw [← hy]; exact b[q].toNat_lt
    clear hy hq
    go_enter Tryd.func59, Tryd.ntmps59
    go_wp2_with fail
    exact bk_yes2 (q + 1) 2 y (by omega) (by omega) (by omega) (by omega) HKD.out rfl rfl rfl
  · have HKD := hide (show kd true (g + 1) (b.drop a) = none by rw [drop_kd g ha, kd_cons, if_neg (by rw [HC.out]; decide), if_pos HC.out, hq, List.drop_eq_nil_of_le (by omega)])
    clear hq
    go_enter Tryd.func59, Tryd.ntmps59
    go_wp2_with fail
    exact bk_no2 HKD.out rfl rfl rfl

set_option maxRecDepth 100000 in
set_option maxHeartbeats 1600000 in
theorem bk_other (g a : Nat) (b : List UInt8) (B : Option Addr) (bc : Nat) (w : World) (hb : InB w B b) (hl : b.length ≤ 1000000000) (ha : a < b.length) (n1 : b[a].toNat ≠ 16) (n2 : b[a].toNat ≠ 32) (n3 : b[a].toNat ≠ 48) (n4 : b[a].toNat ≠ 64) (n5 : b[a].toNat ≠ 80) (n6 : b[a].toNat ≠ 96) (n7 : b[a].toNat ≠ 112) : Calls Tryd.prog 59 #[.slice B b.length bc, .int .i64 a] w (BkS w b (kd true (g + 1) (b.drop a))) := by
  obtain ⟨bk, o, hBe, hbk, hcell⟩ := hb.at_ a ha
  subst hBe
  have HB := hide (hb.grow (F2_grow w Cv.zero))
  have hrc := (F2_blk w Cv.zero).cell
  have hrf := (F2_blk w Cv.zero).frozen
  have hnc := (Blk.new' (w := w.alloc (.cells Cv.zero.cells 27)) (g := w.heap.size + 1) (by simp) 27 Cv.zero.cells).cell
  have hcc := ((F2_grow w Cv.zero).below.cell (p := ⟨bk, o + a, none⟩) hbk).trans hcell
  have hbk2 : bk < w.heap.size + 1 + 1 := by omega
  obtain ⟨q, hq⟩ : ∃ q, a + 1 = q := ⟨_, rfl⟩
  have hw1 : IntKind.i64.wrap ((a : Int) + 1) = (q : Int) := by rw [IntWalk.i64_in _ (by omega)]; omega
  have hqa : a < q := by omega
  have hql : q ≤ b.length := by omega
  clear hcell hb
  have HKD := hide (show kd true (g + 1) (b.drop a) = none by rw [drop_kd g ha, kd_cons, if_neg n1, if_neg n2, if_neg n3, if_neg n4, if_neg n5, if_neg n6, if_neg n7])
  obtain ⟨x, hx⟩ : ∃ x, b[a].toNat = x := ⟨_, rfl⟩
  rw [hx] at hcc n1 n2 n3 n4 n5 n6 n7
  have m1 : ((x : Int) == 16) = false := by simp; omega
  have m2 : ((x : Int) == 32) = false := by simp; omega
  have m3 : ((x : Int) == 48) = false := by simp; omega
  have m4 : ((x : Int) == 64) = false := by simp; omega
  have m5 : ((x : Int) == 80) = false := by simp; omega
  have m6 : ((x : Int) == 96) = false := by simp; omega
  have m7 : ((x : Int) == 112) = false := by simp; omega
  clear hx n1 n2 n3 n4 n5 n6 n7 hq
  go_enter Tryd.func59, Tryd.ntmps59
  go_wp2_with fail
  exact bk_no2 HKD.out rfl rfl rfl

set_option maxRecDepth 100000 in
set_option maxHeartbeats 1600000 in
theorem bk_48 (g a : Nat) (b : List UInt8) (B : Option Addr) (bc : Nat) (w : World) (hb : InB w B b) (hl : b.length ≤ 1000000000) (ha : a < b.length) (hcap : b.length ≤ bc) (hc : b[a].toNat = 48) : Calls Tryd.prog 59 #[.slice B b.length bc, .int .i64 a] w (BkS w b (kd true (g + 1) (b.drop a))) := by
  obtain ⟨bk, o, hBe, hbk, hcell⟩ := hb.at_ a ha
  subst hBe
  have HB := hide (hb.grow (F2_grow w Cv.zero))
  have hrc := (F2_blk w Cv.zero).cell
  have hrf := (F2_blk w Cv.zero).frozen
  have hnc := (Blk.new' (w := w.alloc (.cells Cv.zero.cells 27)) (g := w.heap.size + 1) (by simp) 27 Cv.zero.cells).cell
  have hcc := ((F2_grow w Cv.zero).below.cell (p := ⟨bk, o + a, none⟩) hbk).trans hcell
  have hbk2 : bk < w.heap.size + 1 + 1 := by omega
  obtain ⟨q, hq⟩ : ∃ q, a + 1 = q := ⟨_, rfl⟩
  have hw1 : IntKind.i64.wrap ((a : Int) + 1) = (q : Int) := by rw [IntWalk.i64_in _ (by omega)]; omega
  have hqa : a < q := by omega
  have hql : q ≤ b.length := by omega
  clear hcell hb
  rw [hc] at hcc
  have HC := hide hc
  clear hc
  have HK0 := hide (show kd true (g + 1) (b.drop a) = kdN (b.drop q) by rw [drop_kd g ha, kd_cons, if_neg (by rw [HC.out]; decide), if_neg (by rw [HC.out]; decide), if_pos HC.out, hq])
  clear hq
  by_cases hq9 : q + 9 ≤ b.length
  · have hlr : (b.drop (q + 1)).length = b.length - (q + 1) := List.length_drop
    have hs : b.drop q = b[q] :: b.drop (q + 1) := List.drop_eq_getElem_cons (by omega)
    have hcy := at_b HB.out q (by omega)
    have HR := hide (HB.out.midK (q + 1) 8)
    have HD8 := hide (show (b.drop (q + 1)).drop 8 = b.drop (q + 9) by rw [List.drop_drop])
    obtain ⟨y, hy⟩ : ∃ y, b[q] = y := ⟨_, rfl⟩
    rw [hy] at hs hcy
    rw [hs] at HK0
    have hl8 : ((b.drop (q + 1)).take 8).length = 8 := by rw [List.length_take]; omega
    have HN0 := hide (rlow_any ((b.drop (q + 1)).take 8) _ (bc - (q + 1)) _ HR.out (by omega))
    rw [hl8] at HN0
    have hn64 : ofBe ((b.drop (q + 1)).take 8) < 18446744073709551616 := ofBe8 _ (by omega)
    obtain ⟨n, hn⟩ : ∃ n, ofBe ((b.drop (q + 1)).take 8) = n := ⟨_, rfl⟩
    rw [hn] at HN0 hn64
    have hb8 : ((8 : Nat) : Int) = 8 := rfl
    have HHN := hide hn
    have HLR := hide hlr
    have hyl := y.toNat_lt
    clear hl8 hn hy hs hlr
    by_cases hy0 : y = 0
    · subst hy0
      have HKD := hide (show kd true (g + 1) (b.drop a) = some (.mk 4 n [] [] [], b.drop (q + 9)) by rw [HK0.out, kdN_nan (by rw [HLR.out]; omega), HHN.out, HD8.out])
      go_enter Tryd.func59, Tryd.ntmps59
      go_wp2_with fail
      refine HN0.out.mono ?_
      rintro e w' ⟨rfl, rfl⟩
      go_wp2_with fail
      exact bk_yes2 (q + 9) 4 n (by omega) (by omega) (by omega) (by omega) HKD.out rfl rfl rfl
    · have HY0 := hide hy0
      have hyn : ((y.toNat : Int) == 0) = false := by
        have : y.toNat ≠ 0 := fun e => hy0 (UInt8.toNat_inj.1 e)
        simp; omega
      have hbf := run_from
      have hsg : IntKind.u64.signed = false := rfl
      clear hy0
      by_cases hq12 : q + 12 ≤ b.length
      · have hcz := at_b HB.out (q + 11) (by omega)
        have H10 := hide (show (b.drop (q + 1))[10]? = some b[q + 11] by rw [List.getElem?_drop]; exact List.getElem?_eq_getElem (by omega))
        have HR2 := HB.out.midK (q + 9) 2
        have hl2 : ((b.drop (q + 9)).take 2).length = 2 := by rw [List.length_take, List.length_drop]; omega
        have HN2 := hide (rlow_any ((b.drop (q + 9)).take 2) _ (bc - (q + 9)) _ HR2 (by omega))
        rw [hl2] at HN2
        have hrs64 : ofBe ((b.drop (q + 9)).take 2) < 65536 := by have := ofBe_lt ((b.drop (q + 9)).take 2); rw [hl2] at this; exact this
        obtain ⟨rs, hrs⟩ : ∃ rs, ofBe ((b.drop (q + 9)).take 2) = rs := ⟨_, rfl⟩
        rw [hrs] at HN2 hrs64
        have HRS := hide (show ofBe (((b.drop (q + 1)).drop 8).take 2) = rs by rw [HD8.out, hrs])
        have HD11 := hide (show (b.drop (q + 1)).drop 11 = b.drop (q + 12) by rw [List.drop_drop])
        have hb2 : ((2 : Nat) : Int) = 2 := rfl
        obtain ⟨z, hz⟩ : ∃ z, b[q + 11] = z := ⟨_, rfl⟩
        rw [hz] at H10 hcz
        clear hl2 hrs hz HR2
        have hzl := z.toNat_lt
        obtain ⟨m, hm⟩ : ∃ m, backN n = m := ⟨_, rfl⟩
        have hm64 : m < 18446744073709551616 := by rw [← hm]; exact backN_lt n hn64
        have HM := hide (show backN (ofBe ((b.drop (q + 1)).take 8)) = m by rw [HHN.out, hm])
        have HKM := hide (show kd true (g + 1) (b.drop a) = _ from HK0.out.trans (kdN_num HY0.out (by rw [HLR.out]; omega) H10.out HM.out HRS.out))
        rw [HD11.out] at HKM
        have hx0 : ((n : Int) / 9223372036854775808 == 1) = decide (9223372036854775808 ≤ n) := by
          by_cases h : 9223372036854775808 ≤ n
          · rw [decide_eq_true h]; simp; omega
          · rw [decide_eq_false h]; simp; omega
        have hx2 := u64_not n hn64
        have hx3 := u64_flip n hn64
        by_cases hlt : n < 9223372036854775808
        · rw [if_pos hlt] at hx3
          have hmm : 18446744073709551615 - n = m := by rw [← hm, backN, if_pos hlt]
          rw [hmm] at hx2
          rw [decide_eq_false (by omega)] at hx0
          clear hx3 hmm hm
          by_cases hz1 : z = 1
          · subst hz1
            have HKD := hide (HKM.out.trans (if_pos rfl))
            go_enter Tryd.func59, Tryd.ntmps59
            go_wp2_with fail
            refine HN0.out.mono ?_
            rintro e w' ⟨rfl, rfl⟩
            go_wp2_with fail
            exact bk_yes2 (q + 12) 4 m (by omega) (by omega) (by omega) (by omega) HKD.out rfl rfl rfl
          · have hz1n : ((z.toNat : Int) == 1) = false := by
              have : z.toNat ≠ 1 := fun e => hz1 (UInt8.toNat_inj.1 e)
              simp; omega
            have HKZ := hide (HKM.out.trans (if_neg hz1))
            clear hz1
            by_cases hin : (Ieee.double.order m 14114281232179134464 = some .gt ∨ Ieee.double.order m 14114281232179134464 = some .eq) ∧ Ieee.double.order m 4890909195324358656 = some .lt
            · obtain ⟨i, hi, hi1, hi2⟩ := whole_some hin.1 hin.2
              have hcv := conv_fi m i hi
              have ho1 : (FloatKind.f64.format.order m 14114281232179134464 == some Ordering.gt || FloatKind.f64.format.order m 14114281232179134464 == some Ordering.eq) = true := by
                show (Ieee.double.order m 14114281232179134464 == some Ordering.gt || Ieee.double.order m 14114281232179134464 == some Ordering.eq) = true
                rcases hin.1 with h | h <;> rw [h] <;> rfl
              have ho2 : FloatKind.f64.format.order m 4890909195324358656 = some Ordering.lt := hin.2
              have hsum : IntKind.u64.wrap (IntKind.u64.wrap i + (rs : Int)) = (((i + (rs : Int)) % 18446744073709551616).toNat : Int) := by rw [IntKind.wrap_u64, IntKind.wrap_u64]; omega
              have hres64 : ((i + (rs : Int)) % 18446744073709551616).toNat < 18446744073709551616 := by omega
              have hkk := HKZ.out.trans (if_pos hin)
              rw [hi] at hkk
              dsimp only at hkk
              obtain ⟨res, hres⟩ : ∃ x, ((i + (rs : Int)) % 18446744073709551616).toNat = x := ⟨_, rfl⟩
              rw [hres] at hsum hres64 hkk
              have HKD := hide hkk
              clear hin hi hres hkk
              go_enter Tryd.func59, Tryd.ntmps59
              go_wp2_with fail
              refine HN0.out.mono ?_
              rintro e w' ⟨rfl, rfl⟩
              go_wp2_with fail
              refine HN2.out.mono ?_
              rintro e w' ⟨rfl, rfl⟩
              go_wp2_with fail
              exact bk_yes2 (q + 12) 3 res (by omega) (by omega) (by omega) (by omega) HKD.out rfl rfl rfl
            · have HKD := hide (HKZ.out.trans (if_neg hin))
              by_cases ho1 : (FloatKind.f64.format.order m 14114281232179134464 == some Ordering.gt || FloatKind.f64.format.order m 14114281232179134464 == some Ordering.eq) = true
              · have ho2 : (FloatKind.f64.format.order m 4890909195324358656 == some Ordering.lt) = false := by
                  cases hx : (FloatKind.f64.format.order m 4890909195324358656 == some Ordering.lt) with
                  | false => rfl
                  | true =>
                    refine absurd ⟨?_, ?_⟩ hin
                    · rcases (Bool.or_eq_true_iff.1 ho1) with h | h
                      · exact .inl (eq_of_beq h)
                      · exact .inr (eq_of_beq h)
                    · exact eq_of_beq hx
                clear hin
                go_enter Tryd.func59, Tryd.ntmps59
                go_wp2_with fail
                refine HN0.out.mono ?_
                rintro e w' ⟨rfl, rfl⟩
                go_wp2_with fail
                exact bk_no2 HKD.out rfl rfl rfl
              · have ho1' : (FloatKind.f64.format.order m 14114281232179134464 == some Ordering.gt || FloatKind.f64.format.order m 14114281232179134464 == some Ordering.eq) = false := by simpa using ho1
                clear hin ho1
                go_enter Tryd.func59, Tryd.ntmps59
                go_wp2_with fail
                refine HN0.out.mono ?_
                rintro e w' ⟨rfl, rfl⟩
                go_wp2_with fail
                exact bk_no2 HKD.out rfl rfl rfl
        · rw [if_neg hlt] at hx3
          have hmm : n - 9223372036854775808 = m := by rw [← hm, backN, if_neg hlt]
          rw [hmm] at hx3
          rw [decide_eq_true (by omega)] at hx0
          clear hx2 hmm hm
          by_cases hz1 : z = 1
          · subst hz1
            have HKD := hide (HKM.out.trans (if_pos rfl))
            go_enter Tryd.func59, Tryd.ntmps59
            go_wp2_with fail
            refine HN0.out.mono ?_
            rintro e w' ⟨rfl, rfl⟩
            go_wp2_with fail
            exact bk_yes2 (q + 12) 4 m (by omega) (by omega) (by omega) (by omega) HKD.out rfl rfl rfl
          · have hz1n : ((z.toNat : Int) == 1) = false := by
              have : z.toNat ≠ 1 := fun e => hz1 (UInt8.toNat_inj.1 e)
              simp; omega
            have HKZ := hide (HKM.out.trans (if_neg hz1))
            clear hz1
            by_cases hin : (Ieee.double.order m 14114281232179134464 = some .gt ∨ Ieee.double.order m 14114281232179134464 = some .eq) ∧ Ieee.double.order m 4890909195324358656 = some .lt
            · obtain ⟨i, hi, hi1, hi2⟩ := whole_some hin.1 hin.2
              have hcv := conv_fi m i hi
              have ho1 : (FloatKind.f64.format.order m 14114281232179134464 == some Ordering.gt || FloatKind.f64.format.order m 14114281232179134464 == some Ordering.eq) = true := by
                show (Ieee.double.order m 14114281232179134464 == some Ordering.gt || Ieee.double.order m 14114281232179134464 == some Ordering.eq) = true
                rcases hin.1 with h | h <;> rw [h] <;> rfl
              have ho2 : FloatKind.f64.format.order m 4890909195324358656 = some Ordering.lt := hin.2
              have hsum : IntKind.u64.wrap (IntKind.u64.wrap i + (rs : Int)) = (((i + (rs : Int)) % 18446744073709551616).toNat : Int) := by rw [IntKind.wrap_u64, IntKind.wrap_u64]; omega
              have hres64 : ((i + (rs : Int)) % 18446744073709551616).toNat < 18446744073709551616 := by omega
              have hkk := HKZ.out.trans (if_pos hin)
              rw [hi] at hkk
              dsimp only at hkk
              obtain ⟨res, hres⟩ : ∃ x, ((i + (rs : Int)) % 18446744073709551616).toNat = x := ⟨_, rfl⟩
              rw [hres] at hsum hres64 hkk
              have HKD := hide hkk
              clear hin hi hres hkk
              go_enter Tryd.func59, Tryd.ntmps59
              go_wp2_with fail
              refine HN0.out.mono ?_
              rintro e w' ⟨rfl, rfl⟩
              go_wp2_with fail
              refine HN2.out.mono ?_
              rintro e w' ⟨rfl, rfl⟩
              go_wp2_with fail
              exact bk_yes2 (q + 12) 3 res (by omega) (by omega) (by omega) (by omega) HKD.out rfl rfl rfl
            · have HKD := hide (HKZ.out.trans (if_neg hin))
              by_cases ho1 : (FloatKind.f64.format.order m 14114281232179134464 == some Ordering.gt || FloatKind.f64.format.order m 14114281232179134464 == some Ordering.eq) = true
              · have ho2 : (FloatKind.f64.format.order m 4890909195324358656 == some Ordering.lt) = false := by
                  cases hx : (FloatKind.f64.format.order m 4890909195324358656 == some Ordering.lt) with
                  | false => rfl
                  | true =>
                    refine absurd ⟨?_, ?_⟩ hin
                    · rcases (Bool.or_eq_true_iff.1 ho1) with h | h
                      · exact .inl (eq_of_beq h)
                      · exact .inr (eq_of_beq h)
                    · exact eq_of_beq hx
                clear hin
                go_enter Tryd.func59, Tryd.ntmps59
                go_wp2_with fail
                refine HN0.out.mono ?_
                rintro e w' ⟨rfl, rfl⟩
                go_wp2_with fail
                exact bk_no2 HKD.out rfl rfl rfl
              · have ho1' : (FloatKind.f64.format.order m 14114281232179134464 == some Ordering.gt || FloatKind.f64.format.order m 14114281232179134464 == some Ordering.eq) = false := by simpa using ho1
                clear hin ho1
                go_enter Tryd.func59, Tryd.ntmps59
                go_wp2_with fail
                refine HN0.out.mono ?_
                rintro e w' ⟨rfl, rfl⟩
                go_wp2_with fail
                exact bk_no2 HKD.out rfl rfl rfl
      · have HKD := hide (show kd true (g + 1) (b.drop a) = none by rw [HK0.out, kdN_mid HY0.out (by rw [HLR.out]; omega)])
        go_enter Tryd.func59, Tryd.ntmps59
        go_wp2_with fail
        refine HN0.out.mono ?_
        rintro e w' ⟨rfl, rfl⟩
        go_wp2_with fail
        exact bk_no2 HKD.out rfl rfl rfl
  · have HKD := hide (show kd true (g + 1) (b.drop a) = none by rw [HK0.out, kdN_short (by rw [List.length_drop]; omega)])
    go_enter Tryd.func59, Tryd.ntmps59
    go_wp2_with fail
    exact bk_no2 HKD.out rfl rfl rfl
end Go.Proofs.YtpjhhkndfmcaoaaDoor

set_option linter.unusedVariables false
set_option linter.unusedSimpArgs false
namespace Go.Proofs.YtpjhhkndfmcaoaaDoor
open Go.RowKit Go.Shelf Go.WideShapes

theorem bk_yesr {w W : World} {b : List UInt8} {g : KGot} {tmps : Array Value} {v : V} {r : List UInt8} (c : Cv) (hk : r.length ≤ b.length) (hg : g = some (v, r)) (h4 : tmps.getD 4 undef = .pointer (some ⟨w.heap.size, 0, none⟩)) (h5 : tmps.getD 5 undef = .int .i64 ((b.length - r.length : Nat) : Int)) (h6 : tmps.getD 6 undef = .bool true)
    (hB : Blk W w.heap.size 27 c.cells) (hG : Grow w W) (hv : IsS (CF W) v c (fun q => w.heap.size ≤ q ∧ q < W.heap.size)) : bodyPost Tryd.prog Tryd.f59 (BkS w b g) .ret { tmps := tmps, defers := [] } W := by
  refine bodyPost_ret (bk_res h4 h5 h6 c hB) rfl ⟨fun v' r e => ?_, fun e => by rw [hg] at e; cases e⟩
  rw [hg] at e
  injection e with e
  injection e with e1 e2
  subst e1 e2
  exact ⟨c, hk, rfl, ⟨Nat.le_refl _, hv⟩, hG⟩
/-- A text's or bytes' value over a row of bytes. -/
theorem bytes_isS {W : World} {base n c lo : Nat} {A : Option Addr} {xs : List UInt8} (k : Int) (hk1 : -9223372036854775808 ≤ k) (hk2 : k ≤ 9223372036854775807) (h : Row W base (.slice A n c) n xs) (hn : n = xs.length) (hn2 : n ≤ 140737488355328) (hw : lo < base) :
    IsS (CF (set5 W lo ⟨k, 0, A, n, c, none, 0, 0, none, 0, 0⟩)) (.mk k 0 xs [] []) ⟨k, 0, A, n, c, none, 0, 0, none, 0, 0⟩ (fun q => lo ≤ q ∧ q < (set5 W lo ⟨k, 0, A, n, c, none, 0, 0, none, 0, 0⟩).heap.size) := by
  have hr := cp_reads h
  have hcap : n ≤ c := by
    rcases h.2 with ⟨hv, h0⟩ | ⟨g, cap', cur, hv, _, _, hc, _⟩
    · omega
    · injection hv with _ _ e; omega
  subst hn
  refine IsS.flat (C := fun p u => CF W p u ∧ base ≤ p.block ∧ p.block < W.heap.size) ⟨rfl, rfl⟩ (fun p u hp => ⟨hp.1.block ((set5_grown W lo _).block _ hp.2.2 (fun e => by injection e with e; omega)), by omega, by rw [set5_size]; exact hp.2.2⟩) ?_
  rw [IsV]
  exact ⟨rfl, rfl, rfl, rfl, rfl, hk1, hk2, by show (0 : Nat) < 18446744073709551616; omega, hcap, hn2, by simp, by simp, by simp, by simp, hr, fun i hi => absurd hi (by simp), fun i hi => absurd hi (by simp)⟩
theorem unesc_len (st : Bool) : ∀ (b : List UInt8) {t r}, unesc st b = some (t, r) → t.length + r.length ≤ b.length
  | [], _, _, h => by cases h
  | [_], _, _, h => by cases h
  | x :: y :: b, t, r, h => by
    rw [unesc] at h
    split at h
    · split at h
      · cases hu : unesc st b with
        | none => rw [hu] at h; cases h
        | some p =>
          rw [hu] at h
          injection h with h
          injection h with h1 h2
          subst h1 h2
          have := unesc_len st b (t := p.1) (r := p.2) hu
          simp only [List.length_cons]; omega
      · split at h
        · cases h
        · injection h with h
          injection h with h1 h2
          subst h1 h2
          simp only [List.length_nil, List.length_cons]; omega
    · cases hu : unesc st (y :: b) with
      | none => rw [hu] at h; cases h
      | some p =>
        rw [hu] at h
        injection h with h
        injection h with h1 h2
        subst h1 h2
        have := unesc_len st (y :: b) (t := p.1) (r := p.2) hu
        simp only [List.length_cons] at this ⊢; omega

set_option maxRecDepth 100000 in
set_option maxHeartbeats 1600000 in
theorem bk_64 (g a : Nat) (b : List UInt8) (B : Option Addr) (bc : Nat) (w : World) (hb : InB w B b) (hl : b.length ≤ 1000000000) (ha : a < b.length) (hc : b[a].toNat = 64) : Calls Tryd.prog 59 #[.slice B b.length bc, .int .i64 a] w (BkS w b (kd true (g + 1) (b.drop a))) := by
  obtain ⟨bk, o, hBe, hbk, hcell⟩ := hb.at_ a ha
  subst hBe
  have HB := hide (hb.grow (F2_grow w Cv.zero))
  have hrc := (F2_blk w Cv.zero).cell
  have hrf := (F2_blk w Cv.zero).frozen
  have hnc := (Blk.new' (w := w.alloc (.cells Cv.zero.cells 27)) (g := w.heap.size + 1) (by simp) 27 Cv.zero.cells).cell
  have hcc := ((F2_grow w Cv.zero).below.cell (p := ⟨bk, o + a, none⟩) hbk).trans hcell
  have hbk2 : bk < w.heap.size + 1 + 1 := by omega
  obtain ⟨q, hq⟩ : ∃ q, a + 1 = q := ⟨_, rfl⟩
  have hw1 : IntKind.i64.wrap ((a : Int) + 1) = (q : Int) := by rw [IntWalk.i64_in _ (by omega)]; omega
  have hqa : a < q := by omega
  have hql : q ≤ b.length := by omega
  clear hcell hb
  rw [hc] at hcc
  have HC := hide hc
  clear hc
  have HKD := hide (show kd true (g + 1) (b.drop a) = (unesc true (b.drop q)).map (fun p => (V.mk 5 0 p.1 [] [], p.2)) by rw [drop_kd g ha, kd_cons, if_neg (by rw [HC.out]; decide), if_neg (by rw [HC.out]; decide), if_neg (by rw [HC.out]; decide), if_pos HC.out, hq])
  have HU := hide (untext_any b q _ bc _ HB.out (by omega) hql)
  have hg0 := F2_grow w Cv.zero
  have HG0 := hide hg0
  have HB0 := hide (F2_blk w Cv.zero)
  clear hq hg0
  go_enter Tryd.func59, Tryd.ntmps59
  go_wp2_with fail
  refine HU.out.mono ?_
  rintro e w1 hu
  cases hx : unesc true (b.drop q) with
  | none =>
    obtain ⟨A, n, c, z, rfl, hg⟩ := hu.2 hx
    have hb1 := HB0.out.grow hg
    have hc1 := hb1.cell
    have hf1 := hb1.frozen
    have hl1 := hb1.lt
    have HB1 := hide hb1
    have HG1 := hide (HG0.out.trans hg)
    have HN := hide (show kd true (g + 1) (b.drop a) = none by rw [HKD.out, hx]; rfl)
    clear hu hx hb1 hg hrc hrf hnc hcc
    go_wp2_with fail
    exact bk_no ⟨5, 0, A, n, c, none, 0, 0, none, 0, 0⟩ HN.out rfl rfl rfl (set5_from (c := ⟨5, 0, A, n, c, none, 0, 0, none, 0, 0⟩) HB1.out) (HG1.out.set5v (Nat.le_refl _) ⟨5, 0, A, n, c, none, 0, 0, none, 0, 0⟩)
  | some p =>
    obtain ⟨t, r⟩ := p
    obtain ⟨A, c, hrl, rfl, hrow, hg⟩ := hu.1 t r hx
    have hb1 := HB0.out.grow hg
    have hc1 := hb1.cell
    have hf1 := hb1.frozen
    have hl1 := hb1.lt
    have HB1 := hide hb1
    have HG1 := hide (HG0.out.trans hg)
    have HR := hide hrow
    have HN := hide (show kd true (g + 1) (b.drop a) = some (V.mk 5 0 t [] [], r) by rw [HKD.out, hx]; rfl)
    have htl := unesc_len _ _ hx
    rw [List.length_drop] at htl
    have hz0 : (F2 w Cv.zero).heap.size = w.heap.size + 1 + 1 := by simp [F2]
    rw [hz0] at HR
    clear hu hx hb1 hg hrow hrc hrf hnc hz0 hcc
    obtain ⟨n, hn⟩ : ∃ n, t.length = n := ⟨_, rfl⟩
    rw [hn] at HR
    have HN2 := hide hn
    have htl2 : n ≤ 140737488355328 := by omega
    rw [hn]
    clear hn htl
    obtain ⟨z, hz⟩ : ∃ z, b.length - r.length = z := ⟨_, rfl⟩
    rw [hz]
    have HZ := hide hz
    clear hz
    go_wp2_with fail
    exact bk_yesr ⟨5, 0, A, n, c, none, 0, 0, none, 0, 0⟩ hrl HN.out rfl (by rw [HZ.out]; rfl) rfl (set5_from (c := ⟨5, 0, A, n, c, none, 0, 0, none, 0, 0⟩) HB1.out) (HG1.out.set5v (Nat.le_refl _) ⟨5, 0, A, n, c, none, 0, 0, none, 0, 0⟩) (bytes_isS 5 (by omega) (by omega) HR.out HN2.out.symm htl2 (by omega))

set_option maxRecDepth 100000 in
set_option maxHeartbeats 1600000 in
theorem bk_80 (g a : Nat) (b : List UInt8) (B : Option Addr) (bc : Nat) (w : World) (hb : InB w B b) (hl : b.length ≤ 1000000000) (ha : a < b.length) (hc : b[a].toNat = 80) : Calls Tryd.prog 59 #[.slice B b.length bc, .int .i64 a] w (BkS w b (kd true (g + 1) (b.drop a))) := by
  obtain ⟨bk, o, hBe, hbk, hcell⟩ := hb.at_ a ha
  subst hBe
  have HB := hide (hb.grow (F2_grow w Cv.zero))
  have hrc := (F2_blk w Cv.zero).cell
  have hrf := (F2_blk w Cv.zero).frozen
  have hnc := (Blk.new' (w := w.alloc (.cells Cv.zero.cells 27)) (g := w.heap.size + 1) (by simp) 27 Cv.zero.cells).cell
  have hcc := ((F2_grow w Cv.zero).below.cell (p := ⟨bk, o + a, none⟩) hbk).trans hcell
  have hbk2 : bk < w.heap.size + 1 + 1 := by omega
  obtain ⟨q, hq⟩ : ∃ q, a + 1 = q := ⟨_, rfl⟩
  have hw1 : IntKind.i64.wrap ((a : Int) + 1) = (q : Int) := by rw [IntWalk.i64_in _ (by omega)]; omega
  have hqa : a < q := by omega
  have hql : q ≤ b.length := by omega
  clear hcell hb
  rw [hc] at hcc
  have HC := hide hc
  clear hc
  have HKD := hide (show kd true (g + 1) (b.drop a) = (unesc true (b.drop q)).map (fun p => (V.mk 6 0 p.1 [] [], p.2)) by rw [drop_kd g ha, kd_cons, if_neg (by rw [HC.out]; decide), if_neg (by rw [HC.out]; decide), if_neg (by rw [HC.out]; decide), if_neg (by rw [HC.out]; decide), if_pos HC.out, hq])
  have HU := hide (untext_any b q _ bc _ HB.out (by omega) hql)
  have hg0 := F2_grow w Cv.zero
  have HG0 := hide hg0
  have HB0 := hide (F2_blk w Cv.zero)
  clear hq hg0
  go_enter Tryd.func59, Tryd.ntmps59
  go_wp2_with fail
  refine HU.out.mono ?_
  rintro e w1 hu
  cases hx : unesc true (b.drop q) with
  | none =>
    obtain ⟨A, n, c, z, rfl, hg⟩ := hu.2 hx
    have hb1 := HB0.out.grow hg
    have hc1 := hb1.cell
    have hf1 := hb1.frozen
    have hl1 := hb1.lt
    have HB1 := hide hb1
    have HG1 := hide (HG0.out.trans hg)
    have HN := hide (show kd true (g + 1) (b.drop a) = none by rw [HKD.out, hx]; rfl)
    clear hu hx hb1 hg hrc hrf hnc hcc
    go_wp2_with fail
    exact bk_no ⟨6, 0, A, n, c, none, 0, 0, none, 0, 0⟩ HN.out rfl rfl rfl (set5_from (c := ⟨6, 0, A, n, c, none, 0, 0, none, 0, 0⟩) HB1.out) (HG1.out.set5v (Nat.le_refl _) ⟨6, 0, A, n, c, none, 0, 0, none, 0, 0⟩)
  | some p =>
    obtain ⟨t, r⟩ := p
    obtain ⟨A, c, hrl, rfl, hrow, hg⟩ := hu.1 t r hx
    have hb1 := HB0.out.grow hg
    have hc1 := hb1.cell
    have hf1 := hb1.frozen
    have hl1 := hb1.lt
    have HB1 := hide hb1
    have HG1 := hide (HG0.out.trans hg)
    have HR := hide hrow
    have HN := hide (show kd true (g + 1) (b.drop a) = some (V.mk 6 0 t [] [], r) by rw [HKD.out, hx]; rfl)
    have htl := unesc_len _ _ hx
    rw [List.length_drop] at htl
    have hz0 : (F2 w Cv.zero).heap.size = w.heap.size + 1 + 1 := by simp [F2]
    rw [hz0] at HR
    clear hu hx hb1 hg hrow hrc hrf hnc hz0 hcc
    obtain ⟨n, hn⟩ : ∃ n, t.length = n := ⟨_, rfl⟩
    rw [hn] at HR
    have HN2 := hide hn
    have htl2 : n ≤ 140737488355328 := by omega
    rw [hn]
    clear hn htl
    obtain ⟨z, hz⟩ : ∃ z, b.length - r.length = z := ⟨_, rfl⟩
    rw [hz]
    have HZ := hide hz
    clear hz
    go_wp2_with fail
    exact bk_yesr ⟨6, 0, A, n, c, none, 0, 0, none, 0, 0⟩ hrl HN.out rfl (by rw [HZ.out]; rfl) rfl (set5_from (c := ⟨6, 0, A, n, c, none, 0, 0, none, 0, 0⟩) HB1.out) (HG1.out.set5v (Nat.le_refl _) ⟨6, 0, A, n, c, none, 0, 0, none, 0, 0⟩) (bytes_isS 6 (by omega) (by omega) HR.out HN2.out.symm htl2 (by omega))

theorem list_isS {W : World} {g0 base : Nat} {n cap : Nat} {A : Option Addr} {es : List VE} {vb : Nat} (h : VRow W 27 noHead 5 g0 vb base (.slice A n cap) es) (hn : n = es.length) (h1 : g0 < vb) (h2 : vb < base) (h64 : n ≤ 140737488355328) :
    IsS (CF (set5 W g0 ⟨7, 0, none, 0, 0, A, n, cap, none, 0, 0⟩)) (.mk 7 0 [] (es.map VE.v) []) ⟨7, 0, none, 0, 0, A, n, cap, none, 0, 0⟩ (fun q => g0 ≤ q ∧ q < (set5 W g0 ⟨7, 0, none, 0, 0, A, n, cap, none, 0, 0⟩).heap.size) := by
  have hv := (h.lower (vb' := g0) (by omega)).isLK hn (by omega) (by omega) h64
  exact IsS.mono _ _ _ _ (fun p u h s => h.1.block ((set5_grown W g0 ⟨7, 0, none, 0, 0, A, n, cap, none, 0, 0⟩).block _ s.2 (fun e => h.2 (by injection e)))) (fun q h => ⟨h.1, by rw [set5_size]; exact h.2⟩) hv
/-- back reads places of these bytes, so deep. -/
def BkF (g : Nat) (b : List UInt8) (B : Option Addr) (bc lo : Nat) : Prop := ∀ (w : World) (a : Nat), InB w B b → lo ≤ a → a ≤ b.length → Calls Tryd.prog 59 #[.slice B b.length bc, .int .i64 a] w (BkS w b (kd true g (b.drop a)))
/-- What has been read of a list, strictly. -/
def KSt (f : List UInt8 → KGot) (n0 : Nat) (r0 : List UInt8) (m : Nat) (rest : List UInt8) (es : List VE) : Prop :=
  rest.length < m ∧ kdL true f n0 r0 = (kdL true f m rest).map fun p => (es.map VE.v ++ p.1, p.2)
theorem KSt.start (f : List UInt8 → KGot) (n0 : Nat) (r0 : List UInt8) (h : r0.length < n0) : KSt f n0 r0 n0 r0 [] := ⟨h, by cases kdL true f n0 r0 <;> rfl⟩
theorem KSt.nil {f : List UInt8 → KGot} {n0 : Nat} {r0 : List UInt8} {m : Nat} {es : List VE} (h : KSt f n0 r0 m [] es) : kdL true f n0 r0 = none := by
  obtain ⟨m, rfl⟩ : ∃ k, m = k + 1 := ⟨m - 1, by have := h.1; omega⟩
  rw [h.2]; rfl
theorem KSt.done {f : List UInt8 → KGot} {n0 : Nat} {r0 : List UInt8} {m : Nat} {y : UInt8} {r : List UInt8} {es : List VE} (h : KSt f n0 r0 m (y :: r) es) (hy : y = 0) : kdL true f n0 r0 = some (es.map VE.v, r) := by
  obtain ⟨m, rfl⟩ : ∃ k, m = k + 1 := ⟨m - 1, by have := h.1; omega⟩
  rw [h.2, kdL, if_pos hy]; simp
theorem KSt.odd {f : List UInt8 → KGot} {n0 : Nat} {r0 : List UInt8} {m : Nat} {y : UInt8} {r : List UInt8} {es : List VE} (h : KSt f n0 r0 m (y :: r) es) (hy : y ≠ 0) (hy1 : y ≠ 1) : kdL true f n0 r0 = none := by
  obtain ⟨m, rfl⟩ : ∃ k, m = k + 1 := ⟨m - 1, by have := h.1; omega⟩
  rw [h.2, kdL, if_neg hy, if_pos ⟨rfl, hy1⟩]; rfl
theorem KSt.fail {f : List UInt8 → KGot} {n0 : Nat} {r0 : List UInt8} {m : Nat} {y : UInt8} {r : List UInt8} {es : List VE} (h : KSt f n0 r0 m (y :: r) es) (hy : y = 1) (hf : f r = none) : kdL true f n0 r0 = none := by
  obtain ⟨m, rfl⟩ : ∃ k, m = k + 1 := ⟨m - 1, by have := h.1; omega⟩
  subst hy
  rw [h.2, kdL, if_neg (by decide), if_neg (by simp), hf]; rfl
theorem KSt.step {f : List UInt8 → KGot} {n0 : Nat} {r0 : List UInt8} {m : Nat} {y : UInt8} {r r' : List UInt8} {es : List VE} {x : VE} (h : KSt f n0 r0 m (y :: r) es) (hy : y = 1) (hf : f r = some (x.v, r')) (hl : r'.length ≤ r.length) : KSt f n0 r0 (m - 1) r' (es ++ [x]) := by
  obtain ⟨m, rfl⟩ : ∃ k, m = k + 1 := ⟨m - 1, by have := h.1; omega⟩
  subst hy
  refine ⟨by have := h.1; rw [List.length_cons] at this; omega, ?_⟩
  rw [h.2, kdL, if_neg (by decide), if_neg (by simp), hf]
  simp only [Nat.add_sub_cancel]
  cases kdL true f m r' <;> simp
theorem Src.oneV1 {w : World} {o : Obj} (c : Cv) (e : TypeId) : Src Tryd.prog 5 24 (.slice (some ⟨w.heap.size + 1, 0, none⟩) 1 1) 1 c.cells.toList ((w.alloc o).alloc (.cells c.cells e)) := by
  have h := Src.oneV (w := w.alloc o) c e
  rwa [show (w.alloc o).heap.size = w.heap.size + 1 by simp] at h
theorem drop_tail {b r : List UInt8} {k : Nat} (h : ∃ p : List UInt8, b.drop k = p ++ r) : r = b.drop (b.length - r.length) := by
  obtain ⟨p, e⟩ := h
  have hl := congrArg List.length e
  rw [List.length_drop, List.length_append] at hl
  by_cases hk : k ≤ b.length
  · rw [show b.length - r.length = k + p.length by omega, ← List.drop_drop, e, List.drop_left]
  · have hr : r.length = 0 := by omega
    have hr2 : r = [] := List.length_eq_zero_iff.1 hr
    subst hr2
    simp

set_option maxRecDepth 100000 in
set_option maxHeartbeats 1600000 in
theorem bk_96 (g a : Nat) (b : List UInt8) (B : Option Addr) (bc : Nat) (w : World) (hb : InB w B b) (hl : b.length ≤ 1000000000) (ha : a < b.length) (hc : b[a].toNat = 96) (hF : BkF g b B bc (a + 1)) : Calls Tryd.prog 59 #[.slice B b.length bc, .int .i64 a] w (BkS w b (kd true (g + 1) (b.drop a))) := by
  obtain ⟨bk, o, hBe, hbk, hcell⟩ := hb.at_ a ha
  subst hBe
  have HB := hide (hb.grow (F2_grow w Cv.zero))
  have hrc := (F2_blk w Cv.zero).cell
  have hrf := (F2_blk w Cv.zero).frozen
  have hnc := (Blk.new' (w := w.alloc (.cells Cv.zero.cells 27)) (g := w.heap.size + 1) (by simp) 27 Cv.zero.cells).cell
  have hcc := ((F2_grow w Cv.zero).below.cell (p := ⟨bk, o + a, none⟩) hbk).trans hcell
  have hbk2 : bk < w.heap.size + 1 + 1 := by omega
  obtain ⟨q, hq⟩ : ∃ q, a + 1 = q := ⟨_, rfl⟩
  have hw1 : IntKind.i64.wrap ((a : Int) + 1) = (q : Int) := by rw [IntWalk.i64_in _ (by omega)]; omega
  have hqa : a < q := by omega
  have hql : q ≤ b.length := by omega
  have hb0 := hb
  clear hcell hb
  rw [hc] at hcc
  have HC := hide hc
  clear hc
  have HKD := hide (show kd true (g + 1) (b.drop a) = (kdL true (kd true g) ((b.drop q).length + 1) (b.drop q)).map (fun p => (V.mk 7 0 [] p.1 [], p.2)) by rw [drop_kd g ha, kd_cons, if_neg (by rw [HC.out]; decide), if_neg (by rw [HC.out]; decide), if_neg (by rw [HC.out]; decide), if_neg (by rw [HC.out]; decide), if_neg (by rw [HC.out]; decide), if_pos HC.out, hq])
  obtain ⟨i0, hi0, hz0', hz1, hz2⟩ := info_parts info_val3
  have Hi0 := hide hi0
  have Hz0 := hide hz0'
  have Hz1 := hide hz1
  have Hz2 := hide hz2
  rw [hq] at hF
  have HF := hide hF
  have HB' := hide hb0
  clear hi0 hz0' hz1 hz2 hq hF hb0
  obtain ⟨W3, hW3⟩ : ∃ W, W = (((w.alloc (.cells #[.int .i64 0, .int .u64 0, .slice none 0 0, .slice none 0 0, .slice none 0 0] 27)).alloc (.cells #[.int .i64 0, .int .u64 0, .slice none 0 0, .slice none 0 0, .slice none 0 0] 27)).alloc (.cells #[.int .i64 7, .int .u64 0, .slice none 0 0, .slice none 0 0, .slice none 0 0] 27)) := ⟨_, rfl⟩
  have HG3 := hide (show Grow w W3 by rw [hW3]; exact (((Grow.refl w).alloc _).alloc _).alloc _)
  have HV6 := hide (show Blk W3 w.heap.size 27 #[.int .i64 0, .int .u64 0, .slice none 0 0, .slice none 0 0, .slice none 0 0] by rw [hW3]; exact ((Blk.new w _ _).alloc _).alloc _)
  have HV9 := hide (show Blk W3 (w.heap.size + 1) 27 #[.int .i64 0, .int .u64 0, .slice none 0 0, .slice none 0 0, .slice none 0 0] by rw [hW3]; exact (Blk.new' (by simp) _ _).alloc _)
  have HV10 := hide (show Blk W3 (w.heap.size + 1 + 1) 27 #[.int .i64 7, .int .u64 0, .slice none 0 0, .slice none 0 0, .slice none 0 0] by rw [hW3]; exact Blk.new' (by simp) _ _)
  have HW3 := hide hW3
  have hz3 : w.heap.size + 1 + 1 + 1 ≤ W3.heap.size := HV10.out.lt
  clear hW3
  have hna : ¬ b.length ≤ a := by omega
  go_enter Tryd.func59, Tryd.ntmps59
  go_wp2_with fail
  rw [← HW3.out]
  clear hcc hrc hrf hnc hbk2
  go_loopg [1] (b.length + 1 - q) (fun gk at' wr => ∃ (pos m : Nat) (es : List VE) (A : Option Addr) (cap : Nat), q ≤ pos ∧ pos ≤ b.length ∧ gk = b.length + 1 - pos ∧ at' = .int .i64 pos ∧ es.length ≤ pos ∧ KSt (kd true g) ((b.drop q).length + 1) (b.drop q) m (b.drop pos) es ∧
    VRow wr 27 noHead 5 w.heap.size (w.heap.size + 1 + 1) (w.heap.size + 1 + 1 + 1) (.slice A es.length cap) es ∧ Grow w wr ∧ Blk wr w.heap.size 27 #[.int .i64 0, .int .u64 0, .slice none 0 0, .slice none 0 0, .slice none 0 0] ∧ Blk wr (w.heap.size + 1) 27 #[.int .i64 0, .int .u64 0, .slice none 0 0, .slice none 0 0, .slice none 0 0] ∧ Blk wr (w.heap.size + 1 + 1) 27 #[.int .i64 7, .int .u64 0, .slice none 0 0, .slice A es.length cap, .slice none 0 0] ∧ w.heap.size + 1 + 1 + 1 ≤ wr.heap.size)
  case atStart => exact ⟨q, (b.drop q).length + 1, [], none, 0, Nat.le_refl _, hql, rfl, rfl, Nat.zero_le _, KSt.start _ _ _ (by omega), ⟨World.ownsRow_nil _ _ _ _, fun x hx => by simp at hx, fun i j hi => by simp at hi⟩, HG3.out, HV6.out, HV9.out, HV10.out, hz3⟩
  case round =>
    obtain ⟨pos, m, es, A', cap', hqp, hpos, rfl, rfl, hel, hsf, hv, hgr, h6, h9, h10, hbz⟩ := hrel
    have HV := hide hv
    have HG := hide hgr
    have H6 := hide h6
    have H9 := hide h9
    have H10 := hide h10
    have HSF := hide hsf
    have hc9 := h9.cell
    have hc10 := h10.cell
    have hc6 := h6.cell
    have hf6 := h6.frozen
    have hf10 := h10.frozen
    have h10l := h10.lt
    have h6l := h6.lt
    have hgz := hgr.size
    clear hv hgr h6 h9 h10 hsf HG3 HV6 HV9 HV10 hz3
    by_cases hpl : pos < b.length
    · have hs : b.drop pos = b[pos] :: b.drop (pos + 1) := List.drop_eq_getElem_cons hpl
      have hcp := at_b (HB'.out.grow HG.out) pos hpl
      obtain ⟨y, hy⟩ : ∃ y, b[pos] = y := ⟨_, rfl⟩
      rw [hy] at hs hcp
      rw [hs] at HSF
      have hyl := y.toNat_lt
      clear hy hs
      by_cases hy1 : y = 1
      · have hyn : ((y.toNat : Int) == 1) = true := by subst hy1; rfl
        have HY := hide hy1
        clear hy1
        obtain ⟨p1, hp1⟩ : ∃ p1, pos + 1 = p1 := ⟨_, rfl⟩
        have hpp : (pos : Int) + 1 = (p1 : Int) := by omega
        rw [hp1] at HSF
        have hp1l : p1 ≤ b.length := by omega
        have hpos1 : pos < p1 := by omega
        have hpos2 : p1 ≤ pos + 1 := by omega
        have hcall := HF.out wr p1 (HB'.out.grow HG.out) (by omega) hp1l
        clear hp1
        cases hfx : kd true g (b.drop p1) with
        | none =>
          have HN := hide (show kd true (g + 1) (b.drop a) = none by rw [HKD.out, HSF.out.fail HY.out hfx]; rfl)
          have HC := hide hcall
          have HFX := hide hfx
          clear hcall hfx
          go_wp2_with fail
          refine HC.out.mono ?_
          rintro e w2 hc2
          obtain ⟨c, z, rfl, hg2⟩ := hc2.2 HFX.out
          have h9' := H9.out.grow hg2
          have h6' := H6.out.grow hg2
          have h9l := h9'.lt
          have h6l := h6'.lt
          have hd9 := (h9'.alloc (.cells Cv.zero.cells 27)).cell
          have hd6 := (h6'.alloc (.cells Cv.zero.cells 27)).cell
          have he6 := (h6'.alloc (.cells Cv.zero.cells 27)).frozen
          have hd9b := (h9'.alloc (.cells c.cells 27)).cell
          have hd6b := (h6'.alloc (.cells c.cells 27)).cell
          have he6b := (h6'.alloc (.cells c.cells 27)).frozen
          have hd6w := h6'.cell
          have he6w := h6'.frozen
          have H6' := hide h6'
          have HG2 := hide (HG.out.trans hg2)
          clear h9' h6' hg2 hc9 hc10 hc6 hf6 hf10 hc2
          go_wp2_with fail
          exact bk_no Cv.zero HN.out rfl rfl rfl ((set5_from (c := Cv.zero) H6'.out).alloc _) ((HG2.out.set5v (Nat.le_refl _) Cv.zero).alloc _)
        | some xr =>
          obtain ⟨xv, r'⟩ := xr
          have hrl : r'.length ≤ (b.drop p1).length := by
            obtain ⟨⟨p, e, _⟩, _⟩ := kd_tail _ _ _ _ _ hfx
            have := congrArg List.length e
            rw [List.length_append] at this; omega
          have hrd : r' = b.drop (b.length - r'.length) := by
            obtain ⟨⟨p, e, _⟩, _⟩ := kd_tail _ _ _ _ _ hfx
            exact drop_tail ⟨p, e⟩
          have hst := hide (fun c lo hi => HSF.out.step (x := VE.mk ⟨#[]⟩ xv c lo hi) HY.out hfx hrl)
          have HC := hide hcall
          have HFX := hide hfx
          rw [List.length_drop] at hrl
          clear hcall hfx
          go_wp2_with fail
          refine HC.out.mono ?_
          rintro e w2 hc2
          obtain ⟨c, hrb, rfl, hx2, hg2⟩ := hc2.1 _ _ HFX.out
          obtain ⟨p2, hp2⟩ : ∃ p2, b.length - r'.length = p2 := ⟨_, rfl⟩
          rw [hp2] at hrd ⊢
          rw [hrd] at hst
          have hp2a : p1 ≤ p2 := by omega
          have hp2b : p2 ≤ b.length := by omega
          have HX2 := hide hx2
          have h9' := H9.out.grow hg2
          have h6' := H6.out.grow hg2
          have h10' := H10.out.grow hg2
          have h10l' := h10'.lt
          have hd10 := (h10'.alloc (.cells c.cells 27)).cell
          have he10 := (h10'.alloc (.cells c.cells 27)).frozen
          have hd10b := ((h10'.alloc (.cells c.cells 27)).alloc (.cells c.cells 27)).cell
          have H6' := hide h6'
          have H9' := hide h9'
          have H10' := hide h10'
          have HG2 := hide (HG.out.trans hg2)
          have hz2 := hg2.size
          have HV2 := hide (HV.out.grow hg2)
          have hown2 := HV2.out.own
          clear h9' h6' h10' hg2 hx2 hrd hp2 hrb hrl hc9 hc10 hc6 hf6 hf10 hc2
          go_wp2_with (first | (at_builtin; refine wpList_append_src rfl (.tmp 201) (.tmp 203) 24 24 rfl (w.heap.size + 1 + 1 + 1) 27 i0 _ 5 88 under_vals Hi0.out Hz0.out Hz1.out Hz2.out rfl (.slice A' es.length cap') es.length (cellsOf noHead es) rfl ((hown2.alloc _).alloc _) _ 1 c.cells.toList rfl (Src.oneV1 c _) (by omega) (by simp only [maxLen]; omega) (by simp; omega) ?_; intro A3 c3 w3 hown3 hgr3 hat3; have hB3 := Blk.own ((H10'.out.alloc _).alloc _) hgr3 (fun k hk => by have := (HV2.out.own_lt hk).1; omega); have hc3 := hB3.cell; have hf3 := hB3.frozen; have HV4 := hide (VRow.set (VRow.add (s := ⟨#[]⟩) (m0 := wr.heap.size) (HV2.out.grow ((Grow.refl w2).alloc (.cells c.cells 27))) (fun k hk => (HV.out.own_lt hk).2) h10l (by omega) (fun y hy => (HV.out.part y hy).2.2.2.1) ((HX2.out.grow ((Grow.refl w2).alloc (.cells c.cells 27))).wider (Nat.le_refl _) (by simp) (Nat.le_refl _)) hown3 hgr3 hat3) (by omega) 3 (.slice A3 (es.length + 1) c3)); have H104 := hide (hB3.set_ 3 (.slice A3 (es.length + 1) c3)); have H64 := hide (Blk.far (Blk.own ((H6'.out.alloc _).alloc _) hgr3 (fun k hk => by have := (HV2.out.own_lt hk).1; omega)) (p := ⟨w.heap.size + 1 + 1, 3, none⟩) (by simp; omega) (.slice A3 (es.length + 1) c3)); have H94 := hide (Blk.far (Blk.own ((H9'.out.alloc _).alloc _) hgr3 (fun k hk => by have := (HV2.out.own_lt hk).1; omega)) (p := ⟨w.heap.size + 1 + 1, 3, none⟩) (by simp) (.slice A3 (es.length + 1) c3)); have HG4 := hide ((((HG2.out.alloc _).alloc _).grown hgr3 (fun k hk => by have := (HV2.out.own_lt hk).1; omega)).setCell (p := ⟨w.heap.size + 1 + 1, 3, none⟩) (by simp; omega) (.slice A3 (es.length + 1) c3)); have hz4 : w.heap.size + 1 + 1 + 1 ≤ (w3.setCell ⟨w.heap.size + 1 + 1, 3, none⟩ (.slice A3 (es.length + 1) c3)).heap.size := by (have := hgr3.size; simp [World.setCell] at this ⊢; omega)))
          go_roundg (b.length + 1 - p2)
          case measure => omega
          case rel => exact ⟨p2, m - 1, es ++ [VE.mk ⟨#[]⟩ xv c wr.heap.size (w2.alloc (.cells c.cells 27)).heap.size], A3, c3, by omega, hp2b, rfl, rfl, by simp only [List.length_append, List.length_cons, List.length_nil]; omega, hst.out _ _ _, by simpa using HV4.out, HG4.out, H64.out, H94.out, by simpa using H104.out, hz4⟩
      · have hyn : ((y.toNat : Int) == 1) = false := by
          have : y.toNat ≠ 1 := fun e => hy1 (UInt8.toNat_inj.1 e)
          simp; omega
        by_cases hy0 : y = 0
        · have hyz : ((y.toNat : Int) != 0) = false := by subst hy0; rfl
          have HN := hide (show kd true (g + 1) (b.drop a) = some (V.mk 7 0 [] (es.map VE.v) [], b.drop (pos + 1)) by rw [HKD.out, HSF.out.done hy0]; rfl)
          clear hy0 hy1
          go_wp2_with fail
          exact bk_yes (k := pos + 1) ⟨7, 0, none, 0, 0, A', es.length, cap', none, 0, 0⟩ (by omega) HN.out rfl rfl rfl (set5_from (c := ⟨7, 0, none, 0, 0, A', es.length, cap', none, 0, 0⟩) H6.out) (HG.out.set5v (Nat.le_refl _) ⟨7, 0, none, 0, 0, A', es.length, cap', none, 0, 0⟩) (list_isS HV.out rfl (by omega) (by omega) (by omega))
        · have hyz : ((y.toNat : Int) != 0) = true := by
            have : y.toNat ≠ 0 := fun e => hy0 (UInt8.toNat_inj.1 e)
            simp; omega
          have HN := hide (show kd true (g + 1) (b.drop a) = none by rw [HKD.out, HSF.out.odd hy0 hy1]; rfl)
          clear hy0 hy1
          go_wp2_with fail
          exact bk_no Cv.zero HN.out rfl rfl rfl (set5_from (c := Cv.zero) H6.out) (HG.out.set5v (Nat.le_refl _) Cv.zero)
    · rw [List.drop_eq_nil_of_le (show b.length ≤ pos by omega)] at HSF
      have HN := hide (show kd true (g + 1) (b.drop a) = none by rw [HKD.out, HSF.out.nil]; rfl)
      go_wp2_with fail
      exact bk_no Cv.zero HN.out rfl rfl rfl (set5_from (c := Cv.zero) H6.out) (HG.out.set5v (Nat.le_refl _) Cv.zero)
end Go.Proofs.YtpjhhkndfmcaoaaDoor

set_option linter.unusedVariables false
set_option linter.unusedSimpArgs false
namespace Go.Proofs.YtpjhhkndfmcaoaaDoor
open Go.RowKit Go.Shelf Go.WideShapes

/-- What has been read of a document, strictly. -/
def KStF (f : List UInt8 → KGot) (n0 : Nat) (r0 : List UInt8) (m : Nat) (rest : List UInt8) (es : List VE) : Prop :=
  rest.length < m ∧ kdF true f n0 r0 = (kdF true f m rest).map fun p => ((es.map fun x => (x.s, x.v)) ++ p.1, p.2)
theorem KStF.start (f : List UInt8 → KGot) (n0 : Nat) (r0 : List UInt8) (h : r0.length < n0) : KStF f n0 r0 n0 r0 [] := ⟨h, by cases kdF true f n0 r0 <;> rfl⟩
section
variable {f : List UInt8 → KGot} {n0 : Nat} {r0 : List UInt8} {m : Nat} {es : List VE} {y : UInt8} {r : List UInt8}
theorem KStF.pos {rest : List UInt8} (h : KStF f n0 r0 m rest es) : ∃ k, m = k + 1 := ⟨m - 1, by have := h.1; omega⟩
theorem KStF.nil (h : KStF f n0 r0 m [] es) : kdF true f n0 r0 = none := by
  obtain ⟨m, rfl⟩ := h.pos
  rw [h.2]; rfl
theorem KStF.done (h : KStF f n0 r0 m (y :: r) es) (hy : y = 0) : kdF true f n0 r0 = some (es.map (fun x => (x.s, x.v)), r) := by
  obtain ⟨m, rfl⟩ := h.pos
  rw [h.2, kdF, if_pos hy]; simp
theorem KStF.odd (h : KStF f n0 r0 m (y :: r) es) (hy : y ≠ 0) (hy1 : y ≠ 1) : kdF true f n0 r0 = none := by
  obtain ⟨m, rfl⟩ := h.pos
  rw [h.2, kdF, if_neg hy, if_pos ⟨rfl, hy1⟩]; rfl
theorem KStF.noname (h : KStF f n0 r0 m (y :: r) es) (hy : y = 1) (hf : unesc true r = none) : kdF true f n0 r0 = none := by
  obtain ⟨m, rfl⟩ := h.pos
  subst hy
  rw [h.2, kdF, if_neg (by decide), if_neg (by simp), hf]; rfl
theorem KStF.fail {b q : List UInt8} (h : KStF f n0 r0 m (y :: r) es) (hy : y = 1) (hn : unesc true r = some (b, q)) (hf : f q = none) : kdF true f n0 r0 = none := by
  obtain ⟨m, rfl⟩ := h.pos
  subst hy
  rw [h.2, kdF, if_neg (by decide), if_neg (by simp), hn]
  simp only [hf]; rfl
theorem KStF.step {b q r' : List UInt8} {x : VE} (h : KStF f n0 r0 m (y :: r) es) (hy : y = 1) (hn : unesc true r = some (b, q)) (hs : x.s = ⟨b.toArray⟩) (hf : f q = some (x.v, r')) (hl : r'.length ≤ r.length) : KStF f n0 r0 (m - 1) r' (es ++ [x]) := by
  obtain ⟨m, rfl⟩ := h.pos
  subst hy
  refine ⟨by have := h.1; rw [List.length_cons] at this; omega, ?_⟩
  rw [h.2, kdF, if_neg (by decide), if_neg (by simp), hn]
  simp only [hf, Nat.add_sub_cancel, ← hs]
  cases kdF true f m r' <;> simp
end
theorem Src.oneF1 {w : World} {o : Obj} (s : ByteArray) (c : Cv) (e : TypeId) : Src Tryd.prog 6 25 (.slice (some ⟨w.heap.size + 1, 0, none⟩) 1 1) 1 (nameHead s ++ c.cells.toList) ((w.alloc o).alloc (.cells (c.fcells s) e)) := by
  have h := Src.oneF (w := w.alloc o) s c e
  rwa [show (w.alloc o).heap.size = w.heap.size + 1 by simp] at h
theorem doc_isS {W : World} {g0 base : Nat} {n cap : Nat} {A : Option Addr} {es : List VE} {vb : Nat} (h : VRow W 77 nameHead 6 g0 vb base (.slice A n cap) es) (hs : ∀ x ∈ es, x.s.size ≤ 140737488355328) (hn : n = es.length) (h1 : g0 < vb) (h2 : vb < base) (h64 : n ≤ 140737488355328) :
    IsS (CF (set5 W g0 ⟨8, 0, none, 0, 0, none, 0, 0, A, n, cap⟩)) (.mk 8 0 [] [] (es.map fun x => (x.s, x.v))) ⟨8, 0, none, 0, 0, none, 0, 0, A, n, cap⟩ (fun q => g0 ≤ q ∧ q < (set5 W g0 ⟨8, 0, none, 0, 0, none, 0, 0, A, n, cap⟩).heap.size) := by
  have hv := (h.lower (vb' := g0) (by omega)).isFK hs hn (by omega) (by omega) h64
  exact IsS.mono _ _ _ _ (fun p u h s => h.1.block ((set5_grown W g0 ⟨8, 0, none, 0, 0, none, 0, 0, A, n, cap⟩).block _ s.2 (fun e => h.2 (by injection e)))) (fun q h => ⟨h.1, by rw [set5_size]; exact h.2⟩) hv

set_option maxRecDepth 100000 in
set_option maxHeartbeats 6400000 in
theorem bk_112 (g a : Nat) (b : List UInt8) (B : Option Addr) (bc : Nat) (w : World) (hb : InB w B b) (hl : b.length ≤ 1000000000) (ha : a < b.length) (hc : b[a].toNat = 112) (hF : BkF g b B bc (a + 1)) : Calls Tryd.prog 59 #[.slice B b.length bc, .int .i64 a] w (BkS w b (kd true (g + 1) (b.drop a))) := by
  obtain ⟨bk, o, hBe, hbk, hcell⟩ := hb.at_ a ha
  subst hBe
  have HB := hide (hb.grow (F2_grow w Cv.zero))
  have hrc := (F2_blk w Cv.zero).cell
  have hrf := (F2_blk w Cv.zero).frozen
  have hnc := (Blk.new' (w := w.alloc (.cells Cv.zero.cells 27)) (g := w.heap.size + 1) (by simp) 27 Cv.zero.cells).cell
  have hcc := ((F2_grow w Cv.zero).below.cell (p := ⟨bk, o + a, none⟩) hbk).trans hcell
  have hbk2 : bk < w.heap.size + 1 + 1 := by omega
  obtain ⟨q, hq⟩ : ∃ q, a + 1 = q := ⟨_, rfl⟩
  have hw1 : IntKind.i64.wrap ((a : Int) + 1) = (q : Int) := by rw [IntWalk.i64_in _ (by omega)]; omega
  have hqa : a < q := by omega
  have hql : q ≤ b.length := by omega
  have hb0 := hb
  clear hcell hb
  rw [hc] at hcc
  have HC := hide hc
  clear hc
  have HKD := hide (show kd true (g + 1) (b.drop a) = (kdF true (kd true g) ((b.drop q).length + 1) (b.drop q)).map (fun p => (V.mk 8 0 [] [] p.1, p.2)) by rw [drop_kd g ha, kd_cons, if_neg (by rw [HC.out]; decide), if_neg (by rw [HC.out]; decide), if_neg (by rw [HC.out]; decide), if_neg (by rw [HC.out]; decide), if_neg (by rw [HC.out]; decide), if_neg (by rw [HC.out]; decide), if_pos HC.out, hq])
  obtain ⟨i0, hi0, hz0', hz1, hz2⟩ := info_parts info_fld3
  have Hi0 := hide hi0
  have Hz0 := hide hz0'
  have Hz1 := hide hz1
  have Hz2 := hide hz2
  rw [hq] at hF
  have HF := hide hF
  have HB' := hide hb0
  clear hi0 hz0' hz1 hz2 hq hF hb0
  obtain ⟨W3, hW3⟩ : ∃ W, W = (((w.alloc (.cells #[.int .i64 0, .int .u64 0, .slice none 0 0, .slice none 0 0, .slice none 0 0] 27)).alloc (.cells #[.int .i64 0, .int .u64 0, .slice none 0 0, .slice none 0 0, .slice none 0 0] 27)).alloc (.cells #[.int .i64 8, .int .u64 0, .slice none 0 0, .slice none 0 0, .slice none 0 0] 27)) := ⟨_, rfl⟩
  have HG3 := hide (show Grow w W3 by rw [hW3]; exact (((Grow.refl w).alloc _).alloc _).alloc _)
  have HV6 := hide (show Blk W3 w.heap.size 27 #[.int .i64 0, .int .u64 0, .slice none 0 0, .slice none 0 0, .slice none 0 0] by rw [hW3]; exact ((Blk.new w _ _).alloc _).alloc _)
  have HV9 := hide (show Blk W3 (w.heap.size + 1) 27 #[.int .i64 0, .int .u64 0, .slice none 0 0, .slice none 0 0, .slice none 0 0] by rw [hW3]; exact (Blk.new' (by simp) _ _).alloc _)
  have HV10 := hide (show Blk W3 (w.heap.size + 1 + 1) 27 #[.int .i64 8, .int .u64 0, .slice none 0 0, .slice none 0 0, .slice none 0 0] by rw [hW3]; exact Blk.new' (by simp) _ _)
  have HW3 := hide hW3
  have hz3 : w.heap.size + 1 + 1 + 1 ≤ W3.heap.size := HV10.out.lt
  clear hW3
  have hna : ¬ b.length ≤ a := by omega
  go_enter Tryd.func59, Tryd.ntmps59
  go_wp2_with fail
  rw [← HW3.out]
  clear hcc hrc hrf hnc hbk2
  go_loopg [1] (b.length + 1 - q) (fun gk at' wr => ∃ (pos m : Nat) (es : List VE) (A : Option Addr) (cap : Nat), q ≤ pos ∧ pos ≤ b.length ∧ gk = b.length + 1 - pos ∧ at' = .int .i64 pos ∧ es.length ≤ pos ∧ KStF (kd true g) ((b.drop q).length + 1) (b.drop q) m (b.drop pos) es ∧
    VRow wr 77 nameHead 6 w.heap.size (w.heap.size + 1 + 1) (w.heap.size + 1 + 1 + 1) (.slice A es.length cap) es ∧ (∀ x ∈ es, x.s.size ≤ 140737488355328) ∧ Grow w wr ∧ Blk wr w.heap.size 27 #[.int .i64 0, .int .u64 0, .slice none 0 0, .slice none 0 0, .slice none 0 0] ∧ Blk wr (w.heap.size + 1) 27 #[.int .i64 0, .int .u64 0, .slice none 0 0, .slice none 0 0, .slice none 0 0] ∧ Blk wr (w.heap.size + 1 + 1) 27 #[.int .i64 8, .int .u64 0, .slice none 0 0, .slice none 0 0, .slice A es.length cap] ∧ w.heap.size + 1 + 1 + 1 ≤ wr.heap.size)
  case atStart => exact ⟨q, (b.drop q).length + 1, [], none, 0, Nat.le_refl _, hql, rfl, rfl, Nat.zero_le _, KStF.start _ _ _ (by omega), ⟨World.ownsRow_nil _ _ _ _, fun x hx => by simp at hx, fun i j hi => by simp at hi⟩, fun x hx => by simp at hx, HG3.out, HV6.out, HV9.out, HV10.out, hz3⟩
  case round =>
    obtain ⟨pos, m, es, A', cap', hqp, hpos, rfl, rfl, hel, hsf, hv, hsz, hgr, h6, h9, h10, hbz⟩ := hrel
    have HV := hide hv
    have HSZ := hide hsz
    have HG := hide hgr
    have H6 := hide h6
    have H9 := hide h9
    have H10 := hide h10
    have HSF := hide hsf
    have hc9 := h9.cell
    have hc10 := h10.cell
    have hc6 := h6.cell
    have hf6 := h6.frozen
    have hf10 := h10.frozen
    have h10l := h10.lt
    have h6l := h6.lt
    have hgz := hgr.size
    clear hv hsz hgr h6 h9 h10 hsf HG3 HV6 HV9 HV10 hz3
    by_cases hpl : pos < b.length
    · have hs : b.drop pos = b[pos] :: b.drop (pos + 1) := List.drop_eq_getElem_cons hpl
      have hcp := at_b (HB'.out.grow HG.out) pos hpl
      obtain ⟨y, hy⟩ : ∃ y, b[pos] = y := ⟨_, rfl⟩
      rw [hy] at hs hcp
      rw [hs] at HSF
      have hyl := y.toNat_lt
      clear hy hs
      by_cases hy1 : y = 1
      · have hyn : ((y.toNat : Int) == 1) = true := by subst hy1; rfl
        have HY := hide hy1
        clear hy1
        obtain ⟨p1, hp1⟩ : ∃ p1, pos + 1 = p1 := ⟨_, rfl⟩
        have hpp : (pos : Int) + 1 = (p1 : Int) := by omega
        rw [hp1] at HSF
        have hp1l : p1 ≤ b.length := by omega
        have hpos1 : pos < p1 := by omega
        have hpos2 : p1 ≤ pos + 1 := by omega
        have hcall0 := hide (untext_any b p1 _ bc wr (HB'.out.grow HG.out) (by omega) hp1l)
        clear hp1
        cases hun : unesc true (b.drop p1) with
        | none =>
          have HN := hide (show kd true (g + 1) (b.drop a) = none by rw [HKD.out, HSF.out.noname HY.out hun]; rfl)
          have HUN := hide hun
          clear hun
          go_wp2_with fail
          refine hcall0.out.mono ?_
          rintro e w2 hc2
          obtain ⟨A1, n1, c1, z, rfl, hg2⟩ := hc2.2 HUN.out
          have h9' := H9.out.grow hg2
          have h6' := H6.out.grow hg2
          have h9l := h9'.lt
          have h6l := h6'.lt
          have hd9 := h9'.cell
          have hd6w := h6'.cell
          have he6w := h6'.frozen
          have H6' := hide h6'
          have HG2 := hide (HG.out.trans hg2)
          clear h9' h6' hg2 hc9 hc10 hc6 hf6 hf10 hc2
          go_wp2_with fail
          exact bk_no Cv.zero HN.out rfl rfl rfl (set5_from (c := Cv.zero) H6'.out) (HG2.out.set5v (Nat.le_refl _) Cv.zero)
        | some pr =>
          obtain ⟨xs, r1⟩ := pr
          have hrl1 : r1.length ≤ (b.drop p1).length ∧ xs.length ≤ (b.drop p1).length := by
            obtain ⟨p, e, h1, h2⟩ := unesc_tail _ _ _ _ hun
            have := congrArg List.length e
            rw [List.length_append] at this; omega
          have hrd1 : r1 = b.drop (b.length - r1.length) := by
            obtain ⟨p, e, _⟩ := unesc_tail _ _ _ _ hun
            exact drop_tail ⟨p, e⟩
          rw [List.length_drop] at hrl1
          have HUN := hide hun
          clear hun
          go_wp2_with fail
          refine hcall0.out.mono ?_
          rintro e w2 hc2
          obtain ⟨A1, c1, hrb1, rfl, hrow, hg2⟩ := hc2.1 _ _ HUN.out
          obtain ⟨e1, he1⟩ : ∃ e1, b.length - r1.length = e1 := ⟨_, rfl⟩
          rw [he1] at hrd1 ⊢
          have he1a : p1 ≤ e1 := by omega
          have he1b : e1 ≤ b.length := by omega
          have hxl : xs.length ≤ b.length := by omega
          have hcs := conv_str c1 hrow.reads.1
          obtain ⟨nx, hnx⟩ : ∃ nx, xs.length = nx := ⟨_, rfl⟩
          rw [hnx] at hcs ⊢
          rw [hrd1] at HUN
          have hss : (⟨xs.toArray⟩ : ByteArray).size ≤ 140737488355328 := by
            show xs.toArray.size ≤ _
            rw [List.size_toArray]; omega
          have HSS := hide hss
          have HG2 := hide (HG.out.trans hg2)
          have HV2 := hide (HV.out.grow hg2)
          have H62 := hide (H6.out.grow hg2)
          have H92 := hide (H9.out.grow hg2)
          have h10' := H10.out.grow hg2
          have H102 := hide h10'
          have hl10 := h10'.lt
          have hz2 := hg2.size
          have hcall := HF.out w2 e1 (HB'.out.grow HG2.out) (by omega) he1b
          clear hc2 hrow hg2 hrd1 he1 hnx hss h10' hrl1 hrb1 hc9 hc10 hc6 hf6 hf10 hxl
          cases hfx : kd true g (b.drop e1) with
          | none =>
            have HN := hide (show kd true (g + 1) (b.drop a) = none by rw [HKD.out, HSF.out.fail HY.out HUN.out hfx]; rfl)
            have HC := hide hcall
            have HFX := hide hfx
            clear hcall hfx
            go_wp2_with fail
            refine HC.out.mono ?_
            rintro e w3 hc3
            obtain ⟨c, z, rfl, hg3⟩ := hc3.2 HFX.out
            have h9' := H92.out.grow hg3
            have h6' := H62.out.grow hg3
            have h9l := h9'.lt
            have h6l := h6'.lt
            have hd9 := (h9'.alloc (.cells Cv.zero.cells 27)).cell
            have hd6 := (h6'.alloc (.cells Cv.zero.cells 27)).cell
            have he6 := (h6'.alloc (.cells Cv.zero.cells 27)).frozen
            have hd9b := (h9'.alloc (.cells c.cells 27)).cell
            have hd6b := (h6'.alloc (.cells c.cells 27)).cell
            have he6b := (h6'.alloc (.cells c.cells 27)).frozen
            have hd6w := h6'.cell
            have he6w := h6'.frozen
            have H6' := hide h6'
            have HG3 := hide (HG2.out.trans hg3)
            clear h9' h6' hg3 hc3
            go_wp2_with fail
            exact bk_no Cv.zero HN.out rfl rfl rfl ((set5_from (c := Cv.zero) H6'.out).alloc _) ((HG3.out.set5v (Nat.le_refl _) Cv.zero).alloc _)
          | some xr =>
            obtain ⟨xv, r'⟩ := xr
            have hrl : r'.length ≤ (b.drop e1).length := by
              obtain ⟨⟨p, e, _⟩, _⟩ := kd_tail _ _ _ _ _ hfx
              have := congrArg List.length e
              rw [List.length_append] at this; omega
            have hrd : r' = b.drop (b.length - r'.length) := by
              obtain ⟨⟨p, e, _⟩, _⟩ := kd_tail _ _ _ _ _ hfx
              exact drop_tail ⟨p, e⟩
            have hst := hide (fun c lo hi => HSF.out.step (x := VE.mk ⟨xs.toArray⟩ xv c lo hi) HY.out HUN.out rfl hfx (by rw [List.length_drop] at hrl ⊢; omega))
            have HC := hide hcall
            have HFX := hide hfx
            rw [List.length_drop] at hrl
            clear hcall hfx
            go_wp2_with fail
            refine HC.out.mono ?_
            rintro e w3 hc3
            obtain ⟨c, hrb, rfl, hx2, hg3⟩ := hc3.1 _ _ HFX.out
            obtain ⟨p2, hp2⟩ : ∃ p2, b.length - r'.length = p2 := ⟨_, rfl⟩
            rw [hp2] at hrd ⊢
            rw [hrd] at hst
            have hp2a : e1 ≤ p2 := by omega
            have hp2b : p2 ≤ b.length := by omega
            have HX2 := hide hx2
            have h10' := H102.out.grow hg3
            have h10l' := h10'.lt
            have hd10 := (h10'.alloc (.cells c.cells 27)).cell
            have he10 := (h10'.alloc (.cells c.cells 27)).frozen
            have hd10b := ((h10'.alloc (.cells c.cells 27)).alloc (.cells (c.fcells ⟨xs.toArray⟩) 77)).cell
            have H6' := hide (H62.out.grow hg3)
            have H9' := hide (H92.out.grow hg3)
            have H10' := hide h10'
            have HG3 := hide (HG2.out.trans hg3)
            have hz3' := hg3.size
            have HV3 := hide (HV2.out.grow hg3)
            have hown2 := HV3.out.own
            clear h10' hg3 hx2 hrd hp2 hrb hrl hc3
            go_wp2_with (first | (at_builtin; refine wpList_append_src rfl (.tmp 193) (.tmp 197) 25 25 rfl (w.heap.size + 1 + 1 + 1) 77 i0 _ 6 104 under_flds Hi0.out Hz0.out Hz1.out Hz2.out rfl (.slice A' es.length cap') es.length (cellsOf nameHead es) rfl ((hown2.alloc _).alloc _) _ 1 (nameHead ⟨xs.toArray⟩ ++ c.cells.toList) rfl (Src.oneF1 ⟨xs.toArray⟩ c _) (by omega) (by simp only [maxLen]; omega) (by simp; omega) ?_; intro A3 c3 w4 hown3 hgr3 hat3; have hB3 := Blk.own ((H10'.out.alloc _).alloc _) hgr3 (fun k hk => by have := (HV3.out.own_lt hk).1; omega); have hc3 := hB3.cell; have hf3 := hB3.frozen; have HV4 := hide (VRow.set (VRow.add (s := ⟨xs.toArray⟩) (m0 := w2.heap.size) (HV3.out.grow ((Grow.refl w3).alloc (.cells c.cells 27))) (fun k hk => (HV2.out.own_lt hk).2) hl10 (by omega) (fun y hy => (HV2.out.part y hy).2.2.2.1) ((HX2.out.grow ((Grow.refl w3).alloc (.cells c.cells 27))).wider (Nat.le_refl _) (by simp) (Nat.le_refl _)) hown3 hgr3 hat3) (by omega) 4 (.slice A3 (es.length + 1) c3)); have H104 := hide (hB3.set_ 4 (.slice A3 (es.length + 1) c3)); have H64 := hide (Blk.far (Blk.own ((H6'.out.alloc _).alloc _) hgr3 (fun k hk => by have := (HV3.out.own_lt hk).1; omega)) (p := ⟨w.heap.size + 1 + 1, 4, none⟩) (by simp; omega) (.slice A3 (es.length + 1) c3)); have H94 := hide (Blk.far (Blk.own ((H9'.out.alloc _).alloc _) hgr3 (fun k hk => by have := (HV3.out.own_lt hk).1; omega)) (p := ⟨w.heap.size + 1 + 1, 4, none⟩) (by simp) (.slice A3 (es.length + 1) c3)); have HG4 := hide ((((HG3.out.alloc _).alloc _).grown hgr3 (fun k hk => by have := (HV3.out.own_lt hk).1; omega)).setCell (p := ⟨w.heap.size + 1 + 1, 4, none⟩) (by simp; omega) (.slice A3 (es.length + 1) c3)); have hz4 : w.heap.size + 1 + 1 + 1 ≤ (w4.setCell ⟨w.heap.size + 1 + 1, 4, none⟩ (.slice A3 (es.length + 1) c3)).heap.size := by (have := hgr3.size; simp [World.setCell] at this ⊢; omega)))
            go_roundg (b.length + 1 - p2)
            case measure => omega
            case rel =>
              have hsd : ∀ x ∈ es ++ [VE.mk ⟨xs.toArray⟩ xv c w2.heap.size (w3.alloc (.cells c.cells 27)).heap.size], x.s.size ≤ 140737488355328 := fun x hx => by
                rcases List.mem_append.1 hx with hx | hx
                · exact HSZ.out x hx
                · rw [List.mem_singleton] at hx
                  subst hx
                  exact HSS.out
              exact ⟨p2, m - 1, es ++ [VE.mk ⟨xs.toArray⟩ xv c w2.heap.size (w3.alloc (.cells c.cells 27)).heap.size], A3, c3, by omega, hp2b, rfl, rfl, by simp only [List.length_append, List.length_cons, List.length_nil]; omega, hst.out _ _ _, by simpa using HV4.out, hsd, HG4.out, H64.out, H94.out, by simpa using H104.out, hz4⟩
      · have hyn : ((y.toNat : Int) == 1) = false := by
          have : y.toNat ≠ 1 := fun e => hy1 (UInt8.toNat_inj.1 e)
          simp; omega
        by_cases hy0 : y = 0
        · have hyz : ((y.toNat : Int) != 0) = false := by subst hy0; rfl
          have HN := hide (show kd true (g + 1) (b.drop a) = some (V.mk 8 0 [] [] (es.map fun x => (x.s, x.v)), b.drop (pos + 1)) by rw [HKD.out, HSF.out.done hy0]; rfl)
          clear hy0 hy1
          go_wp2_with fail
          exact bk_yes (k := pos + 1) ⟨8, 0, none, 0, 0, none, 0, 0, A', es.length, cap'⟩ (by omega) HN.out rfl rfl rfl (set5_from (c := ⟨8, 0, none, 0, 0, none, 0, 0, A', es.length, cap'⟩) H6.out) (HG.out.set5v (Nat.le_refl _) ⟨8, 0, none, 0, 0, none, 0, 0, A', es.length, cap'⟩) (doc_isS HV.out HSZ.out rfl (by omega) (by omega) (by omega))
        · have hyz : ((y.toNat : Int) != 0) = true := by
            have : y.toNat ≠ 0 := fun e => hy0 (UInt8.toNat_inj.1 e)
            simp; omega
          have HN := hide (show kd true (g + 1) (b.drop a) = none by rw [HKD.out, HSF.out.odd hy0 hy1]; rfl)
          clear hy0 hy1
          go_wp2_with fail
          exact bk_no Cv.zero HN.out rfl rfl rfl (set5_from (c := Cv.zero) H6.out) (HG.out.set5v (Nat.le_refl _) Cv.zero)
    · rw [List.drop_eq_nil_of_le (show b.length ≤ pos by omega)] at HSF
      have HN := hide (show kd true (g + 1) (b.drop a) = none by rw [HKD.out, HSF.out.nil]; rfl)
      go_wp2_with fail
      exact bk_no Cv.zero HN.out rfl rfl rfl (set5_from (c := Cv.zero) H6.out) (HG.out.set5v (Nat.le_refl _) Cv.zero)

theorem rback_at (b : List UInt8) (B : Option Addr) (bc : Nat) (hl : b.length ≤ 1000000000) (hcap : b.length ≤ bc) : ∀ (g a : Nat), b.length < g + a → a ≤ b.length → ∀ w, InB w B b →
    Calls Tryd.prog 59 #[.slice B b.length bc, .int .i64 a] w (BkS w b (kd true g (b.drop a)))
  | 0, a, h1, h2, _, _ => absurd h2 (by omega)
  | g + 1, a, h1, h2, w, hb => by
    by_cases ha : a < b.length
    · have hF : BkF g b B bc (a + 1) := fun w' a' hb' h3 h4 => rback_at b B bc hl hcap g a' (by omega) h4 w' hb'
      by_cases n1 : b[a].toNat = 16
      · exact bk_16 g a b B bc w hb hl ha n1
      by_cases n2 : b[a].toNat = 32
      · exact bk_32 g a b B bc w hb hl ha n2
      by_cases n3 : b[a].toNat = 48
      · exact bk_48 g a b B bc w hb hl ha hcap n3
      by_cases n4 : b[a].toNat = 64
      · exact bk_64 g a b B bc w hb hl ha n4
      by_cases n5 : b[a].toNat = 80
      · exact bk_80 g a b B bc w hb hl ha n5
      by_cases n6 : b[a].toNat = 96
      · exact bk_96 g a b B bc w hb hl ha n6 hF
      by_cases n7 : b[a].toNat = 112
      · exact bk_112 g a b B bc w hb hl ha n7 hF
      exact bk_other g a b B bc w hb hl ha n1 n2 n3 n4 n5 n6 n7
    · exact bk_nil g a b B bc w hl (by omega) (by omega)
/-- What munimentref4.back tells of any bytes. -/
theorem rback_any (b : List UInt8) (B : Option Addr) (bc : Nat) (hl : b.length ≤ 1000000000) (hcap : b.length ≤ bc) (g : Nat) (hg : b.length < g) (w : World) (hb : InB w B b) :
    Calls Tryd.prog 59 #[.slice B b.length bc, .int .i64 0] w (BkS w b (kd true g b)) :=
  rback_at b B bc hl hcap g 0 (by omega) (Nat.zero_le _) w hb
end Go.Proofs.YtpjhhkndfmcaoaaDoor
