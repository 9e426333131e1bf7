/- Walks: the reference's reply, PutReply. Written by wip/tools/gen_refpp.py. · Walk: the reference's GetReply. Written by wip/tools/gen_refgp.py. -/
import Derived.Test.YtojpeiihkjpeoaaDoorRefPQ
import Derived.Test.YtojpeiihkjpeoaaDoorRefGQ
set_option linter.unusedVariables false
set_option linter.unusedSimpArgs false
namespace Go.Proofs.YtojpeiihkjpeoaaDoor
open Go.RowKit Go.Shelf

set_option maxRecDepth 100000 in
set_option maxHeartbeats 3200000 in
theorem reply_bad (q : Rp) (A : Option Addr) (cap : Nat) (w : World) (hin : InL w A cap q.docs) (hcount : ∀ v ∈ q.docs, v.count ≤ 20000) (hbytes : ∀ v ∈ q.docs, v.formed = true → v.bytes.length ≤ 140737488355328)
    (he : -9223372036854775808 ≤ q.e ∧ q.e ≤ 9223372036854775807) (hn : -9223372036854775808 ≤ q.n ∧ q.n ≤ 9223372036854775807) (hk : -9223372036854775808 ≤ q.cursor ∧ q.cursor ≤ 9223372036854775807) (ha : q.args) :
    Calls Tryd.prog 54 #[.agg (rpCells q.e q.n A q.docs.length cap q.cursor)] w (BodyC w q.err q.body) := by
  have HE := hide (show q.err = 1 by unfold Rp.err; rw [if_pos ha])
  have HG := hide ((Grow.refl w).alloc (.cells (rpCells q.e q.n A q.docs.length cap q.cursor) 25))
  have HB := hide (Blk.new w 25 (rpCells q.e q.n A q.docs.length cap q.cursor))
  unfold Rp.args at ha
  obtain ⟨E, hE⟩ : ∃ d, q.e = d := ⟨_, rfl⟩
  obtain ⟨M, hM⟩ : ∃ d, q.n = d := ⟨_, rfl⟩
  obtain ⟨K, hK⟩ : ∃ d, q.cursor = d := ⟨_, rfl⟩
  obtain ⟨l, hl⟩ : ∃ d, q.docs.length = d := ⟨_, rfl⟩
  rw [hE, hM, hK, hl]
  rw [hE] at he
  rw [hM] at hn
  rw [hK] at hk
  rw [hE, hM, hK, hl] at HG HB
  rw [hE, hM, hK, hl] at ha
  have hcq := HB.out.cell
  clear hin hcount hbytes hE hM hK hl
  by_cases a1 : E < 0
  · have e1 : decide (E < 0) = true := decide_eq_true a1
    clear ha
    go_enter Tryd.func54, Tryd.ntmps54
    go_wp2_with fail
    go_ret2
    exact BodyC.bad HE.out (by decide) HG.out
  have e1 : decide (E < 0) = false := decide_eq_false a1
  by_cases a2 : 255 < E
  · have e2 : decide (255 < E) = true := decide_eq_true a2
    clear ha
    go_enter Tryd.func54, Tryd.ntmps54
    go_wp2_with fail
    go_ret2
    exact BodyC.bad HE.out (by decide) HG.out
  have e2 : decide (255 < E) = false := decide_eq_false a2
  by_cases a3 : M < 0
  · have e3 : decide (M < 0) = true := decide_eq_true a3
    clear ha
    go_enter Tryd.func54, Tryd.ntmps54
    go_wp2_with fail
    go_ret2
    exact BodyC.bad HE.out (by decide) HG.out
  have e3 : decide (M < 0) = false := decide_eq_false a3
  by_cases a4 : 2147483648 ≤ M
  · have e4 : decide (2147483648 ≤ M) = true := decide_eq_true a4
    clear ha
    go_enter Tryd.func54, Tryd.ntmps54
    go_wp2_with fail
    go_ret2
    exact BodyC.bad HE.out (by decide) HG.out
  have e4 : decide (2147483648 ≤ M) = false := decide_eq_false a4
  by_cases a5 : K < 0
  · have e5 : decide (K < 0) = true := decide_eq_true a5
    clear ha
    go_enter Tryd.func54, Tryd.ntmps54
    go_wp2_with fail
    go_ret2
    exact BodyC.bad HE.out (by decide) HG.out
  have e5 : decide (K < 0) = false := decide_eq_false a5
  by_cases a6 : 2147483648 ≤ K
  · have e6 : decide (2147483648 ≤ K) = true := decide_eq_true a6
    clear ha
    go_enter Tryd.func54, Tryd.ntmps54
    go_wp2_with fail
    go_ret2
    exact BodyC.bad HE.out (by decide) HG.out
  have e6 : decide (2147483648 ≤ K) = false := decide_eq_false a6
  have e7 : decide ((64 : Int) < (l : Int)) = true := by simp; omega
  clear ha
  go_enter Tryd.func54, Tryd.ntmps54
  go_wp2_with fail
  go_ret2
  exact BodyC.bad HE.out (by decide) HG.out

set_option maxRecDepth 100000 in
set_option maxHeartbeats 6400000 in
theorem reply_ok (q : Rp) (A : Option Addr) (cap : Nat) (w : World) (hin : InL w A cap q.docs) (hcount : ∀ v ∈ q.docs, v.count ≤ 20000) (hbytes : ∀ v ∈ q.docs, v.formed = true → v.bytes.length ≤ 140737488355328)
    (he : -9223372036854775808 ≤ q.e ∧ q.e ≤ 9223372036854775807) (hn : -9223372036854775808 ≤ q.n ∧ q.n ≤ 9223372036854775807) (hk : -9223372036854775808 ≤ q.cursor ∧ q.cursor ≤ 9223372036854775807) (ha : ¬ q.args) :
    Calls Tryd.prog 54 #[.agg (rpCells q.e q.n A q.docs.length cap q.cursor)] w (BodyC w q.err q.body) := by
  have HER := hide (show q.err = firstBad q.docs by unfold Rp.err; rw [if_neg ha])
  unfold Rp.args at ha
  obtain ⟨E, hE⟩ : ∃ d, q.e = d := ⟨_, rfl⟩
  obtain ⟨M, hM⟩ : ∃ d, q.n = d := ⟨_, rfl⟩
  obtain ⟨K, hK⟩ : ∃ d, q.cursor = d := ⟨_, rfl⟩
  obtain ⟨l, hl⟩ : ∃ d, q.docs.length = d := ⟨_, rfl⟩
  rw [hE, hM, hK, hl]
  rw [hE] at he
  rw [hM] at hn
  rw [hK] at hk
  rw [hE, hM, hK, hl] at ha
  have HHB := hide (show q.headB = [UInt8.ofNat E.toNat] ++ toLe 4 M.toNat ++ toLe 4 K.toNat ++ [UInt8.ofNat l] by unfold Rp.headB; rw [hE, hM, hK, hl])
  have HBD := hide (show q.body = q.headB ++ (q.docs.map valB).flatten from rfl)
  have HLL := hide hl
  have HIN := hide hin
  have HCO := hide hcount
  have HBY := hide hbytes
  clear hin hcount hbytes hE hM hK hl
  obtain ⟨mn, rfl⟩ : ∃ n : Nat, M = (n : Int) := ⟨M.toNat, by omega⟩
  obtain ⟨kn, rfl⟩ : ∃ n : Nat, K = (n : Int) := ⟨K.toNat, by omega⟩
  rw [Int.toNat_natCast, Int.toNat_natCast] at HHB
  have HB := hide (Blk.new w 25 (rpCells E (mn : Int) A l cap (kn : Int)))
  have HG := hide ((Grow.refl w).alloc (.cells (rpCells E (mn : Int) A l cap (kn : Int)) 25))
  have e1 : decide (E < 0) = false := decide_eq_false (by omega)
  have e2 : decide (255 < E) = false := decide_eq_false (by omega)
  have e3 : decide ((mn : Int) < 0) = false := by simp
  have e4 : decide (2147483648 ≤ (mn : Int)) = false := by simp; omega
  have e5 : decide ((kn : Int) < 0) = false := by simp
  have e6 : decide (2147483648 ≤ (kn : Int)) = false := by simp; omega
  have e7 : decide ((64 : Int) < (l : Int)) = false := by simp; omega
  have hE0 : 0 ≤ E := by omega
  have hE1 : E ≤ 255 := by omega
  have hm1 : mn < 2147483648 := by omega
  have hk1 : kn < 2147483648 := by omega
  have hl64 : l ≤ 64 := by omega
  have hcq := HB.out.cell
  have hEm : E % 256 = E := by omega
  clear ha he hn hk
  go_enter Tryd.func54, Tryd.ntmps54
  go_wp2_with fail
  have hE8 : ((UInt8.ofNat E.toNat).toNat : Int) = E := by rw [UInt8.toNat_ofNat']; omega
  have hal := (Grow.refl (w.alloc (.cells (rpCells E (mn : Int) A l cap (kn : Int)) 25))).alloc (.cells #[.int .u8 E] 5)
  have HB0 := hide (show Blk ((w.alloc (.cells (rpCells E (mn : Int) A l cap (kn : Int)) 25)).alloc (.cells #[.int .u8 E] 5)) (w.heap.size + 1) 5 #[.int .u8 E] from Blk.new' (by simp) _ _)
  have HBQ := hide (HB.out.grow hal)
  have HBX := HB.out
  have hza : (w.alloc (.cells (rpCells E (mn : Int) A l cap (kn : Int)) 25)).heap.size = w.heap.size + 1 := by simp
  generalize hW1 : w.alloc (.cells (rpCells E (mn : Int) A l cap (kn : Int)) 25) = w1 at HB HG hza hal HB0 HBQ HBX ⊢
  obtain ⟨g9, hg9⟩ : ∃ g, w.heap.size + 1 = g := ⟨_, rfl⟩
  rw [hg9] at hza HB0 ⊢
  clear hW1 hcq HB
  generalize hV : w1.alloc (.cells #[.int .u8 E] 5) = v at hal HB0 HBQ ⊢
  clear hV
  have hr0 : Row v g9 (.slice (some ⟨g9, 0, none⟩) 1 1) 1 [UInt8.ofNat E.toNat] := row_of_blk (show Blk v g9 5 (u8s [UInt8.ofNat E.toNat]).toArray from by
    have e : (u8s [UInt8.ofNat E.toNat]).toArray = #[.int .u8 E] := by simp only [u8s, List.map_cons, List.map_nil, hE8]
    rw [e]; exact HB0.out) rfl (Nat.le_refl _) (by decide)
  have hwM : IntKind.u64.wrap (mn : Int) = (mn : Int) := by rw [IntKind.wrap_u64]; omega
  have hwK : IntKind.u64.wrap (kn : Int) = (kn : Int) := by rw [IntKind.wrap_u64]; omega
  refine wp_region_noPanic ?_
  refine wp_region_held_drew (S := fun W => Blk W w.heap.size 25 (rpCells E (mn : Int) A l cap (kn : Int))) (by kernel_rfl) (HBQ.out.drew) (fun hHeld => ?_)
  have HBV0 := hide HBQ.out.drew
  have HX0 := hide (hr0.drew)
  have HGV0 := hide (show Grow w1 v.drew from hal.drew)
  have hzz0 : g9 ≤ v.drew.heap.size := Nat.le_of_lt HB0.out.lt
  clear HBQ hr0 hal HB0 hEm hE8
  have HBVX := hide HBX
  clear HBX
  generalize v.drew = v0 at HBV0 HX0 HGV0 hzz0 ⊢
  refine wpAnyH_take (i := 0) (v := ?_) (by simp only [List.getElem?_toArray, List.getElem?_cons_succ, List.getElem?_cons_zero]; rfl) (by kernel_rfl) (by kernel_rfl) (by kernel_rfl) (fun _ _ _ h => h) (Or.inl ⟨by rfl, ?_⟩) (by assumption) ?_
  rotate_left 1
  · (intro w hSw; (try dsimp only at hSw); go_simp; try with_reducible rfl)
  try simp only [Act.put, List.setIfInBounds_toArray, List.set_cons_zero, List.set_cons_succ]
  refine wpAnyH_take (i := 1) (v := ?_) (by simp only [List.getElem?_toArray, List.getElem?_cons_succ, List.getElem?_cons_zero]; rfl) (by kernel_rfl) (by kernel_rfl) (by kernel_rfl) (fun _ _ _ h => h) (Or.inl ⟨by rfl, ?_⟩) (by assumption) ?_
  rotate_left 1
  · (intro w hSw; (try dsimp only at hSw); go_simp; try with_reducible rfl)
  try simp only [Act.put, List.setIfInBounds_toArray, List.set_cons_zero, List.set_cons_succ]
  refine wpAnyH_take (i := 2) (v := ?_) (by simp only [List.getElem?_toArray, List.getElem?_cons_succ, List.getElem?_cons_zero]; rfl) (by kernel_rfl) (by kernel_rfl) (by kernel_rfl) (fun _ _ _ h => h) (Or.inl ⟨by rfl, ?_⟩) (by assumption) ?_
  rotate_left 1
  · (intro w hSw; (try dsimp only at hSw); have hc0 := hSw.cell; go_simp; try with_reducible rfl)
  try simp only [Act.put, List.setIfInBounds_toArray, List.set_cons_zero, List.set_cons_succ]
  refine wpAnyH_take (i := 3) (v := ?_) (by simp only [List.getElem?_toArray, List.getElem?_cons_succ, List.getElem?_cons_zero]; rfl) (by kernel_rfl) (by kernel_rfl) (by kernel_rfl) (fun _ _ _ h => h) (Or.inl ⟨by rfl, ?_⟩) (by assumption) ?_
  rotate_left 1
  · (intro w hSw; (try dsimp only at hSw); go_simp; try with_reducible rfl)
  try simp only [Act.put, List.setIfInBounds_toArray, List.set_cons_zero, List.set_cons_succ]
  refine wpAnyH_take (i := 6) (v := ?_) (by simp only [List.getElem?_toArray, List.getElem?_cons_succ, List.getElem?_cons_zero]; rfl) (by kernel_rfl) (by kernel_rfl) (by kernel_rfl) (fun _ _ _ h => h) (Or.inl ⟨by rfl, ?_⟩) (by assumption) ?_
  rotate_left 1
  · (intro w hSw; (try dsimp only at hSw); go_simp; try with_reducible rfl)
  try simp only [Act.put, List.setIfInBounds_toArray, List.set_cons_zero, List.set_cons_succ]
  refine wpAnyH_take (i := 7) (v := ?_) (by simp only [List.getElem?_toArray, List.getElem?_cons_succ, List.getElem?_cons_zero]; rfl) (by kernel_rfl) (by kernel_rfl) (by kernel_rfl) (fun _ _ _ h => h) (Or.inl ⟨by rfl, ?_⟩) (by assumption) ?_
  rotate_left 1
  · (intro w hSw; (try dsimp only at hSw); have hc0 := hSw.cell; go_simp; try with_reducible rfl)
  try simp only [Act.put, List.setIfInBounds_toArray, List.set_cons_zero, List.set_cons_succ]
  refine wpAnyH_take (i := 8) (v := ?_) (by simp only [List.getElem?_toArray, List.getElem?_cons_succ, List.getElem?_cons_zero]; rfl) (by kernel_rfl) (by kernel_rfl) (by kernel_rfl) (fun _ _ _ h => h) (Or.inl ⟨by rfl, ?_⟩) (by assumption) ?_
  rotate_left 1
  · (intro w hSw; (try dsimp only at hSw); go_simp; try with_reducible rfl)
  try simp only [Act.put, List.setIfInBounds_toArray, List.set_cons_zero, List.set_cons_succ]
  refine wpAnyH_ready (rs := [4]) (by kernel_rfl) (by simp) ?_
  refine AllReadyH.cons (by simp only [List.getElem?_toArray, List.getElem?_cons_succ, List.getElem?_cons_zero]; rfl) (fun K' hK' => ?_) AllReadyH.nil
  replace hK' := hide hK'
  go_simp
  go_at_call 89
  refine (refPut_any mn 4 v0 (by omega) (by omega)).mono ?_
  rintro ee v1 ⟨A1, c1, rfl, hr, hg⟩
  obtain ⟨zm, hzm⟩ : ∃ zs, toLe 4 mn = zs := ⟨_, rfl⟩
  have hzml : zm.length = 4 := by rw [← hzm]; exact toLe_length _ _
  rw [hzm] at hr
  have HYzm := hide hzm
  have HSzm := hide (src_len (c := c1) hr.reads.1 hzml)
  have HX1 := hide (HX0.out.grow hg)
  have HBV1 := hide (HBV0.out.grow hg)
  have HGV1 := hide (Below.trans HGV0.out (hg.below.mono (by have := HGV0.out.size; omega)))
  have hzz1 : g9 ≤ v1.heap.size := Nat.le_trans hzz0 hg.size
  clear hr hg hzm
  refine hK'.out _ _ HBV1.out (fun hHeld => ?_)
  clear hK' K'
  try simp only [Act.put, List.setIfInBounds_toArray, List.set_cons_zero, List.set_cons_succ]
  refine wpAnyH_ready (rs := [5]) (by kernel_rfl) (by simp) ?_
  refine AllReadyH.cons (by simp only [List.getElem?_toArray, List.getElem?_cons_succ, List.getElem?_cons_zero]; rfl) (fun K' hK' => ?_) AllReadyH.nil
  replace hK' := hide hK'
  refine step_app_src (ys := zm) (by rfl) (.tmp 45) (.tmp 49) _ (by rfl) (by rfl) HX1.out _ (by rfl) HSzm.out (by omega) hzz1 ?_
  intro A2 c2 v2 hr hg
  rw [hzml] at hr hg ⊢
  have HX2 := hide hr
  have HBV2 := hide (hg.blk HBV1.out (Row.ne HX1.out HBV1.out (by decide)))
  have HGV2 := hide (Below.trans HGV1.out (Below.mono (Grew.below hg HX1.out hzz1) (by omega)))
  have hzz2 : g9 ≤ v2.heap.size := Nat.le_trans hzz1 hg.size
  clear hr hg
  refine hK'.out _ _ HBV2.out (fun hHeld => ?_)
  clear hK' K'
  try simp only [Act.put, List.setIfInBounds_toArray, List.set_cons_zero, List.set_cons_succ]
  refine wpAnyH_ready (rs := [9]) (by kernel_rfl) (by simp) ?_
  refine AllReadyH.cons (by simp only [List.getElem?_toArray, List.getElem?_cons_succ, List.getElem?_cons_zero]; rfl) (fun K' hK' => ?_) AllReadyH.nil
  replace hK' := hide hK'
  go_simp
  go_at_call 89
  refine (refPut_any kn 4 v2 (by omega) (by omega)).mono ?_
  rintro ee v3 ⟨A3, c3, rfl, hr, hg⟩
  obtain ⟨zk, hzk⟩ : ∃ zs, toLe 4 kn = zs := ⟨_, rfl⟩
  have hzkl : zk.length = 4 := by rw [← hzk]; exact toLe_length _ _
  rw [hzk] at hr
  have HYzk := hide hzk
  have HSzk := hide (src_len (c := c3) hr.reads.1 hzkl)
  have HX3 := hide (HX2.out.grow hg)
  have HBV3 := hide (HBV2.out.grow hg)
  have HGV3 := hide (Below.trans HGV2.out (hg.below.mono (by have := HGV2.out.size; omega)))
  have hzz3 : g9 ≤ v3.heap.size := Nat.le_trans hzz2 hg.size
  clear hr hg hzk
  refine hK'.out _ _ HBV3.out (fun hHeld => ?_)
  clear hK' K'
  try simp only [Act.put, List.setIfInBounds_toArray, List.set_cons_zero, List.set_cons_succ]
  refine wpAnyH_ready (rs := [10]) (by kernel_rfl) (by simp) ?_
  refine AllReadyH.cons (by simp only [List.getElem?_toArray, List.getElem?_cons_succ, List.getElem?_cons_zero]; rfl) (fun K' hK' => ?_) AllReadyH.nil
  replace hK' := hide hK'
  refine step_app_src (ys := zk) (by rfl) (.tmp 50) (.tmp 54) _ (by rfl) (by rfl) HX3.out _ (by rfl) HSzk.out (by omega) hzz3 ?_
  intro A4 c4 v4 hr hg
  rw [hzkl] at hr hg ⊢
  have HX4 := hide hr
  have HBV4 := hide (hg.blk HBV3.out (Row.ne HX3.out HBV3.out (by decide)))
  have HGV4 := hide (Below.trans HGV3.out (Below.mono (Grew.below hg HX3.out hzz3) (by omega)))
  have hzz4 : g9 ≤ v4.heap.size := Nat.le_trans hzz3 hg.size
  clear hr hg
  refine hK'.out _ _ HBV4.out (fun hHeld => ?_)
  clear hK' K'
  try simp only [Act.put, List.setIfInBounds_toArray, List.set_cons_zero, List.set_cons_succ]
  refine wpAnyH_take (i := 11) (v := ?_) (by simp only [List.getElem?_toArray, List.getElem?_cons_succ, List.getElem?_cons_zero]; rfl) (by kernel_rfl) (by kernel_rfl) (by kernel_rfl) (fun _ _ _ h => h) (Or.inl ⟨by rfl, ?_⟩) (by assumption) ?_
  rotate_left 1
  · (intro w hSw; (try dsimp only at hSw); go_simp; try with_reducible rfl)
  try simp only [Act.put, List.setIfInBounds_toArray, List.set_cons_zero, List.set_cons_succ]
  refine wpAnyH_done (by kernel_rfl) ?_ _
  refine NoPanic.normal ?_
  have hl8 : ((UInt8.ofNat l).toNat : Int) = (l : Int) := by rw [UInt8.toNat_ofNat']; omega
  have hlm : (l : Int) % 256 = (l : Int) := by omega
  have hcb := HBV4.out.cell
  go_wp2_with (at_builtin; refine app_src (ys := [UInt8.ofNat l]) rfl (.tmp 56) (.tmp 61) _ rfl rfl (HX4.out.alloc _) _ rfl (src_one _ hl8 (Blk.new v4 _ _)) (by simp only [List.length_cons, List.length_nil]; omega) (by simp; omega) ?_; intro A5 c5 v5 hr5 hg5)
  have hba := HBV4.out.alloc (.cells #[.int .u8 (l : Int)] 5)
  have HBV5 := hide (hg5.blk hba (Row.ne (HX4.out.alloc (.cells #[.int .u8 (l : Int)] 5)) hba (by decide)))
  have HGV5 := hide (show Grow w1 v5 from Below.trans (Below.alloc HGV4.out (Grow.size (show Grow w1 v4 from HGV4.out)) (.cells #[.int .u8 (l : Int)] 5)) (Below.mono (Grew.below hg5 (HX4.out.alloc _) (by simp; omega)) (by omega)))
  have hzz5 : g9 ≤ v5.heap.size := by have := hg5.size; simp at this; omega
  have hh : [UInt8.ofNat E.toNat] ++ zm ++ zk ++ [UInt8.ofNat l] = q.headB := by rw [HHB.out, ← HYzm.out, ← HYzk.out]
  have hlen : q.headB.length = 10 := by rw [← hh]; simp [hzml, hzkl]
  have hr5' := hr5
  rw [hh] at hr5'
  have HR5 := hide (show Row v5 g9 (.slice A5 10 c5) 10 q.headB from hr5')
  clear hr5 hr5' hg5 hba hh hl8 hlm hcb HX4 HX3 HX2 HX1 HX0 HBV4 HBV3 HBV2 HBV1 HBV0 HGV4 HGV3 HGV2 HGV1 HGV0 HYzm HYzk HSzm HSzk HHB hwM hwK
  go_loopg [4, 5] (l + 1) (fun gk s i wx => ∃ (j : Nat) (ys : List UInt8) (A' : Option Addr) (c' : Nat), j ≤ l ∧ gk + j = l + 1 ∧ s = .slice A' ys.length c' ∧ i = .int .i64 j ∧ ys = q.headB ++ ((q.docs.take j).map valB).flatten ∧ ys.length ≤ 10 + 4098 * j ∧ Row wx g9 (.slice A' ys.length c') ys.length ys ∧ Grow w1 wx ∧ g9 ≤ wx.heap.size ∧ ∀ i (hi : i < q.docs.length), i < j → q.docs[i].good = 0)
  case atStart => exact ⟨0, q.headB, A5, c5, by omega, by omega, by rw [hlen], rfl, by simp, by omega, by rw [hlen]; exact HR5.out, HGV5.out, hzz5, fun i hi h => by omega⟩
  case round =>
    obtain ⟨j, ys, A', c', hj, hg, rfl, rfl, hys, hyl, hrow, hgr, hzr, hgd⟩ := hrel
    have HROW := hide hrow
    have HGR := hide hgr
    have HYS := hide hys
    have HGD := hide hgd
    have hbw := HBVX.out.grow hgr
    have hcb := hbw.cell
    clear hrow hys hgd
    by_cases hlt : j < l
    · obtain ⟨gk', rfl⟩ : ∃ g, gk = g + 1 := ⟨gk - 1, by omega⟩
      have hlt' : j < q.docs.length := by rw [HLL.out]; exact hlt
      obtain ⟨v, hv⟩ : ∃ v, q.docs[j] = v := ⟨_, rfl⟩
      obtain ⟨bk, o, x, hae, hbk, e0, e1, e2, e3, e4, hx⟩ := In.elemL (HIN.out.grow (HG.out.trans hgr)) j hlt'
      obtain rfl : A = some ⟨bk, o, none⟩ := hae
      rw [hv] at hx
      have HTK := hide (show ((q.docs.take (j + 1)).map valB).flatten = ((q.docs.take j).map valB).flatten ++ valB v by rw [flat_take valB q.docs j hlt', hv])
      have HC := hide (refGood_any v wr x (HCO.out v (by rw [← hv]; exact List.getElem_mem hlt')) (HBY.out v (by rw [← hv]; exact List.getElem_mem hlt')) hx)
      obtain ⟨G, hG⟩ : ∃ G, v.good = G := ⟨_, rfl⟩
      rw [hG] at HC
      have HGG := hide hG
      have HVJ := hide hv
      have HXI := hide hx
      have HJ := hide hlt'
      clear hgr hx hv hG hbw
      go_wp2_with fail
      refine HC.out.mono ?_
      rintro ee w6 ⟨rfl, hg6⟩
      have f0 := (hg6.below.cell (World.block_lt_of_cell? _ _ e0)).trans e0
      have f1 := (hg6.below.cell (World.block_lt_of_cell? _ _ e1)).trans e1
      have f2 := (hg6.below.cell (World.block_lt_of_cell? _ _ e2)).trans e2
      have f3 := (hg6.below.cell (World.block_lt_of_cell? _ _ e3)).trans e3
      have f4 := (hg6.below.cell (World.block_lt_of_cell? _ _ e4)).trans e4
      have hcb6 := (HBVX.out.grow (HGR.out.trans hg6)).cell
      have HG6 := hide (HGR.out.trans hg6)
      have HX6 := hide (HXI.out.grow hg6)
      have HR6 := hide (HROW.out.grow hg6)
      have hz6 : g9 ≤ w6.heap.size := Nat.le_trans hzr hg6.size
      clear hg6 e0 e1 e2 e3 e4 hcb
      by_cases g0 : G = 0
      · subst g0
        have hbl := (V.good_formed HGG.out).2
        have hvl : (valB v).length ≤ 4098 := by simp only [valB, List.length_append, toLe_length]; omega
        have HV := hide (rvalue_doc v x g9 A' c' ys.length ys w6 HGG.out HX6.out HR6.out hz6 (by omega))
        clear hbl
        go_wp2_with fail
        refine HV.out.mono ?_
        rintro ee w7 ⟨A7, c7, rfl, hr7, hg7⟩
        have HR7 := hide hr7
        have HG7 := hide (show Grow w1 w7 from Below.trans HG6.out (Below.mono (Grew.below hg7 HR6.out hz6) (by omega)))
        have hz7 : g9 ≤ w7.heap.size := Nat.le_trans hz6 hg7.size
        clear hr7 hg7
        go_wp2_with fail
        go_roundg gk'
        case measure => omega
        case rel => exact ⟨j + 1, ys ++ valB v, A7, c7, by omega, by omega, by rw [List.length_append], by go_num, by rw [HYS.out, HTK.out, List.append_assoc], by rw [List.length_append]; omega, HR7.out, HG7.out, hz7, fun i hi hij => by
          by_cases h : i = j
          · subst h; exact (congrArg V.good HVJ.out).trans HGG.out
          · exact HGD.out i hi (by omega)⟩
      · have hg0 : (G != 0) = true := by simpa using g0
        go_wp2_with fail
        go_ret2
        have hm0 : q.docs[j].good = G := (congrArg V.good HVJ.out).trans HGG.out
        exact BodyC.bad (HER.out.trans ((firstBad_to q.docs j HJ.out HGD.out (fun h => g0 (hm0.symm.trans h))).trans hm0)) g0 (HG.out.trans HG6.out)
    · obtain rfl : j = l := by omega
      have hb : ys = q.body := by rw [HYS.out, HBD.out, List.take_of_length_le (by rw [HLL.out]; exact Nat.le_refl _)]
      have HBB := hide hb
      have HER0 := hide (show q.err = 0 by rw [HER.out]; exact firstBad_none _ (fun i hi => HGD.out i hi (by rw [← HLL.out]; exact hi)))
      clear hb hgr hbw
      go_wp2_with fail
      go_ret2
      exact BodyC.good HER0.out HBB.out rfl (by omega) HROW.out (HG.out.trans HGR.out)

set_option maxRecDepth 100000 in
set_option maxHeartbeats 1600000 in
/-- PutReply out of reply. -/
theorem rputRp_of2 (q : Rp) (u : Value) (cells : Array Value) (w : World) (hu : u = .agg cells) (hn : cells.size = 4)
    (hC : ∀ w2, Grow w w2 → Calls Tryd.prog 54 #[u] w2 (BodyC w2 q.err q.body)) :
    Calls Tryd.prog 18 #[u] w (PutW w q.put) := by
  subst hu
  have HB := hide (Blk.new w 25 cells)
  have HG := hide ((Grow.refl w).alloc (.cells cells 25))
  have HC := hide hC
  obtain ⟨er, her⟩ : ∃ e, q.err = e := ⟨_, rfl⟩
  obtain ⟨bd, hbd⟩ : ∃ b, q.body = b := ⟨_, rfl⟩
  have HQ := hide (show q.put = putOf er bd by unfold Rp.put; rw [her, hbd])
  rw [her, hbd] at HC
  clear hC her hbd
  go_enter Tryd.func18, Tryd.ntmps18
  go_wp2_with (with_reducible refine at_load 25 ?_; refine load_blk (g := w.heap.size) (n := 4) (cells := cells) Tryd.underlying25 rfl rfl HB.out info_rP hn ?_)
  refine (HC.out _ HG.out).mono ?_
  intro e w2 h2
  by_cases h0 : er = 0
  · subst h0
    unfold BodyC at h2
    rw [if_pos rfl] at h2
    obtain ⟨base, A, c, rfl, hb, hr, hg⟩ := h2
    have HR := hide hr
    have HG2 := hide (HG.out.trans hg)
    have hb2 : w.heap.size ≤ base := Nat.le_trans HG.out.size hb
    clear hr hg hb
    by_cases h12 : 12000 < bd.length
    · go_wp2_with fail
      go_ret2
      rw [HQ.out, putOf, if_neg (by simp), if_pos h12]
      exact PutW.bad HG2.out
    · have HF := hide (rframe_any bd A c w2 HR.out.reads.1 (by omega))
      go_wp2_with fail
      refine HF.out.mono ?_
      rintro e w3 ⟨base3, A3, c3, rfl, hb3, hr3, hg3⟩
      have HR3 := hide hr3
      have HG3 := hide (HG2.out.trans hg3)
      have hb3' : w.heap.size ≤ base3 := Nat.le_trans HG2.out.size hb3
      have hb3'' : base3 ≤ w3.heap.size := by
        have hn0 : 0 < (frameOf bd).length := by rw [frameOf_length]; omega
        obtain ⟨g, cap, hv, hbg, hlt⟩ := World.ownsRow.form hr3 hn0
        omega
      clear hr3 hg3 hb3
      go_wp2_with fail
      go_ret2
      rw [HQ.out, putOf, if_neg (by simp), if_neg h12]
      exact ⟨base3, A3, c3, rfl, hb3', hb3'', HR3.out, HG3.out⟩
  · unfold BodyC at h2
    rw [if_neg h0] at h2
    obtain ⟨rfl, hg⟩ := h2
    have HG2 := hide (HG.out.trans hg)
    have he0 : (er != 0) = true := by simpa using h0
    clear hg
    go_wp2_with fail
    go_ret2
    rw [HQ.out, putOf, if_pos h0]
    exact PutW.bad HG2.out

theorem refPutRp_any (q : Rp) (A : Option Addr) (cap : Nat) (w : World) (hin : InL w A cap q.docs) (hcount : ∀ v ∈ q.docs, v.count ≤ 20000) (hbytes : ∀ v ∈ q.docs, v.formed = true → v.bytes.length ≤ 140737488355328)
    (he : -9223372036854775808 ≤ q.e ∧ q.e ≤ 9223372036854775807) (hn : -9223372036854775808 ≤ q.n ∧ q.n ≤ 9223372036854775807) (hk : -9223372036854775808 ≤ q.cursor ∧ q.cursor ≤ 9223372036854775807) :
    Calls Tryd.prog 18 #[.agg (rpCells q.e q.n A q.docs.length cap q.cursor)] w (PutW w q.put) := by
  refine rputRp_of2 q _ _ w rfl rfl (fun w2 hg => ?_)
  by_cases ha : q.args
  · exact reply_bad q A cap w2 (hin.grow hg) hcount hbytes he hn hk ha
  · exact reply_ok q A cap w2 (hin.grow hg) hcount hbytes he hn hk ha
end Go.Proofs.YtojpeiihkjpeoaaDoor

set_option linter.unusedVariables false
set_option linter.unusedSimpArgs false
namespace Go.Proofs.YtojpeiihkjpeoaaDoor
open Go.RowKit Go.Shelf

theorem pCount_ok {r r' : List UInt8} {n : Int} (h : pCount r = some (n, r')) : ∃ k, pNum 4 r = some (k, r') ∧ k < 2147483648 ∧ n = (k : Int) := by
  unfold pCount at h
  cases hx : pNum 4 r with
  | none => rw [hx] at h; cases h
  | some z =>
    obtain ⟨k, r1⟩ := z
    rw [hx] at h
    simp only at h
    split at h
    · rename_i hk
      injection h with h
      injection h with h1 h2
      subst h1 h2
      exact ⟨k, rfl, by omega, rfl⟩
    · cases h
theorem pCount_of {r r' : List UInt8} {k : Nat} (h : pNum 4 r = some (k, r')) (hk : k < 2147483648) : pCount r = some ((k : Int), r') := by
  unfold pCount
  rw [h]
  simp only
  rw [if_pos (by omega)]
/-- What the parser says, out of the chain of states. -/
theorem prep_open {s0 s1 s2 s3 s4 : Option (List UInt8)} {body r : List UInt8} {q : Rp} (h0 : s0 = some body) (h1 : nextO (pNum 1) s0 = s1) (h2 : nextO (pNum 4) s1 = s2) (h3 : nextO (pNum 4) s2 = s3) (h4 : nextO (pNum 1) s3 = s4) (hq : pRep body = some (q, r)) :
    ∃ r4, s4 = some r4 ∧ numO 4 s1 < 2147483648 ∧ numO 4 s2 < 2147483648 ∧ numO 1 s3 ≤ 64 ∧ ∃ l, pVals (numO 1 s3) r4 = some (l, r) ∧ q = ⟨(numO 1 s0 : Nat), (numO 4 s1 : Nat), l, (numO 4 s2 : Nat)⟩ := by
  unfold pRep at hq
  obtain ⟨e, r1, e1, hq⟩ := pBind_some hq
  obtain ⟨n, r2, e2, hq⟩ := pBind_some hq
  obtain ⟨c, r3, e3, hq⟩ := pBind_some hq
  obtain ⟨k, r4, e4, hq⟩ := pBind_some hq
  split at hq
  · cases hq
  rename_i h64
  obtain ⟨l, r5, e5, hq⟩ := pBind_some hq
  injection hq with hq
  injection hq with hq1 hq2
  subst hq2
  obtain ⟨n', f2, hn1, hn2⟩ := pCount_ok e2
  obtain ⟨c', f3, hc1, hc2⟩ := pCount_ok e3
  have t1 : s1 = some r1 := by rw [← h1, h0]; exact nextO_some e1
  have t2 : s2 = some r2 := by rw [← h2, t1]; exact nextO_some f2
  have t3 : s3 = some r3 := by rw [← h3, t2]; exact nextO_some f3
  have t4 : s4 = some r4 := by rw [← h4, t3]; exact nextO_some e4
  have k0 : numO 1 s0 = e := by rw [h0]; simp [numO, e1]
  have k1 : numO 4 s1 = n' := by rw [t1]; simp [numO, f2]
  have k2 : numO 4 s2 = c' := by rw [t2]; simp [numO, f3]
  have k3 : numO 1 s3 = k := by rw [t3]; simp [numO, e4]
  rw [k0, k1, k2, k3]
  exact ⟨r4, t4, hn1, hc1, by omega, l, e5, by rw [← hq1, hn2, hc2]⟩
theorem prep_some {s0 s1 s2 s3 s4 : Option (List UInt8)} {body r r4 : List UInt8} {l : List V} (h0 : s0 = some body) (h1 : nextO (pNum 1) s0 = s1) (h2 : nextO (pNum 4) s1 = s2) (h3 : nextO (pNum 4) s2 = s3) (h4 : nextO (pNum 1) s3 = s4) (h5 : s4 = some r4) (hn : numO 4 s1 < 2147483648) (hc : numO 4 s2 < 2147483648) (hk : numO 1 s3 ≤ 64) (hl : pVals (numO 1 s3) r4 = some (l, r)) :
    pRep body = some (⟨(numO 1 s0 : Nat), (numO 4 s1 : Nat), l, (numO 4 s2 : Nat)⟩, r) := by
  obtain ⟨r3, e3, k3⟩ := numO_good (h4.trans h5)
  obtain ⟨r2, e2, k2⟩ := numO_good (h3.trans e3)
  obtain ⟨r1, e1, k1⟩ := numO_good (h2.trans e2)
  obtain ⟨r0, e0, k0⟩ := numO_good (h1.trans e1)
  obtain rfl : r0 = body := by rw [h0] at e0; injection e0 with e0; exact e0.symm
  unfold pRep
  rw [k0]; simp only [pBind]
  rw [pCount_of k1 hn]; simp only
  rw [pCount_of k2 hc]; simp only
  rw [k3]; simp only
  rw [if_neg (by omega), hl]

theorem gp_results {F : Func} {W : World} {vb : Nat} {tmps : Array Value} {cs : Array Value} {u v : Value} (hF : F.results = #[ResultVar.cell 2 25, ResultVar.tmp 3, ResultVar.tmp 4]) (h2 : tmps.getD 2 undef = .pointer (some ⟨vb, 0, none⟩)) (h3 : tmps.getD 3 undef = u) (h4 : tmps.getD 4 undef = v) (hn : cs.size = 4) (hB : Blk W vb 25 cs) :
    (results F tmps).run Tryd.prog W = .ok (.tuple #[.agg cs, u, v]) W := by
  have hl := run_loadVar_row (P := Tryd.prog) W vb 25 25 cs (0, 0) _ hB Tryd.underlying25 rfl (by rw [hn]; exact info_rP)
  have h2' : tmps[2]?.getD undef = .pointer (some ⟨vb, 0, none⟩) := by simpa using h2
  have h3' : tmps[3]?.getD undef = u := by simpa using h3
  have h4' : tmps[4]?.getD undef = v := by simpa using h4
  simp [results, hF, h2', h3', h4', asAddr, hl]
section
variable {φ : World → Prop} {w1 : World} {g8 : Nat} {v0 v1 v2 x0 x1 x2 : Value} {T8 : TypeId}
theorem set_D (h8 : Blk w1 g8 T8 #[x0, x1, x2]) (h : ∀ w2, Blk w2 g8 T8 #[v0, v1, v2] → w1.grownBy w2 (some g8) → φ w2) :
    φ (((w1.setCell ⟨g8, 0, none⟩ v0).setCell ⟨g8, 1, none⟩ v1).setCell ⟨g8, 2, none⟩ v2) :=
  h _ (((h8.set_ 0 v0).set_ 1 v1).set_ 2 v2) (GB.trans (GB.trans (grown_set w1 g8 0 v0) (grown_set _ g8 1 v1)) (grown_set _ g8 2 v2) : GB w1 _ g8)
end
/-- How far the values have been read. -/
def SoP (m j : Nat) (s4 st : Option (List UInt8)) (es : List VE) : Prop :=
  (s4 = none → st = none) ∧ ∀ r4, s4 = some r4 → (∀ rest, st = some rest → ∀ x, pVals m r4 = some x ↔ ∃ l, pVals (m - j) rest = some (l, x.2) ∧ x.1 = es.map VE.v ++ l) ∧ (st = none → pVals m r4 = none)
theorem SoP.start (m : Nat) (s4 : Option (List UInt8)) : SoP m 0 s4 s4 [] := by
  refine ⟨fun h => h, fun r4 h => ?_⟩
  subst h
  refine ⟨fun rest hr x => ?_, fun hn => by cases hn⟩
  injection hr with hr
  subst hr
  obtain ⟨a, b⟩ := x
  rw [Nat.sub_zero]
  constructor
  · intro hx; exact ⟨a, hx, by simp⟩
  · rintro ⟨l, hl, hx⟩
    have hx : a = l := by simpa using hx
    subst hx
    exact hl
theorem SoP.step {m j : Nat} {s4 : Option (List UInt8)} {rest : List UInt8} {es : List VE} (h : SoP m j s4 (some rest) es) (hj : j < m) (s : ByteArray) (c : Cv) (lo hi : Nat) : SoP m (j + 1) s4 (nextO pVal (some rest)) (es ++ [⟨s, valO pVal (some rest), c, lo, hi⟩]) := ⟨(fun h4 => by cases h.1 h4), fun r4 h4 => by
  obtain ⟨h1, _⟩ := h.2 r4 h4
  have h1 := h1 rest rfl
  rw [show m - j = (m - (j + 1)) + 1 from by omega] at h1
  cases hp : pVal rest with
  | none =>
    refine ⟨(fun r hr => by rw [nextO_fail hp] at hr; cases hr), fun _ => ?_⟩
    cases hx : pVals m r4 with
    | none => rfl
    | some x =>
      obtain ⟨l, hl, _⟩ := (h1 x).1 hx
      rw [pVals, hp] at hl
      cases hl
  | some z =>
    obtain ⟨v, r'⟩ := z
    have hv : valO pVal (some rest) = v := by simp [valO, hp]
    refine ⟨fun r hr x => ?_, (fun hn => by rw [nextO_some hp] at hn; cases hn)⟩
    rw [nextO_some hp] at hr
    injection hr with hr
    subst hr
    rw [h1 x, hv]
    constructor
    · rintro ⟨l, hl, hx⟩
      rw [pVals, hp] at hl
      simp only at hl
      cases hq : pVals (m - (j + 1)) r' with
      | none => rw [hq] at hl; cases hl
      | some y =>
        rw [hq] at hl
        obtain ⟨l', r''⟩ := y
        injection hl with hl
        injection hl with hl1 hl2
        subst hl1
        exact ⟨l', by rw [← hl2], by rw [hx]; simp⟩
    · rintro ⟨l, hl, hx⟩
      refine ⟨v :: l, ?_, by rw [hx]; simp⟩
      rw [pVals, hp]
      simp only
      rw [hl]⟩
/-- What the reference's reading of bytes tells. -/
def RGotP (w : World) (got : Rp × Nat × Int) (e : Ending) (w' : World) : Prop :=
  ∃ u, e = .returned (.tuple #[u, .int .i64 (got.2.1 : Nat), .int .i64 got.2.2]) ∧ RpIn w' got.1 u ∧ Grow w w'
theorem RGotP.of {w w' : World} {q : Rp} {n : Nat} {x : Int} {got : Rp × Nat × Int} {u : Value} (h : got = (q, n, x)) (hr : RpIn w' q u) (hg : Grow w w') : RGotP w got (.returned (.tuple #[u, .int .i64 n, .int .i64 x])) w' := by
  subst h; exact ⟨u, rfl, hr, hg⟩

set_option maxRecDepth 100000 in
set_option maxHeartbeats 6400000 in
theorem refGetP_any (b : List UInt8) (A : Option Addr) (cap : Nat) (w : World) (hb : InB w A b) (hl : b.length ≤ 140737488355328) (hcap : b.length ≤ cap) :
    Calls Tryd.prog 19 #[.slice A b.length cap] w (RGotP w (getRep b)) := by
  have HB := hide hb
  have H2 := hide ((Blk.new w 25 zeroP).alloc (.cells zeroP 25))
  have H5 := hide (show Blk ((w.alloc (.cells zeroP 25)).alloc (.cells zeroP 25)) (w.heap.size + 1) 25 zeroP from Blk.new' (by simp) _ _)
  have HG1 := hide (((Grow.refl w).alloc (.cells zeroP 25)).alloc (.cells zeroP 25))
  clear hb
  go_enter Tryd.func19, Tryd.ntmps19
  go_wp2_with fail
  generalize hW1 : (w.alloc (.cells _ 25)).alloc (.cells _ 25) = w1 at H2 H5 HG1 ⊢
  clear hW1
  have hz1' : w.heap.size + 1 < w1.heap.size := H5.out.lt
  obtain ⟨Z, hZ⟩ : ∃ Z, zeroP = Z := ⟨_, rfl⟩
  have hZn : Z.size = 4 := by rw [← hZ]; rfl
  have hZ1 : Z.all (·.oneCell') = true := by rw [← hZ]; exact zeroP_one
  have h5 := H5.out
  rw [hZ] at h5
  clear H5
  have H5 := hide h5
  have HZ := hide hZ
  have HZN := hide hZn
  have HZ1 := hide hZ1
  clear h5 hZ hZn hZ1
  have HH := hide (refHead_any b A cap w1 (HB.out.grow HG1.out) hl hcap)
  refine HH.out.mono ?_
  rintro e w2 ⟨rfl, hg2⟩
  obtain ⟨n, e0, hh⟩ : ∃ n e, head b = (n, e) := ⟨_, _, rfl⟩
  rw [hh]
  dsimp only
  have H2' := hide (H2.out.grow hg2)
  have H5' := hide (H5.out.grow hg2)
  have HG2 := hide (HG1.out.trans hg2)
  have HHD := hide hh
  have hz2 := hg2.size
  clear hg2 hh H2 H5 HG1 HH
  by_cases he : e0 = 0
  rotate_left 1
  · have he0 : (e0 != 0) = true := by simpa using he
    go_wp2_with (first
      | ((with_reducible refine at_load 25 ?_); refine load_blk (g := w.heap.size + 1) (n := 4) (cells := Z) Tryd.underlying25 rfl rfl H5'.out info_rP HZN.out ?_)
      | ((with_reducible refine at_store 25 ?_); refine store_blk (g := w.heap.size) (n := 4) (cells := Z) rfl rfl H2'.out info_rP rfl HZN.out HZ1.out ?_; intro w3 hb3 hg3 hz3; have HB3 := hide hb3; have HG3 := hide (HG2.out.grown hg3 (fun k e => by injection e with e; omega)); clear hb3 hg3))
    refine bodyPost_ret (gp_results (u := .int .i64 (n : Nat)) (v := .int .i64 e0) rfl rfl rfl rfl HZN.out HB3.out) rfl (RGotP.of (getP_bad HHD.out he) (by rw [← HZ.out]; exact RpIn.zero _) HG3.out)
  subst he
  obtain ⟨body, rest', hbb, hm, hbl, hbody⟩ := head_sound HHD.out
  subst hm
  have hl8 : body.length + 8 ≤ b.length := by
    have := congrArg List.length hbb
    rw [List.length_append, frameOf_length] at this; omega
  obtain ⟨bk, o, hA, hcl⟩ := HB.out.2 (by omega)
  subst hA
  have HBK := hide (show bk < w.heap.size from (hcl 0 _ (u8s_get b 0 (by omega))).2.2)
  clear hcl
  have HBI := hide (show InB w (some ⟨bk, o + 4, none⟩) body from by
    have := HB.out.mid 4 body.length
    rwa [show body.length = body.length + 8 - 8 from by omega, hbody] at this)
  have HBODY := hide hbody
  clear hbb hbody
  have hcp4 : body.length < cap - 4 := by omega
  go_wp2_with fail
  have H8 := hide (Blk.new w2 102 (cuV bk (o + 4) body.length (cap - 4) 0 true))
  have hal := (Grow.refl w2).alloc (.cells (cuV bk (o + 4) body.length (cap - 4) 0 true) 102)
  have H2 := hide (H2'.out.grow hal)
  have H5 := hide (H5'.out.grow hal)
  have HG := hide (HG2.out.trans hal)
  have hzw : w.heap.size + 1 < w2.heap.size := H5'.out.lt
  have HC := hide (show CuR bk (o + 4) (cap - 4) body (some body) (cuV bk (o + 4) body.length (cap - 4) 0 true) from CuR.yes (Nat.zero_le _) rfl)
  obtain ⟨s0, hs0⟩ : ∃ s, some body = s := ⟨_, rfl⟩
  rw [hs0] at HC
  have HS0 := hide hs0
  clear hal H2' H5' HG2 hs0 hz2
  generalize hg8 : w2.heap.size = g8 at H8 hzw ⊢
  generalize hW0 : w2.alloc (.cells _ 102) = wb0 at H8 H2 H5 HG ⊢
  clear hW0 hg8
  -- step 1
  refine (rnum_any bk (o + 4) (cap - 4) body 1 (by omega) (by omega) s0 _ wb0 hbl hcp4 (HBI.out.grow HG.out) HC.out).mono ?_
  rintro e wa1 ⟨cv, rfl, hr, hg⟩
  obtain ⟨q1, hq, rfl, hst⟩ := hr
  have hcu := (show CuR bk (o + 4) (cap - 4) body _ _ from ⟨q1, hq, rfl, hst⟩)
  clear hst HC
  obtain ⟨d, hd⟩ : ∃ n, numO 1 s0 = n := ⟨_, rfl⟩
  have dlt : d < 256 := by have := numO_lt 1 s0; rw [hd] at this; exact this
  rw [hd]
  have Hd := hide hd
  clear hd
  obtain ⟨s1, hs1⟩ : ∃ s, nextO (pNum 1) s0 = s := ⟨_, rfl⟩
  rw [hs1] at hcu ⊢
  have HS1 := hide hs1
  generalize hok : Option.isSome s1 = ok1 at hcu ⊢
  have HC := hide hcu
  clear hok hcu hs1
  have h8 := H8.out.grow hg
  have h2 := H2.out.grow hg
  have h5 := H5.out.grow hg
  have hgg := HG.out.trans hg
  clear hg H8 H2 H5 HG
  have hc8 := h8.cell
  have hf8 := h8.frozen
  go_upto_region 7 with fail
  refine set_D (φ := fun W => Code.wp _ _ _ _ W) h8 (fun wb1 hb8 hgb => ?_)
  have hlt8 := hb8.lt
  have hal := (Grow.refl wb1).alloc (.cells #[.int .i64 (d : Int), .int .i64 0, .slice none 0 0, .int .i64 0] 25)
  have H8 := hide (hb8.grow hal)
  have H2 := hide ((h2.own hgb (fun k e => by injection e with e; omega)).grow hal)
  have H5 := hide ((h5.own hgb (fun k e => by injection e with e; omega)).grow hal)
  have HG := hide ((hgg.grown hgb (fun k e => by injection e with e; omega)).trans hal)
  have H10 := hide (Blk.new wb1 25 #[.int .i64 (d : Int), .int .i64 0, .slice none 0 0, .int .i64 0])
  clear h2 h5 hgg hc8 hf8 h8 hgb hal
  have hc8 := hb8.cell
  go_wp2_with fail
  generalize hg10 : wb1.heap.size = g10 at H10 hlt8 ⊢
  generalize hWb : wb1.alloc (.cells _ 25) = wx1 at H8 H2 H5 HG H10 ⊢
  clear hg10 hWb hb8 hc8
  -- step 2
  refine (rnum_any bk (o + 4) (cap - 4) body 4 (by omega) (by omega) s1 _ wx1 hbl hcp4 (HBI.out.grow HG.out) HC.out).mono ?_
  rintro e wa2 ⟨cv, rfl, hr, hg⟩
  obtain ⟨q2, hq, rfl, hst⟩ := hr
  have hcu := (show CuR bk (o + 4) (cap - 4) body _ _ from ⟨q2, hq, rfl, hst⟩)
  clear hst HC
  obtain ⟨nn, hnn⟩ : ∃ n, numO 4 s1 = n := ⟨_, rfl⟩
  have nnlt : nn < 4294967296 := by have := numO_lt 4 s1; rw [hnn] at this; exact this
  rw [hnn]
  have Hnn := hide hnn
  clear hnn
  obtain ⟨s2, hs2⟩ : ∃ s, nextO (pNum 4) s1 = s := ⟨_, rfl⟩
  rw [hs2] at hcu ⊢
  have HS2 := hide hs2
  generalize hok : Option.isSome s2 = ok2 at hcu ⊢
  have HC := hide hcu
  have HOK2 := hide hok
  clear hok hcu hs2
  have h8 := H8.out.grow hg
  have h10 := H10.out.grow hg
  have h2 := H2.out.grow hg
  have h5 := H5.out.grow hg
  have hgg := HG.out.trans hg
  clear hg H8 H10 H2 H5 HG
  have hc8 := h8.cell
  have hf8 := h8.frozen
  have hc10 := h10.cell
  have hf10 := h10.frozen
  go_wp2_with fail
  refine set_A (φ := fun w => Calls _ _ _ w _) 1 h8 h10 hlt8 (fun wx2 hb8 hb10 hbe hkk => ?_)
  have H8 := hide hb8
  have H10 := hide (show Blk wx2 g10 25 #[.int .i64 (d : Int), .int .i64 (nn : Int), .slice none 0 0, .int .i64 0] from hb10)
  have H2 := hide (h2.below hbe (by omega))
  have H5 := hide (h5.below hbe (by omega))
  have HG := hide (show Grow w wx2 from Below.trans hgg (Below.mono hbe (by omega)))
  clear h8 h10 h2 h5 hgg hc8 hf8 hc10 hf10 hb8 hb10 hbe hkk
  -- step 3
  refine (rnum_any bk (o + 4) (cap - 4) body 4 (by omega) (by omega) s2 _ wx2 hbl hcp4 (HBI.out.grow HG.out) HC.out).mono ?_
  rintro e wa3 ⟨cv, rfl, hr, hg⟩
  obtain ⟨q3, hq, rfl, hst⟩ := hr
  have hcu := (show CuR bk (o + 4) (cap - 4) body _ _ from ⟨q3, hq, rfl, hst⟩)
  clear hst HC
  obtain ⟨kk, hkk⟩ : ∃ n, numO 4 s2 = n := ⟨_, rfl⟩
  have kklt : kk < 4294967296 := by have := numO_lt 4 s2; rw [hkk] at this; exact this
  rw [hkk]
  have Hkk := hide hkk
  clear hkk
  obtain ⟨s3, hs3⟩ : ∃ s, nextO (pNum 4) s2 = s := ⟨_, rfl⟩
  rw [hs3] at hcu ⊢
  have HS3 := hide hs3
  generalize hok : Option.isSome s3 = ok3 at hcu ⊢
  have HC := hide hcu
  have HOK3 := hide hok
  clear hok hcu hs3
  have h8 := H8.out.grow hg
  have h10 := H10.out.grow hg
  have h2 := H2.out.grow hg
  have h5 := H5.out.grow hg
  have hgg := HG.out.trans hg
  clear hg H8 H10 H2 H5 HG
  have hc8 := h8.cell
  have hf8 := h8.frozen
  have hc10 := h10.cell
  have hf10 := h10.frozen
  go_wp2_with fail
  refine set_A (φ := fun w => Calls _ _ _ w _) 3 h8 h10 hlt8 (fun wx3 hb8 hb10 hbe hkk => ?_)
  have H8 := hide hb8
  have H10 := hide (show Blk wx3 g10 25 #[.int .i64 (d : Int), .int .i64 (nn : Int), .slice none 0 0, .int .i64 (kk : Int)] from hb10)
  have H2 := hide (h2.below hbe (by omega))
  have H5 := hide (h5.below hbe (by omega))
  have HG := hide (show Grow w wx3 from Below.trans hgg (Below.mono hbe (by omega)))
  clear h8 h10 h2 h5 hgg hc8 hf8 hc10 hf10 hb8 hb10 hbe hkk
  -- step 4
  refine (rnum_any bk (o + 4) (cap - 4) body 1 (by omega) (by omega) s3 _ wx3 hbl hcp4 (HBI.out.grow HG.out) HC.out).mono ?_
  rintro e wa4 ⟨cv, rfl, hr, hg⟩
  obtain ⟨q4, hq, rfl, hst⟩ := hr
  have hcu := (show CuR bk (o + 4) (cap - 4) body _ _ from ⟨q4, hq, rfl, hst⟩)
  clear hst HC
  obtain ⟨m, hm⟩ : ∃ n, numO 1 s3 = n := ⟨_, rfl⟩
  have mlt : m < 256 := by have := numO_lt 1 s3; rw [hm] at this; exact this
  rw [hm]
  have Hm := hide hm
  clear hm
  obtain ⟨s4, hs4⟩ : ∃ s, nextO (pNum 1) s3 = s := ⟨_, rfl⟩
  rw [hs4] at hcu ⊢
  have HS4 := hide hs4
  generalize hok : Option.isSome s4 = ok4 at hcu ⊢
  have HC := hide hcu
  have HOK4 := hide hok
  clear hok hcu hs4
  have h8 := H8.out.grow hg
  have h10 := H10.out.grow hg
  have h2 := H2.out.grow hg
  have h5 := H5.out.grow hg
  have hgg := HG.out.trans hg
  clear hg H8 H10 H2 H5 HG
  have hc8 := h8.cell
  have hf8 := h8.frozen
  have hc10 := h10.cell
  have hf10 := h10.frozen
  go_upto_region 11 with fail
  refine set_D (φ := fun W => Code.wp _ _ _ _ W) h8 (fun wx4 hb8 hgb => ?_)
  have H8 := hide hb8
  have H10 := hide (h10.own hgb (fun k e => by injection e with e; omega))
  have H2 := hide (h2.own hgb (fun k e => by injection e with e; omega))
  have H5 := hide (h5.own hgb (fun k e => by injection e with e; omega))
  have HG := hide (hgg.grown hgb (fun k e => by injection e with e; omega))
  clear h8 h10 h2 h5 hgg hc8 hf8 hc10 hf10 hb8 hgb
  have hc10 := H10.out.cell
  by_cases hbad : 64 < m ∨ 2147483648 ≤ nn ∨ 2147483648 ≤ kk
  · have HGT := hide (show getRep b = (Rp.zero, body.length + 8, 4) from getP_none HHD.out HBODY.out (by
      cases hp : pRep body with
      | none => rfl
      | some x =>
        obtain ⟨q, r⟩ := x
        obtain ⟨r4, _, k1, k2, k3, _⟩ := prep_open HS0.out.symm HS1.out HS2.out HS3.out HS4.out hp
        rw [Hnn.out] at k1
        rw [Hkk.out] at k2
        rw [Hm.out] at k3
        omega))
    by_cases b1 : 64 < m
    · have f1 : decide ((64 : Int) < (m : Int)) = true := by simp; omega
      clear hbad
      go_wp2_with (first
        | ((with_reducible refine at_load 25 ?_); refine load_blk (g := w.heap.size + 1) (n := 4) (cells := Z) Tryd.underlying25 rfl rfl H5.out info_rP HZN.out ?_)
        | ((with_reducible refine at_store 25 ?_); refine store_blk (g := w.heap.size) (n := 4) (cells := Z) rfl rfl H2.out info_rP rfl HZN.out HZ1.out ?_; intro w3 hb3 hg3 hz3; have HB3 := hide hb3; have HG3 := hide (HG.out.grown hg3 (fun k e => by injection e with e; omega)); clear hb3 hg3))
      exact bodyPost_ret (gp_results (u := .int .i64 ((body.length + 8 : Nat) : Int)) (v := .int .i64 4) rfl rfl rfl rfl HZN.out HB3.out) rfl (RGotP.of HGT.out (by rw [← HZ.out]; exact RpIn.zero _) HG3.out)
    · have f1 : decide ((64 : Int) < (m : Int)) = false := by simp; omega
      by_cases b2 : 2147483648 ≤ nn
      · have f2 : decide ((2147483648 : Int) ≤ (nn : Int)) = true := by simp; omega
        clear hbad
        go_wp2_with (first
          | ((with_reducible refine at_load 25 ?_); refine load_blk (g := w.heap.size + 1) (n := 4) (cells := Z) Tryd.underlying25 rfl rfl H5.out info_rP HZN.out ?_)
          | ((with_reducible refine at_store 25 ?_); refine store_blk (g := w.heap.size) (n := 4) (cells := Z) rfl rfl H2.out info_rP rfl HZN.out HZ1.out ?_; intro w3 hb3 hg3 hz3; have HB3 := hide hb3; have HG3 := hide (HG.out.grown hg3 (fun k e => by injection e with e; omega)); clear hb3 hg3))
        exact bodyPost_ret (gp_results (u := .int .i64 ((body.length + 8 : Nat) : Int)) (v := .int .i64 4) rfl rfl rfl rfl HZN.out HB3.out) rfl (RGotP.of HGT.out (by rw [← HZ.out]; exact RpIn.zero _) HG3.out)
      · have f2 : decide ((2147483648 : Int) ≤ (nn : Int)) = false := by simp; omega
        have f3 : decide ((2147483648 : Int) ≤ (kk : Int)) = true := by simp; omega
        clear hbad
        go_wp2_with (first
          | ((with_reducible refine at_load 25 ?_); refine load_blk (g := w.heap.size + 1) (n := 4) (cells := Z) Tryd.underlying25 rfl rfl H5.out info_rP HZN.out ?_)
          | ((with_reducible refine at_store 25 ?_); refine store_blk (g := w.heap.size) (n := 4) (cells := Z) rfl rfl H2.out info_rP rfl HZN.out HZ1.out ?_; intro w3 hb3 hg3 hz3; have HB3 := hide hb3; have HG3 := hide (HG.out.grown hg3 (fun k e => by injection e with e; omega)); clear hb3 hg3))
        exact bodyPost_ret (gp_results (u := .int .i64 ((body.length + 8 : Nat) : Int)) (v := .int .i64 4) rfl rfl rfl rfl HZN.out HB3.out) rfl (RGotP.of HGT.out (by rw [← HZ.out]; exact RpIn.zero _) HG3.out)
  have f1 : decide ((64 : Int) < (m : Int)) = false := by simp; omega
  have f2 : decide ((2147483648 : Int) ≤ (nn : Int)) = false := by simp; omega
  have f3 : decide ((2147483648 : Int) ≤ (kk : Int)) = false := by simp; omega
  have hm64 : m ≤ 64 := by omega
  have hnn : nn < 2147483648 := by omega
  have hkk : kk < 2147483648 := by omega
  clear hbad
  have HFL := hide (fun (st : Option (List UInt8)) (es : List VE) (j : Nat) (hso : SoP m j s4 st es) (hst : st = none) => (show getRep b = (Rp.zero, body.length + 8, 4) from getP_none HHD.out HBODY.out (by
    cases hp : pRep body with
    | none => rfl
    | some x =>
      obtain ⟨q, r⟩ := x
      obtain ⟨r4, k0, _, _, _, l, k4, _⟩ := prep_open HS0.out.symm HS1.out HS2.out HS3.out HS4.out hp
      rw [Hm.out] at k4
      have := (hso.2 r4 k0).2 hst
      rw [this] at k4
      cases k4)))
  obtain ⟨i0, hi0, hz0, hz1, hz2⟩ := info_parts info_val3
  have Hi0 := hide hi0
  have Hz0 := hide hz0
  have Hz1 := hide hz1
  have Hz2 := hide hz2
  clear hi0 hz0 hz1 hz2
  go_wp2_with fail
  go_loopg [12] (m + 1) (fun gk i wr => ∃ (j : Nat) (es : List VE) (A' : Option Addr) (c' q : Nat) (st : Option (List UInt8)) (ok : Bool), j ≤ m ∧ gk + j = m + 1 ∧ i = .int .i64 j ∧ es.length = j ∧ st.isSome = ok ∧ CuR bk (o + 4) (cap - 4) body st (cuV bk (o + 4) body.length (cap - 4) q ok) ∧ Blk wr g8 102 (cuV bk (o + 4) body.length (cap - 4) q ok) ∧ Blk wr g10 25 #[.int .i64 (d : Int), .int .i64 (nn : Int), .slice A' j c', .int .i64 (kk : Int)] ∧ VRow wr 47 noHead 5 (g10 + 1) g10 (g10 + 1) (.slice A' j c') es ∧ SoP m j s4 st es ∧ Blk wr w.heap.size 25 zeroP ∧ Blk wr (w.heap.size + 1) 25 Z ∧ Grow w wr)
  case atStart => exact ⟨0, [], none, 0, q4, s4, ok4, by omega, by omega, rfl, rfl, HOK4.out, HC.out, H8.out, H10.out, ⟨World.ownsRow_nil _ _ _ _, fun x hx => by simp at hx, fun i j hi => by simp at hi⟩, SoP.start _ _, H2.out, H5.out, HG.out⟩
  case round =>
    obtain ⟨j, es, A', c', q, st, ok, hj, hg, rfl, hel, hok, hcu, h8, h10, hv, hso, h2, h5, hgg⟩ := hrel
    have HEL := hide hel
    have HOKR := hide hok
    have HCU := hide hcu
    have HV := hide hv
    have HSO := hide hso
    have H8r := hide h8
    have H10r := hide h10
    have H2r := hide h2
    have H5r := hide h5
    have HGr := hide hgg
    have hc8 := h8.cell
    have hf8 := h8.frozen
    have hc10 := h10.cell
    have hf10 := h10.frozen
    have hlt10 := h10.lt
    clear hel hok hcu hv hso h2 h5 hgg
    by_cases hlt : j < m
    · cases ok
      · have HGT := hide (HFL.out st es j HSO.out (by have := HOKR.out; simpa using this))
        have hdl : decide ((j : Int) < (m : Int)) = true := by simp; exact hlt
        go_wp2_with (first
          | ((with_reducible refine at_load 25 ?_); refine load_blk (g := w.heap.size + 1) (n := 4) (cells := Z) Tryd.underlying25 rfl rfl H5r.out info_rP HZN.out ?_)
          | ((with_reducible refine at_store 25 ?_); refine store_blk (g := w.heap.size) (n := 4) (cells := Z) rfl rfl H2r.out info_rP rfl HZN.out HZ1.out ?_; intro w3 hb3 hg3 hz3; have HB3 := hide hb3; have HG3 := hide (HGr.out.grown hg3 (fun k e => by injection e with e; omega)); clear hb3 hg3))
        exact bodyPost_ret (gp_results (u := .int .i64 ((body.length + 8 : Nat) : Int)) (v := .int .i64 4) rfl rfl rfl rfl HZN.out HB3.out) rfl (RGotP.of HGT.out (by rw [← HZ.out]; exact RpIn.zero _) HG3.out)
      · obtain ⟨gk', rfl⟩ : ∃ g, gk = g + 1 := ⟨gk - 1, by omega⟩
        have hdl : decide ((j : Int) < (m : Int)) = true := by simp; exact hlt
        go_wp2_with fail
        refine (rval_any bk (o + 4) (cap - 4) body st _ wr hbl hcp4 (HBI.out.grow HGr.out) HCU.out).mono ?_
        rintro ee w2r ⟨c, cv, rfl, hin, hr, hg2⟩
        obtain ⟨q', hq', rfl, hst'⟩ := hr
        have hcu' := (show CuR bk (o + 4) (cap - 4) body _ _ from ⟨q', hq', rfl, hst'⟩)
        clear hst'
        obtain ⟨st', hst'⟩ : ∃ s, nextO pVal st = s := ⟨_, rfl⟩
        rw [hst'] at hcu' ⊢
        have HST' := hide hst'
        obtain ⟨ok', hok'⟩ : ∃ x, Option.isSome st' = x := ⟨_, rfl⟩
        rw [hok'] at hcu' ⊢
        have HCU' := hide hcu'
        have HOK' := hide hok'
        have HIN := hide hin
        have h8' := h8.grow hg2
        have h10' := h10.grow hg2
        have hal := ((Grow.refl w2r).alloc (.cells c.cells 47)).alloc (.cells (cuV bk (o + 4) body.length (cap - 4) q' ok') 102)
        have h8a := h8'.grow hal
        have h10a := h10'.grow hal
        have HV2 := hide ((HV.out.grow hg2).grow hal)
        have HIN2 := hide (HIN.out.grow hal)
        have HT13 := hide ((Blk.new w2r 47 c.cells).alloc (.cells (cuV bk (o + 4) body.length (cap - 4) q' ok') 102))
        have H2a := hide ((H2r.out.grow hg2).grow hal)
        have H5a := hide ((H5r.out.grow hg2).grow hal)
        have HGa := hide ((HGr.out.trans hg2).trans hal)
        have hz2r : wr.heap.size ≤ w2r.heap.size := hg2.size
        clear hcu' hst' hok' hin hg2 h8 h10 hc8 hf8 hc10 hf10 h8' h10' hal
        have hc8 := h8a.cell
        have hf8 := h8a.frozen
        go_upto_region 18 with fail
        refine set_D (φ := fun W => Code.wp _ _ _ _ W) h8a (fun w3r hb8 hgb => ?_)
        have H8b := hide hb8
        have h10b := h10a.own hgb (fun k e => by injection e with e; omega)
        have hlt10b := h10b.lt
        have HV3 := hide (HV2.out.gb hgb (by omega) (by omega))
        have HIN3 := hide (show InS w3r wr.heap.size w3r.heap.size (valO pVal st) c from (HIN2.out.blocks hgb.size (fun k h1 h2 => hgb.block k (Nat.lt_of_lt_of_le h2 HIN2.out.1) (fun e => by injection e with e; omega))).wider (Nat.le_refl _) (Nat.le_trans HIN2.out.1 hgb.size) (Nat.le_refl _))
        have hT13 := HT13.out.own hgb (fun k e => by injection e with e; omega)
        have H2b := hide (H2a.out.own hgb (fun k e => by injection e with e; omega))
        have H5b := hide (H5a.out.own hgb (fun k e => by injection e with e; omega))
        have HGb := hide (HGa.out.grown hgb (fun k e => by injection e with e; omega))
        have hc13 := hT13.cell
        have hc10 := h10b.cell
        have H10b := hide h10b
        have hown3 := HV3.out.own
        rw [HEL.out] at hown3
        have HO3 := hide hown3
        have hzr3 : w2r.heap.size < w3r.heap.size := hT13.lt
        clear h8a h10a hb8 hgb hc8 hf8 hT13 h10b hown3 HV2 HIN2 HT13 H2a H5a HGa
        go_wp2_with (at_builtin; refine wpList_append_src rfl (.tmp 85) (.tmp 87) 23 23 rfl (g10 + 1) 47 i0 _ 5 88 under_vals Hi0.out Hz0.out Hz1.out Hz2.out rfl (.slice A' j c') j (cellsOf noHead es) rfl (HO3.out.alloc _) _ 1 c.cells.toList rfl (Src.oneV c _) (by omega) (by simp only [maxLen]; omega) (by simp; omega) ?_; intro A3 c3 w4r hown4 hgr4 hat4; have hB4 := Blk.own (H10b.out.alloc _) hgr4 (fun k hk => by have := (HV3.out.own_lt hk).1; omega); have hc4 := hB4.cell; have hf4 := hB4.frozen)
        have hV4 := VRow.add (s := ⟨#[]⟩) (m0 := wr.heap.size) HV3.out (fun k hk => (HV.out.own_lt hk).2) hlt10 (by omega) (fun y hy => (HV.out.part y hy).2.2.2.1) HIN3.out (by rw [HEL.out]; exact hown4) hgr4 hat4
        have HV5 := hide (VRow.set hV4 (by omega) 2 (.slice A3 (j + 1) c3))
        have HB5 := hide (hB4.set_ 2 (.slice A3 (j + 1) c3))
        have hne4 : ∀ k, (Value.slice A' j c').ownBlock = some k → g10 + 1 ≤ k := fun k hk => (HV3.out.own_lt hk).1
        have hset := grown_set w4r g10 2 (.slice A3 (j + 1) c3)
        have H85 := hide (((Blk.own (H8b.out.alloc _) hgr4 (fun k hk => by have := hne4 k hk; omega))).own hset (fun k e => by injection e with e; omega))
        have H25 := hide (((Blk.own (H2b.out.alloc _) hgr4 (fun k hk => by have := hne4 k hk; omega))).own hset (fun k e => by injection e with e; omega))
        have H55 := hide (((Blk.own (H5b.out.alloc _) hgr4 (fun k hk => by have := hne4 k hk; omega))).own hset (fun k e => by injection e with e; omega))
        have HG5 := hide ((((HGb.out.alloc _).grown hgr4 (fun k hk => by have := hne4 k hk; omega))).grown hset (fun k e => by injection e with e; omega))
        have HSO5 := hide (show SoP m (j + 1) s4 st' (es ++ [⟨⟨#[]⟩, valO pVal st, c, wr.heap.size, w3r.heap.size⟩]) from by
          obtain ⟨rest, hrest⟩ : ∃ r, st = some r := Option.isSome_iff_exists.1 HOKR.out
          have hso := HSO.out
          have hst := HST'.out
          rw [hrest] at hso hst ⊢
          have := hso.step hlt ⟨#[]⟩ c wr.heap.size w3r.heap.size
          rwa [hst] at this)
        clear hV4 hset hne4 hB4 hc4 hf4 hown4 hgr4 hat4
        go_roundg gk'
        case measure => omega
        case rel => exact ⟨j + 1, _, A3, c3, q', st', ok', by omega, by omega, by go_num, by simp [HEL.out], HOK'.out, HCU'.out, H85.out, HB5.out, HV5.out, HSO5.out, H25.out, H55.out, HG5.out⟩
    · obtain rfl : j = m := by omega
      cases ok
      · have HGT := hide (HFL.out st es j HSO.out (by have := HOKR.out; simpa using this))
        go_wp2_with (first
          | ((with_reducible refine at_load 25 ?_); refine load_blk (g := w.heap.size + 1) (n := 4) (cells := Z) Tryd.underlying25 rfl rfl H5r.out info_rP HZN.out ?_)
          | ((with_reducible refine at_store 25 ?_); refine store_blk (g := w.heap.size) (n := 4) (cells := Z) rfl rfl H2r.out info_rP rfl HZN.out HZ1.out ?_; intro w3 hb3 hg3 hz3; have HB3 := hide hb3; have HG3 := hide (HGr.out.grown hg3 (fun k e => by injection e with e; omega)); clear hb3 hg3))
        exact bodyPost_ret (gp_results (u := .int .i64 ((body.length + 8 : Nat) : Int)) (v := .int .i64 4) rfl rfl rfl rfl HZN.out HB3.out) rfl (RGotP.of HGT.out (by rw [← HZ.out]; exact RpIn.zero _) HG3.out)
      · have hst := (show st = some (body.drop q) from by
          rcases HCU.out.open with ⟨qq, hqq, hs, hcv⟩ | ⟨qq, hqq, hs, hcv⟩
          · obtain ⟨e1, _⟩ := cuV_inj hcv
            rw [e1]; exact hs
          · have := HOKR.out
            rw [hs] at this
            cases this)
        have HP := hide (show pRep body = some (⟨(d : Int), (nn : Int), es.map VE.v, (kk : Int)⟩, body.drop q) from by
          obtain ⟨r4, k4⟩ : ∃ r, s4 = some r := by
            cases h4 : s4 with
            | none => have := HSO.out.1 h4; rw [hst] at this; cases this
            | some r => exact ⟨r, rfl⟩
          have hl := ((HSO.out.2 r4 k4).1 _ hst (es.map VE.v, body.drop q)).2 ⟨[], by rw [Nat.sub_self]; rfl, by simp⟩
          have := prep_some HS0.out.symm HS1.out HS2.out HS3.out HS4.out k4 (by rw [Hnn.out]; exact hnn) (by rw [Hkk.out]; exact hkk) (by rw [Hm.out]; exact hm64) (by rw [Hm.out]; exact hl)
          rw [Hd.out, Hnn.out, Hkk.out] at this
          exact this)
        have hql : q ≤ body.length := by
          rcases HCU.out.open with ⟨qq, hqq, hs, hcv⟩ | ⟨qq, hqq, hs, hcv⟩
          · obtain ⟨e1, _⟩ := cuV_inj hcv
            omega
          · obtain ⟨e1, _⟩ := cuV_inj hcv
            omega
        clear hst
        by_cases hqe : q = body.length
        rotate_left 1
        · have hd2 : ((q : Int) != (body.length : Int)) = true := by simp; omega
          have HGT := hide (show getRep b = (Rp.zero, body.length + 8, 4) from by rw [getP_some HHD.out HBODY.out HP.out, if_neg (by rw [List.drop_eq_nil_iff]; omega)])
          go_wp2_with (first
            | ((with_reducible refine at_load 25 ?_); refine load_blk (g := w.heap.size + 1) (n := 4) (cells := Z) Tryd.underlying25 rfl rfl H5r.out info_rP HZN.out ?_)
            | ((with_reducible refine at_store 25 ?_); refine store_blk (g := w.heap.size) (n := 4) (cells := Z) rfl rfl H2r.out info_rP rfl HZN.out HZ1.out ?_; intro w3 hb3 hg3 hz3; have HB3 := hide hb3; have HG3 := hide (HGr.out.grown hg3 (fun k e => by injection e with e; omega)); clear hb3 hg3))
          exact bodyPost_ret (gp_results (u := .int .i64 ((body.length + 8 : Nat) : Int)) (v := .int .i64 4) rfl rfl rfl rfl HZN.out HB3.out) rfl (RGotP.of HGT.out (by rw [← HZ.out]; exact RpIn.zero _) HG3.out)
        · subst hqe
          have HGT := hide (show getRep b = (_, body.length + 8, 0) from by rw [getP_some HHD.out HBODY.out HP.out, if_pos (by rw [List.drop_eq_nil_iff]; omega)])
          have hS : InS wr (g10 + 1) wr.heap.size (.mk 7 0 [] (es.map VE.v) []) ⟨7, 0, none, 0, 0, A', j, c', none, 0, 0⟩ := ⟨Nat.le_refl _, IsS.mono _ _ _ _ (fun p u q s => q.1) (fun q s => s) (HV.out.isL HEL.out.symm (Nat.le_refl _) (by omega) hm64)⟩
          have HRP := hide (fun (w' : World) (hk : wr.grownBy w' (some w.heap.size)) => (show RpIn w' ⟨(d : Int), (nn : Int), es.map VE.v, (kk : Int)⟩ (.agg #[.int .i64 (d : Int), .int .i64 (nn : Int), .slice A' j c', .int .i64 (kk : Int)]) from
            ⟨A', c', by rw [List.length_map, HEL.out], by
              have hl : (es.map VE.v).length = j := by rw [List.length_map, HEL.out]
              show In w' _ (lcv A' (es.map VE.v).length c')
              rw [hl]
              exact (hS.blocks hk.size (fun k h1 h2 => hk.block k h2 (fun e => by injection e with e; omega))).in_⟩))
          have h9 := H10r.out
          have hnn4 : (#[.int .i64 (d : Int), .int .i64 (nn : Int), .slice A' j c', .int .i64 (kk : Int)] : Array Value).size = 4 := rfl
          have hon : (#[.int .i64 (d : Int), .int .i64 (nn : Int), .slice A' j c', .int .i64 (kk : Int)] : Array Value).all (·.oneCell') = true := by simp [Value.oneCell']
          clear hS H10r
          generalize hCS : (#[.int .i64 (d : Int), .int .i64 (nn : Int), .slice A' j c', .int .i64 (kk : Int)] : Array Value) = CS at h9 hnn4 hon HRP
          have H9 := hide h9
          clear hCS h9
          go_wp2_with (first
            | ((with_reducible refine at_load 25 ?_); refine load_blk (g := g10) (n := 4) (cells := CS) Tryd.underlying25 rfl rfl H9.out info_rP hnn4 ?_)
            | ((with_reducible refine at_store 25 ?_); refine store_blk (g := w.heap.size) (n := 4) (cells := CS) rfl rfl H2r.out info_rP rfl hnn4 hon ?_; intro w3 hb3 hg3 hz3; have HB3 := hide hb3; have HG3 := hide (HGr.out.grown hg3 (fun k e => by injection e with e; omega)); have HK3 := hide hg3; clear hb3 hg3))
          exact bodyPost_ret (gp_results (u := .int .i64 ((body.length + 8 : Nat) : Int)) (v := .int .i64 0) rfl rfl rfl rfl hnn4 HB3.out) rfl (RGotP.of HGT.out (HRP.out _ HK3.out) HG3.out)
end Go.Proofs.YtojpeiihkjpeoaaDoor
