/- Walks: the reference's text, frame, value. Written by wip/tools/gen_refp.py. · Walks: the reference's request, PutRequest. Written by wip/tools/gen_refpq.py. -/
import Derived.Test.YthjjmndjfoebgaaDoorPutQ
import Derived.Test.YthjjmndjfoebgaaDoorGoodR
import Derived.Test.YthjjmndjfoebgaaDoorSameQ
set_option linter.unusedVariables false
set_option linter.unusedSimpArgs false
namespace Go.Proofs.YthjjmndjfoebgaaDoor
open Go.RowKit Go.Shelf

set_option maxRecDepth 100000 in
set_option maxHeartbeats 1600000 in
theorem rtext_any (s : ByteArray) (base : Nat) (A : Option Addr) (c m : Nat) (xs : List UInt8) (w : World) (hs : s.size ≤ 200) (hown : Row w base (.slice A m c) m xs) (hbase : base ≤ w.heap.size) (hm : m + 201 ≤ 140737488355328) :
    Calls Tryd.prog 103 #[.slice A m c, .string s] w (LayC w base (.slice A m c) (xs ++ textB s)) := by
  have hxl : xs.length = m := hown.reads.2
  have HO := hide hown
  have hsl : s.data.toList.length = s.size := by simp
  have hs8 : ((UInt8.ofNat s.size).toNat : Int) = (s.size : Int) := by rw [UInt8.toNat_ofNat']; omega
  clear hown
  go_enter Tryd.func103, Tryd.ntmps103
  go_wp2_with (first
    | (at_builtin; refine app_src (ys := [UInt8.ofNat s.size]) rfl (.tmp 5) (.tmp 9) _ rfl rfl (HO.out.alloc _) _ rfl (src_one _ hs8 (Blk.new w _ _)) (by simp only [List.length_cons, List.length_nil]; omega) (by simp; omega) ?_; intro A2 c2 w2 hr2 hg2; have HR2 := hide hr2; have HG2 := hide ((Grew.of_grow (.slice A m c) ((Grow.refl w).alloc (.cells #[.int .u8 (s.size : Int)] 5))).trans hg2); have hz2 : base ≤ w2.heap.size := Nat.le_trans hbase HG2.out.size; clear hr2 hg2)
    | (at_builtin; refine app_src (ys := s.data.toList) rfl (.tmp 10) (.tmp 11) _ rfl rfl HR2.out _ rfl (src_str s) (by omega) hz2 ?_; intro A3 c3 w3 hr3 hg3; rw [hsl] at hr3 hg3; have HR3 := hide hr3; have HG3 := hide (HG2.out.trans hg3); clear hr3 hg3))
  go_ret
  exact LayC.of (by simp only [textB, List.length_append, List.length_cons, List.length_nil, hxl]; omega) (by rw [List.append_assoc]; rfl) HR3.out HG3.out

theorem src_len {w : World} {A : Option Addr} {c n : Nat} {ys : List UInt8} (h : InB w A ys) (hn : ys.length = n) : Src Tryd.prog 1 23 (.slice A n c) ys.length (u8s ys) w := by
  subst hn; exact Src.ofReads under_u8s h (u8s_one ys)

set_option maxRecDepth 100000 in
set_option maxHeartbeats 1600000 in
theorem rframe_any (body : List UInt8) (A : Option Addr) (cap : Nat) (w : World) (hb : InB w A body) (hl : body.length ≤ 12000) :
    Calls Tryd.prog 66 #[.slice A body.length cap] w (BytesC w (frameOf body)) := by
  have HB := hide hb
  clear hb
  have HB1 := hide (Blk.new w 5 #[.int .u8 77, .int .u8 68])
  have HG1 := hide ((Grow.refl w).alloc (.cells #[.int .u8 77, .int .u8 68] 5))
  go_enter Tryd.func66, Tryd.ntmps66
  go_wp2_with fail
  refine (refPut_any body.length 2 _ (by omega) (by omega)).mono ?_
  rintro e w2 ⟨A2, c2, rfl, hr2, hg2⟩
  have HR1 := hide (row_of_blk (base := w.heap.size) (xs := [77, 68]) (n := 2) (show Blk w2 w.heap.size 5 (u8s [77, 68]).toArray from HB1.out.grow hg2) rfl (Nat.le_refl _) (by decide))
  have HG2 := hide (HG1.out.trans hg2)
  obtain ⟨ys, hys⟩ : ∃ ys, toLe 2 body.length = ys := ⟨_, rfl⟩
  have hyl : ys.length = 2 := by rw [← hys]; exact toLe_length _ _
  rw [hys] at hr2
  have HI2 := hide hr2.reads.1
  have HYS := hide hys
  clear hg2 hr2 hys HB1 HG1
  have HS2 := hide (src_len (c := c2) HI2.out hyl)
  go_wp2_with (first
    | (at_builtin; refine app_src (ys := ys) rfl (.tmp 4) (.tmp 8) _ rfl rfl HR1.out _ rfl HS2.out (by omega) (Grow.size HG2.out) ?_; intro A3 c3 w3 hr3 hg3; have HG3 := hide (Below.trans HG2.out (Grew.below hg3 HR1.out (Grow.size HG2.out))); rw [hyl] at hr3; have HR3 := hide hr3; clear hr3 hg3)
    | (at_builtin; refine app_src (ys := body) rfl (.tmp 10) (.tmp 11) _ rfl rfl HR3.out _ rfl (Src.ofReads under_u8s (HB.out.grow HG3.out) (u8s_one body)) (by omega) (Grow.size HG3.out) ?_; intro A5 c5 w5 hr5 hg5; have HG5 := hide (Below.trans HG3.out (Grew.below hg5 HR3.out (Grow.size HG3.out))); have HR5 := hide hr5; clear hr5 hg5))
  have hop : [77, 68] ++ ys ++ body = opened body := by rw [← HYS.out]; simp [opened]
  have hO := HR5.out
  rw [hop] at hO
  have HO := hide hO
  have hol : (opened body).length = 4 + body.length := by rw [opened_length]; omega
  have hk := refOf_any (opened body) A5 c5 w5 (hO.reads.1) (by omega)
  rw [hol] at hk
  have hc2 := crc_lt (opened body)
  obtain ⟨C, hC⟩ : ∃ C, crc (opened body) = C := ⟨_, rfl⟩
  rw [hC] at hk hc2
  have HC := hide hC
  have HK := hide hk
  clear hop hO hk hC hol hyl
  refine HK.out.mono ?_
  rintro e w6 ⟨rfl, rfl⟩
  go_wp2_with fail
  refine (refPut_any C 4 _ (by omega) (by omega)).mono ?_
  rintro e w7 ⟨A7, c7, rfl, hr7, hg7⟩
  have HR6 := hide (HO.out.grow hg7)
  have HG7 := hide (Grow.trans (show Grow w w5 from HG5.out) hg7)
  obtain ⟨zs, hzs⟩ : ∃ zs, toLe 4 C = zs := ⟨_, rfl⟩
  have hzl : zs.length = 4 := by rw [← hzs]; exact toLe_length _ _
  rw [hzs] at hr7
  have HS7 := hide (src_len (c := c7) hr7.reads.1 hzl)
  have HZS := hide hzs
  clear hg7 hr7 hzs
  go_wp2_with (at_builtin; refine app_src (ys := zs) rfl (.tmp 13) (.tmp 17) _ rfl rfl HR6.out _ rfl HS7.out (by omega) (Grow.size HG7.out) ?_; intro A8 c8 w8 hr8 hg8; have HG8 := hide (Below.trans HG7.out (Grew.below hg8 HR6.out (Grow.size HG7.out))); rw [hzl] at hr8; have HR8 := hide hr8; clear hr8 hg8)
  go_ret
  have hfl : (frameOf body).length = 4 + body.length + 4 := by rw [frameOf_length]; omega
  have hfr : frameOf body = opened body ++ zs := by rw [← HZS.out, ← HC.out]; rfl
  exact BytesC.of hfl.symm hfr.symm (Nat.le_refl _) HR8.out HG8.out

set_option maxRecDepth 100000 in
set_option maxHeartbeats 3200000 in
theorem rvalue_none (v : V) (cv : Cv) (base : Nat) (A : Option Addr) (c m : Nat) (xs : List UInt8) (w : World) (hk : v.k = 0) (hv : In w v cv) (hown : Row w base (.slice A m c) m xs) (hbase : base ≤ w.heap.size) (hm : m + 1 ≤ 140737488355328) :
    Calls Tryd.prog 105 #[.slice A m c, cv.agg, .bool true] w (LayC w base (.slice A m c) (xs ++ mayB v)) := by
  have hxl : xs.length = m := hown.reads.2
  have hk0 : (cv.k == 0) = true := by rw [in_kind hv, hk]; rfl
  have HMB := hide (show mayB v = [0] by unfold mayB; rw [if_pos hk])
  have HO := hide (hown.alloc (.cells cv.cells 27))
  have HBV := hide (Blk.new w 27 cv.cells)
  clear hown hv hk
  have hcv := HBV.out.cell
  go_enter Tryd.func105, Tryd.ntmps105
  go_wp2_with (at_builtin; refine app_src (ys := [0]) rfl (.tmp 12) (.tmp 13) _ rfl rfl (HO.out.alloc _) _ rfl (src_one 0 rfl (Blk.new' (by simp) _ _)) (by simp only [List.length_cons, List.length_nil]; omega) (by simp; omega) ?_; intro A2 c2 w2 hr2 hg2; have HR2 := hide hr2; have HG2 := hide hg2; clear hr2 hg2)
  go_ret
  rw [HMB.out]
  exact LayC.of (by simp [hxl]) rfl HR2.out (((Grew.refl w _).alloc _).alloc _ |>.trans HG2.out)

/-! Values that are good. -/
theorem Row.past {w w' : World} {b2 n : Nat} {v v' u : Value} {ys : List UInt8} (h : Row w b2 u n ys) (hg : Grew w v w' v') (hlt : ∀ k, v.ownBlock = some k → k < b2) : Row w' b2 u n ys := by
  refine World.ownsRow.kept h hg.grow ?_
  cases hu : u.ownBlock with
  | none => exact .inl rfl
  | some k =>
    refine .inr fun e => ?_
    have h1 := hlt k e.symm
    have h2 := (h.lt k hu).1
    omega

set_option maxRecDepth 100000 in
set_option maxHeartbeats 3200000 in
theorem rvalue_doc (v : V) (cv : Cv) (base : Nat) (A : Option Addr) (c m : Nat) (xs : List UInt8) (w : World) (hgd : v.good = 0) (hv : In w v cv) (hown : Row w base (.slice A m c) m xs) (hbase : base ≤ w.heap.size) (hm : m + 4100 ≤ 140737488355328) :
    Calls Tryd.prog 105 #[.slice A m c, cv.agg, .bool false] w (LayC w base (.slice A m c) (xs ++ valB v)) := by
  have hxl : xs.length = m := hown.reads.2
  obtain ⟨hfm, hbl⟩ := V.good_formed hgd
  have HO := hide (hown.alloc (.cells cv.cells 27))
  have HBV := hide (Blk.new w 27 cv.cells)
  have HV := hide (hv.grow ((Grow.refl w).alloc (.cells cv.cells 27)))
  obtain ⟨L, hL⟩ : ∃ L, v.bytes.length = L := ⟨_, rfl⟩
  have HL := hide hL
  rw [hL] at hbl
  clear hown hv hgd hL
  have hcv := HBV.out.cell
  go_enter Tryd.func105, Tryd.ntmps105
  go_wp2_with fail
  have HVX := hide HV.out
  have HRX := hide HO.out
  have HGX := hide ((Grew.refl w (.slice A m c)).alloc (.cells cv.cells 27))
  refine (refPutV_any v (bytes_any v hfm) _ cv HVX.out (by rw [HL.out]; omega)).mono ?_
  rintro e w2 ⟨base2, A2, c2, rfl, hb2, hr2, hg2⟩
  rw [HL.out] at hr2 ⊢
  have HI2 := hide hr2
  have HBE := hide (show ∀ k, (.slice A m c : Value).ownBlock = some k → k < base2 from fun k hk => Nat.lt_of_lt_of_le (HRX.out.lt k hk).2 hb2)
  have HR2 := hide (HRX.out.grow hg2)
  have HG2 := hide (HGX.out.trans (Grew.of_grow _ hg2))
  have HRXL := hide (fun k hk => (HRX.out.lt k hk).2)
  have hz2 : base ≤ w2.heap.size := Nat.le_trans hbase HG2.out.size
  clear hg2 hr2
  go_wp2_with fail
  refine (refPut_any L 2 _ (by omega) (by omega)).mono ?_
  rintro e w3 ⟨A3, c3, rfl, hr3, hg3⟩
  obtain ⟨ys, hys⟩ : ∃ ys, toLe 2 L = ys := ⟨_, rfl⟩
  have hyl : ys.length = 2 := by rw [← hys]; exact toLe_length _ _
  rw [hys] at hr3
  have HYS := hide hys
  have HS3 := hide (src_len (c := c3) hr3.reads.1 hyl)
  have HI3 := hide (HI2.out.grow hg3)
  have HR3 := hide (HR2.out.grow hg3)
  have HG3 := hide (HG2.out.trans (Grew.of_grow _ hg3))
  have hz3 : base ≤ w3.heap.size := Nat.le_trans hbase HG3.out.size
  clear hg3 hr3 hys hb2
  go_wp2_with (first
    | (at_builtin; refine app_src (ys := ys) rfl (.tmp 20) (.tmp 24) _ rfl rfl HR3.out _ rfl HS3.out (by omega) hz3 ?_; intro A4 c4 w4 hr4 hg4; rw [hyl] at hr4 hg4; have HG4 := hide (HG3.out.trans hg4); have HI4 := hide (Row.past HI3.out hg4 HBE.out); have HR4 := hide hr4; have hz4 : base ≤ w4.heap.size := Nat.le_trans hbase HG4.out.size; clear hr4 hg4)
    | (at_builtin; refine app_src (ys := v.bytes) rfl (.tmp 25) (.tmp 26) _ rfl rfl HR4.out _ rfl (src_len HI4.out.reads.1 HL.out) (by have := HL.out; omega) hz4 ?_; intro A5 c5 w5 hr5 hg5; have HG5 := hide (HG4.out.trans hg5); have HR5 := hide hr5; clear hr5 hg5))
  go_ret
  have hx : xs ++ ys ++ v.bytes = xs ++ valB v := by rw [← HYS.out, ← HL.out]; simp [valB]
  exact LayC.of (by rw [← hx]; simp only [List.length_append, List.length_cons, List.length_nil, hxl, hyl]) hx HR5.out HG5.out

set_option maxRecDepth 100000 in
set_option maxHeartbeats 3200000 in
theorem rvalue_some (v : V) (cv : Cv) (base : Nat) (A : Option Addr) (c m : Nat) (xs : List UInt8) (w : World) (hgd : v.good = 0) (hk : ¬ v.k = 0) (w0 : World) (hv0 : In w0 v cv) (hg0 : Grow w0 w) (hb0 : w0.heap.size ≤ base) (hown : Row w base (.slice A m c) m xs) (hbase : base ≤ w.heap.size) (hm : m + 4100 ≤ 140737488355328) :
    Calls Tryd.prog 105 #[.slice A m c, cv.agg, .bool true] w (LayC w base (.slice A m c) (xs ++ mayB v)) := by
  have hxl : xs.length = m := hown.reads.2
  obtain ⟨hfm, hbl⟩ := V.good_formed hgd
  have hv := hv0.grow hg0
  have HV0 := hide hv0
  have HGG := hide hg0
  clear hv0 hg0
  have hk0 : (cv.k == 0) = false := by rw [in_kind hv]; simpa using hk
  have HMB := hide (show mayB v = [1] ++ valB v by unfold mayB; rw [if_neg hk]; rfl)
  clear hk
  have HO := hide (hown.alloc (.cells cv.cells 27))
  have HBV := hide (Blk.new w 27 cv.cells)
  have HV := hide (hv.grow ((Grow.refl w).alloc (.cells cv.cells 27)))
  obtain ⟨L, hL⟩ : ∃ L, v.bytes.length = L := ⟨_, rfl⟩
  have HL := hide hL
  rw [hL] at hbl
  clear hown hv hgd hL
  have hcv := HBV.out.cell
  go_enter Tryd.func105, Tryd.ntmps105
  go_wp2_with (at_builtin; refine app_src (ys := [1]) rfl (.tmp 15) (.tmp 16) _ rfl rfl (HO.out.alloc _) _ rfl (src_one 1 rfl (Blk.new' (by simp) _ _)) (by simp only [List.length_cons, List.length_nil]; omega) (by simp; omega) ?_; intro A1 c1 w1 hr1 hg1; have hbv1 := hg1.blk (HBV.out.alloc (.cells #[.int .u8 1] 5)) (Row.ne (HO.out.alloc (.cells #[.int .u8 1] 5)) (HBV.out.alloc (.cells #[.int .u8 1] 5)) (by decide)); have hcv1 := hbv1.cell; clear hbv1)
  have HRX := hide hr1
  have HGX := hide (show Grew w (.slice A m c) w1 (.slice A1 (m + [(1 : UInt8)].length) c1) from (((Grew.refl w _).alloc _).alloc _).trans hg1)
  have hbw := Grew.below hg1 (HO.out.alloc _) (by simp; omega)
  have HVX := hide (HV0.out.grow (show Grow w0 w1 from Below.trans HGG.out (Below.mono (Below.trans (Below.alloc (Below.alloc (Below.refl base w) hbase (.cells cv.cells 27)) (by simp; omega) (.cells #[.int .u8 1] 5)) hbw) hb0)))
  clear hr1 hg1 hbw hcv
  refine (refPutV_any v (bytes_any v hfm) _ cv HVX.out (by rw [HL.out]; omega)).mono ?_
  rintro e w2 ⟨base2, A2, c2, rfl, hb2, hr2, hg2⟩
  rw [HL.out] at hr2 ⊢
  have HI2 := hide hr2
  have HBE := hide (show ∀ k, (.slice A1 (m + [(1 : UInt8)].length) c1 : Value).ownBlock = some k → k < base2 from fun k hk => Nat.lt_of_lt_of_le (HRX.out.lt k hk).2 hb2)
  have HR2 := hide (HRX.out.grow hg2)
  have HG2 := hide (HGX.out.trans (Grew.of_grow _ hg2))
  have HRXL := hide (fun k hk => (HRX.out.lt k hk).2)
  have hz2 : base ≤ w2.heap.size := Nat.le_trans hbase HG2.out.size
  clear hg2 hr2
  go_wp2_with fail
  refine (refPut_any L 2 _ (by omega) (by omega)).mono ?_
  rintro e w3 ⟨A3, c3, rfl, hr3, hg3⟩
  obtain ⟨ys, hys⟩ : ∃ ys, toLe 2 L = ys := ⟨_, rfl⟩
  have hyl : ys.length = 2 := by rw [← hys]; exact toLe_length _ _
  rw [hys] at hr3
  have HYS := hide hys
  have HS3 := hide (src_len (c := c3) hr3.reads.1 hyl)
  have HI3 := hide (HI2.out.grow hg3)
  have HR3 := hide (HR2.out.grow hg3)
  have HG3 := hide (HG2.out.trans (Grew.of_grow _ hg3))
  have hz3 : base ≤ w3.heap.size := Nat.le_trans hbase HG3.out.size
  clear hg3 hr3 hys hb2
  go_wp2_with (first
    | (at_builtin; refine app_src (ys := ys) rfl (.tmp 20) (.tmp 24) _ rfl rfl HR3.out _ rfl HS3.out (by omega) hz3 ?_; intro A4 c4 w4 hr4 hg4; rw [hyl] at hr4 hg4; have HG4 := hide (HG3.out.trans hg4); have HI4 := hide (Row.past HI3.out hg4 HBE.out); have HR4 := hide hr4; have hz4 : base ≤ w4.heap.size := Nat.le_trans hbase HG4.out.size; clear hr4 hg4)
    | (at_builtin; refine app_src (ys := v.bytes) rfl (.tmp 25) (.tmp 26) _ rfl rfl HR4.out _ rfl (src_len HI4.out.reads.1 HL.out) (by have := HL.out; omega) hz4 ?_; intro A5 c5 w5 hr5 hg5; have HG5 := hide (HG4.out.trans hg5); have HR5 := hide hr5; clear hr5 hg5))
  go_ret
  have hx : xs ++ [1] ++ ys ++ v.bytes = xs ++ mayB v := by rw [HMB.out, ← HYS.out, ← HL.out]; simp [valB]
  exact LayC.of (by rw [← hx]; simp only [List.length_append, List.length_cons, List.length_nil, hxl, hyl]) hx HR5.out HG5.out
end Go.Proofs.YthjjmndjfoebgaaDoor

set_option linter.unusedVariables false
set_option linter.unusedSimpArgs false
namespace Go.Proofs.YthjjmndjfoebgaaDoor
open Go.RowKit Go.Shelf

/-- What a body's making tells: the bytes, or what is wrong. -/
def BodyC (w : World) (err : Int) (body : List UInt8) (e : Ending) (w' : World) : Prop :=
  if err = 0 then ∃ base A c, e = .returned (.tuple #[.slice A body.length c, .int .i64 0]) ∧ w.heap.size ≤ base ∧ Row w' base (.slice A body.length c) body.length body ∧ Grow w w'
  else e = .returned (.tuple #[.slice none 0 0, .int .i64 err]) ∧ Grow w w'
theorem BodyC.bad {w w' : World} {err x : Int} {body : List UInt8} (h : err = x) (hx : x ≠ 0) (hg : Grow w w') : BodyC w err body (.returned (.tuple #[.slice none 0 0, .int .i64 x])) w' := by
  subst h; unfold BodyC; rw [if_neg hx]; exact ⟨rfl, hg⟩
theorem BodyC.good {w w' : World} {err : Int} {body xs : List UInt8} {base n c : Nat} {A : Option Addr} (h : err = 0) (hx : xs = body) (hn : n = xs.length) (hb : w.heap.size ≤ base) (hr : Row w' base (.slice A n c) n xs) (hg : Grow w w') : BodyC w err body (.returned (.tuple #[.slice A n c, .int .i64 0])) w' := by
  subst hx; subst hn; unfold BodyC; rw [if_pos h]; exact ⟨base, A, c, rfl, hb, hr, hg⟩

set_option maxRecDepth 100000 in
set_option maxHeartbeats 1600000 in
/-- PutRequest out of request. -/
theorem rputRq_of2 (q : Rq) (u : Value) (cells : Array Value) (w : World) (hu : u = .agg cells) (hn : cells.size = 26)
    (hC : ∀ w2, Grow w w2 → Calls Tryd.prog 65 #[u] w2 (BodyC w2 q.err q.body)) :
    Calls Tryd.prog 19 #[u] w (PutW w q.put) := by
  subst hu
  have HB := hide (Blk.new w 29 cells)
  have HG := hide ((Grow.refl w).alloc (.cells cells 29))
  have HC := hide hC
  obtain ⟨er, her⟩ : ∃ e, q.err = e := ⟨_, rfl⟩
  obtain ⟨bd, hbd⟩ : ∃ b, q.body = b := ⟨_, rfl⟩
  have HQ := hide (show q.put = putOf er bd by unfold Rq.put; rw [her, hbd])
  rw [her, hbd] at HC
  clear hC her hbd
  go_enter Tryd.func19, Tryd.ntmps19
  go_wp2_with (with_reducible refine at_load 29 ?_; refine load_blk (g := w.heap.size) (n := 26) (cells := cells) Tryd.underlying29 rfl rfl HB.out info_rQ hn ?_)
  refine (HC.out _ HG.out).mono ?_
  intro e w2 h2
  by_cases h0 : er = 0
  · subst h0
    unfold BodyC at h2
    rw [if_pos rfl] at h2
    obtain ⟨base, A, c, rfl, hb, hr, hg⟩ := h2
    have HR := hide hr
    have HG2 := hide (HG.out.trans hg)
    have hb2 : w.heap.size ≤ base := Nat.le_trans HG.out.size hb
    clear hr hg hb
    by_cases h12 : 12000 < bd.length
    · go_wp2_with fail
      go_ret2
      rw [HQ.out, putOf, if_neg (by simp), if_pos h12]
      exact PutW.bad HG2.out
    · have HF := hide (rframe_any bd A c w2 HR.out.reads.1 (by omega))
      go_wp2_with fail
      refine HF.out.mono ?_
      rintro e w3 ⟨base3, A3, c3, rfl, hb3, hr3, hg3⟩
      have HR3 := hide hr3
      have HG3 := hide (HG2.out.trans hg3)
      have hb3' : w.heap.size ≤ base3 := Nat.le_trans HG2.out.size hb3
      have hb3'' : base3 ≤ w3.heap.size := by
        have hn0 : 0 < (frameOf bd).length := by rw [frameOf_length]; omega
        obtain ⟨g, cap, hv, hbg, hlt⟩ := World.ownsRow.form hr3 hn0
        omega
      clear hr3 hg3 hb3
      go_wp2_with fail
      go_ret2
      rw [HQ.out, putOf, if_neg (by simp), if_neg h12]
      exact ⟨base3, A3, c3, rfl, hb3', hb3'', HR3.out, HG3.out⟩
  · unfold BodyC at h2
    rw [if_neg h0] at h2
    obtain ⟨rfl, hg⟩ := h2
    have HG2 := hide (HG.out.trans hg)
    have he0 : (er != 0) = true := by simpa using h0
    clear hg
    go_wp2_with fail
    go_ret2
    rw [HQ.out, putOf, if_pos h0]
    exact PutW.bad HG2.out

set_option maxRecDepth 100000 in
set_option maxHeartbeats 3200000 in
theorem request_bad (q : Rq) (ck cl ch cx : Cv) (w : World) (h1 : In w q.key ck) (h2 : In w q.low cl) (h3 : In w q.high ch) (h4 : In w q.doc cx) (hcount : ∀ v ∈ q.vals, v.count ≤ 20000) (hbytes : ∀ v ∈ q.vals, v.formed = true → v.bytes.length ≤ 140737488355328)
    (hd : -9223372036854775808 ≤ q.do_ ∧ q.do_ ≤ 9223372036854775807) (hqn : -9223372036854775808 ≤ q.n ∧ q.n ≤ 9223372036854775807) (hs1 : q.coll.size ≤ 140737488355328) (hs2 : q.index.size ≤ 140737488355328) (hs3 : q.path.size ≤ 140737488355328) (ha : q.args) :
    Calls Tryd.prog 65 #[.agg (rqCells q.do_ q.coll q.index q.path q.unique ck cl ch cx q.n)] w (BodyC w q.err q.body) := by
  have HE := hide (show q.err = 1 by unfold Rq.err; rw [if_pos ha])
  have HG := hide ((Grow.refl w).alloc (.cells (rqCells q.do_ q.coll q.index q.path q.unique ck cl ch cx q.n) 29))
  have HB := hide (Blk.new w 29 (rqCells q.do_ q.coll q.index q.path q.unique ck cl ch cx q.n))
  unfold Rq.args at ha
  obtain ⟨d, hd0⟩ : ∃ d, q.do_ = d := ⟨_, rfl⟩
  obtain ⟨N, hN0⟩ : ∃ d, q.n = d := ⟨_, rfl⟩
  obtain ⟨tc, htc⟩ : ∃ d, q.coll = d := ⟨_, rfl⟩
  obtain ⟨ti, hti⟩ : ∃ d, q.index = d := ⟨_, rfl⟩
  obtain ⟨tp, htp⟩ : ∃ d, q.path = d := ⟨_, rfl⟩
  obtain ⟨ub, hub⟩ : ∃ d, q.unique = d := ⟨_, rfl⟩
  rw [hd0, hN0, htc, hti, htp, hub]
  rw [hd0] at hd
  rw [hN0] at hqn
  rw [htc] at hs1
  rw [hti] at hs2
  rw [htp] at hs3
  rw [hd0, hN0, htc, hti, htp, hub] at HG HB
  rw [hd0, hN0, htc, hti, htp] at ha
  have hcq := HB.out.cell
  clear h1 h2 h3 h4 hcount hbytes hd0 hN0 htc hti htp hub
  by_cases a1 : d < 0
  · have e1 : decide (d < 0) = true := decide_eq_true a1
    clear ha
    go_enter Tryd.func65, Tryd.ntmps65
    go_wp2_with fail
    go_ret2
    exact BodyC.bad HE.out (by decide) HG.out
  have e1 : decide (d < 0) = false := decide_eq_false a1
  by_cases a2 : 255 < d
  · have e2 : decide (255 < d) = true := decide_eq_true a2
    clear ha
    go_enter Tryd.func65, Tryd.ntmps65
    go_wp2_with fail
    go_ret2
    exact BodyC.bad HE.out (by decide) HG.out
  have e2 : decide (255 < d) = false := decide_eq_false a2
  by_cases a3 : 200 < tc.size
  · have e3 : decide ((200 : Int) < (tc.size : Int)) = true := by simp; omega
    clear ha
    go_enter Tryd.func65, Tryd.ntmps65
    go_wp2_with fail
    go_ret2
    exact BodyC.bad HE.out (by decide) HG.out
  have e3 : decide ((200 : Int) < (tc.size : Int)) = false := by simp; omega
  by_cases a4 : 200 < ti.size
  · have e4 : decide ((200 : Int) < (ti.size : Int)) = true := by simp; omega
    clear ha
    go_enter Tryd.func65, Tryd.ntmps65
    go_wp2_with fail
    go_ret2
    exact BodyC.bad HE.out (by decide) HG.out
  have e4 : decide ((200 : Int) < (ti.size : Int)) = false := by simp; omega
  by_cases a5 : 200 < tp.size
  · have e5 : decide ((200 : Int) < (tp.size : Int)) = true := by simp; omega
    clear ha
    go_enter Tryd.func65, Tryd.ntmps65
    go_wp2_with fail
    go_ret2
    exact BodyC.bad HE.out (by decide) HG.out
  have e5 : decide ((200 : Int) < (tp.size : Int)) = false := by simp; omega
  by_cases a6 : N < -2147483648
  · have e6 : decide (N < -2147483648) = true := decide_eq_true a6
    clear ha
    go_enter Tryd.func65, Tryd.ntmps65
    go_wp2_with fail
    go_ret2
    exact BodyC.bad HE.out (by decide) HG.out
  have e6 : decide (N < -2147483648) = false := decide_eq_false a6
  have e7 : decide (2147483648 ≤ N) = true := decide_eq_true (by omega)
  clear ha
  go_enter Tryd.func65, Tryd.ntmps65
  go_wp2_with fail
  go_ret2
  exact BodyC.bad HE.out (by decide) HG.out

set_option maxRecDepth 100000 in
set_option maxHeartbeats 6400000 in
theorem request_ok (q : Rq) (ck cl ch cx : Cv) (w : World) (h1 : In w q.key ck) (h2 : In w q.low cl) (h3 : In w q.high ch) (h4 : In w q.doc cx) (hcount : ∀ v ∈ q.vals, v.count ≤ 20000) (hbytes : ∀ v ∈ q.vals, v.formed = true → v.bytes.length ≤ 140737488355328)
    (hd : -9223372036854775808 ≤ q.do_ ∧ q.do_ ≤ 9223372036854775807) (hqn : -9223372036854775808 ≤ q.n ∧ q.n ≤ 9223372036854775807) (hs1 : q.coll.size ≤ 140737488355328) (hs2 : q.index.size ≤ 140737488355328) (hs3 : q.path.size ≤ 140737488355328) (ha : ¬ q.args) :
    Calls Tryd.prog 65 #[.agg (rqCells q.do_ q.coll q.index q.path q.unique ck cl ch cx q.n)] w (BodyC w q.err q.body) := by
  have HER := hide (show q.err = firstMay q.vals by unfold Rq.err; rw [if_neg ha])
  unfold Rq.args at ha
  obtain ⟨d, hd0⟩ : ∃ d, q.do_ = d := ⟨_, rfl⟩
  obtain ⟨N, hN0⟩ : ∃ d, q.n = d := ⟨_, rfl⟩
  obtain ⟨tc, htc⟩ : ∃ d, q.coll = d := ⟨_, rfl⟩
  obtain ⟨ti, hti⟩ : ∃ d, q.index = d := ⟨_, rfl⟩
  obtain ⟨tp, htp⟩ : ∃ d, q.path = d := ⟨_, rfl⟩
  obtain ⟨ub, hub⟩ : ∃ d, q.unique = d := ⟨_, rfl⟩
  rw [hd0, hN0, htc, hti, htp, hub]
  rw [hd0] at hd
  rw [hN0] at hqn
  rw [htc] at hs1
  rw [hti] at hs2
  rw [htp] at hs3
  rw [hd0, hN0, htc, hti, htp] at ha
  have HHB := hide (show q.headB = [UInt8.ofNat d.toNat, if ub then 1 else 0] ++ textB tc ++ textB ti ++ textB tp ++ toLe 4 (u32 N) by unfold Rq.headB; rw [hd0, hN0, htc, hti, htp, hub])
  have HBD := hide (show q.body = q.headB ++ (q.vals.map mayB).flatten from rfl)
  have HG := hide ((Grow.refl w).alloc (.cells (rqCells d tc ti tp ub ck cl ch cx N) 29))
  have HB := hide (Blk.new w 29 (rqCells d tc ti tp ub ck cl ch cx N))
  have H1 := hide h1
  have H2 := hide h2
  have H3 := hide h3
  have H4 := hide h4
  have HCO := hide hcount
  have HBY := hide hbytes
  clear h1 h2 h3 h4 hcount hbytes hd0 hN0 htc hti htp hub
  have hd0 : 0 ≤ d := by omega
  have e1 : decide (d < 0) = false := decide_eq_false (by omega)
  have e2 : decide (255 < d) = false := decide_eq_false (by omega)
  have e3 : decide ((200 : Int) < (tc.size : Int)) = false := by simp; omega
  have e4 : decide ((200 : Int) < (ti.size : Int)) = false := by simp; omega
  have e5 : decide ((200 : Int) < (tp.size : Int)) = false := by simp; omega
  have e6 : decide (N < -2147483648) = false := decide_eq_false (by omega)
  have e7 : decide (2147483648 ≤ N) = false := decide_eq_false (by omega)
  have l1 : tc.size ≤ 200 := by omega
  have l2 : ti.size ≤ 200 := by omega
  have l3 : tp.size ≤ 200 := by omega
  have hNlo : -2147483648 ≤ N := by omega
  have hNhi : N ≤ 2147483647 := by omega
  have hdn : d ≤ 255 := by omega
  have hcq := HB.out.cell
  clear ha hd hqn hs1 hs2 hs3
  go_enter Tryd.func65, Tryd.ntmps65
  go_wp2_with (first
    | ((with_reducible refine at_load (x := .tmp 44) 27 ?_); refine load_val (g := w.heap.size) (o := 5) (c := ck) Tryd.underlying27 rfl rfl HB.out info_val (rq_key _ _ _ _ _ _ _ _ _ _) ?_)
    | ((with_reducible refine at_load (x := .tmp 46) 27 ?_); refine load_val (g := w.heap.size) (o := 10) (c := cl) Tryd.underlying27 rfl rfl HB.out info_val (rq_low _ _ _ _ _ _ _ _ _ _) ?_)
    | ((with_reducible refine at_load (x := .tmp 48) 27 ?_); refine load_val (g := w.heap.size) (o := 15) (c := ch) Tryd.underlying27 rfl rfl HB.out info_val (rq_high _ _ _ _ _ _ _ _ _ _) ?_)
    | ((with_reducible refine at_load (x := .tmp 50) 27 ?_); refine load_val (g := w.heap.size) (o := 20) (c := cx) Tryd.underlying27 rfl rfl HB.out info_val (rq_doc _ _ _ _ _ _ _ _ _ _) ?_))
  have hal := (Grow.refl (w.alloc (.cells (rqCells d tc ti tp ub ck cl ch cx N) 29))).alloc (.cells (quad ck cl ch cx) 27)
  have HL := hide (quad_at (show Blk ((w.alloc (.cells (rqCells d tc ti tp ub ck cl ch cx N) 29)).alloc (.cells (quad ck cl ch cx) 27)) (w.heap.size + 1) 27 (quad ck cl ch cx) from Blk.new' (by simp) _ _) (H1.out.grow (HG.out.trans hal)) (H2.out.grow (HG.out.trans hal)) (H3.out.grow (HG.out.trans hal)) (H4.out.grow (HG.out.trans hal)))
  have HB1 := hide (HB.out.grow hal)
  have HG1 := hide (HG.out.trans hal)
  have hz1 : ((w.alloc (.cells (rqCells d tc ti tp ub ck cl ch cx N) 29)).alloc (.cells (quad ck cl ch cx) 27)).heap.size = w.heap.size + 2 := by simp
  have hza : w.heap.size + 2 ≤ ((w.alloc (.cells (rqCells d tc ti tp ub ck cl ch cx N) 29)).alloc (.cells (quad ck cl ch cx) 27)).heap.size := by omega
  clear hz1
  generalize hW1 : (w.alloc (.cells (rqCells d tc ti tp ub ck cl ch cx N) 29)).alloc (.cells _ 27) = w1 at HL HB1 HG1 hza ⊢
  clear hW1 hal hcq HB HG H1 H2 H3 H4
  go_loopg [5] 5 (fun gk i wr => ∃ j : Nat, j ≤ 4 ∧ gk + j = 5 ∧ i = .int .i64 j ∧ Grow w1 wr ∧ ∀ i (hi : i < q.vals.length), i < j → mayGood q.vals[i] = 0)
  case atStart => exact ⟨0, by omega, by omega, rfl, Grow.refl _, fun i hi h => by omega⟩
  case round =>
    obtain ⟨j, hj, hg, rfl, hw, hgd⟩ := hrel
    have HW := hide hw
    have HGD := hide hgd
    clear hgd
    by_cases hlt : j < 4
    · obtain ⟨gk', rfl⟩ : ∃ g, gk = g + 1 := ⟨gk - 1, by omega⟩
      have hlt' : j < q.vals.length := hlt
      obtain ⟨v, hv⟩ : ∃ v, q.vals[j] = v := ⟨_, rfl⟩
      obtain ⟨bk, o, x, ha, hbk, e0, e1, e2, e3, e4, hx⟩ := In.elemL (HL.out.grow hw) j hlt'
      obtain ⟨rfl, rfl⟩ : w.heap.size + 1 = bk ∧ 0 = o := by simpa using ha
      simp only [Nat.zero_add] at e0 e1 e2 e3 e4
      replace hx : In wr v x := by rw [← hv]; exact hx
      have HK := hide (in_kind hx)
      have HC := hide (refGood_any v wr x (HCO.out v (by rw [← hv]; exact List.getElem_mem hlt')) (HBY.out v (by rw [← hv]; exact List.getElem_mem hlt')) hx)
      have HVJ := hide hv
      have HXI := hide hx
      clear hw hx ha hbk hv
      by_cases k0 : x.k = 0
      · have hk0 : (x.k != 0) = false := by simpa using k0
        have HMG := hide (show mayGood v = 0 by unfold mayGood; rw [if_pos (by rw [← HK.out]; exact k0)])
        clear k0
        go_wp2_with fail
        go_roundg gk'
        case measure => omega
        case rel => exact ⟨j + 1, by omega, by omega, by go_num, HW.out, fun i hi hij => by
          by_cases h : i = j
          · subst h; exact (congrArg mayGood HVJ.out).trans HMG.out
          · exact HGD.out i hi (by omega)⟩
      · have hk0 : (x.k != 0) = true := by simpa using k0
        have HMG := hide (show mayGood v = v.good by unfold mayGood; rw [if_neg (by rw [← HK.out]; exact k0)])
        obtain ⟨G, hG⟩ : ∃ G, v.good = G := ⟨_, rfl⟩
        rw [hG] at HC HMG
        have HGG := hide hG
        have HJ := hide hlt'
        clear k0 hG
        go_wp2_with fail
        refine HC.out.mono ?_
        rintro ee w6 ⟨rfl, hg6⟩
        have f0 := (hg6.below.cell (World.block_lt_of_cell? _ _ e0)).trans e0
        have f1 := (hg6.below.cell (World.block_lt_of_cell? _ _ e1)).trans e1
        have f2 := (hg6.below.cell (World.block_lt_of_cell? _ _ e2)).trans e2
        have f3 := (hg6.below.cell (World.block_lt_of_cell? _ _ e3)).trans e3
        have f4 := (hg6.below.cell (World.block_lt_of_cell? _ _ e4)).trans e4
        have HC6 := hide (refGood_any v w6 x (HCO.out v (by rw [← HVJ.out]; exact List.getElem_mem HJ.out)) (HBY.out v (by rw [← HVJ.out]; exact List.getElem_mem HJ.out)) (HXI.out.grow hg6))
        rw [HGG.out] at HC6
        have HG6 := hide (HW.out.trans hg6)
        clear hg6 e0 e1 e2 e3 e4
        by_cases g0 : G = 0
        · subst g0
          go_wp2_with fail
          go_roundg gk'
          case measure => omega
          case rel => exact ⟨j + 1, by omega, by omega, by go_num, HG6.out, fun i hi hij => by
            by_cases h : i = j
            · subst h; exact (congrArg mayGood HVJ.out).trans HMG.out
            · exact HGD.out i hi (by omega)⟩
        · have hg0 : (G != 0) = true := by simpa using g0
          go_wp2_with fail
          refine HC6.out.mono ?_
          rintro ee w7 ⟨rfl, hg7⟩
          have HG7 := hide ((HG1.out.trans HG6.out).trans hg7)
          clear hg7
          go_wp2_with fail
          go_ret2
          have hm0 : mayGood q.vals[j] = G := (congrArg mayGood HVJ.out).trans HMG.out
          exact BodyC.bad (HER.out.trans ((firstMay_to q.vals j HJ.out HGD.out (fun h => g0 (hm0.symm.trans h))).trans hm0)) g0 HG7.out
    · obtain rfl : j = 4 := by omega
      have HER0 := hide (show q.err = 0 by rw [HER.out]; exact firstMay_none _ (fun i hi => HGD.out i hi hi))
      have HMGA := hide (show ∀ i (hi : i < q.vals.length), mayGood q.vals[i] = 0 from fun i hi => HGD.out i hi hi)
      have HB3 := hide (HB1.out.grow hw)
      have hcq := HB3.out.cell
      have hzw := hw.size
      have hdm : d % 256 = d := by omega
      have hal := (Grow.refl wr).alloc (.cells #[.int .u8 d, .int .u8 0] 5)
      have hcq9 := (HB3.out.grow hal).cell
      clear hw HGD HER hlt hg
      go_upto_if 81 with fail
      have HB9 := hide (Blk.new wr 5 #[.int .u8 d, .int .u8 0])
      have HQ9 := hide (HB3.out.grow hal)
      have HG9 := hide (HW.out.trans hal)
      have hzg : (wr.alloc (.cells #[.int .u8 d, .int .u8 0] 5)).heap.size = wr.heap.size + 1 := by simp
      rw [show (wr.alloc (.cells #[.int .u8 d, .int .u8 0] 5)).heap.size = wr.heap.size + 1 from hzg] at *
      clear hzg
      generalize hW9 : wr.alloc (.cells #[.int .u8 d, .int .u8 0] 5) = w9 at HB9 HQ9 HG9 hcq9 ⊢
      clear hW9 hal hcq HB3
      have hc9 := HB9.out.cell
      have hf9 := HB9.out.frozen
      go_cut [] (fun wx => Blk wx wr.heap.size 5 #[.int .u8 d, .int .u8 (if ub then 1 else 0)] ∧ w9.grownBy wx (some wr.heap.size))
      case first =>
        cases ub
        · go_wp2_with fail
          go_meet
          exact ⟨HB9.out, World.grownBy.refl _ _⟩
        · go_wp2_with fail
          go_meet
          exact ⟨HB9.out.set_ 1 (.int .u8 1), grown_set w9 wr.heap.size 1 (.int .u8 1)⟩
      case rest =>
      obtain ⟨hbw, hgw⟩ := hcut
      rename World => v0
      have hd8 : ((UInt8.ofNat d.toNat).toNat : Int) = d := by rw [UInt8.toNat_ofNat']; omega
      obtain ⟨x0, hx0⟩ : ∃ x : List UInt8, [UInt8.ofNat d.toNat, if ub then 1 else 0] = x := ⟨_, rfl⟩
      have hxl0 : x0.length = 2 := by rw [← hx0]; rfl
      have hb0 : Blk v0 wr.heap.size 5 (u8s x0).toArray := by
        rw [← hx0]
        have e : (u8s [UInt8.ofNat d.toNat, if ub then (1 : UInt8) else 0]).toArray = #[.int .u8 d, .int .u8 (if ub then 1 else 0)] := by
          simp only [u8s, List.map_cons, List.map_nil, hd8]
          cases ub <;> rfl
        rw [e]; exact hbw
      have hr0 := row_of_blk (base := wr.heap.size) (n := x0.length) hb0 rfl (Nat.le_refl _) (by rw [hxl0]; decide)
      have HX0 := hide hr0
      have HBV0 := hide (HQ9.out.own hgw (fun k e => by injection e with e; have := HG1.out.size; omega))
      have HGV0 := hide (show Grow w1 v0 from HG9.out.grown hgw (fun k e => by injection e with e; omega))
      have hzz0 : wr.heap.size ≤ v0.heap.size := Nat.le_of_lt hb0.lt
      have HXE0 := hide hx0
      clear hbw hgw hb0 hr0 hd8 hx0 HB9 HQ9 HG9 hc9 hf9 hcq9 hdm
      obtain ⟨g9, hg9⟩ : ∃ g, wr.heap.size = g := ⟨_, rfl⟩
      have hxx : (Value.slice (some ⟨g9, 0, none⟩) 2 2) = .slice (some ⟨g9, 0, none⟩) x0.length 2 := by rw [hxl0]
      rw [hg9] at HX0 hzz0 hzw ⊢
      rw [hxl0] at HX0
      clear hg9 hxx
      go_wp2_with fail
      refine wp_region_noPanic ?_
      refine wp_region_held_drew (S := fun W => Blk W w.heap.size 29 (rqCells d tc ti tp ub ck cl ch cx N)) (by kernel_rfl) (HBV0.out.drew) (fun hHeld => ?_)
      have HBVd := hide HBV0.out.drew
      have HXd := hide (HX0.out.drew)
      have HGVd := hide (HGV0.out.drew)
      have hzzd : g9 ≤ v0.drew.heap.size := hzz0
      clear HBV0 HX0 HGV0 hzz0
      generalize v0.drew = v0' at HBVd HXd HGVd hzzd ⊢
      refine wpAnyH_take (i := 0) (v := ?_) (by simp only [List.getElem?_toArray, List.getElem?_cons_succ, List.getElem?_cons_zero]; rfl) (by kernel_rfl) (by kernel_rfl) (by kernel_rfl) (fun _ _ _ h => h) (Or.inl ⟨by rfl, ?_⟩) (by assumption) ?_
      rotate_left 1
      · (intro w hSw; (try dsimp only at hSw); go_simp; try with_reducible rfl)
      try simp only [Act.put, List.setIfInBounds_toArray, List.set_cons_zero, List.set_cons_succ]
      refine wpAnyH_take (i := 1) (v := ?_) (by simp only [List.getElem?_toArray, List.getElem?_cons_succ, List.getElem?_cons_zero]; rfl) (by kernel_rfl) (by kernel_rfl) (by kernel_rfl) (fun _ _ _ h => h) (Or.inl ⟨by rfl, ?_⟩) (by assumption) ?_
      rotate_left 1
      · (intro w hSw; (try dsimp only at hSw); go_simp; try with_reducible rfl)
      try simp only [Act.put, List.setIfInBounds_toArray, List.set_cons_zero, List.set_cons_succ]
      refine wpAnyH_take (i := 2) (v := ?_) (by simp only [List.getElem?_toArray, List.getElem?_cons_succ, List.getElem?_cons_zero]; rfl) (by kernel_rfl) (by kernel_rfl) (by kernel_rfl) (fun _ _ _ h => h) (Or.inl ⟨by rfl, ?_⟩) (by assumption) ?_
      rotate_left 1
      · (intro w hSw; (try dsimp only at hSw); have hc0 := hSw.cell; go_simp; try with_reducible rfl)
      try simp only [Act.put, List.setIfInBounds_toArray, List.set_cons_zero, List.set_cons_succ]
      refine wpAnyH_take (i := 4) (v := ?_) (by simp only [List.getElem?_toArray, List.getElem?_cons_succ, List.getElem?_cons_zero]; rfl) (by kernel_rfl) (by kernel_rfl) (by kernel_rfl) (fun _ _ _ h => h) (Or.inl ⟨by rfl, ?_⟩) (by assumption) ?_
      rotate_left 1
      · (intro w hSw; (try dsimp only at hSw); go_simp; try with_reducible rfl)
      try simp only [Act.put, List.setIfInBounds_toArray, List.set_cons_zero, List.set_cons_succ]
      refine wpAnyH_take (i := 5) (v := ?_) (by simp only [List.getElem?_toArray, List.getElem?_cons_succ, List.getElem?_cons_zero]; rfl) (by kernel_rfl) (by kernel_rfl) (by kernel_rfl) (fun _ _ _ h => h) (Or.inl ⟨by rfl, ?_⟩) (by assumption) ?_
      rotate_left 1
      · (intro w hSw; (try dsimp only at hSw); have hc0 := hSw.cell; go_simp; try with_reducible rfl)
      try simp only [Act.put, List.setIfInBounds_toArray, List.set_cons_zero, List.set_cons_succ]
      refine wpAnyH_take (i := 7) (v := ?_) (by simp only [List.getElem?_toArray, List.getElem?_cons_succ, List.getElem?_cons_zero]; rfl) (by kernel_rfl) (by kernel_rfl) (by kernel_rfl) (fun _ _ _ h => h) (Or.inl ⟨by rfl, ?_⟩) (by assumption) ?_
      rotate_left 1
      · (intro w hSw; (try dsimp only at hSw); go_simp; try with_reducible rfl)
      try simp only [Act.put, List.setIfInBounds_toArray, List.set_cons_zero, List.set_cons_succ]
      refine wpAnyH_take (i := 8) (v := ?_) (by simp only [List.getElem?_toArray, List.getElem?_cons_succ, List.getElem?_cons_zero]; rfl) (by kernel_rfl) (by kernel_rfl) (by kernel_rfl) (fun _ _ _ h => h) (Or.inl ⟨by rfl, ?_⟩) (by assumption) ?_
      rotate_left 1
      · (intro w hSw; (try dsimp only at hSw); have hc0 := hSw.cell; go_simp; try with_reducible rfl)
      try simp only [Act.put, List.setIfInBounds_toArray, List.set_cons_zero, List.set_cons_succ]
      refine wpAnyH_ready (rs := [3]) (by kernel_rfl) (by simp) ?_
      refine AllReadyH.cons (by simp only [List.getElem?_toArray, List.getElem?_cons_succ, List.getElem?_cons_zero]; rfl) (fun K hK => ?_) AllReadyH.nil
      replace hK := hide hK
      go_simp
      go_at_call 103
      refine (rtext_any tc g9 (some ⟨g9, 0, none⟩) 2 2 x0 v0' l1 HXd.out hzzd (by omega)).mono ?_
      rintro ee v1 ⟨A1, c1, rfl, hr, hg⟩
      obtain ⟨x1, hx1⟩ : ∃ x, x0 ++ textB tc = x := ⟨_, rfl⟩
      rw [hx1] at hr hg ⊢
      have hxl1 : x1.length ≤ 203 := by rw [← hx1, List.length_append, textB_length]; omega
      have HXE1 := hide hx1
      have HX1 := hide hr
      have HBV1 := hide (hg.blk HBVd.out (Row.ne HXd.out HBVd.out (by decide)))
      have HGV1 := hide (Below.trans HGVd.out (Below.mono (Grew.below hg HXd.out hzzd) (by omega)))
      have hzz1 : g9 ≤ v1.heap.size := Nat.le_trans hzzd hg.size
      clear hx1 hr hg
      refine hK.out _ _ HBV1.out (fun hHeld => ?_)
      clear hK K
      try simp only [Act.put, List.setIfInBounds_toArray, List.set_cons_zero, List.set_cons_succ]
      refine wpAnyH_ready (rs := [6]) (by kernel_rfl) (by simp) ?_
      refine AllReadyH.cons (by simp only [List.getElem?_toArray, List.getElem?_cons_succ, List.getElem?_cons_zero]; rfl) (fun K hK => ?_) AllReadyH.nil
      replace hK := hide hK
      go_simp
      go_at_call 103
      refine (rtext_any ti g9 A1 c1 x1.length x1 v1 l2 HX1.out hzz1 (by omega)).mono ?_
      rintro ee v2 ⟨A2, c2, rfl, hr, hg⟩
      obtain ⟨x2, hx2⟩ : ∃ x, x1 ++ textB ti = x := ⟨_, rfl⟩
      rw [hx2] at hr hg ⊢
      have hxl2 : x2.length ≤ 404 := by rw [← hx2, List.length_append, textB_length]; omega
      have HXE2 := hide hx2
      have HX2 := hide hr
      have HBV2 := hide (hg.blk HBV1.out (Row.ne HX1.out HBV1.out (by decide)))
      have HGV2 := hide (Below.trans HGV1.out (Below.mono (Grew.below hg HX1.out hzz1) (by omega)))
      have hzz2 : g9 ≤ v2.heap.size := Nat.le_trans hzz1 hg.size
      clear hx2 hr hg
      refine hK.out _ _ HBV2.out (fun hHeld => ?_)
      clear hK K
      try simp only [Act.put, List.setIfInBounds_toArray, List.set_cons_zero, List.set_cons_succ]
      refine wpAnyH_ready (rs := [9]) (by kernel_rfl) (by simp) ?_
      refine AllReadyH.cons (by simp only [List.getElem?_toArray, List.getElem?_cons_succ, List.getElem?_cons_zero]; rfl) (fun K hK => ?_) AllReadyH.nil
      replace hK := hide hK
      go_simp
      go_at_call 103
      refine (rtext_any tp g9 A2 c2 x2.length x2 v2 l3 HX2.out hzz2 (by omega)).mono ?_
      rintro ee v3 ⟨A3, c3, rfl, hr, hg⟩
      obtain ⟨x3, hx3⟩ : ∃ x, x2 ++ textB tp = x := ⟨_, rfl⟩
      rw [hx3] at hr hg ⊢
      have hxl3 : x3.length ≤ 605 := by rw [← hx3, List.length_append, textB_length]; omega
      have HXE3 := hide hx3
      have HX3 := hide hr
      have HBV3 := hide (hg.blk HBV2.out (Row.ne HX2.out HBV2.out (by decide)))
      have HGV3 := hide (Below.trans HGV2.out (Below.mono (Grew.below hg HX2.out hzz2) (by omega)))
      have hzz3 : g9 ≤ v3.heap.size := Nat.le_trans hzz2 hg.size
      clear hx3 hr hg
      refine hK.out _ _ HBV3.out (fun hHeld => ?_)
      clear hK K
      try simp only [Act.put, List.setIfInBounds_toArray, List.set_cons_zero, List.set_cons_succ]
      refine wpAnyH_take (i := 10) (v := ?_) (by simp only [List.getElem?_toArray, List.getElem?_cons_succ, List.getElem?_cons_zero]; rfl) (by kernel_rfl) (by kernel_rfl) (by kernel_rfl) (fun _ _ _ h => h) (Or.inl ⟨by rfl, ?_⟩) (by assumption) ?_
      rotate_left 1
      · (intro w hSw; (try dsimp only at hSw); go_simp; try with_reducible rfl)
      try simp only [Act.put, List.setIfInBounds_toArray, List.set_cons_zero, List.set_cons_succ]
      refine wpAnyH_done (by kernel_rfl) ?_ _
      refine NoPanic.normal ?_
      have hw1 : IntKind.i32.wrap N = N := by rw [IntKind.wrap_i32]; omega
      obtain ⟨a, ha⟩ : ∃ a, _root_.Go.Proofs.YthjjmndjfoebgaaDoor.u32 N = a := ⟨_, rfl⟩
      have hw2 : IntKind.u32.wrap N = (a : Int) := by rw [IntKind.wrap_u32, ← ha]; unfold _root_.Go.Proofs.YthjjmndjfoebgaaDoor.u32; omega
      have hau : a < 4294967296 := by rw [← ha]; exact u32_lt N
      have hw3 : IntKind.u64.wrap (a : Int) = (a : Int) := by rw [IntKind.wrap_u64]; omega
      have hc3 := HBV3.out.cell
      have HAA := hide ha
      clear ha
      go_wp2_with fail
      refine (refPut_any a 4 v3 (by omega) (by omega)).mono ?_
      rintro ee v4 ⟨A4, c4, rfl, hr, hg⟩
      obtain ⟨zs, hzs⟩ : ∃ zs, toLe 4 a = zs := ⟨_, rfl⟩
      have hzl : zs.length = 4 := by rw [← hzs]; exact toLe_length _ _
      rw [hzs] at hr
      have HZS := hide hzs
      have HS4 := hide (src_len (c := c4) hr.reads.1 hzl)
      have HX4 := hide (HX3.out.grow hg)
      have HGV4 := hide (Below.trans HGV3.out (hg.below.mono (by have := HGV3.out.size; omega)))
      have hzz4 : g9 ≤ v4.heap.size := Nat.le_trans hzz3 hg.size
      clear hr hg hzs hw1 hw2 hw3 hc3
      go_wp2_with (at_builtin; refine app_src (ys := zs) rfl (.tmp 94) (.tmp 100) _ rfl rfl HX4.out _ rfl HS4.out (by omega) hzz4 ?_; intro A5 c5 v5 hr5 hg5; have HGV5 := hide (Below.trans HGV4.out (Below.mono (Grew.below hg5 HX4.out hzz4) (by omega))); have hzz5 : g9 ≤ v5.heap.size := Nat.le_trans hzz4 hg5.size; rw [hzl] at hr5; have HX5 := hide hr5; clear hr5 hg5)
      have hh : x3 ++ zs = q.headB := by rw [HHB.out, ← HXE3.out, ← HXE2.out, ← HXE1.out, ← HXE0.out, ← HZS.out, ← HAA.out]
      have hr5 := HX5.out
      rw [hh] at hr5
      have hl5 : x3.length + 4 = q.headB.length := by rw [← hh, List.length_append, hzl]
      rw [hl5] at hr5 ⊢
      have HR5 := hide hr5
      have hhl : q.headB.length ≤ 609 := by omega
      clear hr5 HX5 hh hl5 HX4 HX3 HX2 HX1 HXd HXE3 HXE2 HXE1 HXE0 HZS HAA HHB HS4 HBV3 HBV2 HBV1 HBVd HGV4 HGV3 HGV2 HGV1 HGVd
      go_loopg [6, 7] 5 (fun gk s i wx => ∃ (j : Nat) (ys : List UInt8) (A' : Option Addr) (c' : Nat), j ≤ 4 ∧ gk + j = 5 ∧ s = .slice A' ys.length c' ∧ i = .int .i64 j ∧ ys = q.headB ++ ((q.vals.take j).map mayB).flatten ∧ ys.length ≤ 609 + 4099 * j ∧ Row wx g9 (.slice A' ys.length c') ys.length ys ∧ Grow w1 wx ∧ g9 ≤ wx.heap.size)
      case atStart => exact ⟨0, q.headB, A5, c5, by omega, by omega, rfl, rfl, by simp, by omega, HR5.out, HGV5.out, hzz5⟩
      case round =>
        obtain ⟨j, ys, A', c', hj, hg, rfl, rfl, hys, hyl, hrow, hgr, hzr⟩ := hrel
        have HROW := hide hrow
        have HGR := hide hgr
        have HYS := hide hys
        clear hrow hys
        by_cases hlt : j < 4
        · obtain ⟨gk', rfl⟩ : ∃ g, gk = g + 1 := ⟨gk - 1, by omega⟩
          have hlt' : j < q.vals.length := hlt
          obtain ⟨v, hv⟩ : ∃ v, q.vals[j] = v := ⟨_, rfl⟩
          obtain ⟨bk, o, x, hae, hbk, e0, e1, e2, e3, e4, hx⟩ := In.elemL HL.out j hlt'
          obtain ⟨rfl, rfl⟩ : w.heap.size + 1 = bk ∧ 0 = o := by simpa using hae
          simp only [Nat.zero_add] at e0 e1 e2 e3 e4
          replace hx : In w1 v x := by rw [← hv]; exact hx
          have HTK := hide (show ((q.vals.take (j + 1)).map mayB).flatten = ((q.vals.take j).map mayB).flatten ++ mayB v by rw [flat_take mayB q.vals j hlt', hv])
          have hmg : mayGood v = 0 := by rw [← hv]; exact HMGA.out j hlt'
          have hml : (mayB v).length ≤ 4099 := by
            unfold mayB
            by_cases hk : v.k = 0
            · rw [if_pos hk]; simp
            · rw [if_neg hk]
              unfold mayGood at hmg
              rw [if_neg hk] at hmg
              have := (V.good_formed hmg).2
              simp only [List.length_cons, valB, List.length_append, toLe_length]; omega
          have HC := hide (show Calls Tryd.prog 105 #[.slice A' ys.length c', x.agg, .bool true] wr (LayC wr g9 (.slice A' ys.length c') (ys ++ mayB v)) from by
            by_cases hk : v.k = 0
            · exact rvalue_none v x g9 A' c' ys.length ys wr hk (hx.grow hgr) HROW.out hzr (by omega)
            · refine rvalue_some v x g9 A' c' ys.length ys wr ?_ hk w1 hx hgr hzw HROW.out hzr (by omega)
              unfold mayGood at hmg
              rwa [if_neg hk] at hmg)
          have f0 := (hgr.below.cell (World.block_lt_of_cell? _ _ e0)).trans e0
          have f1 := (hgr.below.cell (World.block_lt_of_cell? _ _ e1)).trans e1
          have f2 := (hgr.below.cell (World.block_lt_of_cell? _ _ e2)).trans e2
          have f3 := (hgr.below.cell (World.block_lt_of_cell? _ _ e3)).trans e3
          have f4 := (hgr.below.cell (World.block_lt_of_cell? _ _ e4)).trans e4
          clear hgr hx hae hbk hv e0 e1 e2 e3 e4 hmg
          go_wp2_with fail
          refine HC.out.mono ?_
          rintro ee w6 ⟨A6, c6, rfl, hr6, hg6⟩
          have HR6 := hide hr6
          have HG6 := hide (Below.trans HGR.out (Below.mono (Grew.below hg6 HROW.out hzr) hzw))
          have hz6 : g9 ≤ w6.heap.size := Nat.le_trans hzr hg6.size
          clear hr6 hg6
          go_wp2_with fail
          go_roundg gk'
          case measure => omega
          case rel => exact ⟨j + 1, ys ++ mayB v, A6, c6, by omega, by omega, by rw [List.length_append], by go_num, by rw [HYS.out, HTK.out, List.append_assoc], by rw [List.length_append]; omega, HR6.out, HG6.out, hz6⟩
        · obtain rfl : j = 4 := by omega
          have hb : ys = q.body := by rw [HYS.out, HBD.out]; rfl
          have HBB := hide hb
          clear hb hgr
          go_wp2_with fail
          go_ret2
          exact BodyC.good HER0.out HBB.out rfl (Nat.le_trans (by omega) hzw) HROW.out (HG1.out.trans HGR.out)

theorem refPutRq_any (q : Rq) (ck cl ch cx : Cv) (w : World) (h1 : In w q.key ck) (h2 : In w q.low cl) (h3 : In w q.high ch) (h4 : In w q.doc cx) (hcount : ∀ v ∈ q.vals, v.count ≤ 20000) (hbytes : ∀ v ∈ q.vals, v.formed = true → v.bytes.length ≤ 140737488355328)
    (hd : -9223372036854775808 ≤ q.do_ ∧ q.do_ ≤ 9223372036854775807) (hqn : -9223372036854775808 ≤ q.n ∧ q.n ≤ 9223372036854775807) (hs1 : q.coll.size ≤ 140737488355328) (hs2 : q.index.size ≤ 140737488355328) (hs3 : q.path.size ≤ 140737488355328) :
    Calls Tryd.prog 19 #[.agg (rqCells q.do_ q.coll q.index q.path q.unique ck cl ch cx q.n)] w (PutW w q.put) := by
  refine rputRq_of2 q _ _ w rfl rfl (fun w2 hg => ?_)
  by_cases ha : q.args
  · exact request_bad q ck cl ch cx w2 (h1.grow hg) (h2.grow hg) (h3.grow hg) (h4.grow hg) hcount hbytes hd hqn hs1 hs2 hs3 ha
  · exact request_ok q ck cl ch cx w2 (h1.grow hg) (h2.grow hg) (h3.grow hg) (h4.grow hg) hcount hbytes hd hqn hs1 hs2 hs3 ha
end Go.Proofs.YthjjmndjfoebgaaDoor
