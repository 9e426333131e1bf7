/- Walks: the document's answer: bytes. -/
import Derived.Test.YtfkljmhpcdplhaaDoorGood
import Derived.Test.YtfkljmhpcdplhaaDoorRead1
import Derived.Deep.RegionHeld3
import Derived.IntWalk
set_option linter.unusedVariables false
set_option linter.unusedSimpArgs false
namespace Go.Proofs.YtfkljmhpcdplhaaDoor
open Go.RowKit Go.Shelf

/-- One byte in a block of its own: a row. -/
theorem Row.lit {w : World} (x : UInt8) {e : Int} (he : (x.toNat : Int) = e) : Row (w.alloc (.cells #[.int .u8 e] 5)) w.heap.size (.slice (some ⟨w.heap.size, 0, none⟩) 1 1) 1 [x] :=
  ⟨rfl, .inr ⟨w.heap.size, 1, #[.int .u8 e], rfl, Nat.le_refl _, Blk.new w _ _, Nat.le_refl _, by decide, rfl, by simp [u8s, he]⟩⟩

/-- Bytes in a row of the call's own. -/
def BytesC (w : World) (bs : List UInt8) (e : Ending) (w' : World) : Prop :=
  ∃ base A c, e = .returned (.slice A bs.length c) ∧ w.heap.size ≤ base ∧ Row w' base (.slice A bs.length c) bs.length bs ∧ Grow w w'
theorem BytesC.of {w w' : World} {base k c : Nat} {A : Option Addr} {zs bs : List UInt8} (hk : k = bs.length) (hz : zs = bs) (hb : w.heap.size ≤ base) (h1 : Row w' base (.slice A k c) k zs) (h2 : Grow w w') : BytesC w bs (.returned (.slice A k c)) w' := by
  subst hk; subst hz; exact ⟨base, A, c, rfl, hb, h1, h2⟩
def PosC (x : V) : Prop := ∀ (w : World) (c : Cv), In w x c → x.bytes.length ≤ 140737488355328 → Calls Tryd.prog 52 #[c.agg] w (BytesC w x.bytes)

set_option maxRecDepth 100000 in
set_option maxHeartbeats 800000 in
theorem bytes_null (w : World) (c : Cv) (hv : In w (V.mk 1 0 [] [] []) c) :
    Calls Tryd.prog 52 #[c.agg] w (BytesC w (V.bytes (V.mk 1 0 [] [] []))) := by
  obtain ⟨aB, aL, aF, cB, cL, cF, rfl, h1, h2, h3, h4, h5, h6, h7, h8, h9, hb0⟩ := InU.open hv
  have hz : (w.alloc (.cells #[.int .i64 1, .int .u64 0, .slice aB 0 cB, .slice aL 0 cL, .slice aF 0 cF] 37)).heap.size = w.heap.size + 1 := by simp
  have hrow := Row.lit (w := w.alloc (.cells #[.int .i64 1, .int .u64 0, .slice aB 0 cB, .slice aL 0 cL, .slice aF 0 cF] 37)) 1 (e := 1) rfl
  rw [hz] at hrow
  have HRow := hide hrow
  clear hrow hb0
  go_enter Tryd.func52, Tryd.ntmps52
  go_wp2_with fail
  go_ret
  exact BytesC.of (by simp [V.bytes_mk]) (by simp [V.bytes_mk]) (by omega) HRow.out (((Grow.refl w).alloc _).alloc _)

set_option maxRecDepth 100000 in
set_option maxHeartbeats 800000 in
theorem bytes_bool (w : World) (c : Cv) (n : Nat) (hv : In w (V.mk 2 n [] [] []) c) :
    Calls Tryd.prog 52 #[c.agg] w (BytesC w (V.bytes (V.mk 2 n [] [] []))) := by
  obtain ⟨aB, aL, aF, cB, cL, cF, rfl, h1, h2, h3, h4, h5, h6, h7, h8, h9, hb0⟩ := InU.open hv
  have hz : (w.alloc (.cells #[.int .i64 2, .int .u64 n, .slice aB 0 cB, .slice aL 0 cL, .slice aF 0 cF] 37)).heap.size = w.heap.size + 1 := by simp
  have hrow := Row.lit (w := w.alloc (.cells #[.int .i64 2, .int .u64 n, .slice aB 0 cB, .slice aL 0 cL, .slice aF 0 cF] 37)) 2 (e := 2) rfl
  rw [hz] at hrow
  have HRow := hide hrow
  have hwr : IntKind.u8.wrap (n : Int) = (n : Int) % 256 := IntKind.wrap_u8 _
  clear hrow hb0
  go_enter Tryd.func52, Tryd.ntmps52
  go_wp2_with (first | (at_builtin; refine app_src (ys := [UInt8.ofNat n]) rfl (.tmp 14) (.tmp 18) _ rfl rfl (HRow.out.alloc _) _ rfl (src_one _ (byte_int _) (Blk.new' (by simp) _ _)) (by simp only [List.length_cons, List.length_nil]; omega) (by simp) ?_; intro A2 c2 w2 hr2 hg2; have HG2 := hide (Below.trans ((((Grow.refl w).alloc _).alloc _).alloc _) (Below.mono (Grew.below hg2 (HRow.out.alloc _) (by simp)) (by omega))); have HR2 := hide hr2; clear hr2 hg2))
  go_ret
  exact BytesC.of (by simp [V.bytes_mk]) (by simp [V.bytes_mk]) (by omega) HR2.out HG2.out

set_option maxRecDepth 100000 in
set_option maxHeartbeats 800000 in
theorem bytes_int (w : World) (c : Cv) (n : Nat) (hv : In w (V.mk 3 n [] [] []) c) :
    Calls Tryd.prog 52 #[c.agg] w (BytesC w (V.bytes (V.mk 3 n [] [] []))) := by
  obtain ⟨aB, aL, aF, cB, cL, cF, rfl, h1, h2, h3, h4, h5, h6, h7, h8, h9, hb0⟩ := InU.open hv
  have hz : (w.alloc (.cells #[.int .i64 3, .int .u64 n, .slice aB 0 cB, .slice aL 0 cL, .slice aF 0 cF] 37)).heap.size = w.heap.size + 1 := by simp
  have hrow := Row.lit (w := w.alloc (.cells #[.int .i64 3, .int .u64 n, .slice aB 0 cB, .slice aL 0 cL, .slice aF 0 cF] 37)) 3 (e := 3) rfl
  rw [hz] at hrow
  have HRow := hide hrow
  clear hrow hb0
  go_enter Tryd.func52, Tryd.ntmps52
  go_wp2_with fail
  refine (refPut_any n 8 _ h3 (by omega)).mono ?_
  rintro e w1 ⟨A1, c1, rfl, hr1, hg1⟩
  have HR1 := hide hr1
  have HG1 := hide ((((Grow.refl w).alloc _).alloc _).trans hg1)
  have HRow1 := hide (HRow.out.grow hg1)
  have hz1 := hg1.size
  simp only [World.size_alloc] at hz1
  clear hr1 hg1
  go_wp2_with (first | (at_builtin; refine app_src (ys := toLe 8 n) rfl (.tmp 23) (.tmp 26) _ rfl rfl HRow1.out _ rfl (Src.ofReads under_u8s HR1.out.reads.1 (u8s_one _)) (by rw [toLe_length]; omega) (by omega) ?_; intro A2 c2 w2 hr2 hg2; have HG2 := hide (Below.trans HG1.out (Below.mono (Grew.below hg2 HRow1.out (by omega)) (by omega))); have HR2 := hide hr2; clear hr2 hg2))
  go_ret
  exact BytesC.of (by simp [V.bytes_mk, toLe_length]) (by simp [V.bytes_mk]) (by omega) HR2.out HG2.out

set_option maxRecDepth 100000 in
set_option maxHeartbeats 800000 in
theorem bytes_float (w : World) (c : Cv) (n : Nat) (hv : In w (V.mk 4 n [] [] []) c) :
    Calls Tryd.prog 52 #[c.agg] w (BytesC w (V.bytes (V.mk 4 n [] [] []))) := by
  obtain ⟨aB, aL, aF, cB, cL, cF, rfl, h1, h2, h3, h4, h5, h6, h7, h8, h9, hb0⟩ := InU.open hv
  have hz : (w.alloc (.cells #[.int .i64 4, .int .u64 n, .slice aB 0 cB, .slice aL 0 cL, .slice aF 0 cF] 37)).heap.size = w.heap.size + 1 := by simp
  have hrow := Row.lit (w := w.alloc (.cells #[.int .i64 4, .int .u64 n, .slice aB 0 cB, .slice aL 0 cL, .slice aF 0 cF] 37)) 4 (e := 4) rfl
  rw [hz] at hrow
  have HRow := hide hrow
  clear hrow hb0
  go_enter Tryd.func52, Tryd.ntmps52
  go_wp2_with fail
  refine (refPut_any n 8 _ h3 (by omega)).mono ?_
  rintro e w1 ⟨A1, c1, rfl, hr1, hg1⟩
  have HR1 := hide hr1
  have HG1 := hide ((((Grow.refl w).alloc _).alloc _).trans hg1)
  have HRow1 := hide (HRow.out.grow hg1)
  have hz1 := hg1.size
  simp only [World.size_alloc] at hz1
  clear hr1 hg1
  go_wp2_with (first | (at_builtin; refine app_src (ys := toLe 8 n) rfl (.tmp 23) (.tmp 26) _ rfl rfl HRow1.out _ rfl (Src.ofReads under_u8s HR1.out.reads.1 (u8s_one _)) (by rw [toLe_length]; omega) (by omega) ?_; intro A2 c2 w2 hr2 hg2; have HG2 := hide (Below.trans HG1.out (Below.mono (Grew.below hg2 HRow1.out (by omega)) (by omega))); have HR2 := hide hr2; clear hr2 hg2))
  go_ret
  exact BytesC.of (by simp [V.bytes_mk, toLe_length]) (by simp [V.bytes_mk]) (by omega) HR2.out HG2.out

set_option maxRecDepth 100000 in
set_option maxHeartbeats 800000 in
theorem bytes_text (w : World) (c : Cv) (b : List UInt8) (hv : In w (V.mk 5 0 b [] []) c) (hm : 3 + b.length ≤ 140737488355328) :
    Calls Tryd.prog 52 #[c.agg] w (BytesC w (V.bytes (V.mk 5 0 b [] []))) := by
  obtain ⟨aB, aL, aF, cB, cL, cF, rfl, h1, h2, h3, h4, h5, h6, h7, h8, h9, hb0⟩ := InU.open hv
  have hz : (w.alloc (.cells #[.int .i64 5, .int .u64 0, .slice aB b.length cB, .slice aL 0 cL, .slice aF 0 cF] 37)).heap.size = w.heap.size + 1 := by simp
  have hrow := Row.lit (w := w.alloc (.cells #[.int .i64 5, .int .u64 0, .slice aB b.length cB, .slice aL 0 cL, .slice aF 0 cF] 37)) 5 (e := 5) rfl
  rw [hz] at hrow
  have HRow := hide hrow
  have HB0 := hide ((Blk.new w 37 #[.int .i64 5, .int .u64 0, .slice aB b.length cB, .slice aL 0 cL, .slice aF 0 cF]).alloc (.cells #[.int .u8 5] 5))
  have HG0 := hide (((Grow.refl w).alloc (.cells #[.int .i64 5, .int .u64 0, .slice aB b.length cB, .slice aL 0 cL, .slice aF 0 cF] 37)).alloc (.cells #[.int .u8 5] 5))
  have HS0 := hide (show InB w aB b from hb0)
  have hc1 := HB0.out.cell 2
  have hwr : IntKind.u64.wrap (b.length : Int) = (b.length : Int) := IntWalk.u64_in _ (by omega)
  clear hrow hb0
  go_enter Tryd.func52, Tryd.ntmps52
  go_wp2_with fail
  go_region_held3 (fun w' => w'.cell? ⟨w.heap.size, 2, none⟩ = some (.slice aB b.length cB)) (first | go_keep | exact hc3 | exact hc2 | exact hc4) (first | (go_at_call 78; refine (refPut_any b.length 2 _ (by omega) (by omega)).mono ?_; rintro e w2 ⟨A2, c2, rfl, hr2, hg2⟩; have HB2 := hide (HB0.out.drew.grow hg2); have hc2 := HB2.out.cell 2; have HR2 := hide hr2; have HRo := hide (HRow.out.drew.grow hg2); have HG2 := hide (HG0.out.drew.trans hg2); have hz2 := HG2.out.size; have hz2' := hg2.size; clear hr2 hg2) | (refine step_app_src (ys := toLe 2 b.length) (by rfl) (.tmp 31) (.tmp 36) _ (by rfl) (by rfl) HRo.out _ (by rfl) (Src.ofReads under_u8s HR2.out.reads.1 (u8s_one _)) (by rw [toLe_length]; omega) (by have := HB2.out.lt; omega) ?_; intro A3 c3 w3 hr3 hg3; have HB3 := hide (hg3.blk HB2.out (Row.ne HRo.out HB2.out (by decide))); have hc3 := HB3.out.cell 2; have HR3 := hide hr3; have HG3 := hide (Below.trans HG2.out (Below.mono (Grew.below hg3 HRo.out (by have := HB2.out.lt; omega)) (by omega))); have HS3 := hide (HS0.out.grow HG3.out); clear hr3 hg3) | (refine step_app_src (ys := b) (by rfl) (.tmp 37) (.tmp 39) _ (by rfl) (by rfl) HR3.out _ (by rfl) (Src.ofReads under_u8s HS3.out (u8s_one b)) (by rw [toLe_length]; omega) (by have := HB3.out.lt; omega) ?_; intro A4 c4 w4 hr4 hg4; have HB4 := hide (hg4.blk HB3.out (Row.ne HR3.out HB3.out (by decide))); have hc4 := HB4.out.cell 2; have HR4 := hide hr4; have HG4 := hide (Below.trans HG3.out (Below.mono (Grew.below hg4 HR3.out (by have := HB3.out.lt; omega)) (by omega))); clear hr4 hg4))
  go_wp2_with fail
  go_ret
  exact BytesC.of (by simp [V.bytes_mk, toLe_length]; omega) (by simp [V.bytes_mk]) (by omega) HR4.out HG4.out

set_option maxRecDepth 100000 in
set_option maxHeartbeats 800000 in
theorem bytes_raw (w : World) (c : Cv) (b : List UInt8) (hv : In w (V.mk 6 0 b [] []) c) (hm : 3 + b.length ≤ 140737488355328) :
    Calls Tryd.prog 52 #[c.agg] w (BytesC w (V.bytes (V.mk 6 0 b [] []))) := by
  obtain ⟨aB, aL, aF, cB, cL, cF, rfl, h1, h2, h3, h4, h5, h6, h7, h8, h9, hb0⟩ := InU.open hv
  have hz : (w.alloc (.cells #[.int .i64 6, .int .u64 0, .slice aB b.length cB, .slice aL 0 cL, .slice aF 0 cF] 37)).heap.size = w.heap.size + 1 := by simp
  have hrow := Row.lit (w := w.alloc (.cells #[.int .i64 6, .int .u64 0, .slice aB b.length cB, .slice aL 0 cL, .slice aF 0 cF] 37)) 6 (e := 6) rfl
  rw [hz] at hrow
  have HRow := hide hrow
  have HB0 := hide ((Blk.new w 37 #[.int .i64 6, .int .u64 0, .slice aB b.length cB, .slice aL 0 cL, .slice aF 0 cF]).alloc (.cells #[.int .u8 6] 5))
  have HG0 := hide (((Grow.refl w).alloc (.cells #[.int .i64 6, .int .u64 0, .slice aB b.length cB, .slice aL 0 cL, .slice aF 0 cF] 37)).alloc (.cells #[.int .u8 6] 5))
  have HS0 := hide (show InB w aB b from hb0)
  have hc1 := HB0.out.cell 2
  have hwr : IntKind.u64.wrap (b.length : Int) = (b.length : Int) := IntWalk.u64_in _ (by omega)
  clear hrow hb0
  go_enter Tryd.func52, Tryd.ntmps52
  go_wp2_with fail
  go_region_held3 (fun w' => w'.cell? ⟨w.heap.size, 2, none⟩ = some (.slice aB b.length cB)) (first | go_keep | exact hc3 | exact hc2 | exact hc4) (first | (go_at_call 78; refine (refPut_any b.length 2 _ (by omega) (by omega)).mono ?_; rintro e w2 ⟨A2, c2, rfl, hr2, hg2⟩; have HB2 := hide (HB0.out.drew.grow hg2); have hc2 := HB2.out.cell 2; have HR2 := hide hr2; have HRo := hide (HRow.out.drew.grow hg2); have HG2 := hide (HG0.out.drew.trans hg2); have hz2 := HG2.out.size; have hz2' := hg2.size; clear hr2 hg2) | (refine step_app_src (ys := toLe 2 b.length) (by rfl) (.tmp 31) (.tmp 36) _ (by rfl) (by rfl) HRo.out _ (by rfl) (Src.ofReads under_u8s HR2.out.reads.1 (u8s_one _)) (by rw [toLe_length]; omega) (by have := HB2.out.lt; omega) ?_; intro A3 c3 w3 hr3 hg3; have HB3 := hide (hg3.blk HB2.out (Row.ne HRo.out HB2.out (by decide))); have hc3 := HB3.out.cell 2; have HR3 := hide hr3; have HG3 := hide (Below.trans HG2.out (Below.mono (Grew.below hg3 HRo.out (by have := HB2.out.lt; omega)) (by omega))); have HS3 := hide (HS0.out.grow HG3.out); clear hr3 hg3) | (refine step_app_src (ys := b) (by rfl) (.tmp 37) (.tmp 39) _ (by rfl) (by rfl) HR3.out _ (by rfl) (Src.ofReads under_u8s HS3.out (u8s_one b)) (by rw [toLe_length]; omega) (by have := HB3.out.lt; omega) ?_; intro A4 c4 w4 hr4 hg4; have HB4 := hide (hg4.blk HB3.out (Row.ne HR3.out HB3.out (by decide))); have hc4 := HB4.out.cell 2; have HR4 := hide hr4; have HG4 := hide (Below.trans HG3.out (Below.mono (Grew.below hg4 HR3.out (by have := HB3.out.lt; omega)) (by omega))); clear hr4 hg4))
  go_wp2_with fail
  go_ret
  exact BytesC.of (by simp [V.bytes_mk, toLe_length]; omega) (by simp [V.bytes_mk]) (by omega) HR4.out HG4.out

set_option maxRecDepth 100000 in
set_option maxHeartbeats 800000 in
theorem bytes_list_ (w : World) (c : Cv) (l : List V) (hl : ∀ x ∈ l, PosC x) (hv : In w (V.mk 7 0 [] l []) c) (hm : 2 + (l.map V.bytes).flatten.length ≤ 140737488355328) :
    Calls Tryd.prog 52 #[c.agg] w (BytesC w (V.bytes (V.mk 7 0 [] l []))) := by
  have Hl := hide hl
  clear hl
  have HV := hide hv
  obtain ⟨aB, aL, aF, cB, cL, cF, rfl, h1, h2, h3, h4, h5, h6, h7, h8, h9, hb0⟩ := InU.open hv
  have hz : (w.alloc (.cells #[.int .i64 7, .int .u64 0, .slice aB 0 cB, .slice aL l.length cL, .slice aF 0 cF] 37)).heap.size = w.heap.size + 1 := by simp
  have hrow := Row.lit (w := w.alloc (.cells #[.int .i64 7, .int .u64 0, .slice aB 0 cB, .slice aL l.length cL, .slice aF 0 cF] 37)) 7 (e := 7) rfl
  rw [hz] at hrow
  have HRow := hide hrow
  have HB0 := hide ((Blk.new w 37 #[.int .i64 7, .int .u64 0, .slice aB 0 cB, .slice aL l.length cL, .slice aF 0 cF]).alloc (.cells #[.int .u8 7] 5))
  clear hrow hb0 hv
  go_enter Tryd.func52, Tryd.ntmps52
  go_wp2_with (first | (at_builtin; refine app_src (ys := [UInt8.ofNat l.length]) rfl (.tmp 43) (.tmp 48) _ rfl rfl (HRow.out.alloc _) _ rfl (src_one _ (byte_int _) (Blk.new' (by simp) _ _)) (by simp only [List.length_cons, List.length_nil]; omega) (by simp) ?_; intro A2 c2 w2 hr2 hg2; have HG2 := hide (Below.trans ((((Grow.refl w).alloc _).alloc _).alloc _) (Below.mono (Grew.below hg2 (HRow.out.alloc _) (by simp)) (by omega))); have HB2 := hide (hg2.blk (HB0.out.alloc _) (Row.ne HRow.out HB0.out (by decide))); have HR2 := hide hr2; clear hr2 hg2))
  go_loopg [3, 4] (l.length + 1) (fun gk v' i wr => ∃ (j : Nat) (A' : Option Addr) (c' : Nat), j ≤ l.length ∧ gk + j = l.length + 1 ∧ i = .int .i64 j ∧ v' = .slice A' (2 + ((l.take j).map V.bytes).flatten.length) c' ∧
    Row wr (w.heap.size + 1) (.slice A' (2 + ((l.take j).map V.bytes).flatten.length) c') (2 + ((l.take j).map V.bytes).flatten.length) (7 :: UInt8.ofNat l.length :: ((l.take j).map V.bytes).flatten) ∧ Grow w wr ∧ w.heap.size + 1 ≤ wr.heap.size ∧ Blk wr w.heap.size 37 #[.int .i64 7, .int .u64 0, .slice aB 0 cB, .slice aL l.length cL, .slice aF 0 cF])
  case atStart => exact ⟨0, A2, c2, by omega, by omega, rfl, by simp, by simpa using HR2.out, HG2.out, by have := HB2.out.lt; omega, HB2.out⟩
  case round =>
    obtain ⟨j, A', c', hj, hg, rfl, rfl, hr, hgr, hz5, hB⟩ := hrel
    obtain ⟨gk', rfl⟩ : ∃ g, gk = g + 1 := ⟨gk - 1, by omega⟩
    have hc := hB.cell
    have HBr := hide hB
    by_cases hlt : j < l.length
    · have hvr := HV.out.grow hgr
      obtain ⟨bk, o, x, ha, hbk, e0, e1, e2, e3, e4, hx⟩ := InU.elemL hvr j hlt
      dsimp only at ha
      subst ha
      have hm1 := flat_take V.bytes l j hlt
      have hm2 := congrArg List.length hm1
      rw [List.length_append] at hm2
      have hle := flat_le V.bytes l (j + 1)
      rw [hm2] at hle
      have HM1 := hide hm1
      have HM2 := hide hm2
      have HR' := hide hr
      have HG' := hide hgr
      have HX := hide hx
      obtain ⟨S, hS⟩ : ∃ S, S = ((l.take j).map V.bytes).flatten := ⟨_, rfl⟩
      rw [← hS] at hle HR' HM1 HM2 ⊢
      clear hr hgr hx hvr hm1 hm2 hS hB
      go_wp2_with fail
      refine (Hl.out _ (List.getElem_mem hlt) _ x HX.out (by omega)).mono ?_
      rintro e w3 ⟨base3, A3, c3, rfl, hb3, hr3, hg3⟩
      have HG3 := hide (HG'.out.trans hg3)
      have HR3 := hide hr3
      have HRo := hide (HR'.out.grow hg3)
      have hB3 := HBr.out.grow hg3
      have HB3 := hide hB3
      have hc3 := hB3.cell
      have hz3 := hg3.size
      clear hr3 hg3 e0 e1 e2 e3 e4 hc hB3
      go_wp2_with (first | (at_builtin; refine app_src (ys := l[j].bytes) rfl (.tmp 57) (.tmp 63) _ rfl rfl HRo.out _ rfl (Src.ofReads under_u8s HR3.out.reads.1 (u8s_one _)) (by omega) (by omega) ?_; intro A4 c4 w4 hr4 hg4; have HG4 := hide (Below.trans HG3.out (Below.mono (Grew.below hg4 HRo.out (by omega)) (by omega))); have HB4 := hide (hg4.blk HB3.out (Row.ne HRo.out HB3.out (by decide))); have HR4 := hide hr4; have hz4 := hg4.size; clear hr4 hg4 hc3))
      go_roundg gk'
      case measure => omega
      case rel =>
        have e1 : 2 + S.length + l[j].bytes.length = 2 + ((l.take (j + 1)).map V.bytes).flatten.length := by rw [HM2.out]; omega
        refine ⟨j + 1, A4, c4, by omega, by omega, by go_num, by rw [e1], ?_, HG4.out, by omega, HB4.out⟩
        rw [← e1, HM1.out]; simpa using HR4.out
    · obtain rfl : j = l.length := by omega
      rw [List.take_length] at hr ⊢
      have HR' := hide hr
      have HG' := hide hgr
      clear hr hgr hg hlt
      go_wp2_with fail
      go_ret
      exact BytesC.of (by rw [V.bytes_list]; simp; omega) (by rw [V.bytes_list]) (by omega) HR'.out HG'.out
set_option maxRecDepth 100000 in
set_option maxHeartbeats 800000 in
theorem bytes_doc_ (w : World) (c : Cv) (f : List (ByteArray × V)) (hl : ∀ x ∈ f, PosC x.2) (hv : In w (V.mk 8 0 [] [] f) c) (hm : 2 + (f.map fun x : ByteArray × V => V.item x.1 x.2.bytes).flatten.length ≤ 140737488355328) :
    Calls Tryd.prog 52 #[c.agg] w (BytesC w (V.bytes (V.mk 8 0 [] [] f))) := by
  have Hl := hide hl
  clear hl
  have HV := hide hv
  obtain ⟨aB, aL, aF, cB, cL, cF, rfl, h1, h2, h3, h4, h5, h6, h7, h8, h9, hb0⟩ := InU.open hv
  have hz : (w.alloc (.cells #[.int .i64 8, .int .u64 0, .slice aB 0 cB, .slice aL 0 cL, .slice aF f.length cF] 37)).heap.size = w.heap.size + 1 := by simp
  have hrow := Row.lit (w := w.alloc (.cells #[.int .i64 8, .int .u64 0, .slice aB 0 cB, .slice aL 0 cL, .slice aF f.length cF] 37)) 8 (e := 8) rfl
  rw [hz] at hrow
  have HRow := hide hrow
  have HB0 := hide ((Blk.new w 37 #[.int .i64 8, .int .u64 0, .slice aB 0 cB, .slice aL 0 cL, .slice aF f.length cF]).alloc (.cells #[.int .u8 8] 5))
  clear hrow hb0 hv
  go_enter Tryd.func52, Tryd.ntmps52
  go_wp2_with (first | (at_builtin; refine app_src (ys := [UInt8.ofNat f.length]) rfl (.tmp 67) (.tmp 72) _ rfl rfl (HRow.out.alloc _) _ rfl (src_one _ (byte_int _) (Blk.new' (by simp) _ _)) (by simp only [List.length_cons, List.length_nil]; omega) (by simp) ?_; intro A2 c2 w2 hr2 hg2; have HG2 := hide (Below.trans ((((Grow.refl w).alloc _).alloc _).alloc _) (Below.mono (Grew.below hg2 (HRow.out.alloc _) (by simp)) (by omega))); have HB2 := hide (hg2.blk (HB0.out.alloc _) (Row.ne HRow.out HB0.out (by decide))); have HR2 := hide hr2; clear hr2 hg2))
  go_loopg [3, 5] (f.length + 1) (fun gk v' i wr => ∃ (j : Nat) (A' : Option Addr) (c' : Nat), j ≤ f.length ∧ gk + j = f.length + 1 ∧ i = .int .i64 j ∧ v' = .slice A' (2 + ((f.take j).map fun x : ByteArray × V => V.item x.1 x.2.bytes).flatten.length) c' ∧
    Row wr (w.heap.size + 1) (.slice A' (2 + ((f.take j).map fun x : ByteArray × V => V.item x.1 x.2.bytes).flatten.length) c') (2 + ((f.take j).map fun x : ByteArray × V => V.item x.1 x.2.bytes).flatten.length) (8 :: UInt8.ofNat f.length :: ((f.take j).map fun x : ByteArray × V => V.item x.1 x.2.bytes).flatten) ∧ Grow w wr ∧ w.heap.size + 1 ≤ wr.heap.size ∧ Blk wr w.heap.size 37 #[.int .i64 8, .int .u64 0, .slice aB 0 cB, .slice aL 0 cL, .slice aF f.length cF])
  case atStart => exact ⟨0, A2, c2, by omega, by omega, rfl, by simp, by simpa using HR2.out, HG2.out, by have := HB2.out.lt; omega, HB2.out⟩
  case round =>
    obtain ⟨j, A', c', hj, hg, rfl, rfl, hr, hgr, hz5, hB⟩ := hrel
    obtain ⟨gk', rfl⟩ : ∃ g, gk = g + 1 := ⟨gk - 1, by omega⟩
    have hc := hB.cell
    have HBr := hide hB
    by_cases hlt : j < f.length
    · have hvr := HV.out.grow hgr
      obtain ⟨bk, o, x, ha, hbk, es, esz, e0, e1, e2, e3, e4, hx⟩ := InU.elemF hvr j hlt
      obtain ⟨bk', o', x', ha', hbk', es', _⟩ := InU.elemF HV.out j hlt
      dsimp only at ha ha'
      subst ha
      injection ha' with ha'
      injection ha' with ha1 ha2
      subst ha1 ha2
      have hm1 := flat_take (fun x : ByteArray × V => V.item x.1 x.2.bytes) f j hlt
      have hm2 := congrArg List.length hm1
      rw [List.length_append, V.item_length] at hm2
      have hle := flat_le (fun x : ByteArray × V => V.item x.1 x.2.bytes) f (j + 1)
      rw [hm2] at hle
      have HM1 := hide hm1
      have HM2 := hide hm2
      have HR' := hide hr
      have HG' := hide hgr
      have HX := hide hx
      obtain ⟨S, hS⟩ : ∃ S, S = ((f.take j).map fun x : ByteArray × V => V.item x.1 x.2.bytes).flatten := ⟨_, rfl⟩
      rw [← hS] at hle HR' HM1 HM2 ⊢
      have HF := hide (Hl.out _ (List.getElem_mem hlt))
      obtain ⟨s, hs⟩ : ∃ s, s = f[j].1 := ⟨_, rfl⟩
      obtain ⟨y, hy⟩ : ∃ y, y = f[j].2 := ⟨_, rfl⟩
      have HES := hide es'
      rw [← hs] at es esz HES HM1 HM2 hle
      rw [← hy] at HX HM1 HM2 hle HF
      clear hr hgr hx hvr hm1 hm2 hS hB hs es'
      have hwr : IntKind.u8.wrap (s.size : Int) = (s.size : Int) % 256 := IntKind.wrap_u8 _
      have hcb := hc 4
      go_wp2_with fail
      go_region_held3 (fun w' => w'.cell? ⟨w.heap.size, 4, none⟩ = some (.slice (some ⟨bk, o, none⟩) f.length cF) ∧ w'.cell? ⟨bk, o + j * 6, none⟩ = some (.string s)) (first | go_keep | exact ⟨hc4, hd4⟩ | exact ⟨hc3, hd3⟩) (first | (refine step_app_src (ys := [UInt8.ofNat s.size]) (by rfl) (.tmp 81) (.tmp 90) _ (by rfl) (by rfl) (HR'.out.drew.alloc _) _ (by rfl) (src_one _ (byte_int _) (Blk.new' (by simp) _ _)) (by simp only [List.length_cons, List.length_nil]; omega) (by simp; omega) ?_; intro A3 c3 w3 hr3 hg3; have HB3 := hide (hg3.blk (HBr.out.drew.alloc _) (Row.ne HR'.out HBr.out (by decide))); have hc3 := HB3.out.cell 4; have HG3 := hide (Below.trans (HG'.out.drew.alloc _) (Below.mono (Grew.below hg3 (HR'.out.drew.alloc _) (by simp; omega)) (by omega))); have HR3 := hide hr3; have hd3 : w3.cell? ⟨bk, o + j * 6, none⟩ = some (.string s) := (Grow.below HG3.out |>.cell hbk').trans HES.out; clear hr3 hg3) | (refine step_app_src (ys := s.data.toList) (by rfl) (.tmp 91) (.tmp 97) _ (by rfl) (by rfl) HR3.out _ (by rfl) (src_str s) (by simp only [List.length_cons, List.length_nil, Array.length_toList]; have : s.data.size = s.size := rfl; omega) (by have := HB3.out.lt; omega) ?_; intro A4 c4 w4 hr4 hg4; have HB4 := hide (hg4.blk HB3.out (Row.ne HR3.out HB3.out (by decide))); have hc4 := HB4.out.cell 4; have HG4 := hide (Below.trans HG3.out (Below.mono (Grew.below hg4 HR3.out (by have := HB3.out.lt; omega)) (by omega))); have HR4 := hide hr4; have hd4 : w4.cell? ⟨bk, o + j * 6, none⟩ = some (.string s) := (Grow.below HG4.out |>.cell hbk').trans HES.out; clear hr4 hg4))
      have hcb4 := HB4.out.cell
      have hlb4 := HB4.out.lt
      obtain ⟨bk2, o2, y2, ha2, hbk2, es2, _, f0, f1, f2, f3, f4, hx2⟩ := InU.elemF (HV.out.grow HG4.out) j hlt
      injection ha2 with ha2
      injection ha2 with hz1 hz2
      subst hz1 hz2
      rw [← hy] at hx2
      have HX2 := hide hx2
      have hsz : s.data.toList.length = s.size := by rw [Array.length_toList]; rfl
      have hr4 := HR4.out
      rw [show 2 + S.length + [UInt8.ofNat s.size].length + s.data.toList.length = 2 + S.length + 1 + s.size by rw [hsz]; rfl] at hr4
      have HRf := hide hr4
      clear hx2 hy hr4 HR4 hsz
      go_wp2_with fail
      refine (HF.out _ y2 HX2.out (by omega)).mono ?_
      rintro e w5 ⟨base5, A5, c5, rfl, hb5, hr5, hg5⟩
      have HG5 := hide (Grow.trans HG4.out hg5)
      have HR5 := hide hr5
      have HRo := hide (HRf.out.grow hg5)
      have hB5 := HB4.out.grow hg5
      have HB5 := hide hB5
      have hz5' := hg5.size
      clear hr5 hg5 f0 f1 f2 f3 f4 hcb4 hB5
      go_wp2_with (first | (at_builtin; refine app_src (ys := y.bytes) rfl (.tmp 99) (.tmp 106) _ rfl rfl HRo.out _ rfl (Src.ofReads under_u8s HR5.out.reads.1 (u8s_one _)) (by omega) (by omega) ?_; intro A6 c6 w6 hr6 hg6; have HG6 := hide (Below.trans HG5.out (Below.mono (Grew.below hg6 HRo.out (by omega)) (by omega))); have HB6 := hide (hg6.blk HB5.out (Row.ne HRo.out HB5.out (by decide))); have HR6 := hide hr6; have hz6 := hg6.size; clear hr6 hg6))
      go_roundg gk'
      case measure => omega
      case rel =>
        have e2 : 2 + S.length + 1 + s.size + y.bytes.length = 2 + ((f.take (j + 1)).map fun x => V.item x.1 x.2.bytes).flatten.length := by rw [HM2.out]; omega
        refine ⟨j + 1, A6, c6, by omega, by omega, by go_num, by rw [e2], ?_, HG6.out, by omega, HB6.out⟩
        rw [← e2, HM1.out]; simpa [V.item] using HR6.out
    · obtain rfl : j = f.length := by omega
      rw [List.take_length] at hr ⊢
      have HR' := hide hr
      have HG' := hide hgr
      clear hr hgr hg hlt
      go_wp2_with fail
      go_ret
      exact BytesC.of (by rw [V.bytes_doc]; simp; omega) (by rw [V.bytes_doc]) (by omega) HR'.out HG'.out
theorem BytesC.after {w w1 w' : World} {bs : List UInt8} {e : Ending} (hg : Grow w w1) (h : BytesC w1 bs e w') : BytesC w bs e w' := by
  obtain ⟨base, A, c, he, hb, hr, hg'⟩ := h
  exact ⟨base, A, c, he, Nat.le_trans hg.size hb, hr, hg.trans hg'⟩
/-- The bytes of every value of a good shape. -/
theorem bytes_any (v : V) : v.formed = true → PosC v := by
  induction v using V.ind with
  | h k n b l f hl hf =>
    intro hfm w c hv hm
    rcases V.formed_cases hfm with h | ⟨_, _, h⟩ | ⟨_, h⟩ | ⟨_, h⟩ | ⟨_, _, h⟩ | ⟨_, h⟩ | ⟨l', hl', h⟩ | ⟨f', hf', hnd, h⟩
    · cases h; exact bytes_null w c hv
    · cases h; exact bytes_bool w c _ hv
    · cases h; exact bytes_int w c _ hv
    · cases h; exact bytes_float w c _ hv
    · cases h; exact bytes_text w c _ hv (by rw [V.bytes_mk] at hm; simp [toLe_length] at hm; omega)
    · cases h; exact bytes_raw w c _ hv (by rw [V.bytes_mk] at hm; simp [toLe_length] at hm; omega)
    · cases h
      exact bytes_list_ w c _ (fun x hx => hl x hx (hl' x hx)) hv (by rw [V.bytes_list] at hm; simp only [List.length_cons] at hm; omega)
    · cases h
      exact bytes_doc_ w c _ (fun x hx => hf x hx (hf' x hx).2) hv (by rw [V.bytes_doc] at hm; simp only [List.length_cons] at hm; omega)

end Go.Proofs.YtfkljmhpcdplhaaDoor
