/- Walks: the laying of frames, texts, values, by the program and by the document's answer. -/
import Derived.Test.YtojpeiihkjpeoaaDoorSplit
import Derived.Test.YtojpeiihkjpeoaaDoorWireP
import Derived.Test.YtojpeiihkjpeoaaDoorRefB
set_option linter.unusedVariables false
set_option linter.unusedSimpArgs false
namespace Go.Proofs.YtojpeiihkjpeoaaDoor
open Go.RowKit Go.Shelf

/-- Bytes in a row of the call's own, and an error. -/
def PutW (w : World) (p : List UInt8 × Int) (e : Ending) (w' : World) : Prop :=
  ∃ base A c, e = .returned (.tuple #[.slice A p.1.length c, .int .i64 p.2]) ∧ w.heap.size ≤ base ∧ base ≤ w'.heap.size ∧ Row w' base (.slice A p.1.length c) p.1.length p.1 ∧ Grow w w'
theorem Row.nil (w : World) (base : Nat) : Row w base (.slice none 0 0) 0 [] := World.ownsRow_nil _ _ _ _
theorem PutW.bad {w w' : World} {e : Int} (h : Grow w w') : PutW w ([], e) (.returned (.tuple #[.slice none 0 0, .int .i64 e])) w' :=
  ⟨w.heap.size, none, 0, rfl, Nat.le_refl _, h.size, Row.nil _ _, h⟩
theorem PutW.of {w w' : World} {base k c : Nat} {A : Option Addr} {zs bs : List UInt8} (hk : k = bs.length) (hz : zs = bs) (hb : w.heap.size ≤ base) (hb2 : base ≤ w'.heap.size) (h1 : Row w' base (.slice A k c) k zs) (h2 : Grow w w') : PutW w (bs, 0) (.returned (.tuple #[.slice A k c, .int .i64 0])) w' := by
  subst hk; subst hz; exact ⟨base, A, c, rfl, hb, hb2, h1, h2⟩
theorem src_blk {w : World} {g n : Nat} (xs : List UInt8) (hn : xs.length = n) (hb : Blk w g 5 (u8s xs).toArray) : Src Tryd.prog 1 26 (.slice (some ⟨g, 0, none⟩) n n) xs.length (u8s xs) w := by
  subst hn
  refine Src.ofSlice w under_u8s ⟨g, 0, none⟩ xs.length xs.length (u8s xs) (by simp [u8s]) (fun j u hu => ?_) (u8s_one _)
  rw [add_lit, Nat.zero_add, hb.cell]
  simpa using hu

set_option maxRecDepth 100000 in
set_option maxHeartbeats 1600000 in
theorem framed_any (body : List UInt8) (A : Option Addr) (cap : Nat) (w : World) (hb : InB w A body) (hl : body.length ≤ 140737488355328) :
    Calls Tryd.prog 51 #[.slice A body.length cap] w (PutW w (if 12000 < body.length then ([], 2) else (frameOf body, 0))) := by
  have HB := hide hb
  clear hb
  by_cases h12 : 12000 < body.length
  · rw [if_pos h12]
    go_enter Tryd.func51, Tryd.ntmps51
    go_wp2_with fail
    go_ret2
    exact PutW.bad (Grow.refl w)
  rw [if_neg h12]
  obtain ⟨S, hS⟩ : ∃ S, body.length + 8 = S := ⟨_, rfl⟩
  obtain ⟨cur, hcur, hmk⟩ := make_u8 S (by omega)
  have hS1 : (4 : Int) + (body.length : Int) + 4 = (S : Int) := by omega
  have hB2 := Blk.new (w.alloc (.cells cur 5)) 5 #[.int .u8 77, .int .u8 68]
  rw [show (w.alloc (.cells cur 5)).heap.size = w.heap.size + 1 by simp] at hB2
  have HB2 := hide hB2
  have HR1 := hide ((Row.made (w := w) cur S (by simp only [maxLen]; omega) hcur).alloc (.cells #[.int .u8 77, .int .u8 68] 5))
  have HG1 := hide (((Grow.refl w).alloc (.cells cur 5)).alloc (.cells #[.int .u8 77, .int .u8 68] 5))
  clear hB2 hcur
  go_enter Tryd.func51, Tryd.ntmps51
  go_wp2_with (at_builtin; refine app_src (ys := [77, 68]) rfl (.tmp 12) (.tmp 13) _ rfl rfl HR1.out _ rfl (src_blk [77, 68] rfl HB2.out) (by simp) (by simp; omega) ?_; intro A3 c3 w3 hr3 hg3; have HG3 := hide (Below.trans HG1.out (Grew.below hg3 HR1.out (by simp; omega))); have HR3 := hide hr3; clear hr3 hg3)
  refine (lay_any body.length 2 w.heap.size A3 c3 2 [77, 68] w3 HR3.out (Grow.size HG3.out) (by omega) (by omega) (by omega)).mono ?_
  rintro e w4 ⟨A4, c4, rfl, hr4, hg4⟩
  have HG4 := hide (Below.trans HG3.out (Grew.below hg4 HR3.out (Grow.size HG3.out)))
  have HR4 := hide hr4
  clear hr4 hg4
  go_wp2_with (at_builtin; refine app_src (ys := body) rfl (.tmp 19) (.tmp 20) _ rfl rfl HR4.out _ rfl (Src.ofReads under_u8s (HB.out.grow HG4.out) (u8s_one body)) (by omega) (Grow.size HG4.out) ?_; intro A5 c5 w5 hr5 hg5; have HG5 := hide (Below.trans HG4.out (Grew.below hg5 HR4.out (Grow.size HG4.out))); have HR5 := hide hr5; clear hr5 hg5)
  have hop : [77, 68] ++ toLe 2 body.length ++ body = opened body := by simp [opened]
  have hO := HR5.out
  rw [hop] at hO
  have HO := hide hO
  have hol : (opened body).length = 4 + body.length := by rw [opened_length]; omega
  have hk := sumOf_any (opened body) A5 c5 w5 (hO.reads.1) (by omega)
  rw [hol] at hk
  have hc2 := crc_lt (opened body)
  obtain ⟨C, hC⟩ : ∃ C, crc (opened body) = C := ⟨_, rfl⟩
  rw [hC] at hk hc2
  have HC := hide hC
  have HK := hide hk
  clear hop hO hk hC hol
  refine HK.out.mono ?_
  rintro e w6 ⟨rfl, rfl⟩
  go_wp2_with fail
  refine (lay_any C 4 w.heap.size A5 c5 (4 + body.length) (opened body) w5 HO.out (Grow.size HG5.out) (by omega) (by omega) (by omega)).mono ?_
  rintro e w7 ⟨A7, c7, rfl, hr7, hg7⟩
  have HG7 := hide (Below.trans HG5.out (Grew.below hg7 HO.out (Grow.size HG5.out)))
  have HR7 := hide hr7
  clear hr7 hg7
  go_wp2_with fail
  go_ret2
  have hfl : (frameOf body).length = 4 + body.length + 4 := by rw [frameOf_length]; omega
  have hfr : frameOf body = opened body ++ toLe 4 C := by rw [← HC.out]; rfl
  exact PutW.of hfl.symm hfr.symm (Nat.le_refl _) (Grow.size HG7.out) HR7.out HG7.out

theorem grew_grow {w w1 w2 : World} {v v1 : Value} (h : Grew w v w1 v1) (g : Grow w1 w2) : Grew w v w2 v1 := h.trans (Grew.of_grow v1 g)
theorem Row.lt {w : World} {base m : Nat} {v : Value} {xs : List UInt8} (h : Row w base v m xs) : ∀ k, v.ownBlock = some k → base ≤ k ∧ k < w.heap.size := fun k hk => World.ownsRow.lt h k hk
/-- What is laid behind bytes: more bytes, in the same row or a new one. -/
def LayC (w : World) (base : Nat) (v : Value) (xs : List UInt8) (e : Ending) (w' : World) : Prop :=
  ∃ A c, e = .returned (.slice A xs.length c) ∧ Row w' base (.slice A xs.length c) xs.length xs ∧ Grew w v w' (.slice A xs.length c)
theorem LayC.of {w w' : World} {base k c : Nat} {v : Value} {A : Option Addr} {zs xs : List UInt8} (hk : k = xs.length) (hz : zs = xs) (h1 : Row w' base (.slice A k c) k zs) (h2 : Grew w v w' (.slice A k c)) : LayC w base v xs (.returned (.slice A k c)) w' := by
  subst hk; subst hz; exact ⟨A, c, rfl, h1, h2⟩

set_option maxRecDepth 100000 in
set_option maxHeartbeats 1600000 in
theorem wlayval_any (v : V) (cv : Cv) (base : Nat) (A : Option Addr) (c m : Nat) (xs : List UInt8) (w : World) (hcount : v.count ≤ 20000) (hgood : v.good = 0) (hT : Tabs w) (hv : In w v cv) (hown : Row w base (.slice A m c) m xs) (hbase : base ≤ w.heap.size) (hm : m + 4098 ≤ 140737488355328) :
    Calls Tryd.prog 50 #[.slice A m c, cv.agg] w (LayC w base (.slice A m c) (xs ++ valB v)) := by
  have hxl : xs.length = m := hown.reads.2
  have hl := (V.good_formed hgood).2
  have hG1 := (Grow.refl w).alloc (.cells cv.cells 47)
  have HB1 := hide (Blk.new w 47 cv.cells)
  have HC := hide (put_good v _ cv hcount (hT.grow hG1) (hv.grow hG1) hgood)
  have HR1 := hide (hown.grow hG1)
  have HG1 := hide hG1
  clear hT hv hG1
  go_enter Tryd.func50, Tryd.ntmps50
  go_wp2_with fail
  refine HC.out.mono ?_
  rintro e w2 ⟨b2, A2, c2, rfl, hb2, hr2, hg2⟩
  have HS2 := hide hr2.from
  have HR2 := hide (HR1.out.grow hg2)
  have HG2 := hide (HG1.out.trans hg2)
  have hA1 : (w.alloc (.cells cv.cells 47)).heap.size = w.heap.size + 1 := by simp
  have hl1 := hown.lt
  have HLT := hide hl1
  clear hr2 hg2 hown hl1
  obtain ⟨L, hL⟩ : ∃ L, v.bytes.length = L := ⟨_, rfl⟩
  have HL := hide hL
  rw [hL] at hl ⊢
  clear hL
  have hz2 := HG2.out.size
  go_wp2_with fail
  refine (lay_any L 2 base A c m xs w2 HR2.out (by omega) (by omega) (by omega) (by omega)).mono ?_
  rintro e w3 ⟨A3, c3, rfl, hr3, hg3⟩
  have HR3 := hide hr3
  have hz3 := hg3.size
  have HG3 := hide ((Grew.of_grow (.slice A m c) HG2.out).trans hg3)
  have HS3 := hide (show InB w3 A2 v.bytes from by
    have := HS2.out.mono (C' := AtW w3 0 w3.heap.size) (fun p u h => ⟨World.grownBy.cell hg3.grow h.1 (fun e => by have := HLT.out _ e.symm; have := h.2.1; omega), Nat.zero_le _, Nat.lt_of_lt_of_le h.2.2 hz3⟩)
    exact this)
  clear hr3 hg3
  go_wp2_with (at_builtin; refine app_src (ys := v.bytes) rfl (.tmp 16) (.tmp 17) _ rfl rfl HR3.out _ rfl (HL.out ▸ Src.ofReads under_u8s HS3.out (u8s_one v.bytes)) (by rw [HL.out]; omega) (by omega) ?_; rw [HL.out]; intro A4 c4 w4 hr4 hg4; have HR4 := hide hr4; have HG4 := hide (HG3.out.trans hg4); clear hr4 hg4)
  go_ret
  exact LayC.of (by rw [List.length_append, hxl]; simp only [valB, List.length_append, toLe_length]; rw [HL.out]; omega) (by rw [List.append_assoc]; simp only [valB]; rw [HL.out]) HR4.out HG4.out
end Go.Proofs.YtojpeiihkjpeoaaDoor
