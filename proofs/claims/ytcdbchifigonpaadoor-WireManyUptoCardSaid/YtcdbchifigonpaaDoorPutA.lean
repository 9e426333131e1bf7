/- Walks: the laying of frames, texts, values, by the program and by the document's answer. · Walks: PutReply. Written by wip/tools/gen_putp.py. -/
import Derived.Test.YtcdbchifigonpaaDoorFrames
import Derived.Test.YtcdbchifigonpaaDoorWirePl
import Derived.Test.YtcdbchifigonpaaDoorRefB
import Derived.Test.YtcdbchifigonpaaDoorCurA
import Derived.Deep.RegionHeld3
set_option linter.unusedVariables false
set_option linter.unusedSimpArgs false
namespace Go.Proofs.YtcdbchifigonpaaDoor
open Go.RowKit Go.Shelf

/-- Bytes in a row of the call's own, and an error. -/
def PutW (w : World) (p : List UInt8 × Int) (e : Ending) (w' : World) : Prop :=
  ∃ base A c, e = .returned (.tuple #[.slice A p.1.length c, .int .i64 p.2]) ∧ w.heap.size ≤ base ∧ base ≤ w'.heap.size ∧ Row w' base (.slice A p.1.length c) p.1.length p.1 ∧ Grow w w'
theorem Row.nil (w : World) (base : Nat) : Row w base (.slice none 0 0) 0 [] := World.ownsRow_nil _ _ _ _
theorem PutW.bad {w w' : World} {e : Int} (h : Grow w w') : PutW w ([], e) (.returned (.tuple #[.slice none 0 0, .int .i64 e])) w' :=
  ⟨w.heap.size, none, 0, rfl, Nat.le_refl _, h.size, Row.nil _ _, h⟩
theorem PutW.of {w w' : World} {base k c : Nat} {A : Option Addr} {zs bs : List UInt8} (hk : k = bs.length) (hz : zs = bs) (hb : w.heap.size ≤ base) (hb2 : base ≤ w'.heap.size) (h1 : Row w' base (.slice A k c) k zs) (h2 : Grow w w') : PutW w (bs, 0) (.returned (.tuple #[.slice A k c, .int .i64 0])) w' := by
  subst hk; subst hz; exact ⟨base, A, c, rfl, hb, hb2, h1, h2⟩
theorem src_blk {w : World} {g n : Nat} (xs : List UInt8) (hn : xs.length = n) (hb : Blk w g 5 (u8s xs).toArray) : Src Tryd.prog 1 23 (.slice (some ⟨g, 0, none⟩) n n) xs.length (u8s xs) w := by
  subst hn
  refine Src.ofSlice w under_u8s ⟨g, 0, none⟩ xs.length xs.length (u8s xs) (by simp [u8s]) (fun j u hu => ?_) (u8s_one _)
  rw [add_lit, Nat.zero_add, hb.cell]
  simpa using hu

set_option maxRecDepth 100000 in
set_option maxHeartbeats 1600000 in
theorem framed_any (body : List UInt8) (A : Option Addr) (cap : Nat) (w : World) (hb : InB w A body) (hl : body.length ≤ 140737488355328) :
    Calls Tryd.prog 32 #[.slice A body.length cap] w (PutW w (if 12000 < body.length then ([], 2) else (frameOf body, 0))) := by
  have HB := hide hb
  clear hb
  by_cases h12 : 12000 < body.length
  · rw [if_pos h12]
    go_enter Tryd.func32, Tryd.ntmps32
    go_wp2_with fail
    go_ret2
    exact PutW.bad (Grow.refl w)
  rw [if_neg h12]
  obtain ⟨S, hS⟩ : ∃ S, body.length + 8 = S := ⟨_, rfl⟩
  obtain ⟨cur, hcur, hmk⟩ := make_u8 S (by omega)
  have hS1 : (4 : Int) + (body.length : Int) + 4 = (S : Int) := by omega
  have hB2 := Blk.new (w.alloc (.cells cur 5)) 5 #[.int .u8 77, .int .u8 68]
  rw [show (w.alloc (.cells cur 5)).heap.size = w.heap.size + 1 by simp] at hB2
  have HB2 := hide hB2
  have HR1 := hide ((Row.made (w := w) cur S (by simp only [maxLen]; omega) hcur).alloc (.cells #[.int .u8 77, .int .u8 68] 5))
  have HG1 := hide (((Grow.refl w).alloc (.cells cur 5)).alloc (.cells #[.int .u8 77, .int .u8 68] 5))
  clear hB2 hcur
  go_enter Tryd.func32, Tryd.ntmps32
  go_wp2_with (at_builtin; refine app_src (ys := [77, 68]) rfl (.tmp 12) (.tmp 13) _ rfl rfl HR1.out _ rfl (src_blk [77, 68] rfl HB2.out) (by simp) (by simp; omega) ?_; intro A3 c3 w3 hr3 hg3; have HG3 := hide (Below.trans HG1.out (Grew.below hg3 HR1.out (by simp; omega))); have HR3 := hide hr3; clear hr3 hg3)
  refine (lay_any body.length 2 w.heap.size A3 c3 2 [77, 68] w3 HR3.out (Grow.size HG3.out) (by omega) (by omega) (by omega)).mono ?_
  rintro e w4 ⟨A4, c4, rfl, hr4, hg4⟩
  have HG4 := hide (Below.trans HG3.out (Grew.below hg4 HR3.out (Grow.size HG3.out)))
  have HR4 := hide hr4
  clear hr4 hg4
  go_wp2_with (at_builtin; refine app_src (ys := body) rfl (.tmp 19) (.tmp 20) _ rfl rfl HR4.out _ rfl (Src.ofReads under_u8s (HB.out.grow HG4.out) (u8s_one body)) (by omega) (Grow.size HG4.out) ?_; intro A5 c5 w5 hr5 hg5; have HG5 := hide (Below.trans HG4.out (Grew.below hg5 HR4.out (Grow.size HG4.out))); have HR5 := hide hr5; clear hr5 hg5)
  have hop : [77, 68] ++ toLe 2 body.length ++ body = opened body := by simp [opened]
  have hO := HR5.out
  rw [hop] at hO
  have HO := hide hO
  have hol : (opened body).length = 4 + body.length := by rw [opened_length]; omega
  have hk := sumOf_any (opened body) A5 c5 w5 (hO.reads.1) (by omega)
  rw [hol] at hk
  have hc2 := crc_lt (opened body)
  obtain ⟨C, hC⟩ : ∃ C, crc (opened body) = C := ⟨_, rfl⟩
  rw [hC] at hk hc2
  have HC := hide hC
  have HK := hide hk
  clear hop hO hk hC hol
  refine HK.out.mono ?_
  rintro e w6 ⟨rfl, rfl⟩
  go_wp2_with fail
  refine (lay_any C 4 w.heap.size A5 c5 (4 + body.length) (opened body) w5 HO.out (Grow.size HG5.out) (by omega) (by omega) (by omega)).mono ?_
  rintro e w7 ⟨A7, c7, rfl, hr7, hg7⟩
  have HG7 := hide (Below.trans HG5.out (Grew.below hg7 HO.out (Grow.size HG5.out)))
  have HR7 := hide hr7
  clear hr7 hg7
  go_wp2_with fail
  go_ret2
  have hfl : (frameOf body).length = 4 + body.length + 4 := by rw [frameOf_length]; omega
  have hfr : frameOf body = opened body ++ toLe 4 C := by rw [← HC.out]; rfl
  exact PutW.of hfl.symm hfr.symm (Nat.le_refl _) (Grow.size HG7.out) HR7.out HG7.out

theorem grew_grow {w w1 w2 : World} {v v1 : Value} (h : Grew w v w1 v1) (g : Grow w1 w2) : Grew w v w2 v1 := h.trans (Grew.of_grow v1 g)
theorem Row.lt {w : World} {base m : Nat} {v : Value} {xs : List UInt8} (h : Row w base v m xs) : ∀ k, v.ownBlock = some k → base ≤ k ∧ k < w.heap.size := fun k hk => World.ownsRow.lt h k hk
/-- What is laid behind bytes: more bytes, in the same row or a new one. -/
def LayC (w : World) (base : Nat) (v : Value) (xs : List UInt8) (e : Ending) (w' : World) : Prop :=
  ∃ A c, e = .returned (.slice A xs.length c) ∧ Row w' base (.slice A xs.length c) xs.length xs ∧ Grew w v w' (.slice A xs.length c)
theorem LayC.of {w w' : World} {base k c : Nat} {v : Value} {A : Option Addr} {zs xs : List UInt8} (hk : k = xs.length) (hz : zs = xs) (h1 : Row w' base (.slice A k c) k zs) (h2 : Grew w v w' (.slice A k c)) : LayC w base v xs (.returned (.slice A k c)) w' := by
  subst hk; subst hz; exact ⟨A, c, rfl, h1, h2⟩

set_option maxRecDepth 100000 in
set_option maxHeartbeats 1600000 in
theorem wlayval_any (v : V) (cv : Cv) (base : Nat) (A : Option Addr) (c m : Nat) (xs : List UInt8) (w : World) (hcount : v.count ≤ 20000) (hgood : v.good = 0) (hT : Tabs w) (hv : In w v cv) (hown : Row w base (.slice A m c) m xs) (hbase : base ≤ w.heap.size) (hm : m + 4098 ≤ 140737488355328) :
    Calls Tryd.prog 31 #[.slice A m c, cv.agg] w (LayC w base (.slice A m c) (xs ++ valB v)) := by
  have hxl : xs.length = m := hown.reads.2
  have hl := (V.good_formed hgood).2
  have hG1 := (Grow.refl w).alloc (.cells cv.cells 37)
  have HB1 := hide (Blk.new w 37 cv.cells)
  have HC := hide (put_good v _ cv hcount (hT.grow hG1) (hv.grow hG1) hgood)
  have HR1 := hide (hown.grow hG1)
  have HG1 := hide hG1
  clear hT hv hG1
  go_enter Tryd.func31, Tryd.ntmps31
  go_wp2_with fail
  refine HC.out.mono ?_
  rintro e w2 ⟨b2, A2, c2, rfl, hb2, hr2, hg2⟩
  have HS2 := hide hr2.from
  have HR2 := hide (HR1.out.grow hg2)
  have HG2 := hide (HG1.out.trans hg2)
  have hA1 : (w.alloc (.cells cv.cells 37)).heap.size = w.heap.size + 1 := by simp
  have hl1 := hown.lt
  have HLT := hide hl1
  clear hr2 hg2 hown hl1
  obtain ⟨L, hL⟩ : ∃ L, v.bytes.length = L := ⟨_, rfl⟩
  have HL := hide hL
  rw [hL] at hl ⊢
  clear hL
  have hz2 := HG2.out.size
  go_wp2_with fail
  refine (lay_any L 2 base A c m xs w2 HR2.out (by omega) (by omega) (by omega) (by omega)).mono ?_
  rintro e w3 ⟨A3, c3, rfl, hr3, hg3⟩
  have HR3 := hide hr3
  have hz3 := hg3.size
  have HG3 := hide ((Grew.of_grow (.slice A m c) HG2.out).trans hg3)
  have HS3 := hide (show InB w3 A2 v.bytes from by
    have := HS2.out.mono (C' := AtW w3 0 w3.heap.size) (fun p u h => ⟨World.grownBy.cell hg3.grow h.1 (fun e => by have := HLT.out _ e.symm; have := h.2.1; omega), Nat.zero_le _, Nat.lt_of_lt_of_le h.2.2 hz3⟩)
    exact this)
  clear hr3 hg3
  go_wp2_with (at_builtin; refine app_src (ys := v.bytes) rfl (.tmp 16) (.tmp 17) _ rfl rfl HR3.out _ rfl (HL.out ▸ Src.ofReads under_u8s HS3.out (u8s_one v.bytes)) (by rw [HL.out]; omega) (by omega) ?_; rw [HL.out]; intro A4 c4 w4 hr4 hg4; have HR4 := hide hr4; have HG4 := hide (HG3.out.trans hg4); clear hr4 hg4)
  go_ret
  exact LayC.of (by rw [List.length_append, hxl]; simp only [valB, List.length_append, toLe_length]; rw [HL.out]; omega) (by rw [List.append_assoc]; simp only [valB]; rw [HL.out]) HR4.out HG4.out
end Go.Proofs.YtcdbchifigonpaaDoor

set_option linter.unusedVariables false
set_option linter.unusedSimpArgs false
namespace Go.Proofs.YtcdbchifigonpaaDoor
open Go.RowKit Go.Shelf

theorem putRp_args {q : Rp} (h : q.args) : q.put = ([], 1) := by
  unfold Rp.put putOf Rp.err
  rw [if_pos h, if_pos (by decide)]
theorem putRp_bad {q : Rp} (h : ¬ q.args) {e : Int} (hb : firstBad q.docs = e) (he : e ≠ 0) : q.put = ([], e) := by
  unfold Rp.put putOf Rp.err
  rw [if_neg h, hb, if_pos he]
theorem putRp_good {q : Rp} (h : ¬ q.args) (hb : firstBad q.docs = 0) : q.put = if 12000 < q.body.length then ([], 2) else (frameOf q.body, 0) := by
  unfold Rp.put putOf Rp.err
  rw [if_neg h, hb, if_neg (by simp)]
theorem firstBad_to : ∀ (l : List V) (j : Nat) (h : j < l.length), (∀ i (hi : i < l.length), i < j → l[i].good = 0) → l[j].good ≠ 0 → firstBad l = l[j].good
  | x :: l, 0, h, _, hb => by exact if_neg hb
  | x :: l, j + 1, h, hg, hb => by
    have h0 : x.good = 0 := hg 0 (by simp) (by omega)
    rw [firstBad, if_pos h0]
    exact firstBad_to l j (by simpa using h) (fun i hi hij => hg (i + 1) (by simpa using hi) (by omega)) hb
theorem firstBad_none : ∀ (l : List V), (∀ i (hi : i < l.length), l[i].good = 0) → firstBad l = 0
  | [], _ => rfl
  | x :: l, h => by
    have h0 : x.good = 0 := h 0 (by simp)
    rw [firstBad, if_pos h0]
    exact firstBad_none l (fun i hi => h (i + 1) (by simpa using hi))
theorem PutW.from {w w1 w2 : World} {p : List UInt8 × Int} {e : Ending} (h : PutW w1 p e w2) (hg : Grow w w1) : PutW w p e w2 := by
  obtain ⟨base, A, c, he, hb, hb2, hr, hg2⟩ := h
  exact ⟨base, A, c, he, Nat.le_trans hg.size hb, hb2, hr, hg.trans hg2⟩
theorem flat_prefix {α : Type} (g : α → List UInt8) (l : List α) (i : Nat) : ((l.take i).map g).flatten.length ≤ (l.map g).flatten.length := by
  conv => rhs; rw [← List.take_append_drop i l]
  rw [List.map_append, List.flatten_append, List.length_append]
  omega

set_option maxRecDepth 100000 in
set_option maxHeartbeats 3200000 in
theorem putRp_bad_any (q : Rp) (A : Option Addr) (cap : Nat) (w : World) (hT : Tabs w) (hin : InL w A cap q.docs) (hcount : ∀ v ∈ q.docs, v.count ≤ 20000)
    (hargs : q.args) (he : -9223372036854775808 ≤ q.e ∧ q.e ≤ 9223372036854775807) (hn : -9223372036854775808 ≤ q.n ∧ q.n ≤ 9223372036854775807) (hk : -9223372036854775808 ≤ q.cursor ∧ q.cursor ≤ 9223372036854775807) :
    Calls Tryd.prog 9 #[.agg #[.int .i64 q.e, .int .i64 q.n, .slice A q.docs.length cap, .int .i64 q.cursor]] w (PutW w q.put) := by
  obtain ⟨E, hE⟩ : ∃ E, q.e = E := ⟨_, rfl⟩
  obtain ⟨N, hN⟩ : ∃ N, q.n = N := ⟨_, rfl⟩
  obtain ⟨K, hK⟩ : ∃ K, q.cursor = K := ⟨_, rfl⟩
  obtain ⟨D, hD⟩ : ∃ D, q.docs.length = D := ⟨_, rfl⟩
  rw [hE, hN, hK, hD]
  rw [hE] at he
  rw [hN] at hn
  rw [hK] at hk
  have hDl : D ≤ 140737488355328 := by
    obtain ⟨_, _, _, _, _, _, _, _, _, _, _, _, _, hlen, _, _, _⟩ := InU.open hin
    omega
  have HB1 := hide (Blk.new w 29 #[.int .i64 E, .int .i64 N, .slice A D cap, .int .i64 K])
  have hc := HB1.out.cell
  have HG1 := hide ((Grow.refl w).alloc (.cells #[.int .i64 E, .int .i64 N, .slice A D cap, .int .i64 K] 29))
  have HT := hide hT
  have HIN := hide hin
  have HCO := hide hcount
  clear hT hin hcount
  by_cases a0 : E < 0
  · have HQ := hide (show q.put = ([], 1) from putRp_args (by unfold Rp.args; omega))
    as_aux_lemma =>
      go_enter Tryd.func9, Tryd.ntmps9
      go_wp2_with fail
      go_ret2
      rw [HQ.out]
      exact PutW.bad HG1.out
  by_cases a1 : 255 < E
  · have HQ := hide (show q.put = ([], 1) from putRp_args (by unfold Rp.args; omega))
    as_aux_lemma =>
      go_enter Tryd.func9, Tryd.ntmps9
      go_wp2_with fail
      go_ret2
      rw [HQ.out]
      exact PutW.bad HG1.out
  by_cases a2 : N < 0
  · have HQ := hide (show q.put = ([], 1) from putRp_args (by unfold Rp.args; omega))
    as_aux_lemma =>
      go_enter Tryd.func9, Tryd.ntmps9
      go_wp2_with fail
      go_ret2
      rw [HQ.out]
      exact PutW.bad HG1.out
  by_cases a3 : 2147483647 < N
  · have HQ := hide (show q.put = ([], 1) from putRp_args (by unfold Rp.args; omega))
    as_aux_lemma =>
      go_enter Tryd.func9, Tryd.ntmps9
      go_wp2_with fail
      go_ret2
      rw [HQ.out]
      exact PutW.bad HG1.out
  by_cases a4 : K < 0
  · have HQ := hide (show q.put = ([], 1) from putRp_args (by unfold Rp.args; omega))
    as_aux_lemma =>
      go_enter Tryd.func9, Tryd.ntmps9
      go_wp2_with fail
      go_ret2
      rw [HQ.out]
      exact PutW.bad HG1.out
  by_cases a5 : 2147483647 < K
  · have HQ := hide (show q.put = ([], 1) from putRp_args (by unfold Rp.args; omega))
    as_aux_lemma =>
      go_enter Tryd.func9, Tryd.ntmps9
      go_wp2_with fail
      go_ret2
      rw [HQ.out]
      exact PutW.bad HG1.out
  by_cases a6 : 64 < D
  · have HQ := hide (show q.put = ([], 1) from putRp_args (by unfold Rp.args; omega))
    as_aux_lemma =>
      go_enter Tryd.func9, Tryd.ntmps9
      go_wp2_with fail
      go_ret2
      rw [HQ.out]
      exact PutW.bad HG1.out
  exact absurd hargs (by unfold Rp.args; omega)

set_option maxRecDepth 100000 in
set_option maxHeartbeats 3200000 in
theorem putRp_ok_any (q : Rp) (A : Option Addr) (cap : Nat) (w : World) (hT : Tabs w) (hin : InL w A cap q.docs) (hcount : ∀ v ∈ q.docs, v.count ≤ 20000)
    (hargs : ¬ q.args) (he : -9223372036854775808 ≤ q.e ∧ q.e ≤ 9223372036854775807) (hn : -9223372036854775808 ≤ q.n ∧ q.n ≤ 9223372036854775807) (hk : -9223372036854775808 ≤ q.cursor ∧ q.cursor ≤ 9223372036854775807) :
    Calls Tryd.prog 9 #[.agg #[.int .i64 q.e, .int .i64 q.n, .slice A q.docs.length cap, .int .i64 q.cursor]] w (PutW w q.put) := by
  obtain ⟨E, hE⟩ : ∃ E, q.e = E := ⟨_, rfl⟩
  obtain ⟨N, hN⟩ : ∃ N, q.n = N := ⟨_, rfl⟩
  obtain ⟨K, hK⟩ : ∃ K, q.cursor = K := ⟨_, rfl⟩
  obtain ⟨D, hD⟩ : ∃ D, q.docs.length = D := ⟨_, rfl⟩
  rw [hE, hN, hK, hD]
  rw [hE] at he
  rw [hN] at hn
  rw [hK] at hk
  have hDl : D ≤ 140737488355328 := by
    obtain ⟨_, _, _, _, _, _, _, _, _, _, _, _, _, hlen, _, _, _⟩ := InU.open hin
    omega
  have HB1 := hide (Blk.new w 29 #[.int .i64 E, .int .i64 N, .slice A D cap, .int .i64 K])
  have hc := HB1.out.cell
  have HG1 := hide ((Grow.refl w).alloc (.cells #[.int .i64 E, .int .i64 N, .slice A D cap, .int .i64 K] 29))
  have HT := hide hT
  have HIN := hide hin
  have HCO := hide hcount
  clear hT hin hcount
  have HA := hide hargs
  unfold Rp.args at hargs
  rw [hE, hN, hK, hD] at hargs
  obtain ⟨e, rfl⟩ : ∃ e : Nat, E = (e : Int) := ⟨E.toNat, by omega⟩
  obtain ⟨n, rfl⟩ : ∃ n : Nat, N = (n : Int) := ⟨N.toNat, by omega⟩
  obtain ⟨k, rfl⟩ : ∃ k : Nat, K = (k : Int) := ⟨K.toNat, by omega⟩
  have he8 : ((UInt8.ofNat e).toNat : Int) = IntKind.u8.wrap (e : Int) := by rw [UInt8.toNat_ofNat', IntKind.wrap_u8]; omega
  have hwn : IntKind.u64.wrap (n : Int) = (n : Int) := by rw [IntKind.wrap_u64]; omega
  have hwk : IntKind.u64.wrap (k : Int) = (k : Int) := by rw [IntKind.wrap_u64]; omega
  have hd8 : ((UInt8.ofNat D).toNat : Int) = (D : Int) := by rw [UInt8.toNat_ofNat']; omega
  have HHEAD := hide (show q.headB = [UInt8.ofNat e] ++ toLe 4 n ++ toLe 4 k ++ [UInt8.ofNat D] by unfold Rp.headB; rw [hE, hN, hK, hD]; rfl)
  have hz0 : (w.alloc (.cells #[.int .i64 (e : Int), .int .i64 (n : Int), .slice A D cap, .int .i64 (k : Int)] 29)).heap.size = w.heap.size + 1 := by simp
  have HD := hide hD
  have hd1 : decide ((e : Int) < 0) = false := by simp
  have hd2 : decide (255 < (e : Int)) = false := by simp; omega
  have hd3 : decide ((n : Int) < 0) = false := by simp
  have hd4 : decide (2147483647 < (n : Int)) = false := by simp; omega
  have hd5 : decide ((k : Int) < 0) = false := by simp
  have hd6 : decide (2147483647 < (k : Int)) = false := by simp; omega
  have hd7 : decide (64 < (D : Int)) = false := by simp; omega
  clear hE hN hK hD hargs
  go_enter Tryd.func9, Tryd.ntmps9
  go_wp2_with fail
  generalize hW1 : w.alloc (.cells #[.int .i64 (e : Int), .int .i64 (n : Int), .slice A D cap, .int .i64 (k : Int)] 29) = w1 at HB1 HG1 hc hz0 ⊢
  clear hW1
  refine wp_region_noPanic ?_
  refine wp_region_held_drew (S := fun W => Blk W w.heap.size 29 #[.int .i64 (e : Int), .int .i64 (n : Int), .slice A D cap, .int .i64 (k : Int)]) (by kernel_rfl) (HB1.out.drew) (fun hHeld => ?_)
  refine wpAnyH_take (i := 0) (v := ?_) (by simp only [List.getElem?_toArray, List.getElem?_cons_succ, List.getElem?_cons_zero]; rfl) (by kernel_rfl) (by kernel_rfl) (by kernel_rfl) (fun _ _ _ h => h) (Or.inl ⟨by rfl, ?_⟩) (by assumption) ?_
  rotate_left 1
  · (intro w hSw; (try dsimp only at hSw); go_simp; try with_reducible rfl)
  try simp only [Act.put, List.setIfInBounds_toArray, List.set_cons_zero, List.set_cons_succ]
  refine wpAnyH_take (i := 1) (v := ?_) (by simp only [List.getElem?_toArray, List.getElem?_cons_succ, List.getElem?_cons_zero]; rfl) (by kernel_rfl) (by kernel_rfl) (by kernel_rfl) (fun _ _ _ h => h) (Or.inl ⟨by rfl, ?_⟩) (by assumption) ?_
  rotate_left 1
  · (intro w hSw; (try dsimp only at hSw); have hc0 := hSw.cell; go_simp; try with_reducible rfl)
  try simp only [Act.put, List.setIfInBounds_toArray, List.set_cons_zero, List.set_cons_succ]
  refine wpAnyH_take (i := 2) (v := ?_) (by simp only [List.getElem?_toArray, List.getElem?_cons_succ, List.getElem?_cons_zero]; rfl) (by kernel_rfl) (by kernel_rfl) (by kernel_rfl) (fun _ _ _ h => h) (Or.inl ⟨by rfl, ?_⟩) (by assumption) ?_
  rotate_left 1
  · (intro w hSw; (try dsimp only at hSw); go_simp; try with_reducible rfl)
  try simp only [Act.put, List.setIfInBounds_toArray, List.set_cons_zero, List.set_cons_succ]
  refine wpAnyH_take (i := 4) (v := ?_) (by simp only [List.getElem?_toArray, List.getElem?_cons_succ, List.getElem?_cons_zero]; rfl) (by kernel_rfl) (by kernel_rfl) (by kernel_rfl) (fun _ _ _ h => h) (Or.inl ⟨by rfl, ?_⟩) (by assumption) ?_
  rotate_left 1
  · (intro w hSw; (try dsimp only at hSw); go_simp; try with_reducible rfl)
  try simp only [Act.put, List.setIfInBounds_toArray, List.set_cons_zero, List.set_cons_succ]
  refine wpAnyH_take (i := 5) (v := ?_) (by simp only [List.getElem?_toArray, List.getElem?_cons_succ, List.getElem?_cons_zero]; rfl) (by kernel_rfl) (by kernel_rfl) (by kernel_rfl) (fun _ _ _ h => h) (Or.inl ⟨by rfl, ?_⟩) (by assumption) ?_
  rotate_left 1
  · (intro w hSw; (try dsimp only at hSw); have hc0 := hSw.cell; go_simp; try with_reducible rfl)
  try simp only [Act.put, List.setIfInBounds_toArray, List.set_cons_zero, List.set_cons_succ]
  refine wpAnyH_take (i := 6) (v := ?_) (by simp only [List.getElem?_toArray, List.getElem?_cons_succ, List.getElem?_cons_zero]; rfl) (by kernel_rfl) (by kernel_rfl) (by kernel_rfl) (fun _ _ _ h => h) (Or.inl ⟨by rfl, ?_⟩) (by assumption) ?_
  rotate_left 1
  · (intro w hSw; (try dsimp only at hSw); go_simp; try with_reducible rfl)
  try simp only [Act.put, List.setIfInBounds_toArray, List.set_cons_zero, List.set_cons_succ]
  refine wpAnyH_take (i := 8) (v := ?_) (by simp only [List.getElem?_toArray, List.getElem?_cons_succ, List.getElem?_cons_zero]; rfl) (by kernel_rfl) (by kernel_rfl) (by kernel_rfl) (fun _ _ _ h => h) (Or.inl ⟨by rfl, ?_⟩) (by assumption) ?_
  rotate_left 1
  · (intro w hSw; (try dsimp only at hSw); go_simp; try with_reducible rfl)
  try simp only [Act.put, List.setIfInBounds_toArray, List.set_cons_zero, List.set_cons_succ]
  refine wpAnyH_take (i := 9) (v := ?_) (by simp only [List.getElem?_toArray, List.getElem?_cons_succ, List.getElem?_cons_zero]; rfl) (by kernel_rfl) (by kernel_rfl) (by kernel_rfl) (fun _ _ _ h => h) (Or.inl ⟨by rfl, ?_⟩) (by assumption) ?_
  rotate_left 1
  · (intro w hSw; (try dsimp only at hSw); have hc0 := hSw.cell; go_simp; try with_reducible rfl)
  try simp only [Act.put, List.setIfInBounds_toArray, List.set_cons_zero, List.set_cons_succ]
  refine wpAnyH_take (i := 10) (v := ?_) (by simp only [List.getElem?_toArray, List.getElem?_cons_succ, List.getElem?_cons_zero]; rfl) (by kernel_rfl) (by kernel_rfl) (by kernel_rfl) (fun _ _ _ h => h) (Or.inl ⟨by rfl, ?_⟩) (by assumption) ?_
  rotate_left 1
  · (intro w hSw; (try dsimp only at hSw); go_simp; try with_reducible rfl)
  try simp only [Act.put, List.setIfInBounds_toArray, List.set_cons_zero, List.set_cons_succ]
  refine wpAnyH_ready (rs := [3]) (by kernel_rfl) (by simp) ?_
  refine AllReadyH.cons (by simp only [List.getElem?_toArray, List.getElem?_cons_succ, List.getElem?_cons_zero]; rfl) (fun K' hK' => ?_) AllReadyH.nil
  replace hK' := hide hK'
  go_simp
  have HB2 := hide ((HB1.out.alloc (.cells #[.int .u8 (IntKind.u8.wrap (e : Int))] 5)).drew)
  have hR2 := (Row.lit (w := w1) (UInt8.ofNat e) he8).drew
  rw [hz0] at hR2
  have HR2 := hide hR2
  clear hR2
  have HG2 := hide ((HG1.out.alloc (.cells #[.int .u8 (IntKind.u8.wrap (e : Int))] 5)).drew)
  generalize (w1.alloc (.cells #[.int .u8 (IntKind.u8.wrap (e : Int))] 5)).drew = w2 at HB2 HR2 HG2 ⊢
  refine hK'.out _ _ (HB2.out) (fun hHeld => ?_)
  clear hK' K'
  try simp only [Act.put, List.setIfInBounds_toArray, List.set_cons_zero, List.set_cons_succ]
  refine wpAnyH_ready (rs := [7]) (by kernel_rfl) (by simp) ?_
  refine AllReadyH.cons (by simp only [List.getElem?_toArray, List.getElem?_cons_succ, List.getElem?_cons_zero]; rfl) (fun K' hK' => ?_) AllReadyH.nil
  replace hK' := hide hK'
  go_simp
  have hz2 := HG2.out.size
  have hb2 := HR2.out.lt (w.heap.size + 1) rfl
  refine (lay_any n 4 (w.heap.size + 1) (some ⟨w.heap.size + 1, 0, none⟩) 1 1 [UInt8.ofNat e] w2 HR2.out (by omega) (by omega) (by omega) (by omega)).mono ?_
  rintro ee w3 ⟨A3, c3, rfl, hr3, hg3⟩
  have HB3 := hide (hg3.blk HB2.out (Row.ne HR2.out HB2.out (by decide)))
  have HG3 := hide (Below.trans HG2.out (Below.mono (Grew.below hg3 HR2.out (by omega)) (by omega)))
  have HR3 := hide hr3
  have hz3 := hg3.size
  clear hr3 hg3
  refine hK'.out _ _ (HB3.out) (fun hHeld => ?_)
  clear hK' K'
  try simp only [Act.put, List.setIfInBounds_toArray, List.set_cons_zero, List.set_cons_succ]
  refine wpAnyH_ready (rs := [11]) (by kernel_rfl) (by simp) ?_
  refine AllReadyH.cons (by simp only [List.getElem?_toArray, List.getElem?_cons_succ, List.getElem?_cons_zero]; rfl) (fun K' hK' => ?_) AllReadyH.nil
  replace hK' := hide hK'
  go_simp
  refine (lay_any k 4 (w.heap.size + 1) A3 c3 (1 + 4) ([UInt8.ofNat e] ++ toLe 4 n) w3 HR3.out (by omega) (by omega) (by omega) (by omega)).mono ?_
  rintro ee w4 ⟨A4, c4, rfl, hr4, hg4⟩
  have HB4 := hide (hg4.blk HB3.out (Row.ne HR3.out HB3.out (by decide)))
  have HG4 := hide (Below.trans HG3.out (Below.mono (Grew.below hg4 HR3.out (by omega)) (by omega)))
  have HR4 := hide hr4
  have hz4 := hg4.size
  clear hr4 hg4
  refine hK'.out _ _ (HB4.out) (fun hHeld => ?_)
  clear hK' K'
  try simp only [Act.put, List.setIfInBounds_toArray, List.set_cons_zero, List.set_cons_succ]
  refine wpAnyH_take (i := 12) (v := ?_) (by simp only [List.getElem?_toArray, List.getElem?_cons_succ, List.getElem?_cons_zero]; rfl) (by kernel_rfl) (by kernel_rfl) (by kernel_rfl) (fun _ _ _ h => h) (Or.inl ⟨by rfl, ?_⟩) (by assumption) ?_
  rotate_left 1
  · (intro w hSw; (try dsimp only at hSw); go_simp; try with_reducible rfl)
  try simp only [Act.put, List.setIfInBounds_toArray, List.set_cons_zero, List.set_cons_succ]
  refine wpAnyH_done (by kernel_rfl) ?_ _
  refine NoPanic.normal ?_
  have hc4 := HB4.out.cell
  have hz40 : w.heap.size + 1 ≤ w4.heap.size := by have := HB4.out.lt; omega
  clear hc hHeld HB1 HB2 HB3 HR2 HR3 HG2 HG3 hz2 hz3 hz4 hb2 HG1 he8 hwn hwk hz0 hd1 hd2 hd3 hd4 hd5 hd6
  go_wp2_with (at_builtin; refine app_src (ys := [UInt8.ofNat D]) rfl (.tmp 56) (.tmp 61) _ rfl rfl (HR4.out.alloc _) _ rfl (src_one _ (byte_int D) (Blk.new w4 _ _)) (by simp only [List.length_cons, List.length_nil]; omega) (by simp; omega) ?_; intro A5 c5 w5 hr5 hg5; have HG5 := hide (Below.trans (Below.alloc HG4.out (Grow.size HG4.out) (.cells #[.int .u8 ((D : Int) % 256)] 5)) (Below.mono (Grew.below hg5 (HR4.out.alloc _) (by simp; omega)) (by omega))); have HB5 := hide (hg5.blk (HB4.out.alloc (.cells #[.int .u8 ((D : Int) % 256)] 5)) (Row.ne HR4.out HB4.out (by decide))); have hc5 := HB5.out.cell; have HR5 := hide hr5; have hz5 := hg5.size; clear hr5 hg5)
  have hlen10 : ([UInt8.ofNat e] ++ toLe 4 n ++ toLe 4 k ++ [UInt8.ofNat D]).length = 1 + 4 + 4 + 1 := by simp [toLe_length]
  have hr5 := HR5.out
  rw [← HHEAD.out] at hr5 hlen10
  have HR5 := hide hr5
  have HL10 := hide hlen10
  have hz50 : w.heap.size + 1 ≤ w5.heap.size := by simp at hz5; omega
  clear hr5 hlen10 hz5 hc4
  go_loopg [66] (D + 1) (fun gk i wr => ∃ j : Nat, j ≤ D ∧ gk + j = D + 1 ∧ i = .int .i64 j ∧ Grow w5 wr ∧ ∀ i (hi : i < q.docs.length), i < j → q.docs[i].good = 0)
  case atStart => exact ⟨0, by omega, by omega, rfl, Grow.refl _, fun i hi h => by omega⟩
  case round =>
    obtain ⟨j, hj, hg, rfl, hgr, hgd⟩ := hrel
    have HGD := hide hgd
    have HGR := hide (Grow.trans HG5.out hgr)
    have HG5r := hide hgr
    clear hgd hgr
    have hcr := (HB5.out.grow HG5r.out).cell
    by_cases hlt : j < D
    · obtain ⟨gk', rfl⟩ : ∃ g, gk = g + 1 := ⟨gk - 1, by omega⟩
      have hlt' : j < q.docs.length := by rw [HD.out]; exact hlt
      obtain ⟨bk, o, x, ha, hbk, e0, e1, e2, e3, e4, hx⟩ := In.elemL (HIN.out.grow HGR.out) j hlt'
      dsimp only at ha
      subst ha
      have hal := (Grow.refl wr).alloc (.cells x.cells 37)
      have HC := hide (good_any q.docs[j] (wr.alloc (.cells x.cells 37)) x (HCO.out _ (List.getElem_mem hlt')) (HT.out.grow (HGR.out.trans hal)) (hx.grow hal))
      have HAL := hide hal
      obtain ⟨G, hG⟩ : ∃ G, q.docs[j].good = G := ⟨_, rfl⟩
      rw [hG] at HC
      have HGG := hide hG
      clear hG hx hal
      go_wp2_with fail
      refine HC.out.mono ?_
      rintro ee w6 ⟨rfl, hg6⟩
      have HG6 := hide (HAL.out.trans hg6)
      clear hg6
      by_cases g0 : G = 0
      · subst g0
        go_wp2_with fail
        go_roundg gk'
        case measure => omega
        case rel => exact ⟨j + 1, by omega, by omega, by go_num, HG5r.out.trans HG6.out, fun i hi hij => by
          by_cases h : i = j
          · subst h; exact HGG.out
          · exact HGD.out i hi (by omega)⟩
      · have hne : (G == 0) = false := by simpa using g0
        have HQ := hide (putRp_bad HA.out ((firstBad_to q.docs j hlt' HGD.out (by rw [HGG.out]; exact g0)).trans HGG.out) g0)
        go_wp2_with fail
        go_ret2
        rw [HQ.out]
        exact PutW.bad (HGR.out.trans HG6.out)
    · obtain rfl : j = D := by omega
      have HALL := hide (fun i (hi : i < q.docs.length) => HGD.out i hi (by rw [← HD.out]; exact hi))
      have HQ := hide (putRp_good HA.out (firstBad_none q.docs HALL.out))
      have HR6 := hide (HR5.out.grow HG5r.out)
      have HB6 := hide (HB5.out.grow HG5r.out)
      have hz60 : w.heap.size + 1 ≤ wr.heap.size := by have := HG5r.out.size; omega
      clear hg hlt HGD HG5r HR5 HG5 hc5
      go_wp2_with fail
      go_loopg [4, 79] (j + 1) (fun gk s i wx => ∃ (a m : Nat) (xs : List UInt8) (A' : Option Addr) (c' : Nat), a ≤ j ∧ gk + a = j + 1 ∧ m ≤ a ∧ s = .slice A' xs.length c' ∧ i = .int .i64 a ∧ xs = q.headB ++ ((q.docs.take m).map valB).flatten ∧ (m = a ∨ 12000 < xs.length) ∧ xs.length ≤ 20000 ∧ Row wx (w.heap.size + 1) (.slice A' xs.length c') xs.length xs ∧ Grow w wx ∧ w.heap.size + 1 ≤ wx.heap.size)
      case atStart =>
        have hl := HL10.out
        have hrow := HR6.out
        refine ⟨0, 0, q.headB, A5, c5, by omega, by omega, by omega, ?_, rfl, by simp, .inl rfl, by omega, ?_, HGR.out, hz60⟩
        · rw [hl]
        · rw [hl]; exact hrow
      case round =>
        obtain ⟨a, m, xs, A', c', ha, hg, hma, rfl, rfl, hxs, hor, hxl, hrow, hgx, hzx⟩ := hrel
        have HROW := hide hrow
        have HGX := hide hgx
        have HXS := hide hxs
        clear hrow hgx hxs
        by_cases hlt : a < j
        · obtain ⟨gk', rfl⟩ : ∃ g, gk = g + 1 := ⟨gk - 1, by omega⟩
          have hlt' : a < q.docs.length := by rw [HD.out]; exact hlt
          obtain ⟨bk, o, x, hA, hbk, e0, e1, e2, e3, e4, hx⟩ := In.elemL (HIN.out.grow HGX.out) a hlt'
          dsimp only at hA
          subst hA
          have hal := (Grow.refl wr).alloc (.cells x.cells 37)
          by_cases h12 : xs.length ≤ 12000
          · obtain rfl : m = a := by omega
            have hgood := (HALL.out m hlt')
            have HC := hide (wlayval_any q.docs[m] x (w.heap.size + 1) A' c' xs.length xs (wr.alloc (.cells x.cells 37)) (HCO.out _ (List.getElem_mem hlt')) hgood (HT.out.grow (HGX.out.trans hal)) (hx.grow hal) (HROW.out.grow hal) (by simp; omega) (by omega))
            have hvl : (valB q.docs[m]).length ≤ 4098 := by
              have := (V.good_formed hgood).2
              simp only [valB, List.length_append, toLe_length]; omega
            have HVL := hide hvl
            have HAL := hide hal
            have HROWA := hide (HROW.out.grow hal)
            have hd : decide ((xs.length : Int) ≤ 12000) = true := by simp; omega
            clear hx hal hgood hvl
            go_wp2_with fail
            refine HC.out.mono ?_
            rintro ee w7 ⟨A7, c7, rfl, hr7, hg7⟩
            have HR7 := hide hr7
            have HG7 := hide (Below.trans (HGX.out.trans HAL.out) (Below.mono (Grew.below hg7 HROWA.out (by simp; omega)) (by omega)))
            have hz7 := hg7.size
            clear hr7 hg7
            go_wp2_with fail
            go_roundg gk'
            case measure => omega
            case rel =>
              have hzs : (wr.alloc (.cells x.cells 37)).heap.size = wr.heap.size + 1 := by simp
              exact ⟨m + 1, m + 1, xs ++ valB q.docs[m], A7, c7, by omega, by omega, by omega, by rw [List.length_append], by go_num, by rw [HXS.out, flat_take valB q.docs m hlt', List.append_assoc], .inl rfl, by have := HVL.out; rw [List.length_append]; omega, HR7.out, HG7.out, by omega⟩
          · have hd : decide ((xs.length : Int) ≤ 12000) = false := by simp; omega
            have HAL := hide hal
            clear hx hal
            go_wp2_with fail
            go_roundg gk'
            case measure => omega
            case rel => exact ⟨a + 1, m, xs, A', c', by omega, by omega, by omega, rfl, by go_num, HXS.out, .inr (by omega), hxl, HROW.out.grow HAL.out, HGX.out.trans HAL.out, Nat.le_trans hzx HAL.out.size⟩
        · obtain rfl : a = j := by omega
          have hdl := HD.out
          have hput : q.put = (if 12000 < xs.length then ([], 2) else (frameOf xs, 0)) := by
            have htk : q.docs.take q.docs.length = q.docs := List.take_length
            have hbody : q.body = q.headB ++ (q.docs.map valB).flatten := rfl
            rcases hor with rfl | h
            · rw [HQ.out, hbody, HXS.out, ← hdl, htk]
            · have hpre := flat_prefix valB q.docs m
              have hbl : xs.length ≤ q.body.length := by rw [hbody, HXS.out, List.length_append, List.length_append]; omega
              rw [HQ.out, if_pos (by omega), if_pos h]
          have hF := framed_any xs A' c' wr (HROW.out.reads.1) (by omega)
          rw [← hput] at hF
          have HF := hide hF
          clear hput hor hg hlt hF
          go_wp2_with fail
          refine HF.out.mono ?_
          intro ee w8 h8
          obtain ⟨base, A8, c8, rfl, hb8, hb8', hr8, hg8⟩ := h8.from HGX.out
          have HFIN := hide (show PutW w q.put (.returned (.tuple #[.slice A8 q.put.1.length c8, .int .i64 q.put.2])) w8 from ⟨base, A8, c8, rfl, hb8, hb8', hr8, hg8⟩)
          clear h8 hb8 hb8' hr8 hg8
          go_wp2_with fail
          go_ret2
          exact HFIN.out
end Go.Proofs.YtcdbchifigonpaaDoor
