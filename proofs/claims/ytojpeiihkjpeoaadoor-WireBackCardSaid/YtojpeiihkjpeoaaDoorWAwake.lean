/- Walks: two replies held against one another; the frames' awake: an empty reply there and back. -/
import Derived.Test.YtojpeiihkjpeoaaDoorGetP
import Derived.Test.YtojpeiihkjpeoaaDoorPutA
set_option linter.unusedVariables false
set_option linter.unusedSimpArgs false
namespace Go.Proofs.YtojpeiihkjpeoaaDoor
open Go.RowKit Go.Shelf

theorem putRp_any (q : Rp) (A : Option Addr) (cap : Nat) (w : World) (hT : Tabs w) (hin : InL w A cap q.docs) (hcount : ∀ v ∈ q.docs, v.count ≤ 20000)
    (he : -9223372036854775808 ≤ q.e ∧ q.e ≤ 9223372036854775807) (hn : -9223372036854775808 ≤ q.n ∧ q.n ≤ 9223372036854775807) (hk : -9223372036854775808 ≤ q.cursor ∧ q.cursor ≤ 9223372036854775807) :
    Calls Tryd.prog 16 #[.agg #[.int .i64 q.e, .int .i64 q.n, .slice A q.docs.length cap, .int .i64 q.cursor]] w (PutW w q.put) := by
  by_cases h : q.args
  · exact putRp_bad_any q A cap w hT hin hcount h he hn hk
  · exact putRp_ok_any q A cap w hT hin hcount h he hn hk

/-- A list of values as the part of a value. -/
theorem InL.as (k : Int) (h1 : -9223372036854775808 ≤ k) (h2 : k ≤ 9223372036854775807) {w : World} {A : Option Addr} {cap : Nat} {vs : List V} (h : InL w A cap vs) : In w (.mk k 0 [] vs []) ⟨k, 0, none, 0, 0, A, vs.length, cap, none, 0, 0⟩ := by
  unfold InL In at *
  rw [IsV] at h ⊢
  obtain ⟨e1, e2, e3, e4, e5, h1', h2', h3, h4, h5, h6, h7, h8, h9, hb, hL, hF⟩ := h
  exact ⟨rfl, e2, e3, e4, e5, h1, h2, h3, h4, h5, h6, h7, h8, h9, hb, hL, hF⟩
theorem InL.of_as {k : Int} {w : World} {A : Option Addr} {cap : Nat} {vs : List V} (h : In w (.mk k 0 [] vs []) ⟨k, 0, none, 0, 0, A, vs.length, cap, none, 0, 0⟩) : InL w A cap vs := by
  unfold InL In at *
  rw [IsV] at h ⊢
  obtain ⟨e1, e2, e3, e4, e5, h1', h2', h3, h4, h5, h6, h7, h8, h9, hb, hL, hF⟩ := h
  exact ⟨rfl, e2, e3, e4, e5, by decide, by decide, h3, h4, h5, h6, h7, h8, h9, hb, hL, hF⟩
theorem InL.nil (w : World) : InL w none 0 [] := by
  unfold InL In
  rw [IsV]
  exact ⟨rfl, rfl, rfl, rfl, rfl, by decide, by decide, by decide, by simp, by simp, by simp, by simp, by simp, by simp, ⟨by simp [u8s], fun h => by simp at h⟩, fun i h => absurd h (by simp), fun i h => absurd h (by simp)⟩

set_option maxHeartbeats 800000 in
theorem list_same (vs : List V) (A B : Option Addr) (ca cb : Nat) (w : World) (ha : InL w A ca vs) (hb : InL w B cb vs) :
    Calls Tryd.prog 59 #[.slice A vs.length ca, .slice B vs.length cb] w fun e w' => e = .returned (.bool true) ∧ Grow w w' := by
  have HC := hide (same_any (.mk 0 0 [] vs []) (.mk 0 0 [] vs []) w _ _ (ha.as 0 (by decide) (by decide)) (hb.as 0 (by decide) (by decide)))
  rw [sameB_self] at HC
  clear ha hb
  go_enter Tryd.func59, Tryd.ntmps59
  go_wp2_with fail
  refine HC.out.mono ?_
  rintro e w2 ⟨rfl, hg⟩
  have HG := hide hg
  clear hg
  go_wp2_with fail
  go_ret
  exact ⟨rfl, HG.out⟩

/-- A reply lies in the world. -/
def RpIn (w : World) (q : Rp) (u : Value) : Prop := ∃ A c, u = .agg (rpCells q.e q.n A q.docs.length c q.cursor) ∧ InL w A c q.docs
theorem RpIn.grow {w w' : World} {q : Rp} {u : Value} (h : RpIn w q u) (hg : Grow w w') : RpIn w' q u := by
  obtain ⟨A, c, rfl, hin⟩ := h
  exact ⟨A, c, rfl, hin.grow hg⟩
theorem RetRp.in_ {w0 w : World} {q : Rp} {u : Value} (h : RetRp w0 q u w) : RpIn w q u := by
  obtain ⟨A, c, rfl, hin⟩ := h
  exact ⟨A, c, rfl, hin.in_⟩
theorem RpIn.zero (w : World) : RpIn w Rp.zero (.agg (rpCells 0 0 none 0 0 0)) := ⟨none, 0, rfl, InL.nil w⟩

set_option maxRecDepth 100000 in
set_option maxHeartbeats 800000 in
theorem reply_same (q : Rp) (u v : Value) (w : World) (hu : RpIn w q u) (hv : RpIn w q v) :
    Calls Tryd.prog 21 #[u, v] w fun e w' => e = .returned (.bool true) ∧ Grow w w' := by
  obtain ⟨A, ca, rfl, ha⟩ := hu
  obtain ⟨B, cb, rfl, hb⟩ := hv
  obtain ⟨E, hE⟩ : ∃ E, q.e = E := ⟨_, rfl⟩
  obtain ⟨N, hN⟩ : ∃ N, q.n = N := ⟨_, rfl⟩
  obtain ⟨K, hK⟩ : ∃ K, q.cursor = K := ⟨_, rfl⟩
  obtain ⟨vs, hvs⟩ : ∃ l, q.docs = l := ⟨_, rfl⟩
  rw [hE, hN, hK, hvs]
  rw [hvs] at ha hb
  have hg := ((Grow.refl w).alloc (.cells (rpCells E N A vs.length ca K) 25)).alloc (.cells (rpCells E N B vs.length cb K) 25)
  have hc1 := ((Blk.new w 25 (rpCells E N A vs.length ca K)).alloc (.cells (rpCells E N B vs.length cb K) 25)).cell
  have hc2 : ∀ i, ((w.alloc (.cells (rpCells E N A vs.length ca K) 25)).alloc (.cells (rpCells E N B vs.length cb K) 25)).cell? ⟨w.heap.size + 1, i, none⟩ = (rpCells E N B vs.length cb K)[i]? := (Blk.new' (by simp) _ _ : Blk ((w.alloc (.cells (rpCells E N A vs.length ca K) 25)).alloc (.cells (rpCells E N B vs.length cb K) 25)) (w.heap.size + 1) _ _).cell
  have HC := hide (list_same vs A B ca cb _ (ha.grow hg) (hb.grow hg))
  have HG := hide hg
  clear ha hb hE hN hK hvs hg
  go_enter Tryd.func21, Tryd.ntmps21
  go_wp2_with fail
  refine HC.out.mono ?_
  rintro e w2 ⟨rfl, hg⟩
  have HG2 := hide (HG.out.trans hg)
  clear hg
  go_wp2_with fail
  go_ret
  exact ⟨rfl, HG2.out⟩

/-- The empty reply's frame. -/
def frame0 : List UInt8 := frameOf Rp.zero.body
theorem body0 : Rp.zero.body = [0, 0, 0, 0, 0, 0, 0, 0, 0, 0] := by decide +kernel
theorem frame0_length : frame0.length = 18 := by rw [frame0, frameOf_length, body0]; rfl
theorem frame0_0 (h : 0 < frame0.length) : (frame0[0].toNat : Int) = 77 := by
  have e : frame0[0]? = some 77 := by decide +kernel
  rw [List.getElem?_eq_getElem h] at e
  injection e with e
  rw [e]; rfl
theorem frame0_2 (h : 2 < frame0.length) : (frame0[2].toNat : Int) = 10 := by
  have e : frame0[2]? = some 10 := by decide +kernel
  rw [List.getElem?_eq_getElem h] at e
  injection e with e
  rw [e]; rfl
theorem put0 : Rp.zero.put = (frame0, 0) := by
  have : ¬ Rp.zero.args := by decide
  rw [putRp_good this rfl, if_neg (by rw [body0]; decide)]; rfl
theorem zero_ok : Rp.zero.Ok := ⟨by decide, fun v hv => absurd hv (by simp [Rp.zero])⟩
theorem get0 : getRep frame0 = (Rp.zero, 18, 0) := by
  have h := pRep_app Rp.zero [] zero_ok
  rw [List.append_nil] at h
  have := getOf_frame (zero := Rp.zero) (p := pRep) (by rw [body0]; decide) h []
  rw [List.append_nil] at this
  rw [getRep, frame0, this, body0]; rfl

set_option maxRecDepth 100000 in
set_option maxHeartbeats 1600000 in
theorem wawake_any (w : World) (hT : Tabs w) : Calls Tryd.prog 20 #[] w fun e w' => e = .returned (.bool true) ∧ Grow w w' := by
  have HP := hide (putRp_any Rp.zero none 0 w hT (InL.nil w) (fun v hv => absurd hv (by simp [Rp.zero])) (by decide) (by decide) (by decide))
  have HT := hide hT
  rw [put0] at HP
  clear hT
  go_enter Tryd.func20, Tryd.ntmps20
  go_wp2_with fail
  refine HP.out.mono ?_
  rintro e w1 ⟨base, A, c, rfl, hb, hb2, hr, hg1⟩
  rw [frame0_length] at hr ⊢
  have hcap := hr.cap
  obtain ⟨bk, o, rfl, hbk, e0⟩ := hr.reads.1.at_ 0 (by rw [frame0_length]; omega)
  obtain ⟨bk', o', e', _, e2⟩ := hr.reads.1.at_ 2 (by rw [frame0_length]; omega)
  injection e' with e'
  injection e' with e1 e3
  subst e1 e3
  rw [frame0_0, Nat.add_zero] at e0
  rw [frame0_2] at e2
  have hG := getP_any frame0 (some ⟨bk, o, none⟩) c w1 (HT.out.grow hg1) hr.reads.1 (by rw [frame0_length]; omega) (by rw [frame0_length]; exact hcap)
  rw [get0, frame0_length] at hG
  have HGET := hide hG
  have HG1 := hide hg1
  have HE0 := hide (show w1.cell? ⟨bk, o, none⟩ = some (.int .u8 77) from e0)
  have HE2 := hide (show w1.cell? ⟨bk, o + 2, none⟩ = some (.int .u8 10) from e2)
  clear hg1 hG e0 e2 hr hb hb2
  go_wp2_with fail
  refine HGET.out.mono ?_
  rintro e w2 ⟨u, rfl, hret, hg2⟩
  have HR := hide hret.in_
  obtain ⟨A2, c2, hu, _⟩ := hret
  have hz : Rp.zero.docs.length = 0 := rfl
  have he0 : w2.cell? ⟨bk, o, none⟩ = some (.int .u8 77) := (hg2.below.cell hbk).trans HE0.out
  have he2 : w2.cell? ⟨bk, o + 2, none⟩ = some (.int .u8 10) := (hg2.below.cell hbk).trans HE2.out
  rw [show Rp.zero.e = 0 from rfl, show Rp.zero.n = 0 from rfl, show Rp.zero.cursor = 0 from rfl, hz] at hu
  subst hu
  have hbk2 : bk < w2.heap.size := Nat.lt_of_lt_of_le hbk hg2.size
  have HG2 := hide (HG1.out.trans hg2)
  have hal := (Grow.refl w2).alloc (.cells (rpCells 0 0 A2 0 c2 0) 25)
  have HS := hide (reply_same Rp.zero _ (.agg (rpCells 0 0 none 0 0 0)) _ (HR.out.grow hal) (RpIn.zero _))
  have HAL := hide hal
  clear hg2 hz hal
  go_wp2_with fail
  refine HS.out.mono ?_
  rintro e w3 ⟨rfl, hg3⟩
  have HG3 := hide ((HG2.out.trans HAL.out).trans hg3)
  clear hg3
  go_wp2_with fail
  go_ret
  exact ⟨rfl, HG3.out⟩
end Go.Proofs.YtojpeiihkjpeoaaDoor
