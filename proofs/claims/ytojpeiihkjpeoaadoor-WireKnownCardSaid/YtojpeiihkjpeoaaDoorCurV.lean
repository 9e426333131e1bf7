/- Walks: the cursor over a frame's body: a value, a value that may be none. -/
import Derived.Test.YtojpeiihkjpeoaaDoorCur
import Derived.Test.YtojpeiihkjpeoaaDoorGet
set_option linter.unusedVariables false
set_option linter.unusedSimpArgs false
namespace Go.Proofs.YtojpeiihkjpeoaaDoor
open Go.RowKit Go.Shelf

/-- A value in new memory. -/
def RetV (w0 : World) (v : V) (u : Value) (w' : World) : Prop := ∃ c : Cv, u = c.agg ∧ InS w' w0.heap.size w'.heap.size v c
def valGot (g : Except Int V) (r : List UInt8) : P V := match g with
  | .error _ => none
  | .ok v => some (v, r)
theorem InS.zero (w : World) {lo : Nat} : InS w lo w.heap.size V.zero Cv.zero := by
  refine ⟨Nat.le_refl _, ?_⟩
  unfold V.zero
  rw [IsS]
  exact ⟨rfl, rfl, rfl, rfl, rfl, by decide, by decide, by decide, by simp, by simp, by simp, by simp, by simp, by simp, ⟨rfl, fun h => by simp at h⟩, ⟨fun _ _ => False, fun i hi => absurd hi (by simp), fun _ _ _ _ _ h => h.elim⟩, ⟨fun _ _ => False, fun i hi => absurd hi (by simp), fun _ _ _ _ _ h => h.elim⟩⟩
theorem Reads.inB {w : World} {pb : Nat} {A : Option Addr} {x : List UInt8} (h : Reads (AtW w 0 pb) 1 A x.length (u8s x)) (hp : pb ≤ w.heap.size) : InB w A x :=
  ⟨by rw [u8s_length, Nat.mul_one], fun h0 => by
    obtain ⟨bk, o, e, hc⟩ := h.2 h0
    exact ⟨bk, o, e, fun j u hu => ⟨(hc j u hu).1, Nat.zero_le _, Nat.lt_of_lt_of_le (hc j u hu).2.2 hp⟩⟩⟩
theorem cellresV {F : Func} {W : World} {vb : Nat} {tmps : Array Value} (hF : F.results = #[ResultVar.cell 2 47]) (h2 : tmps.getD 2 undef = .pointer (some ⟨vb, 0, none⟩)) (c : Cv) (hv : Blk W vb 47 c.cells) :
    (results F tmps).run Tryd.prog W = .ok c.agg W := by
  have hvc := hv.cell
  have h2' : tmps[2]?.getD undef = .pointer (some ⟨vb, 0, none⟩) := by simpa using h2
  simp [results, hF, go_sem, h2', hvc]
/-- The end of a function that tells the value of its own cell. -/
theorem PrC.cell {F : Func} {w W : World} {pb vb : Nat} {v : V} {r : List UInt8} {c : Cv} {tmps : Array Value} (hF : F.results = #[ResultVar.cell 2 47]) (hp : tmps.getD 2 undef = .pointer (some ⟨vb, 0, none⟩)) (hB : Blk W vb 47 Cv.zero.cells)
    (hvb : w.heap.size ≤ vb) (hpb : pb < vb) {lo : Nat} (hlo : vb < lo) (hg : GB w W pb) (hr : Cu W pb r) (hv : InS W lo W.heap.size v c) :
    bodyPost Tryd.prog F (PrC w pb (some (v, r)) (RetV w)) .ret { tmps := tmps, defers := [] } (set5 W vb c) := by
  have hs5 := set5_grown W vb c
  refine bodyPost_ret (cellresV hF hp c (set5_from (c := c) hB)) rfl (PrC.good ⟨c, rfl, ?_⟩ (hr.own hs5 (fun k e => by injection e with e; omega)) (set5_gb hg hvb c))
  exact (hv.blocks hs5.size (fun k h1 h2 => hs5.block k h2 (fun e => by injection e with e; omega))).wider (by omega) hs5.size (Nat.le_refl _)

set_option maxRecDepth 100000 in
set_option maxHeartbeats 1600000 in
theorem wvalue_any (pb : Nat) (bs : List UInt8) (w : World) (hT : Tabs w) (hp : 1 < pb) (h : Cu w pb bs) :
    Calls Tryd.prog 88 #[.pointer (some ⟨pb, 0, none⟩)] w (PrC w pb (pVal bs) (RetV w)) := by
  have hlt := h.lt
  have hG1 := (Grow.refl w).alloc (.cells Cv.zero.cells 47)
  have HV1 := hide (Blk.new w 47 Cv.zero.cells)
  have hC := wtake_any pb 2 bs (w.alloc (.cells Cv.zero.cells 47)) (h.grow hG1)
  have HG1 := hide ((GB.refl w pb).grow hG1)
  have HT := hide hT
  clear h hG1 hT
  cases hp1 : pTake 2 bs with
  | none =>
    rw [hp1] at hC
    have HC := hide hC
    have hq : pVal bs = none := by rw [pVal, pNum, hp1]
    rw [hq]
    clear hC hp1 hq
    go_enter Tryd.func88, Tryd.ntmps88
    go_wp2_with fail
    refine HC.out.mono ?_
    rintro e w' ⟨rfl, hg⟩
    have HG := hide (HG1.out.trans hg)
    clear hg
    go_wp2_with fail
    exact And.intro rfl (PrC.bad HG.out)
  | some xr =>
    obtain ⟨x, r⟩ := xr
    rw [hp1] at hC
    have HC := hide hC
    have hx := (pTake_some hp1).2
    have hq1 : pNum 2 bs = some (le x, r) := by rw [pNum, hp1]
    have hy : le x < 65536 := by have := le_lt x; rw [hx] at this; exact this
    obtain ⟨k, hk⟩ : ∃ k, le x = k := ⟨_, rfl⟩
    have HK := hide hk
    have HX := hide hx
    rw [hk] at hq1 hy
    clear hC hp1 hk hx
    cases hp2 : pTake k r with
    | none =>
      have hq : pVal bs = none := by rw [pVal, hq1]; simp only; rw [hp2]
      rw [hq]
      have HP2 := hide hp2
      clear hq hq1 hp2
      go_enter Tryd.func88, Tryd.ntmps88
      go_wp2_with fail
      refine HC.out.mono ?_
      rintro e w2 ⟨v, rfl, ⟨A, rfl, hr⟩, hcu, hg⟩
      have HW := hide (word_any x A x.length w2 (hr.inB (Nat.le_of_lt hcu.lt)) (by rw [HX.out]; omega))
      have HG2 := hide (HG1.out.trans hg)
      have hC2 := wtake_any pb k r w2 hcu
      rw [HP2.out] at hC2
      have HC2 := hide hC2
      rw [HK.out] at HW
      clear hr hcu hg hC2
      go_wp2_with fail
      refine HW.out.mono ?_
      rintro e w2 ⟨rfl, rfl⟩
      go_wp2_with fail
      refine HC2.out.mono ?_
      rintro e w3 ⟨rfl, hg⟩
      have HG3 := hide (HG2.out.trans hg)
      clear hg
      go_wp2_with fail
      exact And.intro rfl (PrC.bad HG3.out)
    | some yr =>
      obtain ⟨y, r2⟩ := yr
      have HP2 := hide hp2
      have HYL := hide (pTake_some hp2).2
      obtain ⟨got, hgot⟩ : ∃ g, rdAll y = g := ⟨_, rfl⟩
      have HGOT := hide hgot
      have HQ := hide (show pVal bs = valGot got r2 by rw [pVal, hq1]; simp only; rw [hp2, ← hgot]; rfl)
      clear hp2 hq1 hgot
      have hstep : ∀ w3, Cu w3 pb r2 → GB w w3 pb → ∀ A, Reads (AtW w3 0 pb) 1 A y.length (u8s y) → Calls Tryd.prog 68 #[.slice A y.length y.length] w3 (GetC w3 got) := fun w3 hcu hg A hr => by
        have := get_any y A y.length w3 (HT.out.gb hg hp) (hr.inB (Nat.le_of_lt hcu.lt)) (by rw [HYL.out]; omega) (Nat.le_refl _)
        rw [HGOT.out] at this
        exact this
      have HS := hide hstep
      have HE := hide (show ∀ e, got = .error e → e ≠ 0 from fun e h => by
        have := rdAll_err (HGOT.out.trans h)
        unfold Err at this
        omega)
      rw [HQ.out]
      clear hstep HQ
      go_enter Tryd.func88, Tryd.ntmps88
      go_wp2_with fail
      refine HC.out.mono ?_
      rintro e w2 ⟨v, rfl, ⟨A, rfl, hr⟩, hcu, hg⟩
      have HW := hide (word_any x A x.length w2 (hr.inB (Nat.le_of_lt hcu.lt)) (by rw [HX.out]; omega))
      have HG2 := hide (HG1.out.trans hg)
      have HV2 := hide (HV1.out.own hg (fun k e => by injection e with e; omega))
      have hC2 := wtake_any pb k r w2 hcu
      rw [HP2.out] at hC2
      have HC2 := hide hC2
      rw [HK.out] at HW
      clear hr hcu hg hC2 HV1
      go_wp2_with fail
      refine HW.out.mono ?_
      rintro e w2 ⟨rfl, rfl⟩
      go_wp2_with fail
      refine HC2.out.mono ?_
      rintro e w3 ⟨v, rfl, ⟨A2, rfl, hr⟩, hcu, hg⟩
      have HG3 := hide (HG2.out.trans hg)
      have HV3 := hide (HV2.out.own hg (fun k e => by injection e with e; omega))
      have HCU := hide hcu
      have HGet := hide (HS.out w3 hcu HG3.out A2 hr)
      have hvl := HV3.out.lt
      clear hr hcu hg HV2
      go_wp2_with fail
      refine HGet.out.mono ?_
      intro e w4 h4
      cases got with
      | error ee =>
        obtain ⟨rfl, hg4⟩ := h4
        have hne : (ee == 0) = false := by simpa using HE.out ee rfl
        have HG4 := hide ((HG3.out.grow hg4).grow ((Grow.refl w4).alloc (.cells Cv.zero.cells 47)))
        clear hg4
        go_wp2_with fail
        refine (wmust_no _).mono ?_
        rintro e w5 ⟨rfl, rfl⟩
        go_wp2_with fail
        exact And.intro rfl (PrC.bad HG4.out)
      | ok v =>
        obtain ⟨c, rfl, hin, hg4⟩ := h4
        have hal := (Grow.refl w4).alloc (.cells c.cells 47)
        have HG4 := hide ((HG3.out.grow hg4).grow hal)
        have hV4 := (HV3.out.grow hg4).grow hal
        have HCU4 := hide ((HCU.out.grow hg4).grow hal)
        have HI4 := hide (((hin.grow hal).wider (Nat.le_refl _) hal.size (Nat.le_refl _)))
        have hc0 := (Blk.new w4 47 c.cells).cell
        have hvc := hV4.cell
        have hvf := hV4.frozen
        have HV4 := hide hV4
        clear hg4 hal hin hV4
        go_wp2_with fail
        refine (wmust_yes _).mono ?_
        rintro e w5 ⟨rfl, rfl⟩
        go_wp2_with fail
        exact PrC.cell (v := v) (r := r2) (c := c) (vb := w.heap.size) (W := w4.alloc (.cells c.cells 47)) rfl rfl HV4.out (Nat.le_refl _) hlt hvl HG4.out HCU4.out HI4.out

set_option maxRecDepth 100000 in
set_option maxHeartbeats 1600000 in
theorem wmay_any (pb : Nat) (bs : List UInt8) (w : World) (hT : Tabs w) (hp : 1 < pb) (h : Cu w pb bs) :
    Calls Tryd.prog 100 #[.pointer (some ⟨pb, 0, none⟩)] w (PrC w pb (pMay bs) (RetV w)) := by
  have hlt := h.lt
  have hG1 := (Grow.refl w).alloc (.cells Cv.zero.cells 47)
  have HV1 := hide (Blk.new w 47 Cv.zero.cells)
  have hC := wflag_any pb bs (w.alloc (.cells Cv.zero.cells 47)) (h.grow hG1)
  have HG1 := hide ((GB.refl w pb).grow hG1)
  have HT := hide hT
  clear h hG1 hT
  cases hp1 : pFlag bs with
  | none =>
    rw [hp1] at hC
    have HC := hide hC
    have hq : pMay bs = none := by rw [pMay, hp1]
    rw [hq]
    clear hC hp1 hq
    go_enter Tryd.func100, Tryd.ntmps100
    go_wp2_with fail
    refine HC.out.mono ?_
    rintro e w' ⟨rfl, hg⟩
    have HG := hide (HG1.out.trans hg)
    clear hg
    go_wp2_with fail
    exact And.intro rfl (PrC.bad HG.out)
  | some xr =>
    obtain ⟨x, r⟩ := xr
    rw [hp1] at hC
    have HC := hide hC
    have hq1 : pMay bs = if x = true then pVal r else some (V.zero, r) := by rw [pMay, hp1]
    rw [hq1]
    clear hC hp1 hq1
    cases x with
    | false =>
      rw [if_neg (by decide)]
      go_enter Tryd.func100, Tryd.ntmps100
      go_wp2_with fail
      refine HC.out.mono ?_
      rintro e w2 ⟨v, rfl, rfl, hcu, hg⟩
      have hV2 := HV1.out.own hg (fun k e => by injection e with e; omega)
      have HG2 := hide (HG1.out.trans hg)
      have HCU := hide hcu
      have hvc := hV2.cell
      have hvf := hV2.frozen
      have hvl := hV2.lt
      have HV2 := hide hV2
      clear hcu hg hV2
      go_wp2_with fail
      exact PrC.cell (v := V.zero) (r := r) (c := Cv.zero) (vb := w.heap.size) (W := w2) (lo := w2.heap.size) rfl rfl HV2.out (Nat.le_refl _) hlt hvl HG2.out HCU.out (InS.zero w2)
    | true =>
      rw [if_pos rfl]
      have hstep : ∀ w2, Cu w2 pb r → GB w w2 pb → Calls Tryd.prog 88 #[.pointer (some ⟨pb, 0, none⟩)] w2 (PrC w2 pb (pVal r) (RetV w2)) := fun w2 hcu hg => wvalue_any pb r w2 (HT.out.gb hg hp) hp hcu
      obtain ⟨pv, hpv⟩ : ∃ p, pVal r = p := ⟨_, rfl⟩
      rw [hpv] at hstep ⊢
      have HS := hide hstep
      clear hstep hpv
      go_enter Tryd.func100, Tryd.ntmps100
      go_wp2_with fail
      refine HC.out.mono ?_
      rintro e w2 ⟨v, rfl, rfl, hcu, hg⟩
      have HV2 := hide (HV1.out.own hg (fun k e => by injection e with e; omega))
      have HG2 := hide (HG1.out.trans hg)
      have hcall := HS.out w2 hcu HG2.out
      have hvl := HV2.out.lt
      have hlt2 := hcu.lt
      clear hcu hg
      cases pv with
      | none =>
        have HC2 := hide hcall
        clear hcall
        go_wp2_with fail
        refine HC2.out.mono ?_
        rintro e w3 ⟨rfl, hg⟩
        have HG3 := hide (HG2.out.trans hg)
        clear hg
        go_wp2_with fail
        exact And.intro rfl (PrC.bad HG3.out)
      | some vr =>
        obtain ⟨v, r2⟩ := vr
        have HC2 := hide hcall
        clear hcall
        go_wp2_with fail
        refine HC2.out.mono ?_
        rintro e w3 ⟨u, rfl, ⟨c, rfl, hin⟩, hcu, hg⟩
        have hV3 := HV2.out.own hg (fun k e => by injection e with e; omega)
        have HG3 := hide (HG2.out.trans hg)
        have HCU := hide hcu
        have HI := hide hin
        have hvc := hV3.cell
        have hvf := hV3.frozen
        have HV3 := hide hV3
        clear hcu hg hV3 hin
        go_wp2_with fail
        exact PrC.cell (v := v) (r := r2) (c := c) (vb := w.heap.size) (W := w3) rfl rfl HV3.out (Nat.le_refl _) hlt hvl HG3.out HCU.out HI.out
end Go.Proofs.YtojpeiihkjpeoaaDoor
