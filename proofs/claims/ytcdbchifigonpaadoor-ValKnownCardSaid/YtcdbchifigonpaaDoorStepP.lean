/- Walk of val.step: the value of a name or number within a value. -/
import Derived.Test.YtcdbchifigonpaaDoorPathP
import Derived.Test.YtcdbchifigonpaaDoorIsv
set_option linter.unusedVariables false
set_option linter.unusedSimpArgs false
namespace Go.Proofs.YtcdbchifigonpaaDoor
open Go.RowKit Go.Shelf

/-- One step of a path. -/
def stepV : V → ByteArray → Option V
  | .mk k _ _ l f, s => if k = 7 then (if 0 ≤ ixN s.data.toList then l[(ixN s.data.toList).toNat]? else none) else (f.find? fun x => decide (x.1 = s)).map Prod.snd
/-- The zero value lies wherever one asks. -/
theorem zero_isV (C : Addr → Value → Prop) : IsV C V.zero Cv.zero := by
  unfold V.zero
  rw [IsV]
  exact ⟨rfl, rfl, rfl, rfl, rfl, by omega, by omega, by omega, by simp, by simp, by simp, by simp, by simp, by simp, ⟨rfl, fun h => absurd h (by simp)⟩, fun i h => absurd h (by simp), fun i h => absurd h (by simp)⟩
/-- What a path tells: its value lies in new memory. -/
def StepC (w : World) (g : Option V) (e : Ending) (w' : World) : Prop :=
  Grow w w' ∧ ∃ (c : Cv) (t : Bool) (u : V), e = .returned (.tuple #[c.agg, .bool t]) ∧ IsV (AtW w' w.heap.size w'.heap.size) u c ∧ ((g = some u ∧ t = true) ∨ (g = none ∧ t = false ∧ u = V.zero ∧ c = Cv.zero))
theorem StepC.no {w w' : World} {g : Option V} (h : g = none) (hg : Grow w w') : StepC w g (.returned (.tuple #[Cv.zero.agg, .bool false])) w' :=
  ⟨hg, Cv.zero, false, V.zero, rfl, zero_isV _, .inr ⟨h, rfl, rfl, rfl⟩⟩
theorem StepC.yes {w w' : World} {g : Option V} {u : V} {c : Cv} (h : g = some u) (hg : Grow w w') {lo : Nat} (hlo : w.heap.size ≤ lo) (hi : IsV (AtW w' lo w'.heap.size) u c) : StepC w g (.returned (.tuple #[c.agg, .bool true])) w' :=
  ⟨hg, c, true, u, rfl, IsV.mono (fun p u h => ⟨h.1, Nat.le_trans hlo h.2.1, h.2.2⟩) u c hi, .inl ⟨h, rfl⟩⟩
/-- What a step tells: its value lies where the value lay. -/
def StepL (w0 w : World) (g : Option V) (e : Ending) (w' : World) : Prop :=
  Grow w w' ∧ ∃ (c : Cv) (t : Bool) (u : V), e = .returned (.tuple #[c.agg, .bool t]) ∧ In w0 u c ∧ ((g = some u ∧ t = true) ∨ (g = none ∧ t = false ∧ u = V.zero ∧ c = Cv.zero))
theorem StepL.no {w0 w w' : World} {g : Option V} (h : g = none) (hg : Grow w w') : StepL w0 w g (.returned (.tuple #[Cv.zero.agg, .bool false])) w' :=
  ⟨hg, Cv.zero, false, V.zero, rfl, In.zero_ w0, .inr ⟨h, rfl, rfl, rfl⟩⟩
theorem StepL.yes {w0 w w' : World} {g : Option V} {u : V} {c : Cv} (h : g = some u) (hg : Grow w w') (hi : In w0 u c) : StepL w0 w g (.returned (.tuple #[c.agg, .bool true])) w' :=
  ⟨hg, c, true, u, rfl, hi, .inl ⟨h, rfl⟩⟩
theorem step_res {F : Func} {W : World} {vb : Nat} {tmps : Array Value} {u : Value} (hF : F.results = #[ResultVar.cell 4 37, ResultVar.tmp 5]) (h2 : tmps.getD 4 undef = .pointer (some ⟨vb, 0, none⟩)) (h3 : tmps.getD 5 undef = u) (c : Cv) (hv : Blk W vb 37 c.cells) :
    (results F tmps).run Tryd.prog W = .ok (.tuple #[c.agg, u]) W := by
  have hl := run_loadVar_row (P := Tryd.prog) W vb 37 37 c.cells (0, 0) _ hv Tryd.underlying37 rfl info_val
  have h2' : tmps[4]?.getD undef = .pointer (some ⟨vb, 0, none⟩) := by simpa using h2
  have h3' : tmps[5]?.getD undef = u := by simpa using h3
  simp [results, hF, h2', h3', asAddr, hl]
theorem stepV_list {n : Nat} {b : List UInt8} {l : List V} {f : List (ByteArray × V)} {s : ByteArray} : stepV (.mk 7 n b l f) s = if 0 ≤ ixN s.data.toList then l[(ixN s.data.toList).toNat]? else none := by
  simp [stepV]
set_option maxRecDepth 100000 in
set_option maxHeartbeats 3200000 in
theorem step_list (n : Nat) (b : List UInt8) (l : List V) (f : List (ByteArray × V)) (s : ByteArray) (c : Cv) (w0 w : World) (hg0 : Grow w0 w) (hv : In w0 (.mk 7 n b l f) c) :
    Calls Tryd.prog 42 #[c.agg, .string s] w (StepL w0 w (stepV (.mk 7 n b l f) s)) := by
  rw [stepV_list]
  obtain ⟨z, hz⟩ : ∃ z, ixN s.data.toList = z := ⟨_, rfl⟩
  have HI := hide (fun w => vindex_any s w)
  rw [hz] at HI ⊢
  clear hz
  obtain ⟨aB, aL, aF, cB, cL, cF, rfl, -, -, -, -, -, h6, h7, -⟩ := hv.open
  have HG := hide (fun x : Cv => ((Grow.refl w).alloc (.cells (Cv.cells ⟨7, (n : Int), aB, b.length, cB, aL, l.length, cL, aF, f.length, cF⟩) 37)).alloc (.cells x.cells 37))
  have HB := hide (fun x : Cv => Blk.new' (w := w.alloc (.cells (Cv.cells ⟨7, (n : Int), aB, b.length, cB, aL, l.length, cL, aF, f.length, cF⟩) 37)) (g := w.heap.size + 1) (by simp) 37 x.cells)
  have HV := hide hv
  by_cases hz0 : 0 ≤ z
  · rw [if_pos hz0]
    by_cases hz1 : z < l.length
    · obtain ⟨i, rfl⟩ : ∃ i : Nat, z = i := ⟨z.toNat, by omega⟩
      have hi : i < l.length := by omega
      rw [Int.toNat_natCast, List.getElem?_eq_getElem hi]
      obtain ⟨bk, o, x, ha, hbk, e0, e1, e2, e3, e4, hx⟩ := hv.elemL i hi
      dsimp only at ha
      subst ha
      replace e0 := (hg0.below.cell hbk).trans e0; replace e1 := (hg0.below.cell hbk).trans e1; replace e2 := (hg0.below.cell hbk).trans e2; replace e3 := (hg0.below.cell hbk).trans e3; replace e4 := (hg0.below.cell hbk).trans e4
      replace hbk := Nat.lt_of_lt_of_le hbk hg0.size
      have HX := hide hx
      clear hx hv hz0 hz1 hg0
      go_enter Tryd.func42, Tryd.ntmps42
      go_wp2_with (go_at_call 66; refine (HI.out _).mono ?_; rintro e w' ⟨rfl, rfl⟩)
      refine bodyPost_ret (step_res rfl rfl rfl x (HB.out x)) rfl (StepL.yes rfl (HG.out x) HX.out)
    · have hn : l[z.toNat]? = none := List.getElem?_eq_none (by omega)
      have HN := hide hn
      clear hn
      go_enter Tryd.func42, Tryd.ntmps42
      go_wp2_with (go_at_call 66; refine (HI.out _).mono ?_; rintro e w' ⟨rfl, rfl⟩)
      refine bodyPost_ret (step_res rfl rfl rfl Cv.zero (HB.out Cv.zero)) rfl (StepL.no HN.out (HG.out Cv.zero))
  · rw [if_neg hz0]
    go_enter Tryd.func42, Tryd.ntmps42
    go_wp2_with (go_at_call 66; refine (HI.out _).mono ?_; rintro e w' ⟨rfl, rfl⟩)
    refine bodyPost_ret (step_res rfl rfl rfl Cv.zero (HB.out Cv.zero)) rfl (StepL.no rfl (HG.out Cv.zero))
theorem stepV_doc {k : Int} (hk : k ≠ 7) {n : Nat} {b : List UInt8} {l : List V} {f : List (ByteArray × V)} {s : ByteArray} : stepV (.mk k n b l f) s = (f.find? fun x => decide (x.1 = s)).map Prod.snd := by
  simp [stepV, hk]
theorem find_at {f : List (ByteArray × V)} {s : ByteArray} {j : Nat} (h : j < f.length) (h0 : ∀ i (hi : i < f.length), i < j → f[i].1 ≠ s) (he : f[j].1 = s) : (f.find? fun x => decide (x.1 = s)) = some f[j] := by
  induction f generalizing j with
  | nil => simp at h
  | cons x r ih =>
    cases j with
    | zero =>
      simp only [List.getElem_cons_zero] at he ⊢
      rw [List.find?_cons, decide_eq_true he]
    | succ j =>
      have hx := h0 0 (by simp) (by omega)
      simp only [List.getElem_cons_zero] at hx
      simp only [List.getElem_cons_succ] at he ⊢
      rw [List.find?_cons, decide_eq_false hx]
      exact ih (by simpa using h) (fun i hi hij => by have := h0 (i + 1) (by simpa using hi) (by omega); simpa using this) he
theorem find_no {f : List (ByteArray × V)} {s : ByteArray} (h0 : ∀ i (hi : i < f.length), f[i].1 ≠ s) : (f.find? fun x => decide (x.1 = s)) = none := by
  rw [List.find?_eq_none]
  intro x hx
  obtain ⟨i, hi, rfl⟩ := List.getElem_of_mem hx
  simpa using h0 i hi
set_option maxRecDepth 100000 in
set_option maxHeartbeats 3200000 in
theorem step_doc (k : Int) (hk : k ≠ 7) (n : Nat) (b : List UInt8) (l : List V) (f : List (ByteArray × V)) (s : ByteArray) (c : Cv) (w0 w : World) (hg0 : Grow w0 w) (hv : In w0 (.mk k n b l f) c) :
    Calls Tryd.prog 42 #[c.agg, .string s] w (StepL w0 w (stepV (.mk k n b l f) s)) := by
  rw [stepV_doc hk]
  obtain ⟨aB, aL, aF, cB, cL, cF, rfl, -, -, -, -, -, -, -, h8, h9, -⟩ := hv.open
  have HG := hide (((Grow.refl w).alloc (.cells (Cv.cells ⟨k, (n : Int), aB, b.length, cB, aL, l.length, cL, aF, f.length, cF⟩) 37)).alloc (.cells Cv.zero.cells 37))
  have HB := hide (Blk.new' (w := w.alloc (.cells (Cv.cells ⟨k, (n : Int), aB, b.length, cB, aL, l.length, cL, aF, f.length, cF⟩) 37)) (g := w.heap.size + 1) (by simp) 37 Cv.zero.cells)
  have HV := hide hv
  have hkq : (k == 7) = false := by simpa using hk
  have HG0 := hide hg0
  clear hv hk hg0
  go_enter Tryd.func42, Tryd.ntmps42
  go_wp2_with fail
  go_loopg [8, 32] (f.length + 1) (fun gk x i wr => ∃ j : Nat, j ≤ f.length ∧ gk + j = f.length + 1 ∧ i = .int .i64 j ∧ (∀ i (hi : i < f.length), i < j → f[i].1 ≠ s) ∧ Grow w wr ∧ Blk wr (w.heap.size + 1) 37 Cv.zero.cells)
  case atStart => exact ⟨0, by omega, by omega, rfl, fun i _ h => absurd h (by omega), HG.out, HB.out⟩
  case round =>
    obtain ⟨j, hj, hgk, rfl, hne, hw, hB⟩ := hrel
    have HN := hide hne
    have HW := hide hw
    have HBr := hide hB
    by_cases hlt : j < f.length
    · obtain ⟨gk', rfl⟩ : ∃ g, gk = g + 1 := ⟨gk - 1, by omega⟩
      obtain ⟨bk, o, x, ha, hbk, es, esz, e0, e1, e2, e3, e4, hx⟩ := HV.out.elemF j hlt
      replace es := ((HG0.out.trans hw).below.cell hbk).trans es; replace e0 := ((HG0.out.trans hw).below.cell hbk).trans e0; replace e1 := ((HG0.out.trans hw).below.cell hbk).trans e1; replace e2 := ((HG0.out.trans hw).below.cell hbk).trans e2; replace e3 := ((HG0.out.trans hw).below.cell hbk).trans e3; replace e4 := ((HG0.out.trans hw).below.cell hbk).trans e4
      replace hbk := Nat.lt_of_lt_of_le hbk (HG0.out.trans hw).size
      dsimp only at ha
      subst ha
      have HX := hide hx
      obtain ⟨q, hq⟩ : ∃ q, f[j].1 = q := ⟨_, rfl⟩
      rw [hq] at es
      have HQ := hide hq
      have HWA := hide (fun cs => hw.alloc (.cells cs 52))
      have HBA := hide (fun cs => hB.alloc (.cells cs 52))
      have hc1 := (HBA.out #[.string q, .int .i64 x.k, .int .u64 x.n, .slice x.aB x.nB x.cB, .slice x.aL x.nL x.cL, .slice x.aF x.nF x.cF]).cell
      have hlt1 := (HBA.out #[.string q, .int .i64 x.k, .int .u64 x.n, .slice x.aB x.nB x.cB, .slice x.aL x.nL x.cL, .slice x.aF x.nF x.cF]).lt
      have hz1 := (HBA.out #[.string q, .int .i64 x.k, .int .u64 x.n, .slice x.aB x.nB x.cB, .slice x.aL x.nL x.cL, .slice x.aF x.nF x.cF]).frozen
      clear hne hw hB hx hq
      by_cases he : q = s
      · subst he
        have HF := hide (show (f.find? fun x => decide (x.1 = q)).map Prod.snd = some f[j].2 by rw [find_at hlt HN.out HQ.out]; rfl)
        go_wp2_with fail
        refine bodyPost_ret (step_res rfl rfl rfl x (set5_from (c := x) (HBA.out _))) rfl (StepL.yes HF.out ((HWA.out _).set5v (Nat.le_succ _) x) HX.out)
      · have HE := hide he
        have he2 : (q.toList == s.toList) = false := by
          simp only [beq_eq_false_iff_ne, ne_eq]
          intro h
          rw [toList_data, toList_data] at h
          exact he (ByteArray.ext (Array.ext' h))
        clear he
        go_wp2_with fail
        go_roundg gk'
        case measure => omega
        case rel =>
          refine ⟨j + 1, by omega, by omega, by go_num, fun i hi hij => ?_, HWA.out _, HBA.out _⟩
          by_cases hij2 : i = j
          · subst hij2
            rw [HQ.out]
            exact HE.out
          · exact HN.out i hi (by omega)
    · obtain ⟨gk', rfl⟩ : ∃ g, gk = g + 1 := ⟨gk - 1, by omega⟩
      obtain rfl : j = f.length := by omega
      have HF := hide (show (f.find? fun x => decide (x.1 = s)).map Prod.snd = none by rw [find_no (fun i hi => HN.out i hi hi)]; rfl)
      have hc1 := HBr.out.cell
      have hlt1 := HBr.out.lt
      have hz1 := HBr.out.frozen
      clear hne hw hB
      go_wp2_with fail
      refine bodyPost_ret (step_res rfl rfl rfl Cv.zero (set5_blk (c := Cv.zero) HBr.out)) rfl (StepL.no HF.out (HW.out.set5v (Nat.le_succ _) Cv.zero))
theorem step_any (v : V) (s : ByteArray) (c : Cv) (w0 w : World) (hg0 : Grow w0 w) (hv : In w0 v c) : Calls Tryd.prog 42 #[c.agg, .string s] w (StepL w0 w (stepV v s)) := by
  obtain ⟨k, n, b, l, f⟩ := v
  by_cases hk : k = 7
  · subst hk
    exact step_list n b l f s c w0 w hg0 hv
  · exact step_doc k hk n b l f s c w0 w hg0 hv
end Go.Proofs.YtcdbchifigonpaaDoor
