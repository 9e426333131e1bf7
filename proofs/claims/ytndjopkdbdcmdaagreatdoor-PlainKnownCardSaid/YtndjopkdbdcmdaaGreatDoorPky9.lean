/- Part 9 of the proof of pknown_card. -/
import Derived.Test.YtndjopkdbdcmdaaGreatDoorPky5
import Derived.Test.YtndjopkdbdcmdaaGreatDoorPky8
set_option linter.unusedVariables false
set_option linter.unusedSimpArgs false
set_option maxRecDepth 100000
set_option maxHeartbeats 12800000
namespace Go.Proofs.YtndjopkdbdcmdaaGreatDoor
section
open Go.RowKit Go.Shelf Go.WideShapes
theorem isv_set {w : World} {lo : Nat} {v : V} {c : Cv} (h : IsV (AtW w lo w.heap.size) v c) {p : Addr} (hp : p.block < lo) (u : Value) : IsV (AtW (w.setCell p u) lo (w.setCell p u).heap.size) v c := by
 refine IsV.mono (fun a x ha => ?_) v c h;have hne : a.block ≠ p.block := by have := ha.2.1; omega
 refine ⟨(World.cell?_of_block (a := a) (Below.heap_setCell w p u a.block hne)).trans ha.1, ha.2.1, ?_⟩;have := ha.2.2;simpa using this
theorem isv_set5 {w : World} {lo vb : Nat} {v : V} {c : Cv} (h : IsV (AtW w lo w.heap.size) v c) (hp : vb < lo) (d : Cv) : IsV (AtW (set5 w vb d) lo (set5 w vb d).heap.size) v c :=
 isv_set (isv_set (isv_set (isv_set (isv_set h (p := ⟨vb, 0, none⟩) hp _) (p := ⟨vb, 1, none⟩) hp _) (p := ⟨vb, 2, none⟩) hp _) (p := ⟨vb, 3, none⟩) hp _) (p := ⟨vb, 4, none⟩) hp _
theorem Grow.set5v {a W : World} {vb : Nat} (h : Grow a W) (hb : a.heap.size ≤ vb) (c : Cv) : Grow a (set5 W vb c) :=
 ((((h.setCell (p := ⟨vb, 0, none⟩) hb _).setCell (p := ⟨vb, 1, none⟩) hb _).setCell (p := ⟨vb, 2, none⟩) hb _).setCell (p := ⟨vb, 3, none⟩) hb _).setCell (p := ⟨vb, 4, none⟩) hb _
theorem VRow.isLK {W : World} {lo vb base n cap : Nat} {A : Option Addr} {es : List VE} (h : VRow W 27 noHead 5 lo vb base (.slice A n cap) es) (hn : n = es.length) (h1 : lo ≤ base) (h2 : vb < base) (h64 : n ≤ 140737488355328) :
 IsS (fun p u => CF W p u ∧ p.block ≠ vb) (.mk 7 0 [] (es.map VE.v) []) ⟨7, 0, none, 0, 0, A, n, cap, none, 0, 0⟩ (fun q => lo ≤ q ∧ q < W.heap.size) := by
 have hcap := h.cap hn;rw [IsS];refine ⟨rfl, rfl, rfl, by rw [List.length_map]; exact hn, rfl, by omega, by omega, by omega, by simp, by simp, by show (es.map VE.v).length ≤ cap; rw [List.length_map]; omega, by rw [List.length_map]; omega, by simp, by simp, ⟨by simp [u8s], fun h => by simp at h⟩,
  ⟨fun i q => ∃ x, es[i]? = some x ∧ x.lo ≤ q ∧ q < x.hi, fun i hi => ?_, fun i j hij hj q hq hq' => ?_⟩, ⟨fun _ _ => False, fun i hi => absurd hi (by simp), fun _ _ _ _ _ h => h.elim⟩⟩
 ·rw [List.length_map] at hi;obtain ⟨g, rfl, hb, hlt, hcell⟩ := h.cellAt (k := 0) (fun _ => rfl) rfl hn i hi;obtain ⟨p1, p2, p3, p4⟩ := h.part es[i] (List.getElem_mem hi);refine ⟨g, 0, es[i].c, rfl, ⟨Nat.le_trans h1 hb, hlt⟩, ?_, ?_, ?_, ?_⟩
  ·rintro ⟨x, hx, q⟩;rw [List.getElem?_eq_getElem hi] at hx;injection hx with hx;subst hx;exact p3 g rfl q
  ·rintro q ⟨x, hx, q1, q2⟩;rw [List.getElem?_eq_getElem hi] at hx;injection hx with hx;subst hx;have := p4.1;exact ⟨Nat.le_trans p1 q1, by omega⟩
  ·exact ⟨⟨hcell 0 _ (by omega) rfl, by show g ≠ vb; omega⟩, ⟨hcell 1 _ (by omega) rfl, by show g ≠ vb; omega⟩, ⟨hcell 2 _ (by omega) rfl, by show g ≠ vb; omega⟩, ⟨hcell 3 _ (by omega) rfl, by show g ≠ vb; omega⟩, ⟨hcell 4 _ (by omega) rfl, by show g ≠ vb; omega⟩⟩
  rw [List.getElem_map];exact IsS.mono _ _ _ _ (fun p u q s => ⟨q, by have := s.1; omega⟩) (fun q s => ⟨_, List.getElem?_eq_getElem hi, s⟩) p4.2
 rw [List.length_map] at hj;have hi' : i < es.length := Nat.lt_trans hij hj;obtain ⟨x, hx, q1, q2⟩ := hq;obtain ⟨y, hy, q3, q4⟩ := hq';rw [List.getElem?_eq_getElem hi'] at hx;rw [List.getElem?_eq_getElem hj] at hy;injection hx with hx;injection hy with hy;subst hx hy;have := h.apart i j (by omega) hj hij;omega
theorem VRow.isFK {W : World} {lo vb base n cap : Nat} {A : Option Addr} {es : List VE} (h : VRow W 82 nameHead 6 lo vb base (.slice A n cap) es) (hs : ∀ x ∈ es, x.s.size ≤ 140737488355328) (hn : n = es.length) (h1 : lo ≤ base) (h2 : vb < base) (h64 : n ≤ 140737488355328) :
 IsS (fun p u => CF W p u ∧ p.block ≠ vb) (.mk 8 0 [] [] (es.map fun x => (x.s, x.v))) ⟨8, 0, none, 0, 0, none, 0, 0, A, n, cap⟩ (fun q => lo ≤ q ∧ q < W.heap.size) := by
 have hcap := h.cap hn;rw [IsS];refine ⟨rfl, rfl, rfl, rfl, by rw [List.length_map]; exact hn, by omega, by omega, by omega, by simp, by simp, by simp, by simp, by show (es.map fun x => (x.s, x.v)).length ≤ cap; rw [List.length_map]; omega, by rw [List.length_map]; omega, ⟨by simp [u8s], fun h => by simp at h⟩,
  ⟨fun _ _ => False, fun i hi => absurd hi (by simp), fun _ _ _ _ _ h => h.elim⟩, ⟨fun i q => ∃ x, es[i]? = some x ∧ x.lo ≤ q ∧ q < x.hi, fun i hi => ?_, fun i j hij hj q hq hq' => ?_⟩⟩
 ·rw [List.length_map] at hi;obtain ⟨g, rfl, hb, hlt, hcell⟩ := h.cellAt (k := 1) (fun _ => rfl) rfl hn i hi;obtain ⟨p1, p2, p3, p4⟩ := h.part es[i] (List.getElem_mem hi);refine ⟨g, 0, es[i].c, rfl, ⟨Nat.le_trans h1 hb, hlt⟩, ?_, ?_, ?_, ?_, ?_, ?_⟩
  ·rintro ⟨x, hx, q⟩;rw [List.getElem?_eq_getElem hi] at hx;injection hx with hx;subst hx;exact p3 g rfl q
  ·rintro q ⟨x, hx, q1, q2⟩;rw [List.getElem?_eq_getElem hi] at hx;injection hx with hx;subst hx;have := p4.1;exact ⟨Nat.le_trans p1 q1, by omega⟩
  ·rw [List.getElem_map];exact ⟨hcell 0 _ (by omega) rfl, by show g ≠ vb; omega⟩
  ·rw [List.getElem_map];exact hs _ (List.getElem_mem hi)
  ·exact ⟨⟨hcell 1 _ (by omega) rfl, by show g ≠ vb; omega⟩, ⟨hcell 2 _ (by omega) rfl, by show g ≠ vb; omega⟩, ⟨hcell 3 _ (by omega) rfl, by show g ≠ vb; omega⟩, ⟨hcell 4 _ (by omega) rfl, by show g ≠ vb; omega⟩, ⟨hcell 5 _ (by omega) rfl, by show g ≠ vb; omega⟩⟩
  rw [List.getElem_map];exact IsS.mono _ _ _ _ (fun p u q s => ⟨q, by have := s.1; omega⟩) (fun q s => ⟨_, List.getElem?_eq_getElem hi, s⟩) p4.2
 rw [List.length_map] at hj;have hi' : i < es.length := Nat.lt_trans hij hj;obtain ⟨x, hx, q1, q2⟩ := hq;obtain ⟨y, hy, q3, q4⟩ := hq';rw [List.getElem?_eq_getElem hi'] at hx;rw [List.getElem?_eq_getElem hj] at hy;injection hx with hx;injection hy with hy;subst hx hy;have := h.apart i j (by omega) hj hij;omega
def CopyC (w : World) (v : V) (e : Ending) (w' : World) : Prop :=
 ∃ c : Cv, e = .returned c.agg ∧ InS w' w.heap.size w'.heap.size v c ∧ Grow w w'
def InBo (w : World) (A : Option Addr) (ts : List Bool) : Prop := Reads (AtW w 0 w.heap.size) 1 A ts.length (ts.map Value.bool)
end
section
open V
def V.sml : V → Prop
 | mk _ _ b l f => b.length ≤ 1000000000 ∧ l.length ≤ 1000000000 ∧ f.length ≤ 1000000000 ∧ (∀ x ∈ l, sml x) ∧ (∀ x ∈ f, sml x.2)
termination_by v => SizeOf.sizeOf v
decreasing_by
 ·exact sizeOf_l ‹_›
 exact sizeOf_f ‹_›
theorem V.sml_mk {k : Int} {n : Nat} {b : List UInt8} {l : List V} {f : List (ByteArray × V)} : (V.mk k n b l f).sml ↔ b.length ≤ 1000000000 ∧ l.length ≤ 1000000000 ∧ f.length ≤ 1000000000 ∧ (∀ x ∈ l, x.sml) ∧ (∀ x ∈ f, x.2.sml) := by
 rw [V.sml]
end
section
open Go.RowKit Go.Shelf
def stepV : V → ByteArray → Option V
 | .mk k _ _ l f, s => if k = 7 then (if 0 ≤ ixN s.data.toList then l[(ixN s.data.toList).toNat]? else none) else (f.find? fun x => decide (x.1 = s)).map Prod.snd
theorem zero_isV (C : Addr → Value → Prop) : IsV C V.zero Cv.zero := by
 unfold V.zero;rw [IsV];exact ⟨rfl, rfl, rfl, rfl, rfl, by omega, by omega, by omega, by simp, by simp, by simp, by simp, by simp, by simp, ⟨rfl, fun h => absurd h (by simp)⟩, fun i h => absurd h (by simp), fun i h => absurd h (by simp)⟩
def StepC (w : World) (g : Option V) (e : Ending) (w' : World) : Prop :=
 Grow w w' ∧ ∃ (c : Cv) (t : Bool) (u : V), e = .returned (.tuple #[c.agg, .bool t]) ∧ IsV (AtW w' w.heap.size w'.heap.size) u c ∧ ((g = some u ∧ t = true) ∨ (g = none ∧ t = false ∧ u = V.zero ∧ c = Cv.zero))
theorem StepC.no {w w' : World} {g : Option V} (h : g = none) (hg : Grow w w') : StepC w g (.returned (.tuple #[Cv.zero.agg, .bool false])) w' :=
 ⟨hg, Cv.zero, false, V.zero, rfl, zero_isV _, .inr ⟨h, rfl, rfl, rfl⟩⟩
theorem StepC.yes {w w' : World} {g : Option V} {u : V} {c : Cv} (h : g = some u) (hg : Grow w w') {lo : Nat} (hlo : w.heap.size ≤ lo) (hi : IsV (AtW w' lo w'.heap.size) u c) : StepC w g (.returned (.tuple #[c.agg, .bool true])) w' :=
 ⟨hg, c, true, u, rfl, IsV.mono (fun p u h => ⟨h.1, Nat.le_trans hlo h.2.1, h.2.2⟩) u c hi, .inl ⟨h, rfl⟩⟩
def StepL (w0 w : World) (g : Option V) (e : Ending) (w' : World) : Prop :=
 Grow w w' ∧ ∃ (c : Cv) (t : Bool) (u : V), e = .returned (.tuple #[c.agg, .bool t]) ∧ In w0 u c ∧ ((g = some u ∧ t = true) ∨ (g = none ∧ t = false ∧ u = V.zero ∧ c = Cv.zero))
theorem StepL.no {w0 w w' : World} {g : Option V} (h : g = none) (hg : Grow w w') : StepL w0 w g (.returned (.tuple #[Cv.zero.agg, .bool false])) w' :=
 ⟨hg, Cv.zero, false, V.zero, rfl, In.zero_ w0, .inr ⟨h, rfl, rfl, rfl⟩⟩
theorem StepL.yes {w0 w w' : World} {g : Option V} {u : V} {c : Cv} (h : g = some u) (hg : Grow w w') (hi : In w0 u c) : StepL w0 w g (.returned (.tuple #[c.agg, .bool true])) w' :=
 ⟨hg, c, true, u, rfl, hi, .inl ⟨h, rfl⟩⟩
theorem step_res {F : Func} {W : World} {vb : Nat} {tmps : Array Value} {u : Value} (hF : F.results = #[ResultVar.cell 4 27, ResultVar.tmp 5]) (h2 : tmps.getD 4 undef = .pointer (some ⟨vb, 0, none⟩)) (h3 : tmps.getD 5 undef = u) (c : Cv) (hv : Blk W vb 27 c.cells) :
 (results F tmps).run Tryz.prog W = .ok (.tuple #[c.agg, u]) W := by
 have hl := run_loadVar_row (P := Tryz.prog) W vb 27 27 c.cells (0, 0) _ hv Tryz.underlying27 rfl info_val;have h2' : tmps[4]?.getD undef = .pointer (some ⟨vb, 0, none⟩) := by simpa using h2
 have h3' : tmps[5]?.getD undef = u := by simpa using h3
 simp [results, hF, h2', h3', asAddr, hl]
theorem stepV_list {n : Nat} {b : List UInt8} {l : List V} {f : List (ByteArray × V)} {s : ByteArray} : stepV (.mk 7 n b l f) s = if 0 ≤ ixN s.data.toList then l[(ixN s.data.toList).toNat]? else none := by
 simp [stepV]
theorem step_list (n : Nat) (b : List UInt8) (l : List V) (f : List (ByteArray × V)) (s : ByteArray) (c : Cv) (w0 w : World) (hg0 : Grow w0 w) (hv : In w0 (.mk 7 n b l f) c) :
 Calls Tryz.prog 48 #[c.agg, .string s] w (StepL w0 w (stepV (.mk 7 n b l f) s)) := by
 rw [stepV_list];obtain ⟨z, hz⟩ : ∃ z, ixN s.data.toList = z := ⟨_, rfl⟩;have HI := hide (fun w => vindex_any s w);rw [hz] at HI ⊢;clear hz;obtain ⟨aB, aL, aF, cB, cL, cF, rfl, -, -, -, -, -, h6, h7, -⟩ := hv.open;have HG := hide (fun x : Cv => ((Grow.refl w).alloc (.cells (Cv.cells ⟨7, (n : Int), aB, b.length, cB, aL, l.length, cL, aF, f.length, cF⟩) 27)).alloc (.cells x.cells 27));have HB := hide (fun x : Cv => Blk.new' (w := w.alloc (.cells (Cv.cells ⟨7, (n : Int), aB, b.length, cB, aL, l.length, cL, aF, f.length, cF⟩) 27)) (g := w.heap.size + 1) (by simp) 27 x.cells);have HV := hide hv;by_cases hz0 : 0 ≤ z
 ·rw [if_pos hz0];by_cases hz1 : z < l.length
  ·obtain ⟨i, rfl⟩ : ∃ i : Nat, z = i := ⟨z.toNat, by omega⟩;have hi : i < l.length := by omega
   rw [Int.toNat_natCast, List.getElem?_eq_getElem hi];obtain ⟨bk, o, x, ha, hbk, e0, e1, e2, e3, e4, hx⟩ := hv.elemL i hi;dsimp only at ha;subst ha;replace e0 := (hg0.below.cell hbk).trans e0; replace e1 := (hg0.below.cell hbk).trans e1; replace e2 := (hg0.below.cell hbk).trans e2; replace e3 := (hg0.below.cell hbk).trans e3; replace e4 := (hg0.below.cell hbk).trans e4;replace hbk := Nat.lt_of_lt_of_le hbk hg0.size;have HX := hide hx;clear hx hv hz0 hz1 hg0;go_enter Tryz.func48, Tryz.ntmps48;go_wp2_with (go_at_call 91; refine (HI.out _).mono ?_; rintro e w' ⟨rfl, rfl⟩);refine bodyPost_ret (step_res rfl rfl rfl x (HB.out x)) rfl (StepL.yes rfl (HG.out x) HX.out)
  have hn : l[z.toNat]? = none := List.getElem?_eq_none (by omega);have HN := hide hn;clear hn;go_enter Tryz.func48, Tryz.ntmps48;go_wp2_with (go_at_call 91; refine (HI.out _).mono ?_; rintro e w' ⟨rfl, rfl⟩);refine bodyPost_ret (step_res rfl rfl rfl Cv.zero (HB.out Cv.zero)) rfl (StepL.no HN.out (HG.out Cv.zero))
 rw [if_neg hz0];go_enter Tryz.func48, Tryz.ntmps48;go_wp2_with (go_at_call 91; refine (HI.out _).mono ?_; rintro e w' ⟨rfl, rfl⟩);refine bodyPost_ret (step_res rfl rfl rfl Cv.zero (HB.out Cv.zero)) rfl (StepL.no rfl (HG.out Cv.zero))
theorem stepV_doc {k : Int} (hk : k ≠ 7) {n : Nat} {b : List UInt8} {l : List V} {f : List (ByteArray × V)} {s : ByteArray} : stepV (.mk k n b l f) s = (f.find? fun x => decide (x.1 = s)).map Prod.snd := by
 simp [stepV, hk]
theorem find_at {f : List (ByteArray × V)} {s : ByteArray} {j : Nat} (h : j < f.length) (h0 : ∀ i (hi : i < f.length), i < j → f[i].1 ≠ s) (he : f[j].1 = s) : (f.find? fun x => decide (x.1 = s)) = some f[j] := by
 induction f generalizing j with
 | nil => simp at h
 | cons x r ih =>
  cases j with
  | zero =>
   simp only [List.getElem_cons_zero] at he ⊢;rw [List.find?_cons, decide_eq_true he]
  | succ j =>
   have hx := h0 0 (by simp) (by omega);simp only [List.getElem_cons_zero] at hx;simp only [List.getElem_cons_succ] at he ⊢;rw [List.find?_cons, decide_eq_false hx];exact ih (by simpa using h) (fun i hi hij => by have := h0 (i + 1) (by simpa using hi) (by omega); simpa using this) he
theorem find_no {f : List (ByteArray × V)} {s : ByteArray} (h0 : ∀ i (hi : i < f.length), f[i].1 ≠ s) : (f.find? fun x => decide (x.1 = s)) = none := by
 rw [List.find?_eq_none];intro x hx;obtain ⟨i, hi, rfl⟩ := List.getElem_of_mem hx;simpa using h0 i hi
theorem step_doc (k : Int) (hk : k ≠ 7) (n : Nat) (b : List UInt8) (l : List V) (f : List (ByteArray × V)) (s : ByteArray) (c : Cv) (w0 w : World) (hg0 : Grow w0 w) (hv : In w0 (.mk k n b l f) c) :
 Calls Tryz.prog 48 #[c.agg, .string s] w (StepL w0 w (stepV (.mk k n b l f) s)) := by
 rw [stepV_doc hk];obtain ⟨aB, aL, aF, cB, cL, cF, rfl, -, -, -, -, -, -, -, h8, h9, -⟩ := hv.open;have HG := hide (((Grow.refl w).alloc (.cells (Cv.cells ⟨k, (n : Int), aB, b.length, cB, aL, l.length, cL, aF, f.length, cF⟩) 27)).alloc (.cells Cv.zero.cells 27));have HB := hide (Blk.new' (w := w.alloc (.cells (Cv.cells ⟨k, (n : Int), aB, b.length, cB, aL, l.length, cL, aF, f.length, cF⟩) 27)) (g := w.heap.size + 1) (by simp) 27 Cv.zero.cells);have HV := hide hv;have hkq : (k == 7) = false := by simpa using hk
 have HG0 := hide hg0;clear hv hk hg0;go_enter Tryz.func48, Tryz.ntmps48;go_wp2_with fail;go_loopg [8, 32] (f.length + 1) (fun gk x i wr => ∃ j : Nat, j ≤ f.length ∧ gk + j = f.length + 1 ∧ i = .int .i64 j ∧ (∀ i (hi : i < f.length), i < j → f[i].1 ≠ s) ∧ Grow w wr ∧ Blk wr (w.heap.size + 1) 27 Cv.zero.cells)
 case atStart => exact ⟨0, by omega, by omega, rfl, fun i _ h => absurd h (by omega), HG.out, HB.out⟩
 case round =>
  obtain ⟨j, hj, hgk, rfl, hne, hw, hB⟩ := hrel;have HN := hide hne;have HW := hide hw;have HBr := hide hB;by_cases hlt : j < f.length
  ·obtain ⟨gk', rfl⟩ := gk_ gk (by omega);obtain ⟨bk, o, x, ha, hbk, es, esz, e0, e1, e2, e3, e4, hx⟩ := HV.out.elemF j hlt;replace es := ((HG0.out.trans hw).below.cell hbk).trans es; replace e0 := ((HG0.out.trans hw).below.cell hbk).trans e0; replace e1 := ((HG0.out.trans hw).below.cell hbk).trans e1; replace e2 := ((HG0.out.trans hw).below.cell hbk).trans e2; replace e3 := ((HG0.out.trans hw).below.cell hbk).trans e3; replace e4 := ((HG0.out.trans hw).below.cell hbk).trans e4;replace hbk := Nat.lt_of_lt_of_le hbk (HG0.out.trans hw).size;dsimp only at ha;subst ha;have HX := hide hx;obtain ⟨q, hq⟩ : ∃ q, f[j].1 = q := ⟨_, rfl⟩;rw [hq] at es;have HQ := hide hq;have HWA := hide (fun cs => hw.alloc (.cells cs 82));have HBA := hide (fun cs => hB.alloc (.cells cs 82))
   have hc1 := (HBA.out #[.string q, .int .i64 x.k, .int .u64 x.n, .slice x.aB x.nB x.cB, .slice x.aL x.nL x.cL, .slice x.aF x.nF x.cF]).cell;have hlt1 := (HBA.out #[.string q, .int .i64 x.k, .int .u64 x.n, .slice x.aB x.nB x.cB, .slice x.aL x.nL x.cL, .slice x.aF x.nF x.cF]).lt;have hz1 := (HBA.out #[.string q, .int .i64 x.k, .int .u64 x.n, .slice x.aB x.nB x.cB, .slice x.aL x.nL x.cL, .slice x.aF x.nF x.cF]).frozen;clear hne hw hB hx hq;by_cases he : q = s
   ·subst he;have HF := hide (show (f.find? fun x => decide (x.1 = q)).map Prod.snd = some f[j].2 by rw [find_at hlt HN.out HQ.out]; rfl);go_wp2_with fail;refine bodyPost_ret (step_res rfl rfl rfl x (set5_from (c := x) (HBA.out _))) rfl (StepL.yes HF.out ((HWA.out _).set5v (Nat.le_succ _) x) HX.out)
   have HE := hide he;have he2 : (q.toList == s.toList) = false := by
    simp only [beq_eq_false_iff_ne, ne_eq];intro h;rw [toList_data, toList_data] at h;exact he (ByteArray.ext (Array.ext' h))
   clear he;go_wp2_with fail;go_roundg gk'
   case measure => omega
   case rel =>
    refine ⟨j + 1, by omega, by omega, by go_num, fun i hi hij => ?_, HWA.out _, HBA.out _⟩;by_cases hij2 : i = j
    ·subst hij2;rw [HQ.out];exact HE.out
    exact HN.out i hi (by omega)
  obtain ⟨gk', rfl⟩ := gk_ gk (by omega);obtain rfl : j = f.length := by omega
  have HF := hide (show (f.find? fun x => decide (x.1 = s)).map Prod.snd = none by rw [find_no (fun i hi => HN.out i hi hi)]; rfl);have hc1 := HBr.out.cell;have hlt1 := HBr.out.lt;have hz1 := HBr.out.frozen;clear hne hw hB;go_wp2_with fail;refine bodyPost_ret (step_res rfl rfl rfl Cv.zero (set5_blk (c := Cv.zero) HBr.out)) rfl (StepL.no HF.out (HW.out.set5v (Nat.le_succ _) Cv.zero))
theorem step_any (v : V) (s : ByteArray) (c : Cv) (w0 w : World) (hg0 : Grow w0 w) (hv : In w0 v c) : Calls Tryz.prog 48 #[c.agg, .string s] w (StepL w0 w (stepV v s)) := by
 obtain ⟨k, n, b, l, f⟩ := v;by_cases hk : k = 7
 ·subst hk;exact step_list n b l f s c w0 w hg0 hv
 exact step_doc k hk n b l f s c w0 w hg0 hv
end
section
open Go.RowKit
abbrev idS : ByteArray := ⟨#[95, 105, 100]⟩
theorem idS_list : idS.toList = [95, 105, 100] := by decide +kernel
def idP (v : V) : Option V := (v.f.find? fun x => decide (x.1 = idS)).map Prod.snd
theorem id_res {F : Func} {W : World} {vb : Nat} {tmps : Array Value} {u : Value} (hF : F.results = #[ResultVar.cell 2 27, ResultVar.tmp 3]) (h2 : tmps.getD 2 undef = .pointer (some ⟨vb, 0, none⟩)) (h3 : tmps.getD 3 undef = u) (c : Cv) (hv : Blk W vb 27 c.cells) :
 (results F tmps).run Tryz.prog W = .ok (.tuple #[c.agg, u]) W := by
 have hl := run_loadVar_row (P := Tryz.prog) W vb 27 27 c.cells (0, 0) _ hv Tryz.underlying27 rfl info_val;have h2' : tmps[2]?.getD undef = .pointer (some ⟨vb, 0, none⟩) := by simpa using h2
 have h3' : tmps[3]?.getD undef = u := by simpa using h3
 simp [results, hF, h2', h3', asAddr, hl]
theorem id_mk (k : Int) (n : Nat) (b : List UInt8) (l : List V) (f : List (ByteArray × V)) (c : Cv) (w0 w : World) (hg0 : Grow w0 w) (hv : In w0 (.mk k n b l f) c) :
 Calls Tryz.prog 52 #[c.agg] w (StepL w0 w (idP (.mk k n b l f))) := by
 obtain ⟨s, hs⟩ : ∃ s, s = idS := ⟨_, rfl⟩;rw [show idP (.mk k n b l f) = (f.find? fun x => decide (x.1 = s)).map Prod.snd by rw [hs]; rfl];have HS := hide hs;clear hs;obtain ⟨aB, aL, aF, cB, cL, cF, rfl, -, -, -, -, -, -, -, h8, h9, -⟩ := hv.open;have HG := hide (((Grow.refl w).alloc (.cells (Cv.cells ⟨k, (n : Int), aB, b.length, cB, aL, l.length, cL, aF, f.length, cF⟩) 27)).alloc (.cells Cv.zero.cells 27));have HB := hide (Blk.new' (w := w.alloc (.cells (Cv.cells ⟨k, (n : Int), aB, b.length, cB, aL, l.length, cL, aF, f.length, cF⟩) 27)) (g := w.heap.size + 1) (by simp) 27 Cv.zero.cells);have HV := hide hv;have HG0 := hide hg0;clear hv hg0;go_enter Tryz.func52, Tryz.ntmps52;go_wp2_with fail
 go_loopg [5, 9] (f.length + 1) (fun gk x i wr => ∃ j : Nat, j ≤ f.length ∧ gk + j = f.length + 1 ∧ i = .int .i64 j ∧ (∀ i (hi : i < f.length), i < j → f[i].1 ≠ s) ∧ Grow w wr ∧ Blk wr (w.heap.size + 1) 27 Cv.zero.cells)
 case atStart => exact ⟨0, by omega, by omega, rfl, fun i _ h => absurd h (by omega), HG.out, HB.out⟩
 case round =>
  obtain ⟨j, hj, hgk, rfl, hne, hw, hB⟩ := hrel;have HN := hide hne;have HW := hide hw;have HBr := hide hB;by_cases hlt : j < f.length
  ·obtain ⟨gk', rfl⟩ := gk_ gk (by omega);obtain ⟨bk, o, x, ha, hbk, es, esz, e0, e1, e2, e3, e4, hx⟩ := HV.out.elemF j hlt;replace es := ((HG0.out.trans hw).below.cell hbk).trans es; replace e0 := ((HG0.out.trans hw).below.cell hbk).trans e0; replace e1 := ((HG0.out.trans hw).below.cell hbk).trans e1; replace e2 := ((HG0.out.trans hw).below.cell hbk).trans e2; replace e3 := ((HG0.out.trans hw).below.cell hbk).trans e3; replace e4 := ((HG0.out.trans hw).below.cell hbk).trans e4;replace hbk := Nat.lt_of_lt_of_le hbk (HG0.out.trans hw).size;dsimp only at ha;subst ha;have HX := hide hx;obtain ⟨q, hq⟩ : ∃ q, f[j].1 = q := ⟨_, rfl⟩;rw [hq] at es;have HQ := hide hq;have HWA := hide (fun cs => hw.alloc (.cells cs 82));have HBA := hide (fun cs => hB.alloc (.cells cs 82))
   have hc1 := (HBA.out #[.string q, .int .i64 x.k, .int .u64 x.n, .slice x.aB x.nB x.cB, .slice x.aL x.nL x.cL, .slice x.aF x.nF x.cF]).cell;have hlt1 := (HBA.out #[.string q, .int .i64 x.k, .int .u64 x.n, .slice x.aB x.nB x.cB, .slice x.aL x.nL x.cL, .slice x.aF x.nF x.cF]).lt;have hz1 := (HBA.out #[.string q, .int .i64 x.k, .int .u64 x.n, .slice x.aB x.nB x.cB, .slice x.aL x.nL x.cL, .slice x.aF x.nF x.cF]).frozen;clear hne hw hB hx hq;by_cases he : q = s
   ·have he2 : (q.toList == [95, 105, 100]) = true := by rw [← idS_list, he, ← HS.out]; simp
    subst he;have HF := hide (show (f.find? fun x => decide (x.1 = q)).map Prod.snd = some f[j].2 by rw [find_at hlt HN.out HQ.out]; rfl);go_wp2_with fail;refine bodyPost_ret (id_res rfl rfl rfl x (set5_from (c := x) (HBA.out _))) rfl (StepL.yes HF.out ((HWA.out _).set5v (Nat.le_succ _) x) HX.out)
   have HE := hide he;have he2 : (q.toList == [95, 105, 100]) = false := by
    rw [← idS_list, ← HS.out];simp only [beq_eq_false_iff_ne, ne_eq];intro h;rw [toList_data, toList_data] at h;exact he (ByteArray.ext (Array.ext' h))
   clear he;go_wp2_with fail;go_roundg gk'
   case measure => omega
   case rel =>
    refine ⟨j + 1, by omega, by omega, by go_num, fun i hi hij => ?_, HWA.out _, HBA.out _⟩;by_cases hij2 : i = j
    ·subst hij2;rw [HQ.out];exact HE.out
    exact HN.out i hi (by omega)
  obtain ⟨gk', rfl⟩ := gk_ gk (by omega);obtain rfl : j = f.length := by omega
  have HF := hide (show (f.find? fun x => decide (x.1 = s)).map Prod.snd = none by rw [find_no (fun i hi => HN.out i hi hi)]; rfl);have hc1 := HBr.out.cell;have hlt1 := HBr.out.lt;have hz1 := HBr.out.frozen;clear hne hw hB;go_wp2_with fail;refine bodyPost_ret (id_res rfl rfl rfl Cv.zero (set5_blk (c := Cv.zero) HBr.out)) rfl (StepL.no HF.out (HW.out.set5v (Nat.le_succ _) Cv.zero))
theorem id_any (v : V) (c : Cv) (w0 w : World) (hg0 : Grow w0 w) (hv : In w0 v c) : Calls Tryz.prog 52 #[c.agg] w (StepL w0 w (idP v)) := by
 obtain ⟨k, n, b, l, f⟩ := v;exact id_mk k n b l f c w0 w hg0 hv
end
section
open Go.RowKit Go.Shelf
noncomputable def cmpV (u v : V) : Int × Int := if orC u.good v.good = 0 then (V.cmp u v, 0) else (0, orC u.good v.good)
theorem orC_zero {a b : Int} (h : orC a b = 0) : a = 0 ∧ b = 0 := by
 unfold orC at h;split at h
 ·exact ⟨by assumption, h⟩
 contradiction
theorem kvcompare_any (u v : V) (c d : Cv) (w : World) (hu : u.mild) (hv : v.mild) (hT : Tabs w) (h : In w u c) (k : In w v d) :
 Calls Tryz.prog 22 #[c.agg, d.agg] w fun e w' => e = .returned (.tuple #[.int .i64 (cmpV u v).1, .int .i64 (cmpV u v).2]) ∧ Grow w w' := by
 have HG0 := hide (((Grow.refl w).alloc (.cells c.cells 27)).alloc (.cells d.cells 27));have HB0 := hide ((Blk.new w 27 c.cells).alloc (.cells d.cells 27));have HD0 := hide (Blk.new' (w := w.alloc (.cells c.cells 27)) (g := w.heap.size + 1) (by simp) 27 d.cells);have HU := hide (fun w2 (hg : Grow w w2) => good_anyM u w2 c hu (hT.grow hg) (h.grow hg));have HV := hide (fun w2 (hg : Grow w w2) => good_anyM v w2 d hv (hT.grow hg) (k.grow hg));have HC := hide (fun w2 (hg : Grow w w2) (h1 : u.formed = true) (h2 : v.formed = true) => vcompare_any u v h1 h2 w2 c d (h.grow hg) (k.grow hg));obtain ⟨g1, hg1⟩ : ∃ g, u.good = g := ⟨_, rfl⟩;obtain ⟨g2, hg2⟩ : ∃ g, v.good = g := ⟨_, rfl⟩;have HE := hide (show cmpV u v = if orC g1 g2 = 0 then (V.cmp u v, 0) else (0, orC g1 g2) by unfold cmpV; rw [hg1, hg2]);rw [hg1] at HU;rw [hg2] at HV;have HG1 := hide hg1;have HG2 := hide hg2
 have HO := hide (fun g cap t w2 hB => ore_any g1 g2 g cap t w2 hB);obtain ⟨z, hz⟩ : ∃ z, orC g1 g2 = z := ⟨_, rfl⟩;rw [hz] at HO HE;have HZ := hide hz;have hc0 := HB0.out.cell;have hd0 := HD0.out.cell;have hl0 := HB0.out.lt;have hm0 := HD0.out.lt;clear hu hv hT h k hg1 hg2 hz;by_cases h0 : z = 0
 ·subst h0;have hform := orC_zero HZ.out;have f1 := V.good_formed (v := u) (by rw [HG1.out]; exact hform.1);have f2 := V.good_formed (v := v) (by rw [HG2.out]; exact hform.2);have HF := hide (And.intro f1.1 f2.1);rw [if_pos rfl] at HE;clear hform f1 f2;go_enter Tryz.func22, Tryz.ntmps22;go_wp2_with fail;go_region_held3 (fun w' => (∀ q, w'.cell? ⟨w.heap.size, q, none⟩ = c.cells[q]?) ∧ (∀ q, w'.cell? ⟨w.heap.size + 1, q, none⟩ = d.cells[q]?)) (first | go_keep | exact ⟨hcx, hdx⟩ | exact ⟨hcy, hdy⟩ | exact ⟨hcz, hdz⟩)
   (first | ((with_reducible refine (HU.out _ HGX.out).mono ?_); rintro e wx ⟨rfl, hgx⟩; have HGY := hide ((HGX.out.trans hgx).alloc (.cells #[.int .i64 g1, .int .i64 g2] 29)); have HBY := hide ((HBX.out.grow hgx).alloc (.cells #[.int .i64 g1, .int .i64 g2] 29)); have HDY := hide ((HDX.out.grow hgx).alloc (.cells #[.int .i64 g1, .int .i64 g2] 29)); have hcy := (HBX.out.grow hgx).cell; have hdy := (HDX.out.grow hgx).cell; have hcz := HBY.out.cell; have hdz := HDY.out.cell; have hlz := HBY.out.lt; have hmz := HDY.out.lt; clear hgx) | ((with_reducible refine (HV.out _ HGX.out).mono ?_); rintro e wx ⟨rfl, hgx⟩; have HGY := hide ((HGX.out.trans hgx).alloc (.cells #[.int .i64 g1, .int .i64 g2] 29)); have HBY := hide ((HBX.out.grow hgx).alloc (.cells #[.int .i64 g1, .int .i64 g2] 29)); have HDY := hide ((HDX.out.grow hgx).alloc (.cells #[.int .i64 g1, .int .i64 g2] 29)); have hcy := (HBX.out.grow hgx).cell; have hdy := (HDX.out.grow hgx).cell; have hcz := HBY.out.cell; have hdz := HDY.out.cell; have hlz := HBY.out.lt; have hmz := HDY.out.lt; clear hgx) | ((with_reducible refine (HU.out _ HG0.out.drew).mono ?_); rintro e wx ⟨rfl, hgx⟩; have HGX := hide (HG0.out.drew.trans hgx); have HBX := hide (HB0.out.drew.grow hgx); have HDX := hide (HD0.out.drew.grow hgx); have hcx := HBX.out.cell; have hdx := HDX.out.cell; have hlx := HBX.out.lt; have hmx := HDX.out.lt; clear hgx) | ((with_reducible refine (HV.out _ HG0.out.drew).mono ?_); rintro e wx ⟨rfl, hgx⟩; have HGX := hide (HG0.out.drew.trans hgx); have HBX := hide (HB0.out.drew.grow hgx); have HDX := hide (HD0.out.drew.grow hgx); have hcx := HBX.out.cell; have hdx := HDX.out.cell; have hlx := HBX.out.lt; have hmx := HDX.out.lt; clear hgx) | (go_at_call 49; refine (HO.out _ _ _ _ (Blk.new _ _ _)).mono ?_; rintro e wz ⟨rfl, rfl⟩))
  all_goals
   go_wp2_with fail
   refine (HC.out _ HGY.out HF.out.1 HF.out.2).mono ?_
   rintro e w2 ⟨rfl, hg⟩
   have HGZ := hide (HGY.out.trans hg)
   clear hg
   go_wp2_with fail
   go_ret2
   exact ⟨by rw [HE.out]; rfl, HGZ.out⟩
 have hzq : (z != 0) = true := by simpa using h0
 rw [if_neg h0] at HE;clear h0;go_enter Tryz.func22, Tryz.ntmps22;go_wp2_with fail;go_region_held3 (fun w' => (∀ q, w'.cell? ⟨w.heap.size, q, none⟩ = c.cells[q]?) ∧ (∀ q, w'.cell? ⟨w.heap.size + 1, q, none⟩ = d.cells[q]?)) (first | go_keep | exact ⟨hcx, hdx⟩ | exact ⟨hcy, hdy⟩ | exact ⟨hcz, hdz⟩)
  (first | ((with_reducible refine (HU.out _ HGX.out).mono ?_); rintro e wx ⟨rfl, hgx⟩; have HGY := hide ((HGX.out.trans hgx).alloc (.cells #[.int .i64 g1, .int .i64 g2] 29)); have HBY := hide ((HBX.out.grow hgx).alloc (.cells #[.int .i64 g1, .int .i64 g2] 29)); have HDY := hide ((HDX.out.grow hgx).alloc (.cells #[.int .i64 g1, .int .i64 g2] 29)); have hcy := (HBX.out.grow hgx).cell; have hdy := (HDX.out.grow hgx).cell; have hcz := HBY.out.cell; have hdz := HDY.out.cell; have hlz := HBY.out.lt; have hmz := HDY.out.lt; clear hgx) | ((with_reducible refine (HV.out _ HGX.out).mono ?_); rintro e wx ⟨rfl, hgx⟩; have HGY := hide ((HGX.out.trans hgx).alloc (.cells #[.int .i64 g1, .int .i64 g2] 29)); have HBY := hide ((HBX.out.grow hgx).alloc (.cells #[.int .i64 g1, .int .i64 g2] 29)); have HDY := hide ((HDX.out.grow hgx).alloc (.cells #[.int .i64 g1, .int .i64 g2] 29)); have hcy := (HBX.out.grow hgx).cell; have hdy := (HDX.out.grow hgx).cell; have hcz := HBY.out.cell; have hdz := HDY.out.cell; have hlz := HBY.out.lt; have hmz := HDY.out.lt; clear hgx) | ((with_reducible refine (HU.out _ HG0.out.drew).mono ?_); rintro e wx ⟨rfl, hgx⟩; have HGX := hide (HG0.out.drew.trans hgx); have HBX := hide (HB0.out.drew.grow hgx); have HDX := hide (HD0.out.drew.grow hgx); have hcx := HBX.out.cell; have hdx := HDX.out.cell; have hlx := HBX.out.lt; have hmx := HDX.out.lt; clear hgx) | ((with_reducible refine (HV.out _ HG0.out.drew).mono ?_); rintro e wx ⟨rfl, hgx⟩; have HGX := hide (HG0.out.drew.trans hgx); have HBX := hide (HB0.out.drew.grow hgx); have HDX := hide (HD0.out.drew.grow hgx); have hcx := HBX.out.cell; have hdx := HDX.out.cell; have hlx := HBX.out.lt; have hmx := HDX.out.lt; clear hgx) | (go_at_call 49; refine (HO.out _ _ _ _ (Blk.new _ _ _)).mono ?_; rintro e wz ⟨rfl, rfl⟩))
 all_goals
  go_wp2_with fail
  go_ret2
  exact ⟨by rw [HE.out]; rfl, HGY.out⟩
end
section
open Go.RowKit
noncomputable def withinP (v lo hi : V) : Bool := (decide (lo.k = 0) || decide (0 ≤ (cmpV v lo).1)) && (decide (hi.k = 0) || decide ((cmpV v hi).1 ≤ 0))
theorem In.k_ {w : World} {v : V} {c : Cv} (h : In w v c) : c.k = v.k := by
 obtain ⟨k, n, b, l, f⟩ := v;obtain ⟨aB, aL, aF, cB, cL, cF, rfl, _⟩ := In.open h;rfl
theorem within_any (v lo hi : V) (c cl ch : Cv) (w : World) (h1 : v.mild) (h2 : lo.mild) (h3 : hi.mild) (hT : Tabs w) (hv : In w v c) (hl : In w lo cl) (hh : In w hi ch) :
 Calls Tryz.prog 128 #[c.agg, cl.agg, ch.agg] w fun e w' => e = .returned (.bool (withinP v lo hi)) ∧ Grow w w' := by
 have HG0 := hide ((((Grow.refl w).alloc (.cells c.cells 27)).alloc (.cells cl.cells 27)).alloc (.cells ch.cells 27));have HA0 := hide (((Blk.new w 27 c.cells).alloc (.cells cl.cells 27)).alloc (.cells ch.cells 27));have HB0 := hide ((Blk.new' (w := w.alloc (.cells c.cells 27)) (g := w.heap.size + 1) (by simp) 27 cl.cells).alloc (.cells ch.cells 27));have HC0 := hide (Blk.new' (w := (w.alloc (.cells c.cells 27)).alloc (.cells cl.cells 27)) (g := w.heap.size + 1 + 1) (by simp) 27 ch.cells);have hA := HA0.out.cell;have hB := HB0.out.cell;have hC := HC0.out.cell;have HKL := hide (In.k_ hl);have HKH := hide (In.k_ hh);have HL := hide (fun w2 (hg : Grow w w2) => kvcompare_any v lo c cl w2 h1 h2 (hT.grow hg) (hv.grow hg) (hl.grow hg));have HH := hide (fun w2 (hg : Grow w w2) => kvcompare_any v hi c ch w2 h1 h3 (hT.grow hg) (hv.grow hg) (hh.grow hg))
 obtain ⟨⟨x, xe⟩, hx⟩ : ∃ r, cmpV v lo = r := ⟨_, rfl⟩;obtain ⟨⟨y, ye⟩, hy⟩ : ∃ r, cmpV v hi = r := ⟨_, rfl⟩;rw [hx] at HL;rw [hy] at HH;have HW := hide (show withinP v lo hi = ((decide (cl.k = 0) || decide (0 ≤ x)) && (decide (ch.k = 0) || decide (y ≤ 0))) by unfold withinP; rw [hx, hy, HKL.out, HKH.out]);obtain ⟨R, hR⟩ : ∃ R, withinP v lo hi = R := ⟨_, rfl⟩;rw [hR] at HW ⊢;clear h1 h2 h3 hT hv hl hh hx hy hR;have second : ∀ (W : World), Grow w W → True := fun _ _ => trivial
 clear second;by_cases k1 : cl.k = 0
 ·have hk1 : (cl.k == 0) = true := by rw [k1]; rfl
  have K1 := hide k1;clear k1;by_cases k2 : ch.k = 0
  ·have hk2 : (ch.k == 0) = true := by rw [k2]; rfl
   have K2 := hide k2;clear k2;go_enter Tryz.func128, Tryz.ntmps128;go_wp2_with fail;go_ret;exact ⟨by rw [HW.out]; simp [K1.out, K2.out], HG0.out⟩
  have hk2 : (ch.k == 0) = false := by simpa using k2
  have K2 := hide k2;clear k2;go_enter Tryz.func128, Tryz.ntmps128;go_wp2_with fail;refine (HH.out _ HG0.out).mono ?_;rintro e w1 ⟨rfl, hg⟩;have HG1 := hide (HG0.out.trans hg);clear hg;by_cases hy0 : 0 < y
  ·go_wp2_with fail;go_ret;exact ⟨by rw [HW.out]; simp [K1.out, K2.out]; omega, HG1.out⟩
  go_wp2_with fail;go_ret;exact ⟨by rw [HW.out]; simp [K1.out, K2.out]; omega, HG1.out⟩
 have hk1 : (cl.k == 0) = false := by simpa using k1
 have K1 := hide k1;clear k1;go_enter Tryz.func128, Tryz.ntmps128;go_wp2_with fail;refine (HL.out _ HG0.out).mono ?_;rintro e w1 ⟨rfl, hg⟩;have HG1 := hide (HG0.out.trans hg);have hA1 := (HA0.out.grow hg).cell;have hC1 := (HC0.out.grow hg).cell;have hlA := (HA0.out.grow hg).lt;have hlC := (HC0.out.grow hg).lt;clear hg hA hB hC;by_cases hx0 : x < 0
 ·go_wp2_with fail;go_ret;exact ⟨by rw [HW.out]; simp [K1.out]; intro h; omega, HG1.out⟩
 by_cases k2 : ch.k = 0
 ·have hk2 : (ch.k == 0) = true := by rw [k2]; rfl
  have K2 := hide k2;clear k2;go_wp2_with fail;go_ret;exact ⟨by rw [HW.out]; simp [K1.out, K2.out]; omega, HG1.out⟩
 have hk2 : (ch.k == 0) = false := by simpa using k2
 have K2 := hide k2;clear k2;go_wp2_with fail;refine (HH.out _ HG1.out).mono ?_;rintro e w2 ⟨rfl, hg⟩;have HG2 := hide (HG1.out.trans hg);clear hg;by_cases hy0 : 0 < y
 ·go_wp2_with fail;go_ret;exact ⟨by rw [HW.out]; simp [K1.out, K2.out]; omega, HG2.out⟩
 go_wp2_with fail;go_ret;exact ⟨by rw [HW.out]; simp [K1.out, K2.out]; omega, HG2.out⟩
end

end Go.Proofs.YtndjopkdbdcmdaaGreatDoor
