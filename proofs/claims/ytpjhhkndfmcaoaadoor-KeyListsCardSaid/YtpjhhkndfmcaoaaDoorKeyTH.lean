/- Walk of munimentlaw4.is: has a value this key. · Walk of key.Back, where Parts is given. -/
import Derived.Test.YtpjhhkndfmcaoaaDoorKeyLD
set_option linter.unusedVariables false
set_option linter.unusedSimpArgs false
namespace Go.Proofs.YtpjhhkndfmcaoaaDoor
open Go.RowKit Go.Shelf Go.WideShapes

theorem isv_in {w : World} {lo : Nat} {v : V} {c : Cv} (h : IsV (AtW w lo w.heap.size) v c) : In w v c := IsV.mono (fun _ _ h => ⟨h.1, Nat.zero_le _, h.2.2⟩) v c h
theorem isv_grow {w w' : World} {lo : Nat} {v : V} {c : Cv} (h : IsV (AtW w lo w.heap.size) v c) (hb : Grow w w') : IsV (AtW w' lo w'.heap.size) v c :=
  IsV.mono (AtW.below hb.below (Nat.le_refl _) (Nat.le_refl _) hb.size) v c h
theorem isv_set {w : World} {lo : Nat} {v : V} {c : Cv} (h : IsV (AtW w lo w.heap.size) v c) {p : Addr} (hp : p.block < lo) (u : Value) : IsV (AtW (w.setCell p u) lo (w.setCell p u).heap.size) v c := by
  refine IsV.mono (fun a x ha => ?_) v c h
  have hne : a.block ≠ p.block := by have := ha.2.1; omega
  refine ⟨(World.cell?_of_block (a := a) (Below.heap_setCell w p u a.block hne)).trans ha.1, ha.2.1, ?_⟩
  have := ha.2.2
  simpa using this
theorem isv_set5 {w : World} {lo vb : Nat} {v : V} {c : Cv} (h : IsV (AtW w lo w.heap.size) v c) (hp : vb < lo) (d : Cv) : IsV (AtW (set5 w vb d) lo (set5 w vb d).heap.size) v c :=
  isv_set (isv_set (isv_set (isv_set (isv_set h (p := ⟨vb, 0, none⟩) hp _) (p := ⟨vb, 1, none⟩) hp _) (p := ⟨vb, 2, none⟩) hp _) (p := ⟨vb, 3, none⟩) hp _) (p := ⟨vb, 4, none⟩) hp _
theorem Grow.set5v {a W : World} {vb : Nat} (h : Grow a W) (hb : a.heap.size ≤ vb) (c : Cv) : Grow a (set5 W vb c) :=
  ((((h.setCell (p := ⟨vb, 0, none⟩) hb _).setCell (p := ⟨vb, 1, none⟩) hb _).setCell (p := ⟨vb, 2, none⟩) hb _).setCell (p := ⟨vb, 3, none⟩) hb _).setCell (p := ⟨vb, 4, none⟩) hb _
theorem back_res {F : Func} {W : World} {vb : Nat} {tmps : Array Value} {u : Value} (hF : F.results = #[ResultVar.cell 2 27, ResultVar.tmp 3]) (h2 : tmps.getD 2 undef = .pointer (some ⟨vb, 0, none⟩)) (h3 : tmps.getD 3 undef = u) (c : Cv) (hv : Blk W vb 27 c.cells) :
    (results F tmps).run Tryd.prog W = .ok (.tuple #[c.agg, u]) W := by
  have hl := run_loadVar_row (P := Tryd.prog) W vb 27 27 c.cells (0, 0) _ hv Tryd.underlying27 rfl info_val
  have h2' : tmps[2]?.getD undef = .pointer (some ⟨vb, 0, none⟩) := by simpa using h2
  have h3' : tmps[3]?.getD undef = u := by simpa using h3
  simp [results, hF, h2', h3', asAddr, hl]

/-- Has a value this key? -/
def isK (v : V) (b : List UInt8) : Bool := (ofK v).2 == 0 && (ofK v).1 == b

set_option maxRecDepth 100000 in
set_option maxHeartbeats 6400000 in
theorem is_any (v : V) (c : Cv) (b : List UInt8) (B : Option Addr) (bc : Nat) (w : World) (hfit : v.fit) (hcount : v.count ≤ 20000) (hT : Tabs w) (hv : In w v c) (hb : InB w B b) :
    Calls Tryd.prog 60 #[c.agg, .slice B b.length bc] w fun e w' => e = .returned (.bool (isK v b)) ∧ Grow w w' := by
  have HG0 := hide ((Grow.refl w).alloc (.cells c.cells 27))
  have hcell := (Blk.new w 27 c.cells).cell
  have HO := hide (of_any v c _ hfit hcount (hT.grow HG0.out) (hv.grow HG0.out))
  have HB := hide hb
  obtain ⟨KB, ke, hke⟩ : ∃ kb ke, ofK v = (kb, ke) := ⟨_, _, rfl⟩
  rw [hke] at HO
  have HKE := hide hke
  clear hT hv hb hfit hke
  go_enter Tryd.func60, Tryd.ntmps60
  go_wp2_with fail
  refine HO.out.mono ?_
  rintro e w2 ⟨base2, A2, c2, rfl, hb2, hr2, hg2⟩
  dsimp only at hr2 ⊢
  have HG2 := hide (HG0.out.trans hg2)
  have hs1 := conv_str c2 hr2.reads.1
  have hs2 := conv_str bc (HB.out.grow HG2.out)
  clear hr2 hg2 hb2 hcell
  by_cases hk0 : ke = 0
  · subst hk0
    go_wp2_with fail
    go_ret
    refine ⟨?_, HG2.out⟩
    unfold isK
    rw [HKE.out]
    rfl
  · have hkq : (ke == 0) = false := by simpa using hk0
    go_wp2_with fail
    go_ret
    refine ⟨?_, HG2.out⟩
    unfold isK
    rw [HKE.out]
    simp only [hkq, Bool.false_and]
    rfl
end Go.Proofs.YtpjhhkndfmcaoaaDoor

set_option linter.unusedVariables false
set_option linter.unusedSimpArgs false
namespace Go.Proofs.YtpjhhkndfmcaoaaDoor
open Go.RowKit Go.Shelf Go.WideShapes

/-- What key.Parts tells. -/
def KPartsC (w : World) (g : Option (List V)) (e : Ending) (w' : World) : Prop :=
  Grow w w' ∧ (∀ l, g = some l → ∃ A cap, e = .returned (.tuple #[.slice A l.length cap, .int .i64 0]) ∧ IsV (AtW w' w.heap.size w'.heap.size) (.mk 7 0 [] l []) (lcv A l.length cap)) ∧ (g = none → e = .returned (.tuple #[.slice none 0 0, .int .i64 14]))
/-- What key.Back tells. -/
def KBackC (w : World) (g : Option V) (e : Ending) (w' : World) : Prop :=
  Grow w w' ∧ (∀ v, g = some v → ∃ c : Cv, e = .returned (.tuple #[c.agg, .int .i64 0]) ∧ In w' v c) ∧ (g = none → e = .returned (.tuple #[Cv.zero.agg, .int .i64 14]))
theorem KBackC.no {w w' : World} {g : Option V} (h : g = none) (hg : Grow w w') : KBackC w g (.returned (.tuple #[Cv.zero.agg, .int .i64 14])) w' :=
  ⟨hg, fun v e => by (rw [h] at e; cases e), fun _ => rfl⟩
theorem KBackC.yes {w w' : World} {g : Option V} {v : V} {c : Cv} (h : g = some v) (hg : Grow w w') (hv : In w' v c) : KBackC w g (.returned (.tuple #[c.agg, .int .i64 0])) w' :=
  ⟨hg, fun u e => by (rw [h] at e; cases e; exact ⟨c, rfl, hv⟩), fun e => by (rw [h] at e; cases e)⟩
theorem isv_first {w : World} {lo cap : Nat} {A : Option Addr} {v : V} (h : IsV (AtW w lo w.heap.size) (.mk 7 0 [] [v] []) (lcv A 1 cap)) :
    ∃ bk o x, A = some ⟨bk, o, none⟩ ∧ bk < w.heap.size ∧ At5 (AtW w lo w.heap.size) bk o x ∧ IsV (AtW w lo w.heap.size) v x := by
  rw [IsV] at h
  obtain ⟨_, _, _, _, _, _, _, _, _, _, _, _, _, _, _, hL, _⟩ := h
  obtain ⟨bk, o, x, ha, h5, hv⟩ := hL 0 (by simp)
  exact ⟨bk, o, x, ha, h5.1.2.2, by simpa using h5, hv⟩

set_option maxRecDepth 100000 in
set_option maxHeartbeats 6400000 in
theorem kback_any (b : List UInt8) (B : Option Addr) (bc : Nat) (w : World) (hb : InB w B b)
    (hparts : ∀ W F fc, Grow w W → InB W B b → InBo W F [false] → Calls Tryd.prog 24 #[.slice B b.length bc, .slice F 1 fc] W (KPartsC W (partsK (kd false 17) [false] b))) :
    Calls Tryd.prog 17 #[.slice B b.length bc] w (KBackC w (backK (kd false 17) b)) := by
  have hg0 : Grow w (w.alloc (.cells Cv.zero.cells 27)) := (Grow.refl w).alloc _
  have hg1 := hg0.alloc (.cells #[.bool false] 4)
  have HG1 := hide hg1
  have HB1 := hide ((Blk.new w 27 Cv.zero.cells).alloc (.cells #[.bool false] 4))
  have hF : InBo ((w.alloc (.cells Cv.zero.cells 27)).alloc (.cells #[.bool false] 4)) (some ⟨w.heap.size + 1, 0, none⟩) [false] := by
    refine ⟨rfl, fun _ => ⟨_, _, rfl, fun j u hu => ?_⟩⟩
    have hn := Blk.new' (w := w.alloc (.cells Cv.zero.cells 27)) (g := w.heap.size + 1) (by simp) 4 #[.bool false]
    cases j with
    | zero => cases hu; exact ⟨hn.cell 0, Nat.zero_le _, hn.lt⟩
    | succ j => simp at hu
  have HP := hide (hparts _ _ 1 hg1 (hb.grow hg1) hF)
  rw [partsK_one] at HP
  clear hF hg0 hg1 hparts hb
  go_enter Tryd.func17, Tryd.ntmps17
  go_wp2_with fail
  refine HP.out.mono ?_
  rintro e w1 ⟨hg2, hy, hn⟩
  have HG2 := hide (HG1.out.trans hg2)
  have HB2 := hide (HB1.out.grow hg2)
  have hc1 := HB2.out.cell
  have hlt1 := HB2.out.lt
  have hz1 := HB2.out.frozen
  cases hk : backK (kd false 17) b with
  | none =>
    have HKK := hide hk
    rw [hk] at hn
    obtain rfl := hn rfl
    clear hy hn hk hg2
    go_wp2_with fail
    refine bodyPost_ret (back_res rfl rfl rfl Cv.zero (set5_blk (c := Cv.zero) HB2.out)) rfl (KBackC.no HKK.out (HG2.out.set5v (Nat.le_refl _) Cv.zero))
  | some v =>
    have HKK := hide hk
    rw [hk] at hy
    obtain ⟨A, cap, rfl, hv⟩ := hy _ rfl
    obtain ⟨bk, o, x, rfl, hbk, h5, hx⟩ := isv_first hv
    obtain ⟨⟨e0, _⟩, ⟨e1, _⟩, ⟨e2, _⟩, ⟨e3, _⟩, ⟨e4, _⟩⟩ := h5
    have HX := hide hx
    clear hy hn hk hg2 hv hx
    go_wp2_with fail
    refine bodyPost_ret (back_res rfl rfl rfl x (set5_from (c := x) HB2.out)) rfl (KBackC.yes HKK.out (HG2.out.set5v (Nat.le_refl _) x) (isv_in (isv_set5 HX.out (by simp; omega) x)))
end Go.Proofs.YtpjhhkndfmcaoaaDoor
