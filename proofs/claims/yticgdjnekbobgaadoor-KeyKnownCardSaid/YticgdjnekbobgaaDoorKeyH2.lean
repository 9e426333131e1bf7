/- Walk of key.Back, where Parts is given. -/
import Derived.Test.YticgdjnekbobgaaDoorKeyT
set_option linter.unusedVariables false
set_option linter.unusedSimpArgs false
namespace Go.Proofs.YticgdjnekbobgaaDoor
open Go.RowKit Go.Shelf Go.WideShapes

/-- What key.Parts tells. -/
def KPartsC (w : World) (g : Option (List V)) (e : Ending) (w' : World) : Prop :=
  Grow w w' ∧ (∀ l, g = some l → ∃ A cap, e = .returned (.tuple #[.slice A l.length cap, .int .i64 0]) ∧ IsV (AtW w' w.heap.size w'.heap.size) (.mk 7 0 [] l []) (lcv A l.length cap)) ∧ (g = none → e = .returned (.tuple #[.slice none 0 0, .int .i64 14]))
/-- What key.Back tells. -/
def KBackC (w : World) (g : Option V) (e : Ending) (w' : World) : Prop :=
  Grow w w' ∧ (∀ v, g = some v → ∃ c : Cv, e = .returned (.tuple #[c.agg, .int .i64 0]) ∧ In w' v c) ∧ (g = none → e = .returned (.tuple #[Cv.zero.agg, .int .i64 14]))
theorem KBackC.no {w w' : World} {g : Option V} (h : g = none) (hg : Grow w w') : KBackC w g (.returned (.tuple #[Cv.zero.agg, .int .i64 14])) w' :=
  ⟨hg, fun v e => by (rw [h] at e; cases e), fun _ => rfl⟩
theorem KBackC.yes {w w' : World} {g : Option V} {v : V} {c : Cv} (h : g = some v) (hg : Grow w w') (hv : In w' v c) : KBackC w g (.returned (.tuple #[c.agg, .int .i64 0])) w' :=
  ⟨hg, fun u e => by (rw [h] at e; cases e; exact ⟨c, rfl, hv⟩), fun e => by (rw [h] at e; cases e)⟩
theorem isv_first {w : World} {lo cap : Nat} {A : Option Addr} {v : V} (h : IsV (AtW w lo w.heap.size) (.mk 7 0 [] [v] []) (lcv A 1 cap)) :
    ∃ bk o x, A = some ⟨bk, o, none⟩ ∧ bk < w.heap.size ∧ At5 (AtW w lo w.heap.size) bk o x ∧ IsV (AtW w lo w.heap.size) v x := by
  rw [IsV] at h
  obtain ⟨_, _, _, _, _, _, _, _, _, _, _, _, _, _, _, hL, _⟩ := h
  obtain ⟨bk, o, x, ha, h5, hv⟩ := hL 0 (by simp)
  exact ⟨bk, o, x, ha, h5.1.2.2, by simpa using h5, hv⟩

set_option maxRecDepth 100000 in
set_option maxHeartbeats 6400000 in
theorem kback_any (b : List UInt8) (B : Option Addr) (bc : Nat) (w : World) (hb : InB w B b)
    (hparts : ∀ W F fc, Grow w W → InB W B b → InBo W F [false] → Calls Tryd.prog 24 #[.slice B b.length bc, .slice F 1 fc] W (KPartsC W (partsK (kd false 17) [false] b))) :
    Calls Tryd.prog 17 #[.slice B b.length bc] w (KBackC w (backK (kd false 17) b)) := by
  have hg0 : Grow w (w.alloc (.cells Cv.zero.cells 27)) := (Grow.refl w).alloc _
  have hg1 := hg0.alloc (.cells #[.bool false] 4)
  have HG1 := hide hg1
  have HB1 := hide ((Blk.new w 27 Cv.zero.cells).alloc (.cells #[.bool false] 4))
  have hF : InBo ((w.alloc (.cells Cv.zero.cells 27)).alloc (.cells #[.bool false] 4)) (some ⟨w.heap.size + 1, 0, none⟩) [false] := by
    refine ⟨rfl, fun _ => ⟨_, _, rfl, fun j u hu => ?_⟩⟩
    have hn := Blk.new' (w := w.alloc (.cells Cv.zero.cells 27)) (g := w.heap.size + 1) (by simp) 4 #[.bool false]
    cases j with
    | zero => cases hu; exact ⟨hn.cell 0, Nat.zero_le _, hn.lt⟩
    | succ j => simp at hu
  have HP := hide (hparts _ _ 1 hg1 (hb.grow hg1) hF)
  rw [partsK_one] at HP
  clear hF hg0 hg1 hparts hb
  go_enter Tryd.func17, Tryd.ntmps17
  go_wp2_with fail
  refine HP.out.mono ?_
  rintro e w1 ⟨hg2, hy, hn⟩
  have HG2 := hide (HG1.out.trans hg2)
  have HB2 := hide (HB1.out.grow hg2)
  have hc1 := HB2.out.cell
  have hlt1 := HB2.out.lt
  have hz1 := HB2.out.frozen
  cases hk : backK (kd false 17) b with
  | none =>
    have HKK := hide hk
    rw [hk] at hn
    obtain rfl := hn rfl
    clear hy hn hk hg2
    go_wp2_with fail
    refine bodyPost_ret (back_res rfl rfl rfl Cv.zero (set5_blk (c := Cv.zero) HB2.out)) rfl (KBackC.no HKK.out (HG2.out.set5v (Nat.le_refl _) Cv.zero))
  | some v =>
    have HKK := hide hk
    rw [hk] at hy
    obtain ⟨A, cap, rfl, hv⟩ := hy _ rfl
    obtain ⟨bk, o, x, rfl, hbk, h5, hx⟩ := isv_first hv
    obtain ⟨⟨e0, _⟩, ⟨e1, _⟩, ⟨e2, _⟩, ⟨e3, _⟩, ⟨e4, _⟩⟩ := h5
    have HX := hide hx
    clear hy hn hk hg2 hv hx
    go_wp2_with fail
    refine bodyPost_ret (back_res rfl rfl rfl x (set5_from (c := x) HB2.out)) rfl (KBackC.yes HKK.out (HG2.out.set5v (Nat.le_refl _) x) (isv_in (isv_set5 HX.out (by simp; omega) x)))
end Go.Proofs.YticgdjnekbobgaaDoor
