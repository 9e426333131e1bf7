/- Walk of munimentlaw4.is: has a value this key. -/
import Derived.Test.YticgdjnekbobgaaDoorKeyD
set_option linter.unusedVariables false
set_option linter.unusedSimpArgs false
namespace Go.Proofs.YticgdjnekbobgaaDoor
open Go.RowKit Go.Shelf Go.WideShapes

theorem isv_in {w : World} {lo : Nat} {v : V} {c : Cv} (h : IsV (AtW w lo w.heap.size) v c) : In w v c := IsV.mono (fun _ _ h => ⟨h.1, Nat.zero_le _, h.2.2⟩) v c h
theorem isv_grow {w w' : World} {lo : Nat} {v : V} {c : Cv} (h : IsV (AtW w lo w.heap.size) v c) (hb : Grow w w') : IsV (AtW w' lo w'.heap.size) v c :=
  IsV.mono (AtW.below hb.below (Nat.le_refl _) (Nat.le_refl _) hb.size) v c h
theorem isv_set {w : World} {lo : Nat} {v : V} {c : Cv} (h : IsV (AtW w lo w.heap.size) v c) {p : Addr} (hp : p.block < lo) (u : Value) : IsV (AtW (w.setCell p u) lo (w.setCell p u).heap.size) v c := by
  refine IsV.mono (fun a x ha => ?_) v c h
  have hne : a.block ≠ p.block := by have := ha.2.1; omega
  refine ⟨(World.cell?_of_block (a := a) (Below.heap_setCell w p u a.block hne)).trans ha.1, ha.2.1, ?_⟩
  have := ha.2.2
  simpa using this
theorem isv_set5 {w : World} {lo vb : Nat} {v : V} {c : Cv} (h : IsV (AtW w lo w.heap.size) v c) (hp : vb < lo) (d : Cv) : IsV (AtW (set5 w vb d) lo (set5 w vb d).heap.size) v c :=
  isv_set (isv_set (isv_set (isv_set (isv_set h (p := ⟨vb, 0, none⟩) hp _) (p := ⟨vb, 1, none⟩) hp _) (p := ⟨vb, 2, none⟩) hp _) (p := ⟨vb, 3, none⟩) hp _) (p := ⟨vb, 4, none⟩) hp _
theorem Grow.set5v {a W : World} {vb : Nat} (h : Grow a W) (hb : a.heap.size ≤ vb) (c : Cv) : Grow a (set5 W vb c) :=
  ((((h.setCell (p := ⟨vb, 0, none⟩) hb _).setCell (p := ⟨vb, 1, none⟩) hb _).setCell (p := ⟨vb, 2, none⟩) hb _).setCell (p := ⟨vb, 3, none⟩) hb _).setCell (p := ⟨vb, 4, none⟩) hb _
theorem back_res {F : Func} {W : World} {vb : Nat} {tmps : Array Value} {u : Value} (hF : F.results = #[ResultVar.cell 2 27, ResultVar.tmp 3]) (h2 : tmps.getD 2 undef = .pointer (some ⟨vb, 0, none⟩)) (h3 : tmps.getD 3 undef = u) (c : Cv) (hv : Blk W vb 27 c.cells) :
    (results F tmps).run Tryd.prog W = .ok (.tuple #[c.agg, u]) W := by
  have hl := run_loadVar_row (P := Tryd.prog) W vb 27 27 c.cells (0, 0) _ hv Tryd.underlying27 rfl info_val
  have h2' : tmps[2]?.getD undef = .pointer (some ⟨vb, 0, none⟩) := by simpa using h2
  have h3' : tmps[3]?.getD undef = u := by simpa using h3
  simp [results, hF, h2', h3', asAddr, hl]

/-- Has a value this key? -/
def isK (v : V) (b : List UInt8) : Bool := (ofK v).2 == 0 && (ofK v).1 == b

set_option maxRecDepth 100000 in
set_option maxHeartbeats 6400000 in
theorem is_any (v : V) (c : Cv) (b : List UInt8) (B : Option Addr) (bc : Nat) (w : World) (hfit : v.fit) (hcount : v.count ≤ 20000) (hT : Tabs w) (hv : In w v c) (hb : InB w B b) :
    Calls Tryd.prog 38 #[c.agg, .slice B b.length bc] w fun e w' => e = .returned (.bool (isK v b)) ∧ Grow w w' := by
  have HG0 := hide ((Grow.refl w).alloc (.cells c.cells 27))
  have hcell := (Blk.new w 27 c.cells).cell
  have HO := hide (of_any v c _ hfit hcount (hT.grow HG0.out) (hv.grow HG0.out))
  have HB := hide hb
  obtain ⟨KB, ke, hke⟩ : ∃ kb ke, ofK v = (kb, ke) := ⟨_, _, rfl⟩
  rw [hke] at HO
  have HKE := hide hke
  clear hT hv hb hfit hke
  go_enter Tryd.func38, Tryd.ntmps38
  go_wp2_with fail
  refine HO.out.mono ?_
  rintro e w2 ⟨base2, A2, c2, rfl, hb2, hr2, hg2⟩
  dsimp only at hr2 ⊢
  have HG2 := hide (HG0.out.trans hg2)
  have hs1 := conv_str c2 hr2.reads.1
  have hs2 := conv_str bc (HB.out.grow HG2.out)
  clear hr2 hg2 hb2 hcell
  by_cases hk0 : ke = 0
  · subst hk0
    go_wp2_with fail
    go_ret
    refine ⟨?_, HG2.out⟩
    unfold isK
    rw [HKE.out]
    rfl
  · have hkq : (ke == 0) = false := by simpa using hk0
    go_wp2_with fail
    go_ret
    refine ⟨?_, HG2.out⟩
    unfold isK
    rw [HKE.out]
    simp only [hkq, Bool.false_and]
    rfl
end Go.Proofs.YticgdjnekbobgaaDoor
