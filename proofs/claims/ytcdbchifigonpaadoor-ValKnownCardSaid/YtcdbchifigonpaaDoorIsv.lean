/- Values in blocks of the call's own, from a block on; values whose parts are not too long; what Copy tells; rows of values of any length. -/
import Derived.Test.YtcdbchifigonpaaDoorRead5
import Derived.Test.YtcdbchifigonpaaDoorTxt
set_option linter.unusedVariables false
set_option linter.unusedSimpArgs false
namespace Go.Proofs.YtcdbchifigonpaaDoor
open Go.RowKit Go.Shelf Go.WideShapes

theorem isv_in {w : World} {lo : Nat} {v : V} {c : Cv} (h : IsV (AtW w lo w.heap.size) v c) : In w v c := IsV.mono (fun _ _ h => ⟨h.1, Nat.zero_le _, h.2.2⟩) v c h
theorem isv_grow {w w' : World} {lo : Nat} {v : V} {c : Cv} (h : IsV (AtW w lo w.heap.size) v c) (hb : Grow w w') : IsV (AtW w' lo w'.heap.size) v c :=
  IsV.mono (AtW.below hb.below (Nat.le_refl _) (Nat.le_refl _) hb.size) v c h
theorem isv_set {w : World} {lo : Nat} {v : V} {c : Cv} (h : IsV (AtW w lo w.heap.size) v c) {p : Addr} (hp : p.block < lo) (u : Value) : IsV (AtW (w.setCell p u) lo (w.setCell p u).heap.size) v c := by
  refine IsV.mono (fun a x ha => ?_) v c h
  have hne : a.block ≠ p.block := by have := ha.2.1; omega
  refine ⟨(World.cell?_of_block (a := a) (Below.heap_setCell w p u a.block hne)).trans ha.1, ha.2.1, ?_⟩
  have := ha.2.2
  simpa using this
theorem isv_set5 {w : World} {lo vb : Nat} {v : V} {c : Cv} (h : IsV (AtW w lo w.heap.size) v c) (hp : vb < lo) (d : Cv) : IsV (AtW (set5 w vb d) lo (set5 w vb d).heap.size) v c :=
  isv_set (isv_set (isv_set (isv_set (isv_set h (p := ⟨vb, 0, none⟩) hp _) (p := ⟨vb, 1, none⟩) hp _) (p := ⟨vb, 2, none⟩) hp _) (p := ⟨vb, 3, none⟩) hp _) (p := ⟨vb, 4, none⟩) hp _
theorem Grow.set5v {a W : World} {vb : Nat} (h : Grow a W) (hb : a.heap.size ≤ vb) (c : Cv) : Grow a (set5 W vb c) :=
  ((((h.setCell (p := ⟨vb, 0, none⟩) hb _).setCell (p := ⟨vb, 1, none⟩) hb _).setCell (p := ⟨vb, 2, none⟩) hb _).setCell (p := ⟨vb, 3, none⟩) hb _).setCell (p := ⟨vb, 4, none⟩) hb _
theorem VRow.isLK {W : World} {lo vb base n cap : Nat} {A : Option Addr} {es : List VE} (h : VRow W 37 noHead 5 lo vb base (.slice A n cap) es) (hn : n = es.length) (h1 : lo ≤ base) (h2 : vb < base) (h64 : n ≤ 140737488355328) :
    IsS (fun p u => CF W p u ∧ p.block ≠ vb) (.mk 7 0 [] (es.map VE.v) []) ⟨7, 0, none, 0, 0, A, n, cap, none, 0, 0⟩ (fun q => lo ≤ q ∧ q < W.heap.size) := by
  have hcap := h.cap hn
  rw [IsS]
  refine ⟨rfl, rfl, rfl, by rw [List.length_map]; exact hn, rfl, by omega, by omega, by omega, by simp, by simp, by show (es.map VE.v).length ≤ cap; rw [List.length_map]; omega, by rw [List.length_map]; omega, by simp, by simp, ⟨by simp [u8s], fun h => by simp at h⟩,
    ⟨fun i q => ∃ x, es[i]? = some x ∧ x.lo ≤ q ∧ q < x.hi, fun i hi => ?_, fun i j hij hj q hq hq' => ?_⟩, ⟨fun _ _ => False, fun i hi => absurd hi (by simp), fun _ _ _ _ _ h => h.elim⟩⟩
  · rw [List.length_map] at hi
    obtain ⟨g, rfl, hb, hlt, hcell⟩ := h.cellAt (k := 0) (fun _ => rfl) rfl hn i hi
    obtain ⟨p1, p2, p3, p4⟩ := h.part es[i] (List.getElem_mem hi)
    refine ⟨g, 0, es[i].c, rfl, ⟨Nat.le_trans h1 hb, hlt⟩, ?_, ?_, ?_, ?_⟩
    · rintro ⟨x, hx, q⟩
      rw [List.getElem?_eq_getElem hi] at hx
      injection hx with hx
      subst hx
      exact p3 g rfl q
    · rintro q ⟨x, hx, q1, q2⟩
      rw [List.getElem?_eq_getElem hi] at hx
      injection hx with hx
      subst hx
      have := p4.1
      exact ⟨Nat.le_trans p1 q1, by omega⟩
    · exact ⟨⟨hcell 0 _ (by omega) rfl, by show g ≠ vb; omega⟩, ⟨hcell 1 _ (by omega) rfl, by show g ≠ vb; omega⟩, ⟨hcell 2 _ (by omega) rfl, by show g ≠ vb; omega⟩, ⟨hcell 3 _ (by omega) rfl, by show g ≠ vb; omega⟩, ⟨hcell 4 _ (by omega) rfl, by show g ≠ vb; omega⟩⟩
    · rw [List.getElem_map]
      exact IsS.mono _ _ _ _ (fun p u q s => ⟨q, by have := s.1; omega⟩) (fun q s => ⟨_, List.getElem?_eq_getElem hi, s⟩) p4.2
  · rw [List.length_map] at hj
    have hi' : i < es.length := Nat.lt_trans hij hj
    obtain ⟨x, hx, q1, q2⟩ := hq
    obtain ⟨y, hy, q3, q4⟩ := hq'
    rw [List.getElem?_eq_getElem hi'] at hx
    rw [List.getElem?_eq_getElem hj] at hy
    injection hx with hx
    injection hy with hy
    subst hx hy
    have := h.apart i j (by omega) hj hij
    omega

theorem VRow.isFK {W : World} {lo vb base n cap : Nat} {A : Option Addr} {es : List VE} (h : VRow W 52 nameHead 6 lo vb base (.slice A n cap) es) (hs : ∀ x ∈ es, x.s.size ≤ 140737488355328) (hn : n = es.length) (h1 : lo ≤ base) (h2 : vb < base) (h64 : n ≤ 140737488355328) :
    IsS (fun p u => CF W p u ∧ p.block ≠ vb) (.mk 8 0 [] [] (es.map fun x => (x.s, x.v))) ⟨8, 0, none, 0, 0, none, 0, 0, A, n, cap⟩ (fun q => lo ≤ q ∧ q < W.heap.size) := by
  have hcap := h.cap hn
  rw [IsS]
  refine ⟨rfl, rfl, rfl, rfl, by rw [List.length_map]; exact hn, by omega, by omega, by omega, by simp, by simp, by simp, by simp, by show (es.map fun x => (x.s, x.v)).length ≤ cap; rw [List.length_map]; omega, by rw [List.length_map]; omega, ⟨by simp [u8s], fun h => by simp at h⟩,
    ⟨fun _ _ => False, fun i hi => absurd hi (by simp), fun _ _ _ _ _ h => h.elim⟩, ⟨fun i q => ∃ x, es[i]? = some x ∧ x.lo ≤ q ∧ q < x.hi, fun i hi => ?_, fun i j hij hj q hq hq' => ?_⟩⟩
  · rw [List.length_map] at hi
    obtain ⟨g, rfl, hb, hlt, hcell⟩ := h.cellAt (k := 1) (fun _ => rfl) rfl hn i hi
    obtain ⟨p1, p2, p3, p4⟩ := h.part es[i] (List.getElem_mem hi)
    refine ⟨g, 0, es[i].c, rfl, ⟨Nat.le_trans h1 hb, hlt⟩, ?_, ?_, ?_, ?_, ?_, ?_⟩
    · rintro ⟨x, hx, q⟩
      rw [List.getElem?_eq_getElem hi] at hx
      injection hx with hx
      subst hx
      exact p3 g rfl q
    · rintro q ⟨x, hx, q1, q2⟩
      rw [List.getElem?_eq_getElem hi] at hx
      injection hx with hx
      subst hx
      have := p4.1
      exact ⟨Nat.le_trans p1 q1, by omega⟩
    · rw [List.getElem_map]
      exact ⟨hcell 0 _ (by omega) rfl, by show g ≠ vb; omega⟩
    · rw [List.getElem_map]
      exact hs _ (List.getElem_mem hi)
    · exact ⟨⟨hcell 1 _ (by omega) rfl, by show g ≠ vb; omega⟩, ⟨hcell 2 _ (by omega) rfl, by show g ≠ vb; omega⟩, ⟨hcell 3 _ (by omega) rfl, by show g ≠ vb; omega⟩, ⟨hcell 4 _ (by omega) rfl, by show g ≠ vb; omega⟩, ⟨hcell 5 _ (by omega) rfl, by show g ≠ vb; omega⟩⟩
    · rw [List.getElem_map]
      exact IsS.mono _ _ _ _ (fun p u q s => ⟨q, by have := s.1; omega⟩) (fun q s => ⟨_, List.getElem?_eq_getElem hi, s⟩) p4.2
  · rw [List.length_map] at hj
    have hi' : i < es.length := Nat.lt_trans hij hj
    obtain ⟨x, hx, q1, q2⟩ := hq
    obtain ⟨y, hy, q3, q4⟩ := hq'
    rw [List.getElem?_eq_getElem hi'] at hx
    rw [List.getElem?_eq_getElem hj] at hy
    injection hx with hx
    injection hy with hy
    subst hx hy
    have := h.apart i j (by omega) hj hij
    omega
/-- What Copy tells: the value, in new memory. -/
def CopyC (w : World) (v : V) (e : Ending) (w' : World) : Prop :=
  ∃ c : Cv, e = .returned c.agg ∧ InS w' w.heap.size w'.heap.size v c ∧ Grow w w'

/-- Truth values that lie in the world. -/
def InBo (w : World) (A : Option Addr) (ts : List Bool) : Prop := Reads (AtW w 0 w.heap.size) 1 A ts.length (ts.map Value.bool)
theorem InBo.grow {w w' : World} {A : Option Addr} {ts : List Bool} (h : InBo w A ts) (hb : Grow w w') : InBo w' A ts :=
  Reads.mono (AtW.below hb.below (Nat.le_refl _) (Nat.le_refl _) hb.size) h
end Go.Proofs.YtcdbchifigonpaaDoor

namespace Go.Proofs.YtcdbchifigonpaaDoor
open V

/-- A value each of whose parts is not too long. -/
def V.sml : V → Prop
  | mk _ _ b l f => b.length ≤ 1000000000 ∧ l.length ≤ 1000000000 ∧ f.length ≤ 1000000000 ∧ (∀ x ∈ l, sml x) ∧ (∀ x ∈ f, sml x.2)
termination_by v => SizeOf.sizeOf v
decreasing_by
  · exact sizeOf_l ‹_›
  · exact sizeOf_f ‹_›
theorem V.sml_mk {k : Int} {n : Nat} {b : List UInt8} {l : List V} {f : List (ByteArray × V)} : (V.mk k n b l f).sml ↔ b.length ≤ 1000000000 ∧ l.length ≤ 1000000000 ∧ f.length ≤ 1000000000 ∧ (∀ x ∈ l, x.sml) ∧ (∀ x ∈ f, x.2.sml) := by
  rw [V.sml]
end Go.Proofs.YtcdbchifigonpaaDoor
