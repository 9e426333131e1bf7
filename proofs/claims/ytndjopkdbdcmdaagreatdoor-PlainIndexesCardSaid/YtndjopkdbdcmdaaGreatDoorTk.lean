/- The steps through a region that draws its order, in short words. No program in sight. -/
import Derived.Deep.RegionHeld3
set_option linter.unusedVariables false
namespace Go.Proofs.YtndjopkdbdcmdaaGreatDoor
theorem ly_ : (∀ (a : Act) (d : Tmp) (v : Value), a.put (some d) v = ⟨a.tmps.setIfInBounds d v, a.defers⟩) ∧ (∀ (a : Act) (v : Value), a.put none v = a) ∧ (∀ {α : Type} (l : List α) (i : Nat) (v : α), l.toArray.setIfInBounds i v = (l.set i v).toArray) ∧
    (∀ {α : Type} (x y : α) (l : List α), (x :: l).set 0 y = y :: l) ∧ (∀ {α : Type} (x y : α) (i : Nat) (l : List α), (x :: l).set (i + 1) y = x :: l.set i y) :=
  ⟨fun _ _ _ => rfl, fun _ _ => rfl, fun l i v => List.setIfInBounds_toArray l i v, fun _ _ _ => rfl, fun _ _ _ _ => rfl⟩
theorem lyc_ : (∀ {α : Type} (x y : α), cond true x y = x) ∧ (∀ {α : Type} (x y : α), cond false x y = y) := ⟨fun _ _ => rfl, fun _ _ => rfl⟩
theorem gk_ (n : Nat) (h : 0 < n) : ∃ g, n = g + 1 := ⟨n - 1, by omega⟩
section
variable {P : Program} {ops : Array Oper} {Q : Exit → Act → World → Prop} {md : Region.Mode} {S : World → Prop}
theorem tk_ (i : Nat) {oi : Oper} {v : Value} {fuel : Nat} {listed : Array Bool} {a : Act} {w : World} {l2 : Array Bool} {a2 : Act} (h : wpAnyH P md ops Q S fuel l2 a2 w)
    (hi : ops[i]? = some oi := by simp only [List.getElem?_toArray, List.getElem?_cons_succ, List.getElem?_cons_zero]; rfl) (hs : Region.noSelect ops = true := by kernel_rfl) (hf : Region.free md ops listed i = true := by kernel_rfl) (hr : (Region.ready md ops listed).contains i = true := by kernel_rfl)
    (hQ : ∀ c a w, Q (.panic c) (a.put oi.dst v) w → Q (.panic c) a w := by exact fun _ _ _ h => h) (hy : YieldsIf P ops S oi v a := by exact Or.inl ⟨by rfl, by intro w hSw; (try dsimp only at hSw); go_simp; try with_reducible rfl⟩) (hS : S w := by assumption) (hl : listed.setIfInBounds i true = l2 := by first | (simp only [ly_]; rfl) | rfl) (ha : a.put oi.dst v = a2 := by first | (simp only [ly_]; rfl) | rfl) : wpAnyH P md ops Q S (fuel + 1) listed a w :=
  wpAnyH_take hi hs hf hr hQ hy hS (by rw [hl, ha]; exact h)
theorem rd1_ {fuel : Nat} {listed : Array Bool} {a : Act} {w : World} {i : Nat} {o : Oper} {rs : List Nat}
    (h : ∀ K' : Act → World → Prop, Shut (∀ a w, S w → (S w → wpAnyH P md ops Q S fuel (listed.setIfInBounds i true) a w) → K' a w) → if Region.wanted o (yielded ops a.tmps) = true then Oper.wp P o a w K' Q else K' (a.put o.dst undef) w)
    (hs : AllReadyH P md ops Q S fuel listed a w rs) (ho : ops[i]? = some o := by simp only [List.getElem?_toArray, List.getElem?_cons_succ, List.getElem?_cons_zero]; rfl) : AllReadyH P md ops Q S fuel listed a w (i :: rs) := AllReadyH.cons ho h hs
theorem tx_ (i : Nat) {oi : Oper} {v : Value} {fuel : Nat} {listed : Array Bool} {a : Act} {w : World} {l2 : Array Bool} {a2 : Act} (h : wpAnyH P md ops Q S fuel l2 a2 w)
    (hi : ops[i]? = some oi := by simp only [List.getElem?_toArray, List.getElem?_cons_succ, List.getElem?_cons_zero]; rfl) (hs : Region.noSelect ops = true := by kernel_rfl) (hf : Region.free md ops listed i = true := by kernel_rfl) (hr : (Region.ready md ops listed).contains i = true := by kernel_rfl)
    (hQ : ∀ c a w, Q (.panic c) (a.put oi.dst v) w → Q (.panic c) a w := by exact fun _ _ _ h => h) (hy : YieldsIf P ops S oi v a := by exact Or.inl ⟨by rfl, by intro w hSw; (try dsimp only at hSw); (repeat (rcases hSw with ⟨_, hSw⟩)); go_simp; try with_reducible rfl⟩) (hS : S w := by assumption) (hl : listed.setIfInBounds i true = l2 := by first | (simp only [ly_]; rfl) | rfl) (ha : a.put oi.dst v = a2 := by first | (simp only [ly_]; rfl) | rfl) : wpAnyH P md ops Q S (fuel + 1) listed a w :=
  wpAnyH_take hi hs hf hr hQ hy hS (by rw [hl, ha]; exact h)
theorem r1_ (i : Nat) {fuel : Nat} {listed : Array Bool} {a : Act} {w : World} {o : Oper}
    (h : ∀ K' : Act → World → Prop, Shut (∀ a w, S w → (S w → wpAnyH P md ops Q S fuel (listed.setIfInBounds i true) a w) → K' a w) → if Region.wanted o (yielded ops a.tmps) = true then Oper.wp P o a w K' Q else K' (a.put o.dst undef) w)
    (ho : ops[i]? = some o := by simp only [List.getElem?_toArray, List.getElem?_cons_succ, List.getElem?_cons_zero]; rfl) (hr : Region.ready md ops listed = [i] := by kernel_rfl) : wpAnyH P md ops Q S (fuel + 1) listed a w := wpAnyH_ready hr (by simp) (AllReadyH.cons ho h AllReadyH.nil)
theorem hk_ {K : Act → World → Prop} {i fuel : Nat} {listed l2 : Array Bool} {a a2 : Act} {w : World} (hK : Shut (∀ a w, S w → (S w → wpAnyH P md ops Q S fuel (listed.setIfInBounds i true) a w) → K a w)) (hS : S w) (h : S w → wpAnyH P md ops Q S fuel l2 a2 w)
    (hl : listed.setIfInBounds i true = l2 := by first | (simp only [ly_]; rfl) | rfl) (ha : a = a2 := by first | (simp only [ly_]; rfl) | rfl) : K a w := hK.out _ _ hS (by rw [hl, ha]; exact h)
theorem rr_ (rs : List Nat) {fuel : Nat} {listed : Array Bool} {a : Act} {w : World} (h : AllReadyH P md ops Q S fuel listed a w rs) (hr : Region.ready md ops listed = rs := by kernel_rfl) (hne : rs ≠ [] := by simp) : wpAnyH P md ops Q S (fuel + 1) listed a w := wpAnyH_ready hr hne h
theorem dn_ {fuel : Nat} {listed : Array Bool} {a : Act} {w : World} (h : Q .normal a w) (hr : Region.ready md ops listed = [] := by kernel_rfl) : wpAnyH P md ops (NoPanic Q) S fuel listed a w := wpAnyH_done hr (NoPanic.normal h) _
end
end Go.Proofs.YtndjopkdbdcmdaaGreatDoor
