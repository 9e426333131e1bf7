/- Walks: what chapter 4's examples call. -/
import Derived.Test.YticgdjnekbobgaaDoorKeyBk
import Derived.Test.YticgdjnekbobgaaDoorKeyKp
import Derived.Test.YticgdjnekbobgaaDoorKeyH
import Derived.IntWalk
set_option linter.unusedVariables false
set_option linter.unusedSimpArgs false
namespace Go.Proofs.YticgdjnekbobgaaDoor
open Go.RowKit Go.Shelf Go.WideShapes

abbrev flatc (k n : Int) : Cv := ⟨k, n, none, 0, 0, none, 0, 0, none, 0, 0⟩
abbrev rawc (k : Int) (A : Option Addr) (n c : Nat) : Cv := ⟨k, 0, A, n, c, none, 0, 0, none, 0, 0⟩
set_option maxHeartbeats 400000 in
theorem I_pos (n : Nat) (hn : n ≤ 9223372036854775807) (w : World) : Calls Tryd.prog 35 #[.int .i64 n] w fun e w' => e = .returned (flatc 3 n).agg ∧ Grow w w' := by
  have hwr : IntKind.u64.wrap (n : Int) = (n : Int) := IntWalk.u64_in _ (by omega)
  have HW := hide hwr
  clear hwr
  go_enter Tryd.func35, Tryd.ntmps35
  go_wp2_with fail
  exact bodyPost_ret (cellres rfl rfl (flatc 3 n) (Blk.new w _ _)) rfl ⟨rfl, (Grow.refl w).alloc _⟩
set_option maxHeartbeats 400000 in
theorem F_any (n : Nat) (w : World) : Calls Tryd.prog 39 #[.int .u64 n] w fun e w' => e = .returned (flatc 4 n).agg ∧ Grow w w' := by
  go_enter Tryd.func39, Tryd.ntmps39
  go_wp2_with fail
  exact bodyPost_ret (cellres rfl rfl (flatc 4 n) (Blk.new w _ _)) rfl ⟨rfl, (Grow.refl w).alloc _⟩
theorem is_flat {k : Int} {n : Nat} {b : List UInt8} (h : ofK (.mk k n [] [] []) = (b, 0)) (h1 : 0 ≤ k) (h2 : k ≤ 8) (hn : n < 18446744073709551616) {W : World} {B : Option Addr} {bc : Nat} (hT : Tabs W) (hb : InB W B b) :
    Calls Tryd.prog 38 #[(flatc k n).agg, .slice B b.length bc] W fun e w' => e = .returned (.bool true) ∧ Grow W w' := by
  have h := is_any (.mk k n [] [] []) (flatc k n) b B bc W (by rw [V.fit]; simpa using hn) (by rw [V.count_mk]; simp) hT (In.num k n (by omega) (by omega) hn) hb
  rwa [isK_of ‹ofK (.mk k n [] [] []) = (b, 0)›] at h
theorem is_raw {W : World} {A B : Option Addr} {ac bc : Nat} (hT : Tabs W) (ha : InB W A [0]) (hc : 1 ≤ ac) (hb : InB W B [80, 0, 255, 0, 0]) :
    Calls Tryd.prog 38 #[(rawc 6 A 1 ac).agg, .slice B 5 bc] W fun e w' => e = .returned (.bool true) ∧ Grow W w' := by
  have h := is_any (.mk 6 0 [0] [] []) (rawc 6 A 1 ac) [80, 0, 255, 0, 0] B bc W (by rw [V.fit]; simp) (by rw [V.count_mk]; simp) hT (In.raw 6 A ac [0] (by omega) (by omega) ha hc (by decide)) hb
  rwa [isK_of raw_ofK] at h
theorem inl_two {W : World} {g : Nat} {t : TypeId} {cs : Array Value} {v1 v2 : V} {c1 c2 : Cv} (hb : Blk W g t cs) (hcs : cs.toList = c1.cells.toList ++ c2.cells.toList) (h1 : In W v1 c1) (h2 : In W v2 c2) : InL W (some ⟨g, 0, none⟩) 2 [v1, v2] := by
  have hcell : ∀ i, W.cell? ⟨g, i, none⟩ = (c1.cells.toList ++ c2.cells.toList)[i]? := fun i => by rw [hb.cell i, ← hcs, Array.getElem?_toList]
  unfold InL In
  rw [IsV]
  refine ⟨rfl, rfl, rfl, rfl, rfl, by omega, by omega, by omega, by simp, by simp, by simp, by simp, by simp, by simp, ⟨by simp [u8s], fun h => by simp at h⟩, fun i hi => ?_, fun i hi => absurd hi (by simp)⟩
  have hi2 : i = 0 ∨ i = 1 := by simp at hi; omega
  rcases hi2 with rfl | rfl
  · exact ⟨g, 0, c1, rfl, ⟨⟨hcell 0, Nat.zero_le _, hb.lt⟩, ⟨hcell 1, Nat.zero_le _, hb.lt⟩, ⟨hcell 2, Nat.zero_le _, hb.lt⟩, ⟨hcell 3, Nat.zero_le _, hb.lt⟩, ⟨hcell 4, Nat.zero_le _, hb.lt⟩⟩, h1⟩
  · exact ⟨g, 0, c2, rfl, ⟨⟨hcell 5, Nat.zero_le _, hb.lt⟩, ⟨hcell 6, Nat.zero_le _, hb.lt⟩, ⟨hcell 7, Nat.zero_le _, hb.lt⟩, ⟨hcell 8, Nat.zero_le _, hb.lt⟩, ⟨hcell 9, Nat.zero_le _, hb.lt⟩⟩, h2⟩
theorem all_two {W : World} {g f : Nat} {t : TypeId} {cs : Array Value} {A : Option Addr} {c : Nat} (hb : Blk W g t cs) (hcs : cs.toList = (flatc 3 1).cells.toList ++ (rawc 5 A 1 c).cells.toList) (hf : Blk W f 4 #[.bool false, .bool true]) (hT : Tabs W) (hin : In W vA (rawc 5 A 1 c)) :
    Calls Tryd.prog 23 #[.slice (some ⟨g, 0, none⟩) 2 2, .slice (some ⟨f, 0, none⟩) 2 2] W fun e w' => ∃ base A c, e = .returned (.tuple #[.slice A 17 c, .int .i64 0]) ∧ W.heap.size ≤ base ∧ Row w' base (.slice A 17 c) 17 (keyOne ++ [191, 158, 255, 255]) ∧ Grow W w' := by
  have h := all_any [.mk 3 1 [] [] [], vA] [false, true] (some ⟨g, 0, none⟩) (some ⟨f, 0, none⟩) 2 2 W (fun v hv => by
    simp only [List.mem_cons, List.not_mem_nil, or_false] at hv
    rcases hv with rfl | rfl
    · rw [V.count_mk]; simp
    · rw [vA_count]; decide) hT (inl_two hb hcs (In.num 3 1 (by omega) (by omega) (by omega)) hin) ⟨rfl, fun _ => ⟨f, 0, rfl, fun j u hu => ⟨by rw [Nat.zero_add, hf.cell j]; simpa using hu, Nat.zero_le _, hf.lt⟩⟩⟩ (by decide)
  rw [two_allK] at h
  exact h
theorem aft_1 {W : World} {B : Option Addr} (hb : InB W B [1, 255]) : Calls Tryd.prog 37 #[.slice B 2 2] W fun e w' => ∃ base A c, e = .returned (.tuple #[.slice A 1 c, .bool true]) ∧ W.heap.size ≤ base ∧ Row w' base (.slice A 1 c) 1 [2] ∧ Grow W w' := by
  have h := kafter_any [1, 255] B 2 W hb (by decide) (Nat.le_refl _)
  rw [after_1] at h
  exact h
theorem aft_2 {W : World} {B : Option Addr} (hb : InB W B [255]) : Calls Tryd.prog 37 #[.slice B 1 1] W fun e w' => ∃ base A c, e = .returned (.tuple #[.slice A 0 c, .bool false]) ∧ W.heap.size ≤ base ∧ Row w' base (.slice A 0 c) 0 [] ∧ Grow W w' := by
  have h := kafter_any [255] B 1 W hb (by decide) (Nat.le_refl _)
  rw [after_2] at h
  exact h
/-- What is behind two operations, whatever their order, shown once. -/
theorem with_rest {P : Program} {md : Region.Mode} {ops : Array Oper} {Q : Exit → Act → World → Prop} {S : World → Prop} {n : Nat} {l : Array Bool} {a : Act} {W : World} (di dj : Option Tmp) (i j : Nat) (R : Value → Value → World → Prop)
    (rest : ∀ x y W2, R x y W2 → wpAnyH P md ops Q S n ((l.setIfInBounds i true).setIfInBounds j true) ((a.put di x).put dj y) W2)
    (go : (∀ x y W2, R x y W2 → wpAnyH P md ops Q S n ((l.setIfInBounds i true).setIfInBounds j true) ((a.put di x).put dj y) W2) → wpAnyH P md ops Q S (n + 2) l a W) : wpAnyH P md ops Q S (n + 2) l a W := go rest
theorem with_rest3 {P : Program} {md : Region.Mode} {ops : Array Oper} {Q : Exit → Act → World → Prop} {S : World → Prop} {n : Nat} {l : Array Bool} {a : Act} {W : World} (di dj dk : Option Tmp) (i j k : Nat) (R : Value → Value → Value → World → Prop)
    (rest : ∀ x y z W2, R x y z W2 → wpAnyH P md ops Q S n (((l.setIfInBounds i true).setIfInBounds j true).setIfInBounds k true) (((a.put di x).put dj y).put dk z) W2)
    (go : (∀ x y z W2, R x y z W2 → wpAnyH P md ops Q S n (((l.setIfInBounds i true).setIfInBounds j true).setIfInBounds k true) (((a.put di x).put dj y).put dk z) W2) → wpAnyH P md ops Q S (n + 3) l a W) : wpAnyH P md ops Q S (n + 3) l a W := go rest
end Go.Proofs.YticgdjnekbobgaaDoor
