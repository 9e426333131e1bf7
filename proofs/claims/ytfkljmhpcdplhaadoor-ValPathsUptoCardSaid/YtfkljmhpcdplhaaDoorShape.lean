/- Walks: shape of the document's answer. Written by wip/tools/gen_shape.py. -/
import Derived.Test.YtfkljmhpcdplhaaDoorUtf
import Derived.Test.YtfkljmhpcdplhaaDoorName
import Derived.Test.YtfkljmhpcdplhaaDoorRefs
import Derived.Deep.QuietTactic
import Derived.BigQuiet
set_option linter.unusedVariables false
set_option linter.unusedSimpArgs false
namespace Go.Proofs.YtfkljmhpcdplhaaDoor
open Go.RowKit Go.Shelf

set_option maxRecDepth 100000 in
set_option maxHeartbeats 1600000 in
theorem shape_kind (k : Int) (n : Nat) (b : List UInt8) (l : List V) (f : List (ByteArray × V)) (w : World) (c : Cv) (hk : k < 1 ∨ 8 < k) (hv : In w (.mk k n b l f) c) :
    Calls Tryd.prog 49 #[c.agg] w fun e w' => e = .returned (.bool false) ∧ Grow w w' := by
  have HV := hide hv
  obtain ⟨aB, aL, aF, cB, cL, cF, rfl, h1, h2, h3, h4, h5, h6, h7, h8, h9, hb⟩ := hv.open
  have HB := hide hb
  clear hb hv
  rcases hk with hk | hk
  all_goals
    go_enter Tryd.func49, Tryd.ntmps49
    go_wp2_with fail
    go_ret
    exact ⟨rfl, (Grow.refl w).alloc _⟩

set_option maxRecDepth 100000 in
set_option maxHeartbeats 1600000 in
theorem shape_bad1 (n : Nat) (b : List UInt8) (l : List V) (f : List (ByteArray × V)) (w : World) (c : Cv) (ho : V.own 1 n b l.length f.length = false) (hv : In w (.mk 1 n b l f) c) :
    Calls Tryd.prog 49 #[c.agg] w fun e w' => e = .returned (.bool false) ∧ Grow w w' := by
  have HV := hide hv
  obtain ⟨aB, aL, aF, cB, cL, cF, rfl, h1, h2, h3, h4, h5, h6, h7, h8, h9, hb⟩ := hv.open
  have HB := hide hb
  clear hb hv
  have HO := hide ho
  clear ho
  by_cases p0 : ((n : Int) != 0) = true
  · go_enter Tryd.func49, Tryd.ntmps49
    go_wp2_with fail
    go_ret
    exact ⟨rfl, (Grow.refl w).alloc _⟩
  have q0 : ((n : Int) != 0) = false := by simpa using p0
  by_cases p1 : b = []
  rotate_left
  · have p1a : 0 < b.length := List.length_pos_iff.2 p1
    have p1b : (0 : Int) < (b.length : Int) := by omega
    go_enter Tryd.func49, Tryd.ntmps49
    go_wp2_with fail
    go_ret
    exact ⟨rfl, (Grow.refl w).alloc _⟩
  subst p1
  by_cases p2 : l = []
  rotate_left
  · have p2a : 0 < l.length := List.length_pos_iff.2 p2
    have p2b : (0 : Int) < (l.length : Int) := by omega
    go_enter Tryd.func49, Tryd.ntmps49
    go_wp2_with fail
    go_ret
    exact ⟨rfl, (Grow.refl w).alloc _⟩
  subst p2
  by_cases p3 : f = []
  rotate_left
  · have p3a : 0 < f.length := List.length_pos_iff.2 p3
    have p3b : (0 : Int) < (f.length : Int) := by omega
    go_enter Tryd.func49, Tryd.ntmps49
    go_wp2_with fail
    go_ret
    exact ⟨rfl, (Grow.refl w).alloc _⟩
  subst p3
  exfalso
  have ho := HO.out
  simp only [V.own, Bool.and_eq_false_iff, Bool.or_eq_false_iff, decide_eq_false_iff_not] at ho
  try simp at ho
  all_goals (first | omega | simp_all)

set_option maxRecDepth 100000 in
set_option maxHeartbeats 1600000 in
theorem shape_bad2 (n : Nat) (b : List UInt8) (l : List V) (f : List (ByteArray × V)) (w : World) (c : Cv) (ho : V.own 2 n b l.length f.length = false) (hv : In w (.mk 2 n b l f) c) :
    Calls Tryd.prog 49 #[c.agg] w fun e w' => e = .returned (.bool false) ∧ Grow w w' := by
  have HV := hide hv
  obtain ⟨aB, aL, aF, cB, cL, cF, rfl, h1, h2, h3, h4, h5, h6, h7, h8, h9, hb⟩ := hv.open
  have HB := hide hb
  clear hb hv
  have HO := hide ho
  clear ho
  by_cases p0 : (1 : Int) < (n : Int)
  · go_enter Tryd.func49, Tryd.ntmps49
    go_wp2_with fail
    go_ret
    exact ⟨rfl, (Grow.refl w).alloc _⟩
  have q0 : ¬ ((1 : Int) < (n : Int)) := p0
  by_cases p1 : b = []
  rotate_left
  · have p1a : 0 < b.length := List.length_pos_iff.2 p1
    have p1b : (0 : Int) < (b.length : Int) := by omega
    go_enter Tryd.func49, Tryd.ntmps49
    go_wp2_with fail
    go_ret
    exact ⟨rfl, (Grow.refl w).alloc _⟩
  subst p1
  by_cases p2 : l = []
  rotate_left
  · have p2a : 0 < l.length := List.length_pos_iff.2 p2
    have p2b : (0 : Int) < (l.length : Int) := by omega
    go_enter Tryd.func49, Tryd.ntmps49
    go_wp2_with fail
    go_ret
    exact ⟨rfl, (Grow.refl w).alloc _⟩
  subst p2
  by_cases p3 : f = []
  rotate_left
  · have p3a : 0 < f.length := List.length_pos_iff.2 p3
    have p3b : (0 : Int) < (f.length : Int) := by omega
    go_enter Tryd.func49, Tryd.ntmps49
    go_wp2_with fail
    go_ret
    exact ⟨rfl, (Grow.refl w).alloc _⟩
  subst p3
  exfalso
  have ho := HO.out
  simp only [V.own, Bool.and_eq_false_iff, Bool.or_eq_false_iff, decide_eq_false_iff_not] at ho
  try simp at ho
  all_goals (first | omega | simp_all)

set_option maxRecDepth 100000 in
set_option maxHeartbeats 1600000 in
theorem shape_bad3 (n : Nat) (b : List UInt8) (l : List V) (f : List (ByteArray × V)) (w : World) (c : Cv) (ho : V.own 3 n b l.length f.length = false) (hv : In w (.mk 3 n b l f) c) :
    Calls Tryd.prog 49 #[c.agg] w fun e w' => e = .returned (.bool false) ∧ Grow w w' := by
  have HV := hide hv
  obtain ⟨aB, aL, aF, cB, cL, cF, rfl, h1, h2, h3, h4, h5, h6, h7, h8, h9, hb⟩ := hv.open
  have HB := hide hb
  clear hb hv
  have HO := hide ho
  clear ho
  by_cases p0 : b = []
  rotate_left
  · have p0a : 0 < b.length := List.length_pos_iff.2 p0
    have p0b : (0 : Int) < (b.length : Int) := by omega
    go_enter Tryd.func49, Tryd.ntmps49
    go_wp2_with fail
    go_ret
    exact ⟨rfl, (Grow.refl w).alloc _⟩
  subst p0
  by_cases p1 : l = []
  rotate_left
  · have p1a : 0 < l.length := List.length_pos_iff.2 p1
    have p1b : (0 : Int) < (l.length : Int) := by omega
    go_enter Tryd.func49, Tryd.ntmps49
    go_wp2_with fail
    go_ret
    exact ⟨rfl, (Grow.refl w).alloc _⟩
  subst p1
  by_cases p2 : f = []
  rotate_left
  · have p2a : 0 < f.length := List.length_pos_iff.2 p2
    have p2b : (0 : Int) < (f.length : Int) := by omega
    go_enter Tryd.func49, Tryd.ntmps49
    go_wp2_with fail
    go_ret
    exact ⟨rfl, (Grow.refl w).alloc _⟩
  subst p2
  exfalso
  have ho := HO.out
  simp only [V.own, Bool.and_eq_false_iff, Bool.or_eq_false_iff, decide_eq_false_iff_not] at ho
  try simp at ho
  all_goals (first | omega | simp_all)

set_option maxRecDepth 100000 in
set_option maxHeartbeats 1600000 in
theorem shape_bad4 (n : Nat) (b : List UInt8) (l : List V) (f : List (ByteArray × V)) (w : World) (c : Cv) (ho : V.own 4 n b l.length f.length = false) (hv : In w (.mk 4 n b l f) c) :
    Calls Tryd.prog 49 #[c.agg] w fun e w' => e = .returned (.bool false) ∧ Grow w w' := by
  have HV := hide hv
  obtain ⟨aB, aL, aF, cB, cL, cF, rfl, h1, h2, h3, h4, h5, h6, h7, h8, h9, hb⟩ := hv.open
  have HB := hide hb
  clear hb hv
  have HO := hide ho
  clear ho
  by_cases p0 : b = []
  rotate_left
  · have p0a : 0 < b.length := List.length_pos_iff.2 p0
    have p0b : (0 : Int) < (b.length : Int) := by omega
    go_enter Tryd.func49, Tryd.ntmps49
    go_wp2_with fail
    go_ret
    exact ⟨rfl, (Grow.refl w).alloc _⟩
  subst p0
  by_cases p1 : l = []
  rotate_left
  · have p1a : 0 < l.length := List.length_pos_iff.2 p1
    have p1b : (0 : Int) < (l.length : Int) := by omega
    go_enter Tryd.func49, Tryd.ntmps49
    go_wp2_with fail
    go_ret
    exact ⟨rfl, (Grow.refl w).alloc _⟩
  subst p1
  by_cases p2 : f = []
  rotate_left
  · have p2a : 0 < f.length := List.length_pos_iff.2 p2
    have p2b : (0 : Int) < (f.length : Int) := by omega
    go_enter Tryd.func49, Tryd.ntmps49
    go_wp2_with fail
    go_ret
    exact ⟨rfl, (Grow.refl w).alloc _⟩
  subst p2
  exfalso
  have ho := HO.out
  simp only [V.own, Bool.and_eq_false_iff, Bool.or_eq_false_iff, decide_eq_false_iff_not] at ho
  try simp at ho
  all_goals (first | omega | simp_all)

set_option maxRecDepth 100000 in
set_option maxHeartbeats 1600000 in
theorem shape_bad5 (n : Nat) (b : List UInt8) (l : List V) (f : List (ByteArray × V)) (w : World) (c : Cv) (ho : V.own 5 n b l.length f.length = false) (hv : In w (.mk 5 n b l f) c) :
    Calls Tryd.prog 49 #[c.agg] w fun e w' => e = .returned (.bool false) ∧ Grow w w' := by
  have HV := hide hv
  obtain ⟨aB, aL, aF, cB, cL, cF, rfl, h1, h2, h3, h4, h5, h6, h7, h8, h9, hb⟩ := hv.open
  have HB := hide hb
  clear hb hv
  have HO := hide ho
  clear ho
  by_cases p0 : ((n : Int) != 0) = true
  · go_enter Tryd.func49, Tryd.ntmps49
    go_wp2_with fail
    go_ret
    exact ⟨rfl, (Grow.refl w).alloc _⟩
  have q0 : ((n : Int) != 0) = false := by simpa using p0
  by_cases p1 : l = []
  rotate_left
  · have p1a : 0 < l.length := List.length_pos_iff.2 p1
    have p1b : (0 : Int) < (l.length : Int) := by omega
    go_enter Tryd.func49, Tryd.ntmps49
    go_wp2_with fail
    go_ret
    exact ⟨rfl, (Grow.refl w).alloc _⟩
  subst p1
  by_cases p2 : f = []
  rotate_left
  · have p2a : 0 < f.length := List.length_pos_iff.2 p2
    have p2b : (0 : Int) < (f.length : Int) := by omega
    go_enter Tryd.func49, Tryd.ntmps49
    go_wp2_with fail
    go_ret
    exact ⟨rfl, (Grow.refl w).alloc _⟩
  subst p2
  by_cases p3 : Lib.validD b = false
  · have P := hide p3
    clear p3
    go_enter Tryd.func49, Tryd.ntmps49
    go_wp2_with fail
    refine (utf_any b aB cB _ (HB.out.grow ((Grow.refl w).alloc _)) (by omega)).mono ?_
    rintro e w' ⟨rfl, rfl⟩
    rw [P.out]
    go_wp2_with fail
    go_ret
    exact ⟨rfl, (Grow.refl w).alloc _⟩
  have P := hide p3
  clear p3
  exfalso
  have ho := HO.out
  simp only [V.own, Bool.and_eq_false_iff, Bool.or_eq_false_iff, decide_eq_false_iff_not] at ho
  have P2 := P.out
  try simp at ho
  all_goals (first | omega | simp_all)

set_option maxRecDepth 100000 in
set_option maxHeartbeats 1600000 in
theorem shape_bad6 (n : Nat) (b : List UInt8) (l : List V) (f : List (ByteArray × V)) (w : World) (c : Cv) (ho : V.own 6 n b l.length f.length = false) (hv : In w (.mk 6 n b l f) c) :
    Calls Tryd.prog 49 #[c.agg] w fun e w' => e = .returned (.bool false) ∧ Grow w w' := by
  have HV := hide hv
  obtain ⟨aB, aL, aF, cB, cL, cF, rfl, h1, h2, h3, h4, h5, h6, h7, h8, h9, hb⟩ := hv.open
  have HB := hide hb
  clear hb hv
  have HO := hide ho
  clear ho
  by_cases p0 : ((n : Int) != 0) = true
  · go_enter Tryd.func49, Tryd.ntmps49
    go_wp2_with fail
    go_ret
    exact ⟨rfl, (Grow.refl w).alloc _⟩
  have q0 : ((n : Int) != 0) = false := by simpa using p0
  by_cases p1 : l = []
  rotate_left
  · have p1a : 0 < l.length := List.length_pos_iff.2 p1
    have p1b : (0 : Int) < (l.length : Int) := by omega
    go_enter Tryd.func49, Tryd.ntmps49
    go_wp2_with fail
    go_ret
    exact ⟨rfl, (Grow.refl w).alloc _⟩
  subst p1
  by_cases p2 : f = []
  rotate_left
  · have p2a : 0 < f.length := List.length_pos_iff.2 p2
    have p2b : (0 : Int) < (f.length : Int) := by omega
    go_enter Tryd.func49, Tryd.ntmps49
    go_wp2_with fail
    go_ret
    exact ⟨rfl, (Grow.refl w).alloc _⟩
  subst p2
  exfalso
  have ho := HO.out
  simp only [V.own, Bool.and_eq_false_iff, Bool.or_eq_false_iff, decide_eq_false_iff_not] at ho
  try simp at ho
  all_goals (first | omega | simp_all)

set_option maxRecDepth 100000 in
set_option maxHeartbeats 1600000 in
theorem shape_bad7 (n : Nat) (b : List UInt8) (l : List V) (f : List (ByteArray × V)) (w : World) (c : Cv) (ho : V.own 7 n b l.length f.length = false) (hv : In w (.mk 7 n b l f) c) :
    Calls Tryd.prog 49 #[c.agg] w fun e w' => e = .returned (.bool false) ∧ Grow w w' := by
  have HV := hide hv
  obtain ⟨aB, aL, aF, cB, cL, cF, rfl, h1, h2, h3, h4, h5, h6, h7, h8, h9, hb⟩ := hv.open
  have HB := hide hb
  clear hb hv
  have HO := hide ho
  clear ho
  by_cases p0 : ((n : Int) != 0) = true
  · go_enter Tryd.func49, Tryd.ntmps49
    go_wp2_with fail
    go_ret
    exact ⟨rfl, (Grow.refl w).alloc _⟩
  have q0 : ((n : Int) != 0) = false := by simpa using p0
  by_cases p1 : b = []
  rotate_left
  · have p1a : 0 < b.length := List.length_pos_iff.2 p1
    have p1b : (0 : Int) < (b.length : Int) := by omega
    go_enter Tryd.func49, Tryd.ntmps49
    go_wp2_with fail
    go_ret
    exact ⟨rfl, (Grow.refl w).alloc _⟩
  subst p1
  by_cases p2 : f = []
  rotate_left
  · have p2a : 0 < f.length := List.length_pos_iff.2 p2
    have p2b : (0 : Int) < (f.length : Int) := by omega
    go_enter Tryd.func49, Tryd.ntmps49
    go_wp2_with fail
    go_ret
    exact ⟨rfl, (Grow.refl w).alloc _⟩
  subst p2
  exfalso
  have ho := HO.out
  simp only [V.own, Bool.and_eq_false_iff, Bool.or_eq_false_iff, decide_eq_false_iff_not] at ho
  try simp at ho
  all_goals (first | omega | simp_all)

set_option maxRecDepth 100000 in
set_option maxHeartbeats 1600000 in
theorem shape_bad8 (n : Nat) (b : List UInt8) (l : List V) (f : List (ByteArray × V)) (w : World) (c : Cv) (ho : V.own 8 n b l.length f.length = false) (hv : In w (.mk 8 n b l f) c) :
    Calls Tryd.prog 49 #[c.agg] w fun e w' => e = .returned (.bool false) ∧ Grow w w' := by
  have HV := hide hv
  obtain ⟨aB, aL, aF, cB, cL, cF, rfl, h1, h2, h3, h4, h5, h6, h7, h8, h9, hb⟩ := hv.open
  have HB := hide hb
  clear hb hv
  have HO := hide ho
  clear ho
  by_cases p0 : ((n : Int) != 0) = true
  · go_enter Tryd.func49, Tryd.ntmps49
    go_wp2_with fail
    go_ret
    exact ⟨rfl, (Grow.refl w).alloc _⟩
  have q0 : ((n : Int) != 0) = false := by simpa using p0
  by_cases p1 : b = []
  rotate_left
  · have p1a : 0 < b.length := List.length_pos_iff.2 p1
    have p1b : (0 : Int) < (b.length : Int) := by omega
    go_enter Tryd.func49, Tryd.ntmps49
    go_wp2_with fail
    go_ret
    exact ⟨rfl, (Grow.refl w).alloc _⟩
  subst p1
  by_cases p2 : l = []
  rotate_left
  · have p2a : 0 < l.length := List.length_pos_iff.2 p2
    have p2b : (0 : Int) < (l.length : Int) := by omega
    go_enter Tryd.func49, Tryd.ntmps49
    go_wp2_with fail
    go_ret
    exact ⟨rfl, (Grow.refl w).alloc _⟩
  subst p2
  exfalso
  have ho := HO.out
  simp only [V.own, Bool.and_eq_false_iff, Bool.or_eq_false_iff, decide_eq_false_iff_not] at ho
  try simp at ho
  all_goals (first | omega | simp_all)

theorem shape_bad (k : Int) (n : Nat) (b : List UInt8) (l : List V) (f : List (ByteArray × V)) (w : World) (c : Cv) (ho : V.own k n b l.length f.length = false) (hv : In w (.mk k n b l f) c) :
    Calls Tryd.prog 49 #[c.agg] w fun e w' => e = .returned (.bool false) ∧ Grow w w' := by
  by_cases hk : k < 1 ∨ 8 < k
  · exact shape_kind k n b l f w c hk hv
  · have : k = 1 ∨ k = 2 ∨ k = 3 ∨ k = 4 ∨ k = 5 ∨ k = 6 ∨ k = 7 ∨ k = 8 := by omega
    rcases this with rfl | rfl | rfl | rfl | rfl | rfl | rfl | rfl
    · exact shape_bad1 n b l f w c ho hv
    · exact shape_bad2 n b l f w c ho hv
    · exact shape_bad3 n b l f w c ho hv
    · exact shape_bad4 n b l f w c ho hv
    · exact shape_bad5 n b l f w c ho hv
    · exact shape_bad6 n b l f w c ho hv
    · exact shape_bad7 n b l f w c ho hv
    · exact shape_bad8 n b l f w c ho hv
set_option maxRecDepth 100000 in
set_option maxHeartbeats 1600000 in
theorem shape_flat1 (w : World) (c : Cv) (hv : In w (.mk 1 0 [] [] []) c) :
    Calls Tryd.prog 49 #[c.agg] w fun e w' => e = .returned (.bool true) ∧ Grow w w' := by
  obtain ⟨aB, aL, aF, cB, cL, cF, rfl, h1, h2, h3, h4, h5, h6, h7, h8, h9, hb⟩ := hv.open
  clear hb hv
  go_enter Tryd.func49, Tryd.ntmps49
  go_wp2_with fail
  refine wp_loop_once ?_
  go_wp2_with fail
  refine wp_loop_once ?_
  go_wp2_with fail
  go_ret
  exact ⟨rfl, (Grow.refl w).alloc _⟩

set_option maxRecDepth 100000 in
set_option maxHeartbeats 1600000 in
theorem shape_flat2 (n : Nat) (hn : n ≤ 1) (w : World) (c : Cv) (hv : In w (.mk 2 n [] [] []) c) :
    Calls Tryd.prog 49 #[c.agg] w fun e w' => e = .returned (.bool true) ∧ Grow w w' := by
  obtain ⟨aB, aL, aF, cB, cL, cF, rfl, h1, h2, h3, h4, h5, h6, h7, h8, h9, hb⟩ := hv.open
  clear hb hv
  go_enter Tryd.func49, Tryd.ntmps49
  go_wp2_with fail
  refine wp_loop_once ?_
  go_wp2_with fail
  refine wp_loop_once ?_
  go_wp2_with fail
  go_ret
  exact ⟨rfl, (Grow.refl w).alloc _⟩

set_option maxRecDepth 100000 in
set_option maxHeartbeats 1600000 in
theorem shape_flat3 (n : Nat) (w : World) (c : Cv) (hv : In w (.mk 3 n [] [] []) c) :
    Calls Tryd.prog 49 #[c.agg] w fun e w' => e = .returned (.bool true) ∧ Grow w w' := by
  obtain ⟨aB, aL, aF, cB, cL, cF, rfl, h1, h2, h3, h4, h5, h6, h7, h8, h9, hb⟩ := hv.open
  clear hb hv
  go_enter Tryd.func49, Tryd.ntmps49
  go_wp2_with fail
  refine wp_loop_once ?_
  go_wp2_with fail
  refine wp_loop_once ?_
  go_wp2_with fail
  go_ret
  exact ⟨rfl, (Grow.refl w).alloc _⟩

set_option maxRecDepth 100000 in
set_option maxHeartbeats 1600000 in
theorem shape_flat4 (n : Nat) (w : World) (c : Cv) (hv : In w (.mk 4 n [] [] []) c) :
    Calls Tryd.prog 49 #[c.agg] w fun e w' => e = .returned (.bool true) ∧ Grow w w' := by
  obtain ⟨aB, aL, aF, cB, cL, cF, rfl, h1, h2, h3, h4, h5, h6, h7, h8, h9, hb⟩ := hv.open
  clear hb hv
  go_enter Tryd.func49, Tryd.ntmps49
  go_wp2_with fail
  refine wp_loop_once ?_
  go_wp2_with fail
  refine wp_loop_once ?_
  go_wp2_with fail
  go_ret
  exact ⟨rfl, (Grow.refl w).alloc _⟩

set_option maxRecDepth 100000 in
set_option maxHeartbeats 1600000 in
theorem shape_flat6 (b : List UInt8) (w : World) (c : Cv) (hv : In w (.mk 6 0 b [] []) c) :
    Calls Tryd.prog 49 #[c.agg] w fun e w' => e = .returned (.bool true) ∧ Grow w w' := by
  obtain ⟨aB, aL, aF, cB, cL, cF, rfl, h1, h2, h3, h4, h5, h6, h7, h8, h9, hb⟩ := hv.open
  clear hb hv
  go_enter Tryd.func49, Tryd.ntmps49
  go_wp2_with fail
  refine wp_loop_once ?_
  go_wp2_with fail
  refine wp_loop_once ?_
  go_wp2_with fail
  go_ret
  exact ⟨rfl, (Grow.refl w).alloc _⟩

set_option maxRecDepth 100000 in
set_option maxHeartbeats 1600000 in
theorem shape_flat5 (b : List UInt8) (hu : Lib.validD b = true) (w : World) (c : Cv) (hv : In w (.mk 5 0 b [] []) c) :
    Calls Tryd.prog 49 #[c.agg] w fun e w' => e = .returned (.bool true) ∧ Grow w w' := by
  have P := hide hu
  clear hu
  obtain ⟨aB, aL, aF, cB, cL, cF, rfl, h1, h2, h3, h4, h5, h6, h7, h8, h9, hb⟩ := hv.open
  have HB := hide hb
  clear hb hv
  go_enter Tryd.func49, Tryd.ntmps49
  go_wp2_with fail
  refine (utf_any b aB cB _ (HB.out.grow ((Grow.refl w).alloc _)) (by omega)).mono ?_
  rintro e w' ⟨rfl, rfl⟩
  rw [P.out]
  go_wp2_with fail
  refine wp_loop_once ?_
  go_wp2_with fail
  refine wp_loop_once ?_
  go_wp2_with fail
  go_ret
  exact ⟨rfl, (Grow.refl w).alloc _⟩

def ShapeC (x : V) : Prop := ∀ (w : World) (c : Cv), In w x c → Calls Tryd.prog 49 #[c.agg] w fun e w' => e = .returned (.bool x.formed) ∧ Grow w w'
set_option maxRecDepth 100000 in
set_option maxHeartbeats 3200000 in
theorem shape_list (l : List V) (hl : ∀ x ∈ l, ShapeC x) (w : World) (c : Cv) (hv : In w (.mk 7 0 [] l []) c) :
    Calls Tryd.prog 49 #[c.agg] w fun e w' => e = .returned (.bool (l.all V.formed)) ∧ Grow w w' := by
  have HV := hide hv
  have Hl := hide hl
  obtain ⟨ANS, hANS⟩ : ∃ A, l.all V.formed = A := ⟨_, rfl⟩
  rw [hANS]
  have HA := hide hANS
  obtain ⟨aB, aL, aF, cB, cL, cF, rfl, h1, h2, h3, h4, h5, h6, h7, h8, h9, hb⟩ := hv.open
  clear hb h1 h2 h3 h4 h5 hv hl hANS
  go_enter Tryd.func49, Tryd.ntmps49
  go_wp2_with fail
  go_loopg [3] (l.length + 1) (fun gk i wr => ∃ j : Nat, j ≤ l.length ∧ gk + j = l.length + 1 ∧ i = .int .i64 j ∧ (l.take j).all V.formed = true ∧
    Grow w wr ∧ Blk wr w.heap.size 37 (Cv.cells ⟨7, 0, aB, 0, cB, aL, l.length, cL, aF, 0, cF⟩))
  case atStart => exact ⟨0, by omega, by omega, rfl, rfl, (Grow.refl w).alloc _, Blk.new _ _ _⟩
  case round =>
    obtain ⟨j, hj, hg, rfl, ht, hw, hB⟩ := hrel
    obtain ⟨gk', rfl⟩ : ∃ g, gk = g + 1 := ⟨gk - 1, by omega⟩
    have HTk := hide ht
    have hc := hB.cell
    have hBl := hB.lt
    have HW := hide hw
    have HB := hide hB
    by_cases hlt : j < l.length
    · obtain ⟨bk, o, x, ha, hbk, e0, e1, e2, e3, e4, hx⟩ := In.elemL (HV.out.grow hw) j hlt
      dsimp only at ha
      subst ha
      have HX := hide hx
      clear hw hx hB ht
      go_wp2_with fail
      refine (Hl.out _ (List.getElem_mem hlt) _ x HX.out).mono ?_
      rintro e w' ⟨rfl, hb'⟩
      have hgr := hide hb'
      clear hb' e0 e1 e2 e3 e4 hc
      obtain ⟨R, hR⟩ : ∃ R, l[j].formed = R := ⟨_, rfl⟩
      rw [hR]
      have HR := hide hR
      clear hR
      cases R
      · go_wp2_with fail
        go_ret
        refine ⟨ret_bool ?_, HW.out.trans hgr.out⟩
        rw [← HA.out]
        exact (List.all_eq_false.2 ⟨l[j], List.getElem_mem hlt, by rw [HR.out]; exact Bool.false_ne_true⟩).symm
      · go_wp2_with fail
        go_roundg gk'
        case measure => omega
        case rel => exact ⟨j + 1, by omega, by omega, by go_num, by rw [take_snoc l j hlt, List.all_append, HTk.out]; simp [HR.out], HW.out.trans hgr.out, HB.out.grow hgr.out⟩
    · obtain rfl : j = l.length := by omega
      have hA : ANS = true := by rw [← HA.out]; rw [List.take_length] at ht; exact ht
      subst hA
      clear hw hB hlt hg ht
      go_wp2_with fail
      refine wp_loop_once ?_
      go_wp2_with fail
      go_ret
      exact ⟨rfl, HW.out⟩

/-- So far all names are names, all values formed, no two names the same. -/
def SoFar (f : List (ByteArray × V)) (j : Nat) : Prop := (∀ i (h : i < f.length), i < j → V.name f[i].1 = true ∧ f[i].2.formed = true) ∧ ∀ i t (h : i < f.length) (h' : t < f.length), i < t → t < j → f[i].1 ≠ f[t].1
theorem SoFar.all {f : List (ByteArray × V)} (h : SoFar f f.length) : (f.all fun x => V.name x.1 && x.2.formed) = true ∧ (f.map Prod.fst).Nodup := by
  refine ⟨List.all_eq_true.2 fun x hx => ?_, ?_⟩
  · obtain ⟨i, hi, rfl⟩ := List.mem_iff_getElem.1 hx
    rw [(h.1 i hi hi).1, (h.1 i hi hi).2]; rfl
  · rw [List.nodup_iff_pairwise_ne, List.pairwise_iff_getElem]
    intro i t hi ht hit
    rw [List.getElem_map, List.getElem_map]
    exact h.2 i t (by simpa using hi) (by simpa using ht) hit (by simpa using ht)
theorem bad_name {f : List (ByteArray × V)} {j : Nat} (hj : j < f.length) (h : V.name f[j].1 = false ∨ f[j].2.formed = false) : ((f.all fun x => V.name x.1 && x.2.formed) && decide ((f.map Prod.fst).Nodup)) = false := by
  rw [Bool.and_eq_false_iff]
  left
  exact List.all_eq_false.2 ⟨f[j], List.getElem_mem hj, by rcases h with h | h <;> simp [h]⟩
theorem bad_twice {f : List (ByteArray × V)} {m j : Nat} (hj : j < f.length) (hm : m < j) (h : f[m].1 = f[j].1) : ((f.all fun x => V.name x.1 && x.2.formed) && decide ((f.map Prod.fst).Nodup)) = false := by
  rw [Bool.and_eq_false_iff]
  right
  rw [decide_eq_false_iff_not]
  intro hn
  rw [List.nodup_iff_pairwise_ne, List.pairwise_iff_getElem] at hn
  have := hn m j (by simp; omega) (by simp; omega) hm
  rw [List.getElem_map, List.getElem_map] at this
  exact this h

set_option maxRecDepth 100000 in
set_option maxHeartbeats 3200000 in
theorem shape_doc (f : List (ByteArray × V)) (hf : ∀ x ∈ f, ShapeC x.2) (w : World) (c : Cv) (hv : In w (.mk 8 0 [] [] f) c) :
    Calls Tryd.prog 49 #[c.agg] w fun e w' => e = .returned (.bool ((f.all fun x => V.name x.1 && x.2.formed) && decide ((f.map Prod.fst).Nodup))) ∧ Grow w w' := by
  have HV := hide hv
  have Hf := hide hf
  obtain ⟨ANS, hANS⟩ : ∃ A, ((f.all fun x => V.name x.1 && x.2.formed) && decide ((f.map Prod.fst).Nodup)) = A := ⟨_, rfl⟩
  rw [hANS]
  have HA := hide hANS
  obtain ⟨aB, aL, aF, cB, cL, cF, rfl, h1, h2, h3, h4, h5, h6, h7, h8, h9, hb⟩ := hv.open
  clear hb h1 h2 h3 h4 h5 hv hf hANS
  go_enter Tryd.func49, Tryd.ntmps49
  go_wp2_with fail
  refine wp_loop_once ?_
  go_wp2_with fail
  go_loopg [4] (f.length + 1) (fun gk i wr => ∃ j : Nat, j ≤ f.length ∧ gk + j = f.length + 1 ∧ i = .int .i64 j ∧ SoFar f j ∧
    Grow w wr ∧ Blk wr w.heap.size 37 (Cv.cells ⟨8, 0, aB, 0, cB, aL, 0, cL, aF, f.length, cF⟩))
  case atStart => exact ⟨0, by omega, by omega, rfl, ⟨fun i _ h => absurd h (by omega), fun i t _ _ _ h => absurd h (by omega)⟩, (Grow.refl w).alloc _, Blk.new _ _ _⟩
  case round =>
    obtain ⟨j, hj, hg, rfl, ht, hw, hB⟩ := hrel
    obtain ⟨gk', rfl⟩ : ∃ g, gk = g + 1 := ⟨gk - 1, by omega⟩
    have HTk := hide ht
    have hc := hB.cell
    have hBl := hB.lt
    have HW := hide hw
    have HB := hide hB
    by_cases hlt : j < f.length
    · obtain ⟨bk, o, x, ha, hbk, es, esz, e0, e1, e2, e3, e4, hx⟩ := In.elemF (HV.out.grow hw) j hlt
      dsimp only at ha
      subst ha
      have HX := hide hx
      clear hw hx hB ht
      go_wp2_with fail
      refine (isName_any f[j].1 _ esz).mono ?_
      rintro e w1 ⟨rfl, hg1⟩
      have hB1 := HB.out.grow hg1
      have HW1 := hide (HW.out.trans hg1)
      obtain ⟨R, hR⟩ : ∃ R, V.name f[j].1 = R := ⟨_, rfl⟩
      rw [hR]
      have HR := hide hR
      clear hR hc hBl
      have hc1 := hB1.cell
      have hBl1 := hB1.lt
      have HB1 := hide hB1
      have d0 := (hg1.below.cell (p := ⟨bk, o + j * 6 + 1, none⟩) hbk).trans e0
      have d1 := (hg1.below.cell (p := ⟨bk, o + j * 6 + 1 + 1, none⟩) hbk).trans e1
      have d2 := (hg1.below.cell (p := ⟨bk, o + j * 6 + 1 + 2, none⟩) hbk).trans e2
      have d3 := (hg1.below.cell (p := ⟨bk, o + j * 6 + 1 + 3, none⟩) hbk).trans e3
      have d4 := (hg1.below.cell (p := ⟨bk, o + j * 6 + 1 + 4, none⟩) hbk).trans e4
      have HX1 := hide (HX.out.grow hg1)
      clear es e0 e1 e2 e3 e4 hg1 hB1
      cases R
      · go_wp2_with fail
        go_ret
        exact ⟨ret_bool (by rw [← HA.out]; exact (bad_name hlt (.inl HR.out)).symm), HW1.out⟩
      go_wp2_with fail
      refine (Hf.out _ (List.getElem_mem hlt) _ x HX1.out).mono ?_
      rintro e w2 ⟨rfl, hg2⟩
      have hB2 := HB1.out.grow hg2
      have HW2 := hide (HW1.out.trans hg2)
      obtain ⟨R2, hR2⟩ : ∃ R, f[j].2.formed = R := ⟨_, rfl⟩
      rw [hR2]
      have HR2 := hide hR2
      have HB2 := hide hB2
      clear hR2 d0 d1 d2 d3 d4 hc1 hBl1 hB2 hg2
      cases R2
      · go_wp2_with fail
        go_ret
        exact ⟨ret_bool (by rw [← HA.out]; exact (bad_name hlt (.inr HR2.out)).symm), HW2.out⟩
      go_wp2_with fail
      go_loopg [5] (j + 1) (fun gk i wr => ∃ m : Nat, m ≤ j ∧ gk + m = j + 1 ∧ i = .int .i64 m ∧ (∀ t (h : t < f.length), t < m → f[t].1 ≠ f[j].1) ∧ Grow w2 wr)
      case atStart => exact ⟨0, by omega, by omega, rfl, fun t _ h => absurd h (by omega), Grow.refl _⟩
      case round =>
        obtain ⟨m, hm, hgm, rfl, hmt, hgw⟩ := hrel
        have HGW := hide hgw
        have HW3 := hide (HW2.out.trans hgw)
        have HB3 := hide (HB2.out.grow hgw)
        obtain ⟨gm', rfl⟩ : ∃ g, gk = g + 1 := ⟨gk - 1, by omega⟩
        have HMT := hide hmt
        clear hmt hgw
        by_cases hmj : m < j
        · have hmf : m < f.length := by omega
          obtain ⟨bk2, o2, x2, ha2, hbk2, es2, _, _⟩ := In.elemF (HV.out.grow HW3.out) j hlt
          obtain ⟨bk3, o3, x3, ha3, hbk3, es3, _, _⟩ := In.elemF (HV.out.grow HW3.out) m hmf
          dsimp only at ha2 ha3
          injection ha2 with ha2
          injection ha2 with q1 q2
          subst q1 q2
          injection ha3 with ha3
          injection ha3 with q1 q2
          subst q1 q2
          have hc2 := HB3.out.cell
          have hBl2 := HB3.out.lt
          by_cases hn : f[m].1 = f[j].1
          · have hn1 : (f[m].1.toList == f[j].1.toList) = true := (str_beq _ _).2 hn
            have HN := hide hn
            clear hn
            go_wp2_with fail
            go_quiet (fail)
            go_wp2_with fail
            go_ret
            exact ⟨ret_bool (by rw [← HA.out]; exact (bad_twice hlt hmj HN.out).symm), HW3.out.drewN _⟩
          · have hn1 : (f[m].1.toList == f[j].1.toList) = false := by
              rw [Bool.eq_false_iff]; exact fun h => hn ((str_beq _ _).1 h)
            have HN := hide hn
            clear hn
            go_wp2_with fail
            go_quiet (fail)
            go_wp2_with fail
            go_roundg gm'
            case measure => omega
            case rel =>
              refine ⟨m + 1, by omega, by omega, by go_num, fun t h1 h2 => ?_, HGW.out.drewN _⟩
              rcases Nat.lt_or_ge t m with h | h
              · exact HMT.out t h1 h
              · obtain rfl : t = m := by omega
                exact HN.out
        · obtain rfl : m = j := by omega
          clear hmj hgm
          go_wp2_with fail
          go_roundg gk'
          case measure => omega
          case rel =>
            refine ⟨m + 1, by omega, by omega, by go_num, ⟨fun i h1 h2 => ?_, fun i t h1 h2 h3 h4 => ?_⟩, HW3.out, HB3.out⟩
            · rcases Nat.lt_or_ge i m with h | h
              · exact HTk.out.1 i h1 h
              · obtain rfl : i = m := by omega
                exact ⟨HR.out, HR2.out⟩
            · rcases Nat.lt_or_ge t m with h | h
              · exact HTk.out.2 i t h1 h2 h3 h
              · obtain rfl : t = m := by omega
                exact HMT.out i h1 h3
    · obtain rfl : j = f.length := by omega
      have hA : ANS = true := by
        rw [← HA.out, (SoFar.all ht).1, Bool.true_and]; exact decide_eq_true (SoFar.all ht).2
      subst hA
      clear hw hB hlt hg ht
      go_wp2_with fail
      go_ret
      exact ⟨rfl, HW.out⟩

theorem shape_any (v : V) : ShapeC v := by
  induction v using V.ind with
  | h k n b l f hl hf =>
    intro w c hv
    rw [V.formed_mk]
    by_cases ho : V.own k n b l.length f.length = false
    · rw [ho]; exact shape_bad k n b l f w c ho hv
    have ho1 : V.own k n b l.length f.length = true := by simpa using ho
    simp only [V.own, Bool.and_eq_true, Bool.or_eq_true, decide_eq_true_eq] at ho1
    obtain ⟨⟨⟨⟨⟨⟨a1, a2⟩, a3⟩, a4⟩, a5⟩, a6⟩, a7⟩ := ho1
    have hL : k ≠ 7 → l = [] := fun hk => List.eq_nil_of_length_eq_zero (by omega)
    have hF : k ≠ 8 → f = [] := fun hk => List.eq_nil_of_length_eq_zero (by omega)
    have hB : k ≠ 5 → k ≠ 6 → b = [] := fun h1 h2 => List.eq_nil_of_length_eq_zero (by omega)
    have hN : k ≠ 2 → k ≠ 3 → k ≠ 4 → n = 0 := fun h1 h2 h3 => by omega
    have ho2 : V.own k n b l.length f.length = true := by simpa using ho
    have hk : k = 1 ∨ k = 2 ∨ k = 3 ∨ k = 4 ∨ k = 5 ∨ k = 6 ∨ k = 7 ∨ k = 8 := by omega
    rw [ho2]
    rcases hk with rfl | rfl | rfl | rfl | rfl | rfl | rfl | rfl
    · obtain rfl := hL (by decide); obtain rfl := hF (by decide); obtain rfl := hB (by decide) (by decide); obtain rfl := hN (by decide) (by decide) (by decide)
      simpa using shape_flat1 w c hv
    · obtain rfl := hL (by decide); obtain rfl := hF (by decide); obtain rfl := hB (by decide) (by decide)
      simpa using shape_flat2 n (a3 rfl) w c hv
    · obtain rfl := hL (by decide); obtain rfl := hF (by decide); obtain rfl := hB (by decide) (by decide)
      simpa using shape_flat3 n w c hv
    · obtain rfl := hL (by decide); obtain rfl := hF (by decide); obtain rfl := hB (by decide) (by decide)
      simpa using shape_flat4 n w c hv
    · obtain rfl := hL (by decide); obtain rfl := hF (by decide); obtain rfl := hN (by decide) (by decide) (by decide)
      simpa using shape_flat5 b (a5.resolve_left (by decide)) w c hv
    · obtain rfl := hL (by decide); obtain rfl := hF (by decide); obtain rfl := hN (by decide) (by decide) (by decide)
      simpa using shape_flat6 b w c hv
    · obtain rfl := hF (by decide); obtain rfl := hB (by decide) (by decide); obtain rfl := hN (by decide) (by decide) (by decide)
      have := shape_list l (fun x hx => hl x hx) w c hv
      simpa using this
    · obtain rfl := hL (by decide); obtain rfl := hB (by decide) (by decide); obtain rfl := hN (by decide) (by decide) (by decide)
      have := shape_doc f (fun x hx => hf x hx) w c hv
      simpa using this
end Go.Proofs.YtfkljmhpcdplhaaDoor
