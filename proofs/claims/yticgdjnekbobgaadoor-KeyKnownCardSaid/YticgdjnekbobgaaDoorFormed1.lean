/- Walks: formed of the program: a value that is bad by its own cells, and a flat one. Written by wip/tools/gen_formed.py. -/
import Derived.Test.YticgdjnekbobgaaDoorValid
import Derived.Test.YticgdjnekbobgaaDoorName
import Derived.Test.YticgdjnekbobgaaDoorPls
namespace Go.Proofs.YticgdjnekbobgaaDoor
open Go.RowKit Go.Shelf Go.Maps

set_option maxRecDepth 100000 in
set_option maxHeartbeats 1600000 in
theorem formed_kind (k : Int) (n : Nat) (b : List UInt8) (l : List V) (f : List (ByteArray × V)) (w : World) (c : Cv) (hk : k < 1 ∨ 8 < k) (hT : Tabs w) (hv : In w (.mk k n b l f) c) :
    Calls Tryd.prog 90 #[c.agg] w fun e w' => e = .returned (.bool false) ∧ Grow w w' := by
  have HV := hide hv
  have HT := hide hT
  obtain ⟨aB, aL, aF, cB, cL, cF, rfl, h1, h2, h3, h4, h5, h6, h7, h8, h9, hb⟩ := hv.open
  have HB := hide hb
  clear hb hv hT
  rcases hk with hk | hk
  all_goals
    go_enter Tryd.func90, Tryd.ntmps90
    go_wp2_with fail
    go_ret
    exact ⟨rfl, (Grow.refl w).alloc _⟩

set_option maxRecDepth 100000 in
set_option maxHeartbeats 1600000 in
theorem formed_bad1 (n : Nat) (b : List UInt8) (l : List V) (f : List (ByteArray × V)) (w : World) (c : Cv) (ho : V.own 1 n b l.length f.length = false) (hT : Tabs w) (hv : In w (.mk 1 n b l f) c) :
    Calls Tryd.prog 90 #[c.agg] w fun e w' => e = .returned (.bool false) ∧ Grow w w' := by
  have HV := hide hv
  have HT := hide hT
  obtain ⟨aB, aL, aF, cB, cL, cF, rfl, h1, h2, h3, h4, h5, h6, h7, h8, h9, hb⟩ := hv.open
  have HB := hide hb
  clear hb hv hT
  have HO := hide ho
  clear ho
  by_cases p0 : ((n : Int) != 0) = true
  · go_enter Tryd.func90, Tryd.ntmps90
    go_wp2_with fail
    go_ret
    exact ⟨rfl, (Grow.refl w).alloc _⟩
    
  have q0 : ((n : Int) != 0) = false := by simpa using p0
  by_cases p1 : b = []
  rotate_left
  · have p1a : 0 < b.length := List.length_pos_iff.2 p1
    have p1b : (0 : Int) < (b.length : Int) := by omega
    go_enter Tryd.func90, Tryd.ntmps90
    go_wp2_with fail
    go_ret
    exact ⟨rfl, (Grow.refl w).alloc _⟩
    
  subst p1
  by_cases p2 : l = []
  rotate_left
  · have p2a : 0 < l.length := List.length_pos_iff.2 p2
    have p2b : (0 : Int) < (l.length : Int) := by omega
    go_enter Tryd.func90, Tryd.ntmps90
    go_wp2_with fail
    go_ret
    exact ⟨rfl, (Grow.refl w).alloc _⟩
    
  subst p2
  by_cases p3 : f = []
  rotate_left
  · have p3a : 0 < f.length := List.length_pos_iff.2 p3
    have p3b : (0 : Int) < (f.length : Int) := by omega
    go_enter Tryd.func90, Tryd.ntmps90
    go_wp2_with fail
    go_ret
    exact ⟨rfl, (Grow.refl w).alloc _⟩
    
  subst p3
  exfalso
  have ho := HO.out
  simp only [V.own, Bool.and_eq_false_iff, Bool.or_eq_false_iff, decide_eq_false_iff_not] at ho
  try simp at ho
  all_goals (first | omega | simp_all)

set_option maxRecDepth 100000 in
set_option maxHeartbeats 1600000 in
theorem formed_bad2 (n : Nat) (b : List UInt8) (l : List V) (f : List (ByteArray × V)) (w : World) (c : Cv) (ho : V.own 2 n b l.length f.length = false) (hT : Tabs w) (hv : In w (.mk 2 n b l f) c) :
    Calls Tryd.prog 90 #[c.agg] w fun e w' => e = .returned (.bool false) ∧ Grow w w' := by
  have HV := hide hv
  have HT := hide hT
  obtain ⟨aB, aL, aF, cB, cL, cF, rfl, h1, h2, h3, h4, h5, h6, h7, h8, h9, hb⟩ := hv.open
  have HB := hide hb
  clear hb hv hT
  have HO := hide ho
  clear ho
  by_cases p0 : (1 : Int) < (n : Int)
  · go_enter Tryd.func90, Tryd.ntmps90
    go_wp2_with fail
    go_ret
    exact ⟨rfl, (Grow.refl w).alloc _⟩
    
  have q0 : ¬ ((1 : Int) < (n : Int)) := p0
  by_cases p1 : b = []
  rotate_left
  · have p1a : 0 < b.length := List.length_pos_iff.2 p1
    have p1b : (0 : Int) < (b.length : Int) := by omega
    go_enter Tryd.func90, Tryd.ntmps90
    go_wp2_with fail
    go_ret
    exact ⟨rfl, (Grow.refl w).alloc _⟩
    
  subst p1
  by_cases p2 : l = []
  rotate_left
  · have p2a : 0 < l.length := List.length_pos_iff.2 p2
    have p2b : (0 : Int) < (l.length : Int) := by omega
    go_enter Tryd.func90, Tryd.ntmps90
    go_wp2_with fail
    go_ret
    exact ⟨rfl, (Grow.refl w).alloc _⟩
    
  subst p2
  by_cases p3 : f = []
  rotate_left
  · have p3a : 0 < f.length := List.length_pos_iff.2 p3
    have p3b : (0 : Int) < (f.length : Int) := by omega
    go_enter Tryd.func90, Tryd.ntmps90
    go_wp2_with fail
    go_ret
    exact ⟨rfl, (Grow.refl w).alloc _⟩
    
  subst p3
  exfalso
  have ho := HO.out
  simp only [V.own, Bool.and_eq_false_iff, Bool.or_eq_false_iff, decide_eq_false_iff_not] at ho
  try simp at ho
  all_goals (first | omega | simp_all)

set_option maxRecDepth 100000 in
set_option maxHeartbeats 1600000 in
theorem formed_bad3 (n : Nat) (b : List UInt8) (l : List V) (f : List (ByteArray × V)) (w : World) (c : Cv) (ho : V.own 3 n b l.length f.length = false) (hT : Tabs w) (hv : In w (.mk 3 n b l f) c) :
    Calls Tryd.prog 90 #[c.agg] w fun e w' => e = .returned (.bool false) ∧ Grow w w' := by
  have HV := hide hv
  have HT := hide hT
  obtain ⟨aB, aL, aF, cB, cL, cF, rfl, h1, h2, h3, h4, h5, h6, h7, h8, h9, hb⟩ := hv.open
  have HB := hide hb
  clear hb hv hT
  have HO := hide ho
  clear ho
  by_cases p0 : b = []
  rotate_left
  · have p0a : 0 < b.length := List.length_pos_iff.2 p0
    have p0b : (0 : Int) < (b.length : Int) := by omega
    go_enter Tryd.func90, Tryd.ntmps90
    go_wp2_with fail
    go_ret
    exact ⟨rfl, (Grow.refl w).alloc _⟩
    
  subst p0
  by_cases p1 : l = []
  rotate_left
  · have p1a : 0 < l.length := List.length_pos_iff.2 p1
    have p1b : (0 : Int) < (l.length : Int) := by omega
    go_enter Tryd.func90, Tryd.ntmps90
    go_wp2_with fail
    go_ret
    exact ⟨rfl, (Grow.refl w).alloc _⟩
    
  subst p1
  by_cases p2 : f = []
  rotate_left
  · have p2a : 0 < f.length := List.length_pos_iff.2 p2
    have p2b : (0 : Int) < (f.length : Int) := by omega
    go_enter Tryd.func90, Tryd.ntmps90
    go_wp2_with fail
    go_ret
    exact ⟨rfl, (Grow.refl w).alloc _⟩
    
  subst p2
  exfalso
  have ho := HO.out
  simp only [V.own, Bool.and_eq_false_iff, Bool.or_eq_false_iff, decide_eq_false_iff_not] at ho
  try simp at ho
  all_goals (first | omega | simp_all)

set_option maxRecDepth 100000 in
set_option maxHeartbeats 1600000 in
theorem formed_bad4 (n : Nat) (b : List UInt8) (l : List V) (f : List (ByteArray × V)) (w : World) (c : Cv) (ho : V.own 4 n b l.length f.length = false) (hT : Tabs w) (hv : In w (.mk 4 n b l f) c) :
    Calls Tryd.prog 90 #[c.agg] w fun e w' => e = .returned (.bool false) ∧ Grow w w' := by
  have HV := hide hv
  have HT := hide hT
  obtain ⟨aB, aL, aF, cB, cL, cF, rfl, h1, h2, h3, h4, h5, h6, h7, h8, h9, hb⟩ := hv.open
  have HB := hide hb
  clear hb hv hT
  have HO := hide ho
  clear ho
  by_cases p0 : b = []
  rotate_left
  · have p0a : 0 < b.length := List.length_pos_iff.2 p0
    have p0b : (0 : Int) < (b.length : Int) := by omega
    go_enter Tryd.func90, Tryd.ntmps90
    go_wp2_with fail
    go_ret
    exact ⟨rfl, (Grow.refl w).alloc _⟩
    
  subst p0
  by_cases p1 : l = []
  rotate_left
  · have p1a : 0 < l.length := List.length_pos_iff.2 p1
    have p1b : (0 : Int) < (l.length : Int) := by omega
    go_enter Tryd.func90, Tryd.ntmps90
    go_wp2_with fail
    go_ret
    exact ⟨rfl, (Grow.refl w).alloc _⟩
    
  subst p1
  by_cases p2 : f = []
  rotate_left
  · have p2a : 0 < f.length := List.length_pos_iff.2 p2
    have p2b : (0 : Int) < (f.length : Int) := by omega
    go_enter Tryd.func90, Tryd.ntmps90
    go_wp2_with fail
    go_ret
    exact ⟨rfl, (Grow.refl w).alloc _⟩
    
  subst p2
  exfalso
  have ho := HO.out
  simp only [V.own, Bool.and_eq_false_iff, Bool.or_eq_false_iff, decide_eq_false_iff_not] at ho
  try simp at ho
  all_goals (first | omega | simp_all)

set_option maxRecDepth 100000 in
set_option maxHeartbeats 1600000 in
theorem formed_bad5 (n : Nat) (b : List UInt8) (l : List V) (f : List (ByteArray × V)) (w : World) (c : Cv) (ho : V.own 5 n b l.length f.length = false) (hT : Tabs w) (hv : In w (.mk 5 n b l f) c) :
    Calls Tryd.prog 90 #[c.agg] w fun e w' => e = .returned (.bool false) ∧ Grow w w' := by
  have HV := hide hv
  have HT := hide hT
  obtain ⟨aB, aL, aF, cB, cL, cF, rfl, h1, h2, h3, h4, h5, h6, h7, h8, h9, hb⟩ := hv.open
  have HB := hide hb
  clear hb hv hT
  have HO := hide ho
  clear ho
  by_cases p0 : ((n : Int) != 0) = true
  · go_enter Tryd.func90, Tryd.ntmps90
    go_wp2_with fail
    go_ret
    exact ⟨rfl, (Grow.refl w).alloc _⟩
    
  have q0 : ((n : Int) != 0) = false := by simpa using p0
  by_cases p1 : Lib.validD b = false
  · have P := hide p1
    clear p1
    go_enter Tryd.func90, Tryd.ntmps90
    go_wp2_with fail
    refine (valid_any b aB cB _ (HB.out.grow ((Grow.refl w).alloc _)) (by omega) (by omega) (HT.out.grow ((Grow.refl w).alloc _))).mono ?_
    rintro e w' ⟨rfl, hg⟩
    rw [P.out]
    have HG := hide hg
    clear hg
    go_wp2_with fail
    go_ret
    exact ⟨rfl, ((Grow.refl w).alloc _).trans HG.out⟩
  have P := hide p1
  clear p1
  by_cases p2 : l = []
  rotate_left
  · have p2a : 0 < l.length := List.length_pos_iff.2 p2
    have p2b : (0 : Int) < (l.length : Int) := by omega
    go_enter Tryd.func90, Tryd.ntmps90
    go_wp2_with fail
    refine (valid_any b aB cB _ (HB.out.grow ((Grow.refl w).alloc _)) (by omega) (by omega) (HT.out.grow ((Grow.refl w).alloc _))).mono ?_
    rintro e w' ⟨rfl, hg⟩
    rw [eq_true_of_ne_false P.out]
    have hB : Blk w' w.heap.size 27 _ := (Blk.new _ _ _).grow hg
    have hc := hB.cell
    have HG := hide hg
    clear hg hB
    go_wp2_with fail
    go_ret
    exact ⟨rfl, ((Grow.refl w).alloc _).trans HG.out⟩
  subst p2
  by_cases p3 : f = []
  rotate_left
  · have p3a : 0 < f.length := List.length_pos_iff.2 p3
    have p3b : (0 : Int) < (f.length : Int) := by omega
    go_enter Tryd.func90, Tryd.ntmps90
    go_wp2_with fail
    refine (valid_any b aB cB _ (HB.out.grow ((Grow.refl w).alloc _)) (by omega) (by omega) (HT.out.grow ((Grow.refl w).alloc _))).mono ?_
    rintro e w' ⟨rfl, hg⟩
    rw [eq_true_of_ne_false P.out]
    have hB : Blk w' w.heap.size 27 _ := (Blk.new _ _ _).grow hg
    have hc := hB.cell
    have HG := hide hg
    clear hg hB
    go_wp2_with fail
    go_ret
    exact ⟨rfl, ((Grow.refl w).alloc _).trans HG.out⟩
  subst p3
  exfalso
  have ho := HO.out
  simp only [V.own, Bool.and_eq_false_iff, Bool.or_eq_false_iff, decide_eq_false_iff_not] at ho
  have P2 := P.out
  try simp at ho
  all_goals (first | omega | simp_all)

set_option maxRecDepth 100000 in
set_option maxHeartbeats 1600000 in
theorem formed_bad6 (n : Nat) (b : List UInt8) (l : List V) (f : List (ByteArray × V)) (w : World) (c : Cv) (ho : V.own 6 n b l.length f.length = false) (hT : Tabs w) (hv : In w (.mk 6 n b l f) c) :
    Calls Tryd.prog 90 #[c.agg] w fun e w' => e = .returned (.bool false) ∧ Grow w w' := by
  have HV := hide hv
  have HT := hide hT
  obtain ⟨aB, aL, aF, cB, cL, cF, rfl, h1, h2, h3, h4, h5, h6, h7, h8, h9, hb⟩ := hv.open
  have HB := hide hb
  clear hb hv hT
  have HO := hide ho
  clear ho
  by_cases p0 : ((n : Int) != 0) = true
  · go_enter Tryd.func90, Tryd.ntmps90
    go_wp2_with fail
    go_ret
    exact ⟨rfl, (Grow.refl w).alloc _⟩
    
  have q0 : ((n : Int) != 0) = false := by simpa using p0
  by_cases p1 : l = []
  rotate_left
  · have p1a : 0 < l.length := List.length_pos_iff.2 p1
    have p1b : (0 : Int) < (l.length : Int) := by omega
    go_enter Tryd.func90, Tryd.ntmps90
    go_wp2_with fail
    go_ret
    exact ⟨rfl, (Grow.refl w).alloc _⟩
    
  subst p1
  by_cases p2 : f = []
  rotate_left
  · have p2a : 0 < f.length := List.length_pos_iff.2 p2
    have p2b : (0 : Int) < (f.length : Int) := by omega
    go_enter Tryd.func90, Tryd.ntmps90
    go_wp2_with fail
    go_ret
    exact ⟨rfl, (Grow.refl w).alloc _⟩
    
  subst p2
  exfalso
  have ho := HO.out
  simp only [V.own, Bool.and_eq_false_iff, Bool.or_eq_false_iff, decide_eq_false_iff_not] at ho
  try simp at ho
  all_goals (first | omega | simp_all)

set_option maxRecDepth 100000 in
set_option maxHeartbeats 1600000 in
theorem formed_bad7 (n : Nat) (b : List UInt8) (l : List V) (f : List (ByteArray × V)) (w : World) (c : Cv) (ho : V.own 7 n b l.length f.length = false) (hT : Tabs w) (hv : In w (.mk 7 n b l f) c) :
    Calls Tryd.prog 90 #[c.agg] w fun e w' => e = .returned (.bool false) ∧ Grow w w' := by
  have HV := hide hv
  have HT := hide hT
  obtain ⟨aB, aL, aF, cB, cL, cF, rfl, h1, h2, h3, h4, h5, h6, h7, h8, h9, hb⟩ := hv.open
  have HB := hide hb
  clear hb hv hT
  have HO := hide ho
  clear ho
  by_cases p0 : ((n : Int) != 0) = true
  · go_enter Tryd.func90, Tryd.ntmps90
    go_wp2_with fail
    go_ret
    exact ⟨rfl, (Grow.refl w).alloc _⟩
    
  have q0 : ((n : Int) != 0) = false := by simpa using p0
  by_cases p1 : b = []
  rotate_left
  · have p1a : 0 < b.length := List.length_pos_iff.2 p1
    have p1b : (0 : Int) < (b.length : Int) := by omega
    go_enter Tryd.func90, Tryd.ntmps90
    go_wp2_with fail
    go_ret
    exact ⟨rfl, (Grow.refl w).alloc _⟩
    
  subst p1
  by_cases p2 : f = []
  rotate_left
  · have p2a : 0 < f.length := List.length_pos_iff.2 p2
    have p2b : (0 : Int) < (f.length : Int) := by omega
    go_enter Tryd.func90, Tryd.ntmps90
    go_wp2_with fail
    go_ret
    exact ⟨rfl, (Grow.refl w).alloc _⟩
    
  subst p2
  exfalso
  have ho := HO.out
  simp only [V.own, Bool.and_eq_false_iff, Bool.or_eq_false_iff, decide_eq_false_iff_not] at ho
  try simp at ho
  all_goals (first | omega | simp_all)

set_option maxRecDepth 100000 in
set_option maxHeartbeats 1600000 in
theorem formed_bad8 (n : Nat) (b : List UInt8) (l : List V) (f : List (ByteArray × V)) (w : World) (c : Cv) (ho : V.own 8 n b l.length f.length = false) (hT : Tabs w) (hv : In w (.mk 8 n b l f) c) :
    Calls Tryd.prog 90 #[c.agg] w fun e w' => e = .returned (.bool false) ∧ Grow w w' := by
  have HV := hide hv
  have HT := hide hT
  obtain ⟨aB, aL, aF, cB, cL, cF, rfl, h1, h2, h3, h4, h5, h6, h7, h8, h9, hb⟩ := hv.open
  have HB := hide hb
  clear hb hv hT
  have HO := hide ho
  clear ho
  by_cases p0 : ((n : Int) != 0) = true
  · go_enter Tryd.func90, Tryd.ntmps90
    go_wp2_with fail
    go_ret
    exact ⟨rfl, (Grow.refl w).alloc _⟩
    
  have q0 : ((n : Int) != 0) = false := by simpa using p0
  by_cases p1 : b = []
  rotate_left
  · have p1a : 0 < b.length := List.length_pos_iff.2 p1
    have p1b : (0 : Int) < (b.length : Int) := by omega
    go_enter Tryd.func90, Tryd.ntmps90
    go_wp2_with fail
    go_ret
    exact ⟨rfl, (Grow.refl w).alloc _⟩
    
  subst p1
  by_cases p2 : l = []
  rotate_left
  · have p2a : 0 < l.length := List.length_pos_iff.2 p2
    have p2b : (0 : Int) < (l.length : Int) := by omega
    go_enter Tryd.func90, Tryd.ntmps90
    go_wp2_with fail
    go_ret
    exact ⟨rfl, (Grow.refl w).alloc _⟩
    
  subst p2
  exfalso
  have ho := HO.out
  simp only [V.own, Bool.and_eq_false_iff, Bool.or_eq_false_iff, decide_eq_false_iff_not] at ho
  try simp at ho
  all_goals (first | omega | simp_all)

theorem formed_bad (k : Int) (n : Nat) (b : List UInt8) (l : List V) (f : List (ByteArray × V)) (w : World) (c : Cv) (ho : V.own k n b l.length f.length = false) (hT : Tabs w) (hv : In w (.mk k n b l f) c) :
    Calls Tryd.prog 90 #[c.agg] w fun e w' => e = .returned (.bool false) ∧ Grow w w' := by
  by_cases hk : k < 1 ∨ 8 < k
  · exact formed_kind k n b l f w c hk hT hv
  · have : k = 1 ∨ k = 2 ∨ k = 3 ∨ k = 4 ∨ k = 5 ∨ k = 6 ∨ k = 7 ∨ k = 8 := by omega
    rcases this with rfl | rfl | rfl | rfl | rfl | rfl | rfl | rfl
    · exact formed_bad1 n b l f w c ho hT hv
    · exact formed_bad2 n b l f w c ho hT hv
    · exact formed_bad3 n b l f w c ho hT hv
    · exact formed_bad4 n b l f w c ho hT hv
    · exact formed_bad5 n b l f w c ho hT hv
    · exact formed_bad6 n b l f w c ho hT hv
    · exact formed_bad7 n b l f w c ho hT hv
    · exact formed_bad8 n b l f w c ho hT hv
end Go.Proofs.YticgdjnekbobgaaDoor
