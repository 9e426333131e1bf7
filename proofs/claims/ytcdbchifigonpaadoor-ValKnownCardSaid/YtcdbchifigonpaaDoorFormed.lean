/- Walks: formed of the program: a value that is bad by its own cells, and a flat one. Written by wip/tools/gen_formed.py. · Walks: formed of the program: flat values, lists, documents. -/
import Derived.Test.YtcdbchifigonpaaDoorValid
import Derived.Test.YtcdbchifigonpaaDoorName
import Derived.Test.YtcdbchifigonpaaDoorPls
import Derived.StringKeys
namespace Go.Proofs.YtcdbchifigonpaaDoor
open Go.RowKit Go.Shelf Go.Maps

set_option maxRecDepth 100000 in
set_option maxHeartbeats 1600000 in
theorem formed_kind (k : Int) (n : Nat) (b : List UInt8) (l : List V) (f : List (ByteArray × V)) (w : World) (c : Cv) (hk : k < 1 ∨ 8 < k) (hT : Tabs w) (hv : In w (.mk k n b l f) c) :
    Calls Tryd.prog 50 #[c.agg] w fun e w' => e = .returned (.bool false) ∧ Grow w w' := by
  have HV := hide hv
  have HT := hide hT
  obtain ⟨aB, aL, aF, cB, cL, cF, rfl, h1, h2, h3, h4, h5, h6, h7, h8, h9, hb⟩ := hv.open
  have HB := hide hb
  clear hb hv hT
  rcases hk with hk | hk
  all_goals
    go_enter Tryd.func50, Tryd.ntmps50
    go_wp2_with fail
    go_ret
    exact ⟨rfl, (Grow.refl w).alloc _⟩

set_option maxRecDepth 100000 in
set_option maxHeartbeats 1600000 in
theorem formed_bad1 (n : Nat) (b : List UInt8) (l : List V) (f : List (ByteArray × V)) (w : World) (c : Cv) (ho : V.own 1 n b l.length f.length = false) (hT : Tabs w) (hv : In w (.mk 1 n b l f) c) :
    Calls Tryd.prog 50 #[c.agg] w fun e w' => e = .returned (.bool false) ∧ Grow w w' := by
  have HV := hide hv
  have HT := hide hT
  obtain ⟨aB, aL, aF, cB, cL, cF, rfl, h1, h2, h3, h4, h5, h6, h7, h8, h9, hb⟩ := hv.open
  have HB := hide hb
  clear hb hv hT
  have HO := hide ho
  clear ho
  by_cases p0 : ((n : Int) != 0) = true
  · go_enter Tryd.func50, Tryd.ntmps50
    go_wp2_with fail
    go_ret
    exact ⟨rfl, (Grow.refl w).alloc _⟩
    
  have q0 : ((n : Int) != 0) = false := by simpa using p0
  by_cases p1 : b = []
  rotate_left
  · have p1a : 0 < b.length := List.length_pos_iff.2 p1
    have p1b : (0 : Int) < (b.length : Int) := by omega
    go_enter Tryd.func50, Tryd.ntmps50
    go_wp2_with fail
    go_ret
    exact ⟨rfl, (Grow.refl w).alloc _⟩
    
  subst p1
  by_cases p2 : l = []
  rotate_left
  · have p2a : 0 < l.length := List.length_pos_iff.2 p2
    have p2b : (0 : Int) < (l.length : Int) := by omega
    go_enter Tryd.func50, Tryd.ntmps50
    go_wp2_with fail
    go_ret
    exact ⟨rfl, (Grow.refl w).alloc _⟩
    
  subst p2
  by_cases p3 : f = []
  rotate_left
  · have p3a : 0 < f.length := List.length_pos_iff.2 p3
    have p3b : (0 : Int) < (f.length : Int) := by omega
    go_enter Tryd.func50, Tryd.ntmps50
    go_wp2_with fail
    go_ret
    exact ⟨rfl, (Grow.refl w).alloc _⟩
    
  subst p3
  exfalso
  have ho := HO.out
  simp only [V.own, Bool.and_eq_false_iff, Bool.or_eq_false_iff, decide_eq_false_iff_not] at ho
  try simp at ho
  all_goals (first | omega | simp_all)

set_option maxRecDepth 100000 in
set_option maxHeartbeats 1600000 in
theorem formed_bad2 (n : Nat) (b : List UInt8) (l : List V) (f : List (ByteArray × V)) (w : World) (c : Cv) (ho : V.own 2 n b l.length f.length = false) (hT : Tabs w) (hv : In w (.mk 2 n b l f) c) :
    Calls Tryd.prog 50 #[c.agg] w fun e w' => e = .returned (.bool false) ∧ Grow w w' := by
  have HV := hide hv
  have HT := hide hT
  obtain ⟨aB, aL, aF, cB, cL, cF, rfl, h1, h2, h3, h4, h5, h6, h7, h8, h9, hb⟩ := hv.open
  have HB := hide hb
  clear hb hv hT
  have HO := hide ho
  clear ho
  by_cases p0 : (1 : Int) < (n : Int)
  · go_enter Tryd.func50, Tryd.ntmps50
    go_wp2_with fail
    go_ret
    exact ⟨rfl, (Grow.refl w).alloc _⟩
    
  have q0 : ¬ ((1 : Int) < (n : Int)) := p0
  by_cases p1 : b = []
  rotate_left
  · have p1a : 0 < b.length := List.length_pos_iff.2 p1
    have p1b : (0 : Int) < (b.length : Int) := by omega
    go_enter Tryd.func50, Tryd.ntmps50
    go_wp2_with fail
    go_ret
    exact ⟨rfl, (Grow.refl w).alloc _⟩
    
  subst p1
  by_cases p2 : l = []
  rotate_left
  · have p2a : 0 < l.length := List.length_pos_iff.2 p2
    have p2b : (0 : Int) < (l.length : Int) := by omega
    go_enter Tryd.func50, Tryd.ntmps50
    go_wp2_with fail
    go_ret
    exact ⟨rfl, (Grow.refl w).alloc _⟩
    
  subst p2
  by_cases p3 : f = []
  rotate_left
  · have p3a : 0 < f.length := List.length_pos_iff.2 p3
    have p3b : (0 : Int) < (f.length : Int) := by omega
    go_enter Tryd.func50, Tryd.ntmps50
    go_wp2_with fail
    go_ret
    exact ⟨rfl, (Grow.refl w).alloc _⟩
    
  subst p3
  exfalso
  have ho := HO.out
  simp only [V.own, Bool.and_eq_false_iff, Bool.or_eq_false_iff, decide_eq_false_iff_not] at ho
  try simp at ho
  all_goals (first | omega | simp_all)

set_option maxRecDepth 100000 in
set_option maxHeartbeats 1600000 in
theorem formed_bad3 (n : Nat) (b : List UInt8) (l : List V) (f : List (ByteArray × V)) (w : World) (c : Cv) (ho : V.own 3 n b l.length f.length = false) (hT : Tabs w) (hv : In w (.mk 3 n b l f) c) :
    Calls Tryd.prog 50 #[c.agg] w fun e w' => e = .returned (.bool false) ∧ Grow w w' := by
  have HV := hide hv
  have HT := hide hT
  obtain ⟨aB, aL, aF, cB, cL, cF, rfl, h1, h2, h3, h4, h5, h6, h7, h8, h9, hb⟩ := hv.open
  have HB := hide hb
  clear hb hv hT
  have HO := hide ho
  clear ho
  by_cases p0 : b = []
  rotate_left
  · have p0a : 0 < b.length := List.length_pos_iff.2 p0
    have p0b : (0 : Int) < (b.length : Int) := by omega
    go_enter Tryd.func50, Tryd.ntmps50
    go_wp2_with fail
    go_ret
    exact ⟨rfl, (Grow.refl w).alloc _⟩
    
  subst p0
  by_cases p1 : l = []
  rotate_left
  · have p1a : 0 < l.length := List.length_pos_iff.2 p1
    have p1b : (0 : Int) < (l.length : Int) := by omega
    go_enter Tryd.func50, Tryd.ntmps50
    go_wp2_with fail
    go_ret
    exact ⟨rfl, (Grow.refl w).alloc _⟩
    
  subst p1
  by_cases p2 : f = []
  rotate_left
  · have p2a : 0 < f.length := List.length_pos_iff.2 p2
    have p2b : (0 : Int) < (f.length : Int) := by omega
    go_enter Tryd.func50, Tryd.ntmps50
    go_wp2_with fail
    go_ret
    exact ⟨rfl, (Grow.refl w).alloc _⟩
    
  subst p2
  exfalso
  have ho := HO.out
  simp only [V.own, Bool.and_eq_false_iff, Bool.or_eq_false_iff, decide_eq_false_iff_not] at ho
  try simp at ho
  all_goals (first | omega | simp_all)

set_option maxRecDepth 100000 in
set_option maxHeartbeats 1600000 in
theorem formed_bad4 (n : Nat) (b : List UInt8) (l : List V) (f : List (ByteArray × V)) (w : World) (c : Cv) (ho : V.own 4 n b l.length f.length = false) (hT : Tabs w) (hv : In w (.mk 4 n b l f) c) :
    Calls Tryd.prog 50 #[c.agg] w fun e w' => e = .returned (.bool false) ∧ Grow w w' := by
  have HV := hide hv
  have HT := hide hT
  obtain ⟨aB, aL, aF, cB, cL, cF, rfl, h1, h2, h3, h4, h5, h6, h7, h8, h9, hb⟩ := hv.open
  have HB := hide hb
  clear hb hv hT
  have HO := hide ho
  clear ho
  by_cases p0 : b = []
  rotate_left
  · have p0a : 0 < b.length := List.length_pos_iff.2 p0
    have p0b : (0 : Int) < (b.length : Int) := by omega
    go_enter Tryd.func50, Tryd.ntmps50
    go_wp2_with fail
    go_ret
    exact ⟨rfl, (Grow.refl w).alloc _⟩
    
  subst p0
  by_cases p1 : l = []
  rotate_left
  · have p1a : 0 < l.length := List.length_pos_iff.2 p1
    have p1b : (0 : Int) < (l.length : Int) := by omega
    go_enter Tryd.func50, Tryd.ntmps50
    go_wp2_with fail
    go_ret
    exact ⟨rfl, (Grow.refl w).alloc _⟩
    
  subst p1
  by_cases p2 : f = []
  rotate_left
  · have p2a : 0 < f.length := List.length_pos_iff.2 p2
    have p2b : (0 : Int) < (f.length : Int) := by omega
    go_enter Tryd.func50, Tryd.ntmps50
    go_wp2_with fail
    go_ret
    exact ⟨rfl, (Grow.refl w).alloc _⟩
    
  subst p2
  exfalso
  have ho := HO.out
  simp only [V.own, Bool.and_eq_false_iff, Bool.or_eq_false_iff, decide_eq_false_iff_not] at ho
  try simp at ho
  all_goals (first | omega | simp_all)

set_option maxRecDepth 100000 in
set_option maxHeartbeats 1600000 in
theorem formed_bad5 (n : Nat) (b : List UInt8) (l : List V) (f : List (ByteArray × V)) (w : World) (c : Cv) (ho : V.own 5 n b l.length f.length = false) (hT : Tabs w) (hv : In w (.mk 5 n b l f) c) :
    Calls Tryd.prog 50 #[c.agg] w fun e w' => e = .returned (.bool false) ∧ Grow w w' := by
  have HV := hide hv
  have HT := hide hT
  obtain ⟨aB, aL, aF, cB, cL, cF, rfl, h1, h2, h3, h4, h5, h6, h7, h8, h9, hb⟩ := hv.open
  have HB := hide hb
  clear hb hv hT
  have HO := hide ho
  clear ho
  by_cases p0 : ((n : Int) != 0) = true
  · go_enter Tryd.func50, Tryd.ntmps50
    go_wp2_with fail
    go_ret
    exact ⟨rfl, (Grow.refl w).alloc _⟩
    
  have q0 : ((n : Int) != 0) = false := by simpa using p0
  by_cases p1 : Lib.validD b = false
  · have P := hide p1
    clear p1
    go_enter Tryd.func50, Tryd.ntmps50
    go_wp2_with fail
    refine (valid_any b aB cB _ (HB.out.grow ((Grow.refl w).alloc _)) (by omega) (by omega) (HT.out.grow ((Grow.refl w).alloc _))).mono ?_
    rintro e w' ⟨rfl, hg⟩
    rw [P.out]
    have HG := hide hg
    clear hg
    go_wp2_with fail
    go_ret
    exact ⟨rfl, ((Grow.refl w).alloc _).trans HG.out⟩
  have P := hide p1
  clear p1
  by_cases p2 : l = []
  rotate_left
  · have p2a : 0 < l.length := List.length_pos_iff.2 p2
    have p2b : (0 : Int) < (l.length : Int) := by omega
    go_enter Tryd.func50, Tryd.ntmps50
    go_wp2_with fail
    refine (valid_any b aB cB _ (HB.out.grow ((Grow.refl w).alloc _)) (by omega) (by omega) (HT.out.grow ((Grow.refl w).alloc _))).mono ?_
    rintro e w' ⟨rfl, hg⟩
    rw [eq_true_of_ne_false P.out]
    have hB : Blk w' w.heap.size 37 _ := (Blk.new _ _ _).grow hg
    have hc := hB.cell
    have HG := hide hg
    clear hg hB
    go_wp2_with fail
    go_ret
    exact ⟨rfl, ((Grow.refl w).alloc _).trans HG.out⟩
  subst p2
  by_cases p3 : f = []
  rotate_left
  · have p3a : 0 < f.length := List.length_pos_iff.2 p3
    have p3b : (0 : Int) < (f.length : Int) := by omega
    go_enter Tryd.func50, Tryd.ntmps50
    go_wp2_with fail
    refine (valid_any b aB cB _ (HB.out.grow ((Grow.refl w).alloc _)) (by omega) (by omega) (HT.out.grow ((Grow.refl w).alloc _))).mono ?_
    rintro e w' ⟨rfl, hg⟩
    rw [eq_true_of_ne_false P.out]
    have hB : Blk w' w.heap.size 37 _ := (Blk.new _ _ _).grow hg
    have hc := hB.cell
    have HG := hide hg
    clear hg hB
    go_wp2_with fail
    go_ret
    exact ⟨rfl, ((Grow.refl w).alloc _).trans HG.out⟩
  subst p3
  exfalso
  have ho := HO.out
  simp only [V.own, Bool.and_eq_false_iff, Bool.or_eq_false_iff, decide_eq_false_iff_not] at ho
  have P2 := P.out
  try simp at ho
  all_goals (first | omega | simp_all)

set_option maxRecDepth 100000 in
set_option maxHeartbeats 1600000 in
theorem formed_bad6 (n : Nat) (b : List UInt8) (l : List V) (f : List (ByteArray × V)) (w : World) (c : Cv) (ho : V.own 6 n b l.length f.length = false) (hT : Tabs w) (hv : In w (.mk 6 n b l f) c) :
    Calls Tryd.prog 50 #[c.agg] w fun e w' => e = .returned (.bool false) ∧ Grow w w' := by
  have HV := hide hv
  have HT := hide hT
  obtain ⟨aB, aL, aF, cB, cL, cF, rfl, h1, h2, h3, h4, h5, h6, h7, h8, h9, hb⟩ := hv.open
  have HB := hide hb
  clear hb hv hT
  have HO := hide ho
  clear ho
  by_cases p0 : ((n : Int) != 0) = true
  · go_enter Tryd.func50, Tryd.ntmps50
    go_wp2_with fail
    go_ret
    exact ⟨rfl, (Grow.refl w).alloc _⟩
    
  have q0 : ((n : Int) != 0) = false := by simpa using p0
  by_cases p1 : l = []
  rotate_left
  · have p1a : 0 < l.length := List.length_pos_iff.2 p1
    have p1b : (0 : Int) < (l.length : Int) := by omega
    go_enter Tryd.func50, Tryd.ntmps50
    go_wp2_with fail
    go_ret
    exact ⟨rfl, (Grow.refl w).alloc _⟩
    
  subst p1
  by_cases p2 : f = []
  rotate_left
  · have p2a : 0 < f.length := List.length_pos_iff.2 p2
    have p2b : (0 : Int) < (f.length : Int) := by omega
    go_enter Tryd.func50, Tryd.ntmps50
    go_wp2_with fail
    go_ret
    exact ⟨rfl, (Grow.refl w).alloc _⟩
    
  subst p2
  exfalso
  have ho := HO.out
  simp only [V.own, Bool.and_eq_false_iff, Bool.or_eq_false_iff, decide_eq_false_iff_not] at ho
  try simp at ho
  all_goals (first | omega | simp_all)

set_option maxRecDepth 100000 in
set_option maxHeartbeats 1600000 in
theorem formed_bad7 (n : Nat) (b : List UInt8) (l : List V) (f : List (ByteArray × V)) (w : World) (c : Cv) (ho : V.own 7 n b l.length f.length = false) (hT : Tabs w) (hv : In w (.mk 7 n b l f) c) :
    Calls Tryd.prog 50 #[c.agg] w fun e w' => e = .returned (.bool false) ∧ Grow w w' := by
  have HV := hide hv
  have HT := hide hT
  obtain ⟨aB, aL, aF, cB, cL, cF, rfl, h1, h2, h3, h4, h5, h6, h7, h8, h9, hb⟩ := hv.open
  have HB := hide hb
  clear hb hv hT
  have HO := hide ho
  clear ho
  by_cases p0 : ((n : Int) != 0) = true
  · go_enter Tryd.func50, Tryd.ntmps50
    go_wp2_with fail
    go_ret
    exact ⟨rfl, (Grow.refl w).alloc _⟩
    
  have q0 : ((n : Int) != 0) = false := by simpa using p0
  by_cases p1 : b = []
  rotate_left
  · have p1a : 0 < b.length := List.length_pos_iff.2 p1
    have p1b : (0 : Int) < (b.length : Int) := by omega
    go_enter Tryd.func50, Tryd.ntmps50
    go_wp2_with fail
    go_ret
    exact ⟨rfl, (Grow.refl w).alloc _⟩
    
  subst p1
  by_cases p2 : f = []
  rotate_left
  · have p2a : 0 < f.length := List.length_pos_iff.2 p2
    have p2b : (0 : Int) < (f.length : Int) := by omega
    go_enter Tryd.func50, Tryd.ntmps50
    go_wp2_with fail
    go_ret
    exact ⟨rfl, (Grow.refl w).alloc _⟩
    
  subst p2
  exfalso
  have ho := HO.out
  simp only [V.own, Bool.and_eq_false_iff, Bool.or_eq_false_iff, decide_eq_false_iff_not] at ho
  try simp at ho
  all_goals (first | omega | simp_all)

set_option maxRecDepth 100000 in
set_option maxHeartbeats 1600000 in
theorem formed_bad8 (n : Nat) (b : List UInt8) (l : List V) (f : List (ByteArray × V)) (w : World) (c : Cv) (ho : V.own 8 n b l.length f.length = false) (hT : Tabs w) (hv : In w (.mk 8 n b l f) c) :
    Calls Tryd.prog 50 #[c.agg] w fun e w' => e = .returned (.bool false) ∧ Grow w w' := by
  have HV := hide hv
  have HT := hide hT
  obtain ⟨aB, aL, aF, cB, cL, cF, rfl, h1, h2, h3, h4, h5, h6, h7, h8, h9, hb⟩ := hv.open
  have HB := hide hb
  clear hb hv hT
  have HO := hide ho
  clear ho
  by_cases p0 : ((n : Int) != 0) = true
  · go_enter Tryd.func50, Tryd.ntmps50
    go_wp2_with fail
    go_ret
    exact ⟨rfl, (Grow.refl w).alloc _⟩
    
  have q0 : ((n : Int) != 0) = false := by simpa using p0
  by_cases p1 : b = []
  rotate_left
  · have p1a : 0 < b.length := List.length_pos_iff.2 p1
    have p1b : (0 : Int) < (b.length : Int) := by omega
    go_enter Tryd.func50, Tryd.ntmps50
    go_wp2_with fail
    go_ret
    exact ⟨rfl, (Grow.refl w).alloc _⟩
    
  subst p1
  by_cases p2 : l = []
  rotate_left
  · have p2a : 0 < l.length := List.length_pos_iff.2 p2
    have p2b : (0 : Int) < (l.length : Int) := by omega
    go_enter Tryd.func50, Tryd.ntmps50
    go_wp2_with fail
    go_ret
    exact ⟨rfl, (Grow.refl w).alloc _⟩
    
  subst p2
  exfalso
  have ho := HO.out
  simp only [V.own, Bool.and_eq_false_iff, Bool.or_eq_false_iff, decide_eq_false_iff_not] at ho
  try simp at ho
  all_goals (first | omega | simp_all)

theorem formed_bad (k : Int) (n : Nat) (b : List UInt8) (l : List V) (f : List (ByteArray × V)) (w : World) (c : Cv) (ho : V.own k n b l.length f.length = false) (hT : Tabs w) (hv : In w (.mk k n b l f) c) :
    Calls Tryd.prog 50 #[c.agg] w fun e w' => e = .returned (.bool false) ∧ Grow w w' := by
  by_cases hk : k < 1 ∨ 8 < k
  · exact formed_kind k n b l f w c hk hT hv
  · have : k = 1 ∨ k = 2 ∨ k = 3 ∨ k = 4 ∨ k = 5 ∨ k = 6 ∨ k = 7 ∨ k = 8 := by omega
    rcases this with rfl | rfl | rfl | rfl | rfl | rfl | rfl | rfl
    · exact formed_bad1 n b l f w c ho hT hv
    · exact formed_bad2 n b l f w c ho hT hv
    · exact formed_bad3 n b l f w c ho hT hv
    · exact formed_bad4 n b l f w c ho hT hv
    · exact formed_bad5 n b l f w c ho hT hv
    · exact formed_bad6 n b l f w c ho hT hv
    · exact formed_bad7 n b l f w c ho hT hv
    · exact formed_bad8 n b l f w c ho hT hv
end Go.Proofs.YtcdbchifigonpaaDoor

namespace Go.Proofs.YtcdbchifigonpaaDoor
open Go.RowKit Go.Shelf Go.Maps Go.WideMaps

theorem under_set : Tryd.prog.underlying 113 = some (.map 9 114) := by kernel_rfl
theorem len_set {w : World} {b n : Nat} {D : DataW Unit} (h : w.ownsMap Tryd.prog 9 unitElem b n D) : (Builtin.len_ #[113] 3 #[.map (some b)]).run Tryd.prog w = .ok (.int .i64 (Maps.size D)) w := h.len under_set _
theorem set_made (w : World) : (w.alloc (.map #[] 0)).ownsMap Tryd.prog 9 unitElem w.heap.size 0 (NS []) := World.ownsMap_made _ _ _ _
theorem set_made1 (w : World) (o : Obj) : ((w.alloc o).alloc (.map #[] 0)).ownsMap Tryd.prog 9 unitElem (w.heap.size + 1) 0 (NS []) := by
  have h := set_made (w.alloc o)
  have e : (w.alloc o).heap.size = w.heap.size + 1 := by simp
  rw [e] at h
  exact h
theorem owns_grow {w w' : World} {b n : Nat} {D : DataW Unit} (h : w.ownsMap Tryd.prog 9 unitElem b n D) (hg : Grow w w') : w'.ownsMap Tryd.prog 9 unitElem b n D := by
  obtain ⟨es, clock, hb, r⟩ := h
  have hlt : b < w.heap.size := by
    rcases Nat.lt_or_ge b w.heap.size with hlt | hge
    · exact hlt
    · exact absurd ((Array.getElem?_eq_none hge).symm.trans hb) (by simp)
  exact ⟨es, clock, (Below.block hg b hlt).trans hb, r⟩
theorem Blk.grownBy {w w' : World} {g r : Nat} {t : TypeId} {cs : Array Value} (h : Blk w g t cs) (hg : w.grownBy w' (some r)) (hne : g ≠ r) : Blk w' g t cs := by
  unfold Blk at h ⊢
  rw [hg.block g (Blk.lt h) (fun e => hne (Option.some.inj e))]
  exact h
theorem len_made (w : World) : (Builtin.len_ #[113] 3 #[.map (some w.heap.size)]).run Tryd.prog (w.alloc (.map #[] 0)) = .ok (.int .i64 0) (w.alloc (.map #[] 0)) := len_set (set_made w)
theorem len_made1 (w : World) (o : Obj) : (Builtin.len_ #[113] 3 #[.map (some (w.heap.size + 1))]).run Tryd.prog ((w.alloc o).alloc (.map #[] 0)) = .ok (.int .i64 0) ((w.alloc o).alloc (.map #[] 0)) := by
  have h := len_made (w.alloc o)
  have e : (w.alloc o).heap.size = w.heap.size + 1 := by simp
  rw [e] at h
  exact h

set_option maxRecDepth 100000 in
set_option maxHeartbeats 1600000 in
theorem formed_flat1 (w : World) (c : Cv) (hv : In w (.mk 1 0 [] [] []) c) :
    Calls Tryd.prog 50 #[c.agg] w fun e w' => e = .returned (.bool true) ∧ Grow w w' := by
  obtain ⟨aB, aL, aF, cB, cL, cF, rfl, h1, h2, h3, h4, h5, h6, h7, h8, h9, hb⟩ := hv.open
  clear hb hv
  have hmm := @run_makeMap Tryd.prog
  have hml := len_made1 w
  go_enter Tryd.func50, Tryd.ntmps50
  go_wp2_with fail
  refine wp_loop_once ?_
  go_wp2_with fail
  refine wp_loop_once ?_
  go_wp2_with fail
  go_ret
  exact ⟨rfl, ((Grow.refl w).alloc _).alloc _⟩

set_option maxRecDepth 100000 in
set_option maxHeartbeats 1600000 in
theorem formed_flat2 (n : Nat) (hn : n ≤ 1) (w : World) (c : Cv) (hv : In w (.mk 2 n [] [] []) c) :
    Calls Tryd.prog 50 #[c.agg] w fun e w' => e = .returned (.bool true) ∧ Grow w w' := by
  obtain ⟨aB, aL, aF, cB, cL, cF, rfl, h1, h2, h3, h4, h5, h6, h7, h8, h9, hb⟩ := hv.open
  clear hb hv
  have hmm := @run_makeMap Tryd.prog
  have hml := len_made1 w
  go_enter Tryd.func50, Tryd.ntmps50
  go_wp2_with fail
  refine wp_loop_once ?_
  go_wp2_with fail
  refine wp_loop_once ?_
  go_wp2_with fail
  go_ret
  exact ⟨rfl, ((Grow.refl w).alloc _).alloc _⟩

set_option maxRecDepth 100000 in
set_option maxHeartbeats 1600000 in
theorem formed_flat3 (n : Nat) (w : World) (c : Cv) (hv : In w (.mk 3 n [] [] []) c) :
    Calls Tryd.prog 50 #[c.agg] w fun e w' => e = .returned (.bool true) ∧ Grow w w' := by
  obtain ⟨aB, aL, aF, cB, cL, cF, rfl, h1, h2, h3, h4, h5, h6, h7, h8, h9, hb⟩ := hv.open
  clear hb hv
  have hmm := @run_makeMap Tryd.prog
  have hml := len_made1 w
  go_enter Tryd.func50, Tryd.ntmps50
  go_wp2_with fail
  refine wp_loop_once ?_
  go_wp2_with fail
  refine wp_loop_once ?_
  go_wp2_with fail
  go_ret
  exact ⟨rfl, ((Grow.refl w).alloc _).alloc _⟩

set_option maxRecDepth 100000 in
set_option maxHeartbeats 1600000 in
theorem formed_flat4 (n : Nat) (w : World) (c : Cv) (hv : In w (.mk 4 n [] [] []) c) :
    Calls Tryd.prog 50 #[c.agg] w fun e w' => e = .returned (.bool true) ∧ Grow w w' := by
  obtain ⟨aB, aL, aF, cB, cL, cF, rfl, h1, h2, h3, h4, h5, h6, h7, h8, h9, hb⟩ := hv.open
  clear hb hv
  have hmm := @run_makeMap Tryd.prog
  have hml := len_made1 w
  go_enter Tryd.func50, Tryd.ntmps50
  go_wp2_with fail
  refine wp_loop_once ?_
  go_wp2_with fail
  refine wp_loop_once ?_
  go_wp2_with fail
  go_ret
  exact ⟨rfl, ((Grow.refl w).alloc _).alloc _⟩

set_option maxRecDepth 100000 in
set_option maxHeartbeats 1600000 in
theorem formed_flat6 (b : List UInt8) (w : World) (c : Cv) (hv : In w (.mk 6 0 b [] []) c) :
    Calls Tryd.prog 50 #[c.agg] w fun e w' => e = .returned (.bool true) ∧ Grow w w' := by
  obtain ⟨aB, aL, aF, cB, cL, cF, rfl, h1, h2, h3, h4, h5, h6, h7, h8, h9, hb⟩ := hv.open
  clear hb hv
  have hmm := @run_makeMap Tryd.prog
  have hml := len_made1 w
  go_enter Tryd.func50, Tryd.ntmps50
  go_wp2_with fail
  refine wp_loop_once ?_
  go_wp2_with fail
  refine wp_loop_once ?_
  go_wp2_with fail
  go_ret
  exact ⟨rfl, ((Grow.refl w).alloc _).alloc _⟩

set_option maxRecDepth 100000 in
set_option maxHeartbeats 1600000 in
theorem formed_flat5 (b : List UInt8) (hu : Lib.validD b = true) (w : World) (c : Cv) (hT : Tabs w) (hv : In w (.mk 5 0 b [] []) c) :
    Calls Tryd.prog 50 #[c.agg] w fun e w' => e = .returned (.bool true) ∧ Grow w w' := by
  have HT := hide hT
  have HU := hide hu
  obtain ⟨aB, aL, aF, cB, cL, cF, rfl, h1, h2, h3, h4, h5, h6, h7, h8, h9, hb⟩ := hv.open
  have HB := hide hb
  clear hb hv hT hu
  have hmm := @run_makeMap Tryd.prog
  have hml := len_made
  go_enter Tryd.func50, Tryd.ntmps50
  go_wp2_with fail
  refine (valid_any b aB cB _ (HB.out.grow ((Grow.refl w).alloc _)) (by omega) (by omega) (HT.out.grow ((Grow.refl w).alloc _))).mono ?_
  rintro e w' ⟨rfl, hg⟩
  rw [HU.out]
  have hB : Blk w' w.heap.size 37 _ := (Blk.new _ _ _).grow hg
  have hc := hB.cell
  have hBl := hB.lt
  have HG := hide hg
  clear hg hB
  go_wp2_with fail
  refine wp_loop_once ?_
  go_wp2_with fail
  refine wp_loop_once ?_
  go_wp2_with fail
  go_ret
  exact ⟨rfl, (((Grow.refl w).alloc _).trans HG.out).alloc _⟩

set_option maxRecDepth 100000 in
set_option maxHeartbeats 3200000 in
theorem formed_list (l : List V) (hl : ∀ x ∈ l, ∀ (w : World) (c : Cv), Tabs w → In w x c → Calls Tryd.prog 50 #[c.agg] w fun e w' => e = .returned (.bool x.formed) ∧ Grow w w')
    (w : World) (c : Cv) (hT : Tabs w) (hv : In w (.mk 7 0 [] l []) c) :
    Calls Tryd.prog 50 #[c.agg] w fun e w' => e = .returned (.bool (l.all V.formed)) ∧ Grow w w' := by
  have HV := hide hv
  have HT := hide hT
  have Hl := hide hl
  obtain ⟨ANS, hANS⟩ : ∃ A, l.all V.formed = A := ⟨_, rfl⟩
  rw [hANS]
  have HA := hide hANS
  obtain ⟨aB, aL, aF, cB, cL, cF, rfl, h1, h2, h3, h4, h5, h6, h7, h8, h9, hb⟩ := hv.open
  clear hb h1 h2 h3 h4 h5 hv hT hl hANS
  have hmm := @run_makeMap Tryd.prog
  have hml := len_made
  go_enter Tryd.func50, Tryd.ntmps50
  go_wp2_with fail
  go_loopg [95] (l.length + 1) (fun gk i wr => ∃ j : Nat, j ≤ l.length ∧ gk + j = l.length + 1 ∧ i = .int .i64 j ∧ (l.take j).all V.formed = true ∧
    Grow w wr ∧ In wr (.mk 7 0 [] l []) ⟨7, 0, aB, 0, cB, aL, l.length, cL, aF, 0, cF⟩ ∧ Blk wr w.heap.size 37 (Cv.cells ⟨7, 0, aB, 0, cB, aL, l.length, cL, aF, 0, cF⟩))
  case atStart => exact ⟨0, by omega, by omega, rfl, rfl, (Grow.refl w).alloc _, In.grow HV.out ((Grow.refl w).alloc _), Blk.new _ _ _⟩
  case round =>
    obtain ⟨j, hj, hg, rfl, ht, hw, hv, hB⟩ := hrel
    obtain ⟨gk', rfl⟩ : ∃ g, gk = g + 1 := ⟨gk - 1, by omega⟩
    have HTk := hide ht
    by_cases hlt : j < l.length
    · obtain ⟨bk, o, x, ha, hbk, e0, e1, e2, e3, e4, hx⟩ := hv.elemL j hlt
      dsimp only at ha
      subst ha
      have HW := hide hw
      have HX := hide hx
      have HVr := hide hv
      have HB := hide hB
      clear hw hx hv hB ht
      go_wp2_with fail
      refine (Hl.out _ (List.getElem_mem hlt) _ x (HT.out.grow (HW.out.alloc _)) (HX.out.grow ((Grow.refl wr).alloc _))).mono ?_
      rintro e w' ⟨rfl, hb'⟩
      have hgr : Hid (Grow wr w') := ((Grow.refl wr).alloc _).trans hb'
      clear hb' e0 e1 e2 e3 e4
      obtain ⟨R, hR⟩ : ∃ R, l[j].formed = R := ⟨_, rfl⟩
      rw [hR]
      have HR := hide hR
      clear hR
      cases R
      · go_wp2_with fail
        go_ret
        refine ⟨ret_bool ?_, HW.out.trans hgr.out⟩
        rw [← HA.out]
        exact (List.all_eq_false.2 ⟨l[j], List.getElem_mem hlt, by rw [HR.out]; exact Bool.false_ne_true⟩).symm
      · go_wp2_with fail
        go_roundg gk'
        case measure => omega
        case rel => exact ⟨j + 1, by omega, by omega, by go_num, by rw [take_snoc l j hlt, List.all_append, HTk.out]; simp [HR.out], HW.out.trans hgr.out, HVr.out.grow hgr.out, HB.out.grow hgr.out⟩
    · obtain rfl : j = l.length := by omega
      have hc := hB.cell
      have hBl := hB.lt
      have HW := hide hw
      have hA : ANS = true := by rw [← HA.out]; rw [List.take_length] at ht; exact ht
      subst hA
      clear hw hv hB hlt hg ht
      go_wp2_with fail
      refine wp_loop_once ?_
      go_wp2_with fail
      go_ret
      exact ⟨rfl, HW.out.alloc _⟩

set_option maxRecDepth 100000 in
set_option maxHeartbeats 3200000 in
theorem formed_doc (f : List (ByteArray × V)) (hf : ∀ x ∈ f, ∀ (w : World) (c : Cv), Tabs w → In w x.2 c → Calls Tryd.prog 50 #[c.agg] w fun e w' => e = .returned (.bool x.2.formed) ∧ Grow w w')
    (w : World) (c : Cv) (hT : Tabs w) (hv : In w (.mk 8 0 [] [] f) c) :
    Calls Tryd.prog 50 #[c.agg] w fun e w' => e = .returned (.bool ((f.all fun x => V.name x.1 && x.2.formed) && decide ((f.map Prod.fst).Nodup))) ∧ Grow w w' := by
  have HV := hide hv
  have HT := hide hT
  have Hf := hide hf
  obtain ⟨ANS, hANS⟩ : ∃ A, ((f.all fun x => V.name x.1 && x.2.formed) && decide ((f.map Prod.fst).Nodup)) = A := ⟨_, rfl⟩
  rw [hANS]
  have HA := hide hANS
  obtain ⟨aB, aL, aF, cB, cL, cF, rfl, h1, h2, h3, h4, h5, h6, h7, h8, h9, hb⟩ := hv.open
  clear hb h1 h2 h3 h4 h5 hv hT hf hANS
  have hmm := @run_makeMap Tryd.prog
  have law : Keyed Tryd.prog 9 := string_keyed under_string
  go_enter Tryd.func50, Tryd.ntmps50
  go_wp2_with fail
  refine wp_loop_once ?_
  go_wp2_with fail
  go_loopg [107] (f.length + 1) (fun gk i wr => ∃ j : Nat, j ≤ f.length ∧ gk + j = f.length + 1 ∧ i = .int .i64 j ∧ (f.take j).all (fun x => V.name x.1 && x.2.formed) = true ∧
    wr.ownsMap Tryd.prog 9 unitElem (w.heap.size + 1) j (NS ((f.map Prod.fst).take j)) ∧
    Grow w wr ∧ In wr (.mk 8 0 [] [] f) ⟨8, 0, aB, 0, cB, aL, 0, cL, aF, f.length, cF⟩ ∧ Blk wr w.heap.size 37 (Cv.cells ⟨8, 0, aB, 0, cB, aL, 0, cL, aF, f.length, cF⟩))
  case atStart => exact ⟨0, by omega, by omega, rfl, rfl, set_made1 w _, ((Grow.refl w).alloc _).alloc _, In.grow HV.out (((Grow.refl w).alloc _).alloc _), (Blk.new _ _ _).alloc _⟩
  case round =>
    obtain ⟨j, hj, hg, rfl, ht, hown, hw, hv, hB⟩ := hrel
    obtain ⟨gk', rfl⟩ : ∃ g, gk = g + 1 := ⟨gk - 1, by omega⟩
    have HTk := hide ht
    have HO := hide hown
    by_cases hlt : j < f.length
    · obtain ⟨bk, o, x, ha, hbk, es, esz, e0, e1, e2, e3, e4, hx⟩ := HV.out.elemF j hlt
      dsimp only at ha
      subst ha
      have es := (hw.below.cell (p := ⟨bk, o + j * 6, none⟩) hbk).trans es
      have e0 := (hw.below.cell (p := ⟨bk, o + j * 6 + 1, none⟩) hbk).trans e0
      have e1 := (hw.below.cell (p := ⟨bk, o + j * 6 + 1 + 1, none⟩) hbk).trans e1
      have e2 := (hw.below.cell (p := ⟨bk, o + j * 6 + 1 + 2, none⟩) hbk).trans e2
      have e3 := (hw.below.cell (p := ⟨bk, o + j * 6 + 1 + 3, none⟩) hbk).trans e3
      have e4 := (hw.below.cell (p := ⟨bk, o + j * 6 + 1 + 4, none⟩) hbk).trans e4
      have hbk' : bk < wr.heap.size := Nat.lt_of_lt_of_le hbk hw.size
      have hwlt := hB.lt
      have hmlt : w.heap.size + 1 < wr.heap.size := by
        obtain ⟨es, clock, hb, r⟩ := hown
        rcases Nat.lt_or_ge (w.heap.size + 1) wr.heap.size with hlt | hge
        · exact hlt
        · rw [Array.getElem?_eq_none hge] at hb; cases hb
      have hc := hB.cell
      have HW := hide hw
      have HX := hide hx
      have HB := hide hB
      clear hw hx hv hB ht hown
      have hkey : keyOf Tryd.prog 9 (.string f[j].1) = some (nlit f[j].1) := keyOf_string_mk under_string (by simp only [maxLen]; omega)
      obtain ⟨nm, hnm⟩ : ∃ nm, f[j].1 = nm := ⟨_, rfl⟩
      rw [hnm] at es esz hkey
      go_wp2_with (first | (at_mapUpdate; refine wpList_mapUpdate_own _ rfl _ _ _ 113 rfl 9 114 law under_set (unitElem (H := Unit)) (w.heap.size + 1) j _ rfl (HO.out.alloc _) (by unfold maxLen; omega) _ _ _ rfl rfl hkey _ [] unitElem_mk ?_; intro w1 hown1 hgrow1; have hF := Blk.grownBy (Blk.new wr _ _) hgrow1 (by omega); have hFc := hF.cell; have HF := hide hF; have HO1 := hide hown1; have HG1 := hide ((HW.out.alloc _).grown hgrow1 (fun k hk => by cases hk; exact Nat.le_succ _)); have HB1 := hide (Blk.grownBy (HB.out.alloc _) hgrow1 (by omega)); clear hF hown1 hgrow1))
      refine (name_any nm w1 (HT.out.grow HG1.out)).mono ?_
      rintro e w2 ⟨rfl, hg2⟩
      obtain ⟨R, hR⟩ : ∃ R, V.name nm = R := ⟨_, rfl⟩
      rw [hR]
      have HR := hide hR
      have hF2 := HF.out.grow hg2
      have hFc := hF2.cell
      have HF2 := hide hF2
      have HG2 := hide hg2
      clear hR hg2 hF2
      cases R
      · go_wp2_with fail
        go_ret
        refine ⟨ret_bool ?_, HG1.out.trans HG2.out⟩
        rw [← HA.out, List.all_eq_false.2 ⟨f[j], List.getElem_mem hlt, by rw [hnm, HR.out]; exact Bool.false_ne_true⟩]
        rfl
      · go_wp2_with fail
        refine (Hf.out _ (List.getElem_mem hlt) _ x (HT.out.grow (HG1.out.trans HG2.out)) (HX.out.grow (HG1.out.trans HG2.out))).mono ?_
        rintro e w3 ⟨rfl, hg3⟩
        obtain ⟨R, hR⟩ : ∃ R, f[j].2.formed = R := ⟨_, rfl⟩
        rw [hR]
        have HR' := hide hR
        have HG3 := hide hg3
        clear hR hg3
        cases R
        · go_wp2_with fail
          go_ret
          refine ⟨ret_bool ?_, (HG1.out.trans HG2.out).trans HG3.out⟩
          rw [← HA.out, List.all_eq_false.2 ⟨f[j], List.getElem_mem hlt, by rw [HR'.out, Bool.and_false]; exact Bool.false_ne_true⟩]
          rfl
        · go_wp2_with fail
          go_roundg gk'
          case measure => omega
          case rel =>
            refine ⟨j + 1, by omega, by omega, by go_num, by rw [take_snoc f j hlt, List.all_append, HTk.out]; simp [hnm, HR.out, HR'.out], ?_, (HG1.out.trans HG2.out).trans HG3.out, HV.out.grow ((HG1.out.trans HG2.out).trans HG3.out), (HB1.out.grow HG2.out).grow HG3.out⟩
            have h1 := owns_grow (owns_grow HO1.out HG2.out) HG3.out
            rw [take_snoc (f.map Prod.fst) j (by rw [List.length_map]; exact hlt), NS_snoc, List.getElem_map, hnm]
            exact h1
    · obtain rfl : j = f.length := by omega
      have hc := hB.cell
      have hwlt := hB.lt
      have HW := hide hw
      rw [show (f.map Prod.fst).take f.length = f.map Prod.fst from List.take_of_length_le (by simp)] at HO
      rw [List.take_length] at HTk
      obtain ⟨SZ, hSZ⟩ : ∃ s, Maps.size (NS (f.map Prod.fst)) = s := ⟨_, rfl⟩
      have hml := len_set HO.out
      rw [hSZ] at hml
      have HS := hide hSZ
      obtain ⟨nf, hnf⟩ : ∃ nf, nf = f.length := ⟨_, rfl⟩
      have HN := hide hnf
      rw [← hnf]
      rw [← hnf] at hc
      clear hw hv hB hlt hg ht hown hSZ hnf
      by_cases hq : SZ = nf
      · have hq1 : ((SZ : Int) == (nf : Int)) = true := by simp [hq]
        go_wp2_with fail
        go_ret
        refine ⟨ret_bool ?_, HW.out⟩
        have hval : ANS = ((SZ : Int) == (nf : Int)) := by rw [← HA.out, HTk.out, Bool.true_and, ← size_NS_all, HS.out, List.length_map, HN.out]
        rw [hval, hq1]
      · have hq1 : ((SZ : Int) == (nf : Int)) = false := by simp; omega
        go_wp2_with fail
        go_ret
        refine ⟨ret_bool ?_, HW.out⟩
        have hval : ANS = ((SZ : Int) == (nf : Int)) := by rw [← HA.out, HTk.out, Bool.true_and, ← size_NS_all, HS.out, List.length_map, HN.out]
        rw [hval, hq1]

theorem formed_any (v : V) : ∀ (w : World) (c : Cv), Tabs w → In w v c →
    Calls Tryd.prog 50 #[c.agg] w fun e w' => e = .returned (.bool v.formed) ∧ Grow w w' := by
  induction v using V.ind with
  | h k n b l f hl hf =>
    intro w c hT hv
    cases ho : V.own k n b l.length f.length
    · have : (V.mk k n b l f).formed = false := by rw [V.formed_mk, ho]; rfl
      rw [this]
      exact formed_bad k n b l f w c ho hT hv
    · have ho' := ho
      simp only [V.own, Bool.and_eq_true, Bool.or_eq_true, decide_eq_true_eq] at ho'
      obtain ⟨⟨⟨⟨⟨⟨o1, o2⟩, o3⟩, o4⟩, o5⟩, o6⟩, o7⟩ := ho'
      have hL : k ≠ 7 → l = [] := fun hk => List.eq_nil_of_length_eq_zero (by omega)
      have hF : k ≠ 8 → f = [] := fun hk => List.eq_nil_of_length_eq_zero (by omega)
      have hB : k ≠ 5 → k ≠ 6 → b = [] := fun h1 h2 => List.eq_nil_of_length_eq_zero (by omega)
      have hN : k ≠ 2 → k ≠ 3 → k ≠ 4 → n = 0 := fun h1 h2 h3 => by omega
      have hk : k = 1 ∨ k = 2 ∨ k = 3 ∨ k = 4 ∨ k = 5 ∨ k = 6 ∨ k = 7 ∨ k = 8 := by omega
      rw [V.formed_mk, ho]
      clear ho o1 o2 o4 o6 o7
      rcases hk with rfl | rfl | rfl | rfl | rfl | rfl | rfl | rfl
      · obtain rfl := hL (by decide); obtain rfl := hF (by decide); obtain rfl := hB (by decide) (by decide); obtain rfl := hN (by decide) (by decide) (by decide)
        exact formed_flat1 w c hv
      · obtain rfl := hL (by decide); obtain rfl := hF (by decide); obtain rfl := hB (by decide) (by decide)
        exact formed_flat2 n (o3 rfl) w c hv
      · obtain rfl := hL (by decide); obtain rfl := hF (by decide); obtain rfl := hB (by decide) (by decide)
        exact formed_flat3 n w c hv
      · obtain rfl := hL (by decide); obtain rfl := hF (by decide); obtain rfl := hB (by decide) (by decide)
        exact formed_flat4 n w c hv
      · obtain rfl := hL (by decide); obtain rfl := hF (by decide); obtain rfl := hN (by decide) (by decide) (by decide)
        exact formed_flat5 b (o5.resolve_left (fun h => h rfl)) w c hT hv
      · obtain rfl := hL (by decide); obtain rfl := hF (by decide); obtain rfl := hN (by decide) (by decide) (by decide)
        exact formed_flat6 b w c hv
      · obtain rfl := hF (by decide); obtain rfl := hB (by decide) (by decide); obtain rfl := hN (by decide) (by decide) (by decide)
        refine (formed_list l hl w c hT hv).mono ?_
        rintro e w' ⟨rfl, hg⟩
        exact ⟨by simp, hg⟩
      · obtain rfl := hL (by decide); obtain rfl := hB (by decide) (by decide); obtain rfl := hN (by decide) (by decide) (by decide)
        refine (formed_doc f hf w c hT hv).mono ?_
        rintro e w' ⟨rfl, hg⟩
        exact ⟨by simp, hg⟩
end Go.Proofs.YtcdbchifigonpaaDoor
