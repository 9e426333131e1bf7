/- Part 9 of the proof of pindexes_card. -/
import Derived.Test.YtndjopkdbdcmdaaGreatDoorPix4
import Derived.Test.YtndjopkdbdcmdaaGreatDoorPix5
import Derived.Test.YtndjopkdbdcmdaaGreatDoorPix7
import Derived.StringKeys
import Derived.Laws.OwnMore
import Derived.RegionDies
import Derived.Deep.RegionLaw
import Derived.IntWalk
import Derived.Laws.BytesString
import Derived.Laws.BytesArg
import Derived.Recover
set_option linter.unusedVariables false
set_option linter.unusedSimpArgs false
set_option maxRecDepth 100000
set_option maxHeartbeats 12800000
namespace Go.Proofs.YtndjopkdbdcmdaaGreatDoor
section
open Go.RowKit Go.Shelf Go.Maps
theorem formed_kind (k : Int) (n : Nat) (b : List UInt8) (l : List V) (f : List (ByteArray × V)) (w : World) (c : Cv) (hk : k < 1 ∨ 8 < k) (hT : Tabs w) (hv : In w (.mk k n b l f) c) :
 Calls Tryz.prog 43 #[c.agg] w fun e w' => e = .returned (.bool false) ∧ Grow w w' := by
 have HV := hide hv;have HT := hide hT;obtain ⟨aB,aL,aF,cB,cL,cF,rfl,h1,h2,h3,h4,h5,h6,h7,h8,h9,hb⟩ := hv.open;have HB := hide hb;clear hb hv hT;rcases hk with hk | hk
 all_goals
  go_enter Tryz.func43,Tryz.ntmps43
  go_wp2_with fail
  go_ret
  exact ⟨rfl,(Grow.refl w).alloc _⟩
theorem formed_bad1 (n : Nat) (b : List UInt8) (l : List V) (f : List (ByteArray × V)) (w : World) (c : Cv) (ho : V.own 1 n b l.length f.length = false) (hT : Tabs w) (hv : In w (.mk 1 n b l f) c) :
 Calls Tryz.prog 43 #[c.agg] w fun e w' => e = .returned (.bool false) ∧ Grow w w' := by
 have HV := hide hv;have HT := hide hT;obtain ⟨aB,aL,aF,cB,cL,cF,rfl,h1,h2,h3,h4,h5,h6,h7,h8,h9,hb⟩ := hv.open;have HB := hide hb;clear hb hv hT;have HO := hide ho;clear ho;by_cases p0 : ((n : Int) != 0) = true
 ·go_enter Tryz.func43,Tryz.ntmps43;go_wp2_with fail;go_ret;exact ⟨rfl,(Grow.refl w).alloc _⟩
 have q0 : ((n : Int) != 0) = false := by simpa using p0
 by_cases p1 : b = []
 rotate_left
 ·have p1a : 0 < b.length := List.length_pos_iff.2 p1;have p1b : (0 : Int) < (b.length : Int) := by omega
  go_enter Tryz.func43,Tryz.ntmps43;go_wp2_with fail;go_ret;exact ⟨rfl,(Grow.refl w).alloc _⟩
 subst p1;by_cases p2 : l = []
 rotate_left
 ·have p2a : 0 < l.length := List.length_pos_iff.2 p2;have p2b : (0 : Int) < (l.length : Int) := by omega
  go_enter Tryz.func43,Tryz.ntmps43;go_wp2_with fail;go_ret;exact ⟨rfl,(Grow.refl w).alloc _⟩
 subst p2;by_cases p3 : f = []
 rotate_left
 ·have p3a : 0 < f.length := List.length_pos_iff.2 p3;have p3b : (0 : Int) < (f.length : Int) := by omega
  go_enter Tryz.func43,Tryz.ntmps43;go_wp2_with fail;go_ret;exact ⟨rfl,(Grow.refl w).alloc _⟩
 subst p3;exfalso;have ho := HO.out;simp only [V.own,Bool.and_eq_false_iff,Bool.or_eq_false_iff,decide_eq_false_iff_not] at ho
 try simp at ho
 all_goals (first | omega | simp_all)
theorem formed_bad2 (n : Nat) (b : List UInt8) (l : List V) (f : List (ByteArray × V)) (w : World) (c : Cv) (ho : V.own 2 n b l.length f.length = false) (hT : Tabs w) (hv : In w (.mk 2 n b l f) c) :
 Calls Tryz.prog 43 #[c.agg] w fun e w' => e = .returned (.bool false) ∧ Grow w w' := by
 have HV := hide hv;have HT := hide hT;obtain ⟨aB,aL,aF,cB,cL,cF,rfl,h1,h2,h3,h4,h5,h6,h7,h8,h9,hb⟩ := hv.open;have HB := hide hb;clear hb hv hT;have HO := hide ho;clear ho;by_cases p0 : (1 : Int) < (n : Int)
 ·go_enter Tryz.func43,Tryz.ntmps43;go_wp2_with fail;go_ret;exact ⟨rfl,(Grow.refl w).alloc _⟩
 have q0 : ¬ ((1 : Int) < (n : Int)) := p0;by_cases p1 : b = []
 rotate_left
 ·have p1a : 0 < b.length := List.length_pos_iff.2 p1;have p1b : (0 : Int) < (b.length : Int) := by omega
  go_enter Tryz.func43,Tryz.ntmps43;go_wp2_with fail;go_ret;exact ⟨rfl,(Grow.refl w).alloc _⟩
 subst p1;by_cases p2 : l = []
 rotate_left
 ·have p2a : 0 < l.length := List.length_pos_iff.2 p2;have p2b : (0 : Int) < (l.length : Int) := by omega
  go_enter Tryz.func43,Tryz.ntmps43;go_wp2_with fail;go_ret;exact ⟨rfl,(Grow.refl w).alloc _⟩
 subst p2;by_cases p3 : f = []
 rotate_left
 ·have p3a : 0 < f.length := List.length_pos_iff.2 p3;have p3b : (0 : Int) < (f.length : Int) := by omega
  go_enter Tryz.func43,Tryz.ntmps43;go_wp2_with fail;go_ret;exact ⟨rfl,(Grow.refl w).alloc _⟩
 subst p3;exfalso;have ho := HO.out;simp only [V.own,Bool.and_eq_false_iff,Bool.or_eq_false_iff,decide_eq_false_iff_not] at ho
 try simp at ho
 all_goals (first | omega | simp_all)
theorem formed_bad3 (n : Nat) (b : List UInt8) (l : List V) (f : List (ByteArray × V)) (w : World) (c : Cv) (ho : V.own 3 n b l.length f.length = false) (hT : Tabs w) (hv : In w (.mk 3 n b l f) c) :
 Calls Tryz.prog 43 #[c.agg] w fun e w' => e = .returned (.bool false) ∧ Grow w w' := by
 have HV := hide hv;have HT := hide hT;obtain ⟨aB,aL,aF,cB,cL,cF,rfl,h1,h2,h3,h4,h5,h6,h7,h8,h9,hb⟩ := hv.open;have HB := hide hb;clear hb hv hT;have HO := hide ho;clear ho;by_cases p0 : b = []
 rotate_left
 ·have p0a : 0 < b.length := List.length_pos_iff.2 p0;have p0b : (0 : Int) < (b.length : Int) := by omega
  go_enter Tryz.func43,Tryz.ntmps43;go_wp2_with fail;go_ret;exact ⟨rfl,(Grow.refl w).alloc _⟩
 subst p0;by_cases p1 : l = []
 rotate_left
 ·have p1a : 0 < l.length := List.length_pos_iff.2 p1;have p1b : (0 : Int) < (l.length : Int) := by omega
  go_enter Tryz.func43,Tryz.ntmps43;go_wp2_with fail;go_ret;exact ⟨rfl,(Grow.refl w).alloc _⟩
 subst p1;by_cases p2 : f = []
 rotate_left
 ·have p2a : 0 < f.length := List.length_pos_iff.2 p2;have p2b : (0 : Int) < (f.length : Int) := by omega
  go_enter Tryz.func43,Tryz.ntmps43;go_wp2_with fail;go_ret;exact ⟨rfl,(Grow.refl w).alloc _⟩
 subst p2;exfalso;have ho := HO.out;simp only [V.own,Bool.and_eq_false_iff,Bool.or_eq_false_iff,decide_eq_false_iff_not] at ho
 try simp at ho
 all_goals (first | omega | simp_all)
theorem formed_bad4 (n : Nat) (b : List UInt8) (l : List V) (f : List (ByteArray × V)) (w : World) (c : Cv) (ho : V.own 4 n b l.length f.length = false) (hT : Tabs w) (hv : In w (.mk 4 n b l f) c) :
 Calls Tryz.prog 43 #[c.agg] w fun e w' => e = .returned (.bool false) ∧ Grow w w' := by
 have HV := hide hv;have HT := hide hT;obtain ⟨aB,aL,aF,cB,cL,cF,rfl,h1,h2,h3,h4,h5,h6,h7,h8,h9,hb⟩ := hv.open;have HB := hide hb;clear hb hv hT;have HO := hide ho;clear ho;by_cases p0 : b = []
 rotate_left
 ·have p0a : 0 < b.length := List.length_pos_iff.2 p0;have p0b : (0 : Int) < (b.length : Int) := by omega
  go_enter Tryz.func43,Tryz.ntmps43;go_wp2_with fail;go_ret;exact ⟨rfl,(Grow.refl w).alloc _⟩
 subst p0;by_cases p1 : l = []
 rotate_left
 ·have p1a : 0 < l.length := List.length_pos_iff.2 p1;have p1b : (0 : Int) < (l.length : Int) := by omega
  go_enter Tryz.func43,Tryz.ntmps43;go_wp2_with fail;go_ret;exact ⟨rfl,(Grow.refl w).alloc _⟩
 subst p1;by_cases p2 : f = []
 rotate_left
 ·have p2a : 0 < f.length := List.length_pos_iff.2 p2;have p2b : (0 : Int) < (f.length : Int) := by omega
  go_enter Tryz.func43,Tryz.ntmps43;go_wp2_with fail;go_ret;exact ⟨rfl,(Grow.refl w).alloc _⟩
 subst p2;exfalso;have ho := HO.out;simp only [V.own,Bool.and_eq_false_iff,Bool.or_eq_false_iff,decide_eq_false_iff_not] at ho
 try simp at ho
 all_goals (first | omega | simp_all)
theorem formed_bad5 (n : Nat) (b : List UInt8) (l : List V) (f : List (ByteArray × V)) (w : World) (c : Cv) (ho : V.own 5 n b l.length f.length = false) (hT : Tabs w) (hv : In w (.mk 5 n b l f) c) :
 Calls Tryz.prog 43 #[c.agg] w fun e w' => e = .returned (.bool false) ∧ Grow w w' := by
 have HV := hide hv;have HT := hide hT;obtain ⟨aB,aL,aF,cB,cL,cF,rfl,h1,h2,h3,h4,h5,h6,h7,h8,h9,hb⟩ := hv.open;have HB := hide hb;clear hb hv hT;have HO := hide ho;clear ho;by_cases p0 : ((n : Int) != 0) = true
 ·go_enter Tryz.func43,Tryz.ntmps43;go_wp2_with fail;go_ret;exact ⟨rfl,(Grow.refl w).alloc _⟩
 have q0 : ((n : Int) != 0) = false := by simpa using p0
 by_cases p1 : Lib.validD b = false
 ·have P := hide p1;clear p1;go_enter Tryz.func43,Tryz.ntmps43;go_wp2_with fail;refine (valid_any b aB cB _ (HB.out.grow ((Grow.refl w).alloc _)) (by omega) (by omega) (HT.out.grow ((Grow.refl w).alloc _))).mono ?_;rintro e w' ⟨rfl,hg⟩;rw [P.out];have HG := hide hg;clear hg;go_wp2_with fail;go_ret;exact ⟨rfl,((Grow.refl w).alloc _).trans HG.out⟩
 have P := hide p1;clear p1;by_cases p2 : l = []
 rotate_left
 ·have p2a : 0 < l.length := List.length_pos_iff.2 p2;have p2b : (0 : Int) < (l.length : Int) := by omega
  go_enter Tryz.func43,Tryz.ntmps43;go_wp2_with fail;refine (valid_any b aB cB _ (HB.out.grow ((Grow.refl w).alloc _)) (by omega) (by omega) (HT.out.grow ((Grow.refl w).alloc _))).mono ?_;rintro e w' ⟨rfl,hg⟩;rw [eq_true_of_ne_false P.out];have hB : Blk w' w.heap.size 27 _ := (Blk.new _ _ _).grow hg;have hc := hB.cell;have HG := hide hg;clear hg hB;go_wp2_with fail;go_ret;exact ⟨rfl,((Grow.refl w).alloc _).trans HG.out⟩
 subst p2;by_cases p3 : f = []
 rotate_left
 ·have p3a : 0 < f.length := List.length_pos_iff.2 p3;have p3b : (0 : Int) < (f.length : Int) := by omega
  go_enter Tryz.func43,Tryz.ntmps43;go_wp2_with fail;refine (valid_any b aB cB _ (HB.out.grow ((Grow.refl w).alloc _)) (by omega) (by omega) (HT.out.grow ((Grow.refl w).alloc _))).mono ?_;rintro e w' ⟨rfl,hg⟩;rw [eq_true_of_ne_false P.out];have hB : Blk w' w.heap.size 27 _ := (Blk.new _ _ _).grow hg;have hc := hB.cell;have HG := hide hg;clear hg hB;go_wp2_with fail;go_ret;exact ⟨rfl,((Grow.refl w).alloc _).trans HG.out⟩
 subst p3;exfalso;have ho := HO.out;simp only [V.own,Bool.and_eq_false_iff,Bool.or_eq_false_iff,decide_eq_false_iff_not] at ho;have P2 := P.out
 try simp at ho
 all_goals (first | omega | simp_all)
theorem formed_bad6 (n : Nat) (b : List UInt8) (l : List V) (f : List (ByteArray × V)) (w : World) (c : Cv) (ho : V.own 6 n b l.length f.length = false) (hT : Tabs w) (hv : In w (.mk 6 n b l f) c) :
 Calls Tryz.prog 43 #[c.agg] w fun e w' => e = .returned (.bool false) ∧ Grow w w' := by
 have HV := hide hv;have HT := hide hT;obtain ⟨aB,aL,aF,cB,cL,cF,rfl,h1,h2,h3,h4,h5,h6,h7,h8,h9,hb⟩ := hv.open;have HB := hide hb;clear hb hv hT;have HO := hide ho;clear ho;by_cases p0 : ((n : Int) != 0) = true
 ·go_enter Tryz.func43,Tryz.ntmps43;go_wp2_with fail;go_ret;exact ⟨rfl,(Grow.refl w).alloc _⟩
 have q0 : ((n : Int) != 0) = false := by simpa using p0
 by_cases p1 : l = []
 rotate_left
 ·have p1a : 0 < l.length := List.length_pos_iff.2 p1;have p1b : (0 : Int) < (l.length : Int) := by omega
  go_enter Tryz.func43,Tryz.ntmps43;go_wp2_with fail;go_ret;exact ⟨rfl,(Grow.refl w).alloc _⟩
 subst p1;by_cases p2 : f = []
 rotate_left
 ·have p2a : 0 < f.length := List.length_pos_iff.2 p2;have p2b : (0 : Int) < (f.length : Int) := by omega
  go_enter Tryz.func43,Tryz.ntmps43;go_wp2_with fail;go_ret;exact ⟨rfl,(Grow.refl w).alloc _⟩
 subst p2;exfalso;have ho := HO.out;simp only [V.own,Bool.and_eq_false_iff,Bool.or_eq_false_iff,decide_eq_false_iff_not] at ho
 try simp at ho
 all_goals (first | omega | simp_all)
theorem formed_bad7 (n : Nat) (b : List UInt8) (l : List V) (f : List (ByteArray × V)) (w : World) (c : Cv) (ho : V.own 7 n b l.length f.length = false) (hT : Tabs w) (hv : In w (.mk 7 n b l f) c) :
 Calls Tryz.prog 43 #[c.agg] w fun e w' => e = .returned (.bool false) ∧ Grow w w' := by
 have HV := hide hv;have HT := hide hT;obtain ⟨aB,aL,aF,cB,cL,cF,rfl,h1,h2,h3,h4,h5,h6,h7,h8,h9,hb⟩ := hv.open;have HB := hide hb;clear hb hv hT;have HO := hide ho;clear ho;by_cases p0 : ((n : Int) != 0) = true
 ·go_enter Tryz.func43,Tryz.ntmps43;go_wp2_with fail;go_ret;exact ⟨rfl,(Grow.refl w).alloc _⟩
 have q0 : ((n : Int) != 0) = false := by simpa using p0
 by_cases p1 : b = []
 rotate_left
 ·have p1a : 0 < b.length := List.length_pos_iff.2 p1;have p1b : (0 : Int) < (b.length : Int) := by omega
  go_enter Tryz.func43,Tryz.ntmps43;go_wp2_with fail;go_ret;exact ⟨rfl,(Grow.refl w).alloc _⟩
 subst p1;by_cases p2 : f = []
 rotate_left
 ·have p2a : 0 < f.length := List.length_pos_iff.2 p2;have p2b : (0 : Int) < (f.length : Int) := by omega
  go_enter Tryz.func43,Tryz.ntmps43;go_wp2_with fail;go_ret;exact ⟨rfl,(Grow.refl w).alloc _⟩
 subst p2;exfalso;have ho := HO.out;simp only [V.own,Bool.and_eq_false_iff,Bool.or_eq_false_iff,decide_eq_false_iff_not] at ho
 try simp at ho
 all_goals (first | omega | simp_all)
theorem formed_bad8 (n : Nat) (b : List UInt8) (l : List V) (f : List (ByteArray × V)) (w : World) (c : Cv) (ho : V.own 8 n b l.length f.length = false) (hT : Tabs w) (hv : In w (.mk 8 n b l f) c) :
 Calls Tryz.prog 43 #[c.agg] w fun e w' => e = .returned (.bool false) ∧ Grow w w' := by
 have HV := hide hv;have HT := hide hT;obtain ⟨aB,aL,aF,cB,cL,cF,rfl,h1,h2,h3,h4,h5,h6,h7,h8,h9,hb⟩ := hv.open;have HB := hide hb;clear hb hv hT;have HO := hide ho;clear ho;by_cases p0 : ((n : Int) != 0) = true
 ·go_enter Tryz.func43,Tryz.ntmps43;go_wp2_with fail;go_ret;exact ⟨rfl,(Grow.refl w).alloc _⟩
 have q0 : ((n : Int) != 0) = false := by simpa using p0
 by_cases p1 : b = []
 rotate_left
 ·have p1a : 0 < b.length := List.length_pos_iff.2 p1;have p1b : (0 : Int) < (b.length : Int) := by omega
  go_enter Tryz.func43,Tryz.ntmps43;go_wp2_with fail;go_ret;exact ⟨rfl,(Grow.refl w).alloc _⟩
 subst p1;by_cases p2 : l = []
 rotate_left
 ·have p2a : 0 < l.length := List.length_pos_iff.2 p2;have p2b : (0 : Int) < (l.length : Int) := by omega
  go_enter Tryz.func43,Tryz.ntmps43;go_wp2_with fail;go_ret;exact ⟨rfl,(Grow.refl w).alloc _⟩
 subst p2;exfalso;have ho := HO.out;simp only [V.own,Bool.and_eq_false_iff,Bool.or_eq_false_iff,decide_eq_false_iff_not] at ho
 try simp at ho
 all_goals (first | omega | simp_all)
theorem formed_bad (k : Int) (n : Nat) (b : List UInt8) (l : List V) (f : List (ByteArray × V)) (w : World) (c : Cv) (ho : V.own k n b l.length f.length = false) (hT : Tabs w) (hv : In w (.mk k n b l f) c) :
 Calls Tryz.prog 43 #[c.agg] w fun e w' => e = .returned (.bool false) ∧ Grow w w' := by
 by_cases hk : k < 1 ∨ 8 < k
 ·exact formed_kind k n b l f w c hk hT hv
 have : k = 1 ∨ k = 2 ∨ k = 3 ∨ k = 4 ∨ k = 5 ∨ k = 6 ∨ k = 7 ∨ k = 8 := by omega
 rcases this with rfl | rfl | rfl | rfl | rfl | rfl | rfl | rfl
 ·exact formed_bad1 n b l f w c ho hT hv
 ·exact formed_bad2 n b l f w c ho hT hv
 ·exact formed_bad3 n b l f w c ho hT hv
 ·exact formed_bad4 n b l f w c ho hT hv
 ·exact formed_bad5 n b l f w c ho hT hv
 ·exact formed_bad6 n b l f w c ho hT hv
 ·exact formed_bad7 n b l f w c ho hT hv
 exact formed_bad8 n b l f w c ho hT hv
end
section
open Go.RowKit Go.Shelf Go.Maps Go.WideMaps
theorem under_set : Tryz.prog.underlying 137 = some (.map 9 138) := by kernel_rfl
theorem len_set {w : World} {b n : Nat} {D : DataW Unit} (h : w.ownsMap Tryz.prog 9 unitElem b n D) : (Builtin.len_ #[137] 3 #[.map (some b)]).run Tryz.prog w = .ok (.int .i64 (Maps.size D)) w := h.len under_set _
theorem set_made (w : World) : (w.alloc (.map #[] 0)).ownsMap Tryz.prog 9 unitElem w.heap.size 0 (NS []) := World.ownsMap_made _ _ _ _
theorem set_made1 (w : World) (o : Obj) : ((w.alloc o).alloc (.map #[] 0)).ownsMap Tryz.prog 9 unitElem (w.heap.size + 1) 0 (NS []) := by
 have h := set_made (w.alloc o);have e : (w.alloc o).heap.size = w.heap.size + 1 := by simp
 rw [e] at h;exact h
theorem owns_grow {w w' : World} {b n : Nat} {D : DataW Unit} (h : w.ownsMap Tryz.prog 9 unitElem b n D) (hg : Grow w w') : w'.ownsMap Tryz.prog 9 unitElem b n D := by
 obtain ⟨es,clock,hb,r⟩ := h;have hlt : b < w.heap.size := by
  rcases Nat.lt_or_ge b w.heap.size with hlt | hge
  ·exact hlt
  exact absurd ((Array.getElem?_eq_none hge).symm.trans hb) (by simp)
 exact ⟨es,clock,(Below.block hg b hlt).trans hb,r⟩
theorem Blk.grownBy {w w' : World} {g r : Nat} {t : TypeId} {cs : Array Value} (h : Blk w g t cs) (hg : w.grownBy w' (some r)) (hne : g ≠ r) : Blk w' g t cs := by
 unfold Blk at h ⊢;rw [hg.block g (Blk.lt h) (fun e => hne (Option.some.inj e))];exact h
theorem len_made (w : World) : (Builtin.len_ #[137] 3 #[.map (some w.heap.size)]).run Tryz.prog (w.alloc (.map #[] 0)) = .ok (.int .i64 0) (w.alloc (.map #[] 0)) := len_set (set_made w)
theorem len_made1 (w : World) (o : Obj) : (Builtin.len_ #[137] 3 #[.map (some (w.heap.size + 1))]).run Tryz.prog ((w.alloc o).alloc (.map #[] 0)) = .ok (.int .i64 0) ((w.alloc o).alloc (.map #[] 0)) := by
 have h := len_made (w.alloc o);have e : (w.alloc o).heap.size = w.heap.size + 1 := by simp
 rw [e] at h;exact h
theorem formed_flat1 (w : World) (c : Cv) (hv : In w (.mk 1 0 [] [] []) c) :
 Calls Tryz.prog 43 #[c.agg] w fun e w' => e = .returned (.bool true) ∧ Grow w w' := by
 obtain ⟨aB,aL,aF,cB,cL,cF,rfl,h1,h2,h3,h4,h5,h6,h7,h8,h9,hb⟩ := hv.open;clear hb hv;have hmm := @run_makeMap Tryz.prog;have hml := len_made1 w;go_enter Tryz.func43,Tryz.ntmps43;go_wp2_with fail;refine wp_loop_once ?_;go_wp2_with fail;refine wp_loop_once ?_;go_wp2_with fail;go_ret;exact ⟨rfl,((Grow.refl w).alloc _).alloc _⟩
theorem formed_flat2 (n : Nat) (hn : n ≤ 1) (w : World) (c : Cv) (hv : In w (.mk 2 n [] [] []) c) :
 Calls Tryz.prog 43 #[c.agg] w fun e w' => e = .returned (.bool true) ∧ Grow w w' := by
 obtain ⟨aB,aL,aF,cB,cL,cF,rfl,h1,h2,h3,h4,h5,h6,h7,h8,h9,hb⟩ := hv.open;clear hb hv;have hmm := @run_makeMap Tryz.prog;have hml := len_made1 w;go_enter Tryz.func43,Tryz.ntmps43;go_wp2_with fail;refine wp_loop_once ?_;go_wp2_with fail;refine wp_loop_once ?_;go_wp2_with fail;go_ret;exact ⟨rfl,((Grow.refl w).alloc _).alloc _⟩
theorem formed_flat3 (n : Nat) (w : World) (c : Cv) (hv : In w (.mk 3 n [] [] []) c) :
 Calls Tryz.prog 43 #[c.agg] w fun e w' => e = .returned (.bool true) ∧ Grow w w' := by
 obtain ⟨aB,aL,aF,cB,cL,cF,rfl,h1,h2,h3,h4,h5,h6,h7,h8,h9,hb⟩ := hv.open;clear hb hv;have hmm := @run_makeMap Tryz.prog;have hml := len_made1 w;go_enter Tryz.func43,Tryz.ntmps43;go_wp2_with fail;refine wp_loop_once ?_;go_wp2_with fail;refine wp_loop_once ?_;go_wp2_with fail;go_ret;exact ⟨rfl,((Grow.refl w).alloc _).alloc _⟩
theorem formed_flat4 (n : Nat) (w : World) (c : Cv) (hv : In w (.mk 4 n [] [] []) c) :
 Calls Tryz.prog 43 #[c.agg] w fun e w' => e = .returned (.bool true) ∧ Grow w w' := by
 obtain ⟨aB,aL,aF,cB,cL,cF,rfl,h1,h2,h3,h4,h5,h6,h7,h8,h9,hb⟩ := hv.open;clear hb hv;have hmm := @run_makeMap Tryz.prog;have hml := len_made1 w;go_enter Tryz.func43,Tryz.ntmps43;go_wp2_with fail;refine wp_loop_once ?_;go_wp2_with fail;refine wp_loop_once ?_;go_wp2_with fail;go_ret;exact ⟨rfl,((Grow.refl w).alloc _).alloc _⟩
theorem formed_flat6 (b : List UInt8) (w : World) (c : Cv) (hv : In w (.mk 6 0 b [] []) c) :
 Calls Tryz.prog 43 #[c.agg] w fun e w' => e = .returned (.bool true) ∧ Grow w w' := by
 obtain ⟨aB,aL,aF,cB,cL,cF,rfl,h1,h2,h3,h4,h5,h6,h7,h8,h9,hb⟩ := hv.open;clear hb hv;have hmm := @run_makeMap Tryz.prog;have hml := len_made1 w;go_enter Tryz.func43,Tryz.ntmps43;go_wp2_with fail;refine wp_loop_once ?_;go_wp2_with fail;refine wp_loop_once ?_;go_wp2_with fail;go_ret;exact ⟨rfl,((Grow.refl w).alloc _).alloc _⟩
theorem formed_flat5 (b : List UInt8) (hu : Lib.validD b = true) (w : World) (c : Cv) (hT : Tabs w) (hv : In w (.mk 5 0 b [] []) c) :
 Calls Tryz.prog 43 #[c.agg] w fun e w' => e = .returned (.bool true) ∧ Grow w w' := by
 have HT := hide hT;have HU := hide hu;obtain ⟨aB,aL,aF,cB,cL,cF,rfl,h1,h2,h3,h4,h5,h6,h7,h8,h9,hb⟩ := hv.open;have HB := hide hb;clear hb hv hT hu;have hmm := @run_makeMap Tryz.prog;have hml := len_made;go_enter Tryz.func43,Tryz.ntmps43;go_wp2_with fail;refine (valid_any b aB cB _ (HB.out.grow ((Grow.refl w).alloc _)) (by omega) (by omega) (HT.out.grow ((Grow.refl w).alloc _))).mono ?_;rintro e w' ⟨rfl,hg⟩;rw [HU.out];have hB : Blk w' w.heap.size 27 _ := (Blk.new _ _ _).grow hg;have hc := hB.cell;have hBl := hB.lt;have HG := hide hg;clear hg hB;go_wp2_with fail;refine wp_loop_once ?_;go_wp2_with fail;refine wp_loop_once ?_;go_wp2_with fail;go_ret;exact ⟨rfl,(((Grow.refl w).alloc _).trans HG.out).alloc _⟩
theorem formed_list (l : List V) (hl : ∀ x ∈ l,∀ (w : World) (c : Cv),Tabs w → In w x c → Calls Tryz.prog 43 #[c.agg] w fun e w' => e = .returned (.bool x.formed) ∧ Grow w w')
 (w : World) (c : Cv) (hT : Tabs w) (hv : In w (.mk 7 0 [] l []) c) :
 Calls Tryz.prog 43 #[c.agg] w fun e w' => e = .returned (.bool (l.all V.formed)) ∧ Grow w w' := by
 have HV := hide hv;have HT := hide hT;have Hl := hide hl;obtain ⟨ANS,hANS⟩ : ∃ A,l.all V.formed = A := ⟨_,rfl⟩;rw [hANS];have HA := hide hANS;obtain ⟨aB,aL,aF,cB,cL,cF,rfl,h1,h2,h3,h4,h5,h6,h7,h8,h9,hb⟩ := hv.open;clear hb h1 h2 h3 h4 h5 hv hT hl hANS;have hmm := @run_makeMap Tryz.prog;have hml := len_made;go_enter Tryz.func43,Tryz.ntmps43;go_wp2_with fail;go_loopg [95] (l.length + 1) (fun gk i wr => ∃ j : Nat,j ≤ l.length ∧ gk + j = l.length + 1 ∧ i = .int .i64 j ∧ (l.take j).all V.formed = true ∧
  Grow w wr ∧ In wr (.mk 7 0 [] l []) ⟨7,0,aB,0,cB,aL,l.length,cL,aF,0,cF⟩ ∧ Blk wr w.heap.size 27 (Cv.cells ⟨7,0,aB,0,cB,aL,l.length,cL,aF,0,cF⟩))
 case atStart => exact ⟨0,by omega,by omega,rfl,rfl,(Grow.refl w).alloc _,In.grow HV.out ((Grow.refl w).alloc _),Blk.new _ _ _⟩
 case round =>
  obtain ⟨j,hj,hg,rfl,ht,hw,hv,hB⟩ := hrel;obtain ⟨gk',rfl⟩ := gk_ gk (by omega);have HTk := hide ht;by_cases hlt : j < l.length
  ·obtain ⟨bk,o,x,ha,hbk,e0,e1,e2,e3,e4,hx⟩ := hv.elemL j hlt;dsimp only at ha;subst ha;have HW := hide hw;have HX := hide hx;have HVr := hide hv;have HB := hide hB;clear hw hx hv hB ht;go_wp2_with fail;refine (Hl.out _ (List.getElem_mem hlt) _ x (HT.out.grow (HW.out.alloc _)) (HX.out.grow ((Grow.refl wr).alloc _))).mono ?_;rintro e w' ⟨rfl,hb'⟩;have hgr : Hid (Grow wr w') := ((Grow.refl wr).alloc _).trans hb';clear hb' e0 e1 e2 e3 e4;obtain ⟨R,hR⟩ : ∃ R,l[j].formed = R := ⟨_,rfl⟩;rw [hR];have HR := hide hR;clear hR
   cases R
   ·go_wp2_with fail;go_ret;refine ⟨ret_bool ?_,HW.out.trans hgr.out⟩;rw [← HA.out];exact (List.all_eq_false.2 ⟨l[j],List.getElem_mem hlt,by rw [HR.out];exact Bool.false_ne_true⟩).symm
   go_wp2_with fail;go_roundg gk'
   case measure => omega
   case rel => exact ⟨j + 1,by omega,by omega,by go_num,by rw [take_snoc l j hlt,List.all_append,HTk.out];simp [HR.out],HW.out.trans hgr.out,HVr.out.grow hgr.out,HB.out.grow hgr.out⟩
  obtain rfl : j = l.length := by omega
  have hc := hB.cell;have hBl := hB.lt;have HW := hide hw;have hA : ANS = true := by rw [← HA.out];rw [List.take_length] at ht;exact ht
  subst hA;clear hw hv hB hlt hg ht;go_wp2_with fail;refine wp_loop_once ?_;go_wp2_with fail;go_ret;exact ⟨rfl,HW.out.alloc _⟩
theorem formed_doc (f : List (ByteArray × V)) (hf : ∀ x ∈ f,∀ (w : World) (c : Cv),Tabs w → In w x.2 c → Calls Tryz.prog 43 #[c.agg] w fun e w' => e = .returned (.bool x.2.formed) ∧ Grow w w')
 (w : World) (c : Cv) (hT : Tabs w) (hv : In w (.mk 8 0 [] [] f) c) :
 Calls Tryz.prog 43 #[c.agg] w fun e w' => e = .returned (.bool ((f.all fun x => V.name x.1 && x.2.formed) && decide ((f.map Prod.fst).Nodup))) ∧ Grow w w' := by
 have HV := hide hv;have HT := hide hT;have Hf := hide hf;obtain ⟨ANS,hANS⟩ : ∃ A,((f.all fun x => V.name x.1 && x.2.formed) && decide ((f.map Prod.fst).Nodup)) = A := ⟨_,rfl⟩;rw [hANS];have HA := hide hANS;obtain ⟨aB,aL,aF,cB,cL,cF,rfl,h1,h2,h3,h4,h5,h6,h7,h8,h9,hb⟩ := hv.open;clear hb h1 h2 h3 h4 h5 hv hT hf hANS;have hmm := @run_makeMap Tryz.prog;have law : Keyed Tryz.prog 9 := string_keyed under_string;go_enter Tryz.func43,Tryz.ntmps43;go_wp2_with fail;refine wp_loop_once ?_;go_wp2_with fail;go_loopg [107] (f.length + 1) (fun gk i wr => ∃ j : Nat,j ≤ f.length ∧ gk + j = f.length + 1 ∧ i = .int .i64 j ∧ (f.take j).all (fun x => V.name x.1 && x.2.formed) = true ∧
  wr.ownsMap Tryz.prog 9 unitElem (w.heap.size + 1) j (NS ((f.map Prod.fst).take j)) ∧
  Grow w wr ∧ In wr (.mk 8 0 [] [] f) ⟨8,0,aB,0,cB,aL,0,cL,aF,f.length,cF⟩ ∧ Blk wr w.heap.size 27 (Cv.cells ⟨8,0,aB,0,cB,aL,0,cL,aF,f.length,cF⟩))
 case atStart => exact ⟨0,by omega,by omega,rfl,rfl,set_made1 w _,((Grow.refl w).alloc _).alloc _,In.grow HV.out (((Grow.refl w).alloc _).alloc _),(Blk.new _ _ _).alloc _⟩
 case round =>
  obtain ⟨j,hj,hg,rfl,ht,hown,hw,hv,hB⟩ := hrel;obtain ⟨gk',rfl⟩ := gk_ gk (by omega);have HTk := hide ht;have HO := hide hown;by_cases hlt : j < f.length
  ·obtain ⟨bk,o,x,ha,hbk,es,esz,e0,e1,e2,e3,e4,hx⟩ := HV.out.elemF j hlt;dsimp only at ha;subst ha;have es := (hw.below.cell (p := ⟨bk,o + j * 6,none⟩) hbk).trans es;have e0 := (hw.below.cell (p := ⟨bk,o + j * 6 + 1,none⟩) hbk).trans e0;have e1 := (hw.below.cell (p := ⟨bk,o + j * 6 + 1 + 1,none⟩) hbk).trans e1;have e2 := (hw.below.cell (p := ⟨bk,o + j * 6 + 1 + 2,none⟩) hbk).trans e2;have e3 := (hw.below.cell (p := ⟨bk,o + j * 6 + 1 + 3,none⟩) hbk).trans e3;have e4 := (hw.below.cell (p := ⟨bk,o + j * 6 + 1 + 4,none⟩) hbk).trans e4;have hbk' : bk < wr.heap.size := Nat.lt_of_lt_of_le hbk hw.size;have hwlt := hB.lt;have hmlt : w.heap.size + 1 < wr.heap.size := by
    obtain ⟨es,clock,hb,r⟩ := hown;rcases Nat.lt_or_ge (w.heap.size + 1) wr.heap.size with hlt | hge
    ·exact hlt
    rw [Array.getElem?_eq_none hge] at hb;cases hb
   have hc := hB.cell;have HW := hide hw;have HX := hide hx;have HB := hide hB;clear hw hx hv hB ht hown;have hkey : keyOf Tryz.prog 9 (.string f[j].1) = some (nlit f[j].1) := keyOf_string_mk under_string (by simp only [maxLen];omega);obtain ⟨nm,hnm⟩ : ∃ nm,f[j].1 = nm := ⟨_,rfl⟩;rw [hnm] at es esz hkey;go_wp2_with (first | (at_mapUpdate;refine wpList_mapUpdate_own _ rfl _ _ _ 137 rfl 9 138 law under_set (unitElem (H := Unit)) (w.heap.size + 1) j _ rfl (HO.out.alloc _) (by unfold maxLen;omega) _ _ _ rfl rfl hkey _ [] unitElem_mk ?_;intro w1 hown1 hgrow1;have hF := Blk.grownBy (Blk.new wr _ _) hgrow1 (by omega);have hFc := hF.cell;have HF := hide hF;have HO1 := hide hown1;have HG1 := hide ((HW.out.alloc _).grown hgrow1 (fun k hk => by cases hk;exact Nat.le_succ _));have HB1 := hide (Blk.grownBy (HB.out.alloc _) hgrow1 (by omega));clear hF hown1 hgrow1))
   refine (name_any nm w1 (HT.out.grow HG1.out)).mono ?_;rintro e w2 ⟨rfl,hg2⟩;obtain ⟨R,hR⟩ : ∃ R,V.name nm = R := ⟨_,rfl⟩;rw [hR];have HR := hide hR;have hF2 := HF.out.grow hg2;have hFc := hF2.cell;have HF2 := hide hF2;have HG2 := hide hg2;clear hR hg2 hF2
   cases R
   ·go_wp2_with fail;go_ret;refine ⟨ret_bool ?_,HG1.out.trans HG2.out⟩;rw [← HA.out,List.all_eq_false.2 ⟨f[j],List.getElem_mem hlt,by rw [hnm,HR.out];exact Bool.false_ne_true⟩];rfl
   go_wp2_with fail;refine (Hf.out _ (List.getElem_mem hlt) _ x (HT.out.grow (HG1.out.trans HG2.out)) (HX.out.grow (HG1.out.trans HG2.out))).mono ?_;rintro e w3 ⟨rfl,hg3⟩;obtain ⟨R,hR⟩ : ∃ R,f[j].2.formed = R := ⟨_,rfl⟩;rw [hR];have HR' := hide hR;have HG3 := hide hg3;clear hR hg3
   cases R
   ·go_wp2_with fail;go_ret;refine ⟨ret_bool ?_,(HG1.out.trans HG2.out).trans HG3.out⟩;rw [← HA.out,List.all_eq_false.2 ⟨f[j],List.getElem_mem hlt,by rw [HR'.out,Bool.and_false];exact Bool.false_ne_true⟩];rfl
   go_wp2_with fail;go_roundg gk'
   case measure => omega
   case rel =>
    refine ⟨j + 1,by omega,by omega,by go_num,by rw [take_snoc f j hlt,List.all_append,HTk.out];simp [hnm,HR.out,HR'.out],?_,(HG1.out.trans HG2.out).trans HG3.out,HV.out.grow ((HG1.out.trans HG2.out).trans HG3.out),(HB1.out.grow HG2.out).grow HG3.out⟩;have h1 := owns_grow (owns_grow HO1.out HG2.out) HG3.out;rw [take_snoc (f.map Prod.fst) j (by rw [List.length_map];exact hlt),NS_snoc,List.getElem_map,hnm];exact h1
  obtain rfl : j = f.length := by omega
  have hc := hB.cell;have hwlt := hB.lt;have HW := hide hw;rw [show (f.map Prod.fst).take f.length = f.map Prod.fst from List.take_of_length_le (by simp)] at HO;rw [List.take_length] at HTk;obtain ⟨SZ,hSZ⟩ : ∃ s,Maps.size (NS (f.map Prod.fst)) = s := ⟨_,rfl⟩;have hml := len_set HO.out;rw [hSZ] at hml;have HS := hide hSZ;obtain ⟨nf,hnf⟩ : ∃ nf,nf = f.length := ⟨_,rfl⟩;have HN := hide hnf;rw [← hnf];rw [← hnf] at hc;clear hw hv hB hlt hg ht hown hSZ hnf;by_cases hq : SZ = nf
  ·have hq1 : ((SZ : Int) == (nf : Int)) = true := by simp [hq]
   go_wp2_with fail;go_ret;refine ⟨ret_bool ?_,HW.out⟩;have hval : ANS = ((SZ : Int) == (nf : Int)) := by rw [← HA.out,HTk.out,Bool.true_and,← size_NS_all,HS.out,List.length_map,HN.out]
   rw [hval,hq1]
  have hq1 : ((SZ : Int) == (nf : Int)) = false := by simp;omega
  go_wp2_with fail;go_ret;refine ⟨ret_bool ?_,HW.out⟩;have hval : ANS = ((SZ : Int) == (nf : Int)) := by rw [← HA.out,HTk.out,Bool.true_and,← size_NS_all,HS.out,List.length_map,HN.out]
  rw [hval,hq1]
theorem formed_any (v : V) : ∀ (w : World) (c : Cv),Tabs w → In w v c →
 Calls Tryz.prog 43 #[c.agg] w fun e w' => e = .returned (.bool v.formed) ∧ Grow w w' := by
 induction v using V.ind with
 | h k n b l f hl hf =>
  intro w c hT hv
  cases ho : V.own k n b l.length f.length
  ·have : (V.mk k n b l f).formed = false := by rw [V.formed_mk,ho];rfl
   rw [this];exact formed_bad k n b l f w c ho hT hv
  have ho' := ho;simp only [V.own,Bool.and_eq_true,Bool.or_eq_true,decide_eq_true_eq] at ho';obtain ⟨⟨⟨⟨⟨⟨o1,o2⟩,o3⟩,o4⟩,o5⟩,o6⟩,o7⟩ := ho';have hL : k ≠ 7 → l = [] := fun hk => List.eq_nil_of_length_eq_zero (by omega)
  have hF : k ≠ 8 → f = [] := fun hk => List.eq_nil_of_length_eq_zero (by omega)
  have hB : k ≠ 5 → k ≠ 6 → b = [] := fun h1 h2 => List.eq_nil_of_length_eq_zero (by omega)
  have hN : k ≠ 2 → k ≠ 3 → k ≠ 4 → n = 0 := fun h1 h2 h3 => by omega
  have hk : k = 1 ∨ k = 2 ∨ k = 3 ∨ k = 4 ∨ k = 5 ∨ k = 6 ∨ k = 7 ∨ k = 8 := by omega
  rw [V.formed_mk,ho];clear ho o1 o2 o4 o6 o7;rcases hk with rfl | rfl | rfl | rfl | rfl | rfl | rfl | rfl
  ·obtain rfl := hL (by decide);obtain rfl := hF (by decide);obtain rfl := hB (by decide) (by decide);obtain rfl := hN (by decide) (by decide) (by decide);exact formed_flat1 w c hv
  ·obtain rfl := hL (by decide);obtain rfl := hF (by decide);obtain rfl := hB (by decide) (by decide);exact formed_flat2 n (o3 rfl) w c hv
  ·obtain rfl := hL (by decide);obtain rfl := hF (by decide);obtain rfl := hB (by decide) (by decide);exact formed_flat3 n w c hv
  ·obtain rfl := hL (by decide);obtain rfl := hF (by decide);obtain rfl := hB (by decide) (by decide);exact formed_flat4 n w c hv
  ·obtain rfl := hL (by decide);obtain rfl := hF (by decide);obtain rfl := hN (by decide) (by decide) (by decide);exact formed_flat5 b (o5.resolve_left (fun h => h rfl)) w c hT hv
  ·obtain rfl := hL (by decide);obtain rfl := hF (by decide);obtain rfl := hN (by decide) (by decide) (by decide);exact formed_flat6 b w c hv
  ·obtain rfl := hF (by decide);obtain rfl := hB (by decide) (by decide);obtain rfl := hN (by decide) (by decide) (by decide);refine (formed_list l hl w c hT hv).mono ?_;rintro e w' ⟨rfl,hg⟩;exact ⟨by simp,hg⟩
  obtain rfl := hL (by decide);obtain rfl := hB (by decide) (by decide);obtain rfl := hN (by decide) (by decide) (by decide);refine (formed_doc f hf w c hT hv).mono ?_;rintro e w' ⟨rfl,hg⟩;exact ⟨by simp,hg⟩
end
section
open Go.RowKit Go.Shelf
theorem sum_le_mul {α : Type} (l : List α) (p q : α → Nat) (m : Nat) (h : ∀ x ∈ l,p x ≤ q x * m) : (l.map p).sum ≤ (l.map q).sum * m := by
 induction l with
 | nil => simp
 | cons x xs ih =>
  have h1 := h x (by simp);have h2 := ih (fun y hy => h y (by simp [hy]));simp only [List.map_cons,List.sum_cons,Nat.add_mul];omega
theorem foldl_max_sum {α : Type} (l : List α) (p q : α → Nat) (a : Nat) (h : ∀ x ∈ l,p x ≤ q x) : (l.map p).foldl max a ≤ a + (l.map q).sum := by
 induction l generalizing a with
 | nil => simp
 | cons x xs ih =>
  have h1 := h x (by simp);have h2 := ih (max a (p x)) (fun y hy => h y (by simp [hy]));simp only [List.map_cons,List.foldl_cons,List.sum_cons];omega
theorem V.most_over (k : Int) (n : Nat) (b : List UInt8) (l : List V) (f : List (ByteArray × V)) (m : Nat) : (V.mk k n b l f).most ≤ m ↔ l.length ≤ m ∧ f.length ≤ m ∧ (∀ x ∈ l,x.most ≤ m) ∧ ∀ x ∈ f,x.2.most ≤ m := by
 rw [V.most_mk,foldl_max_le,foldl_max_le];simp only [List.mem_map,forall_exists_index,and_imp,forall_apply_eq_imp_iff₂];constructor
 ·rintro ⟨⟨h1,h2⟩,h3⟩;exact ⟨by omega,by omega,h2,h3⟩
 rintro ⟨h1,h2,h3,h4⟩;exact ⟨⟨by omega,h3⟩,h4⟩
theorem V.depth_le (v : V) : v.depth ≤ v.count := by
 induction v using V.ind with
 | h k n b l f hl hf =>
  rw [V.depth_mk,V.count_mk];have h1 := foldl_max_sum l V.depth V.count 0 hl;have h2 := foldl_max_sum f (fun x => x.2.depth) (fun x => x.2.count) ((l.map V.depth).foldl max 0) hf;split <;> omega
theorem V.bytes_le (v : V) : ∀ (w : World) (c : Cv),v.formed = true → In w v c → v.bytes.length + 34 ≤ v.count * 140737488355372 := by
 induction v using V.ind with
 | h k n b l f hl hf =>
  intro w c hfm hv;have hv' := hv;obtain ⟨aB,aL,aF,cB,cL,cF,hc,h1,h2,h3,h4,h5,h6,h7,h8,h9,hb⟩ := hv'.open;have hfm' := hfm;rw [V.formed_mk] at hfm';simp only [Bool.and_eq_true,List.all_eq_true] at hfm';obtain ⟨⟨⟨_,hfl⟩,hff⟩,_⟩ := hfm';have hl' : ∀ x ∈ l,x.bytes.length ≤ x.count * 140737488355372 := fun x hx => by
   obtain ⟨i,hi,rfl⟩ := List.mem_iff_getElem.1 hx;obtain ⟨bk,o,y,_,_,_,_,_,_,_,hy⟩ := hv.elemL i hi;have := hl _ hx w y (hfl _ hx) hy;omega
  have hf' : ∀ x ∈ f,(V.item x.1 x.2.bytes).length ≤ x.2.count * 140737488355372 := fun x hx => by
   have hx0 := hx;obtain ⟨i,hi,rfl⟩ := List.mem_iff_getElem.1 hx;obtain ⟨bk,o,y,_,_,_,_,_,_,_,_,_,hy⟩ := hv.elemF i hi;have := hf _ hx0 w y (hff _ hx0).2 hy;have hn := (hff _ hx0).1;simp only [V.name,Bool.and_eq_true,decide_eq_true_eq] at hn;rw [V.item_length];omega
  have sl := sum_le_mul l (fun x => x.bytes.length) V.count 140737488355372 hl';have sf := sum_le_mul f (fun x => (V.item x.1 x.2.bytes).length) (fun x => x.2.count) 140737488355372 hf';have hcm : (V.mk k n b l f).count * 140737488355372 = 140737488355372 + (l.map V.count).sum * 140737488355372 + (f.map fun x => x.2.count).sum * 140737488355372 := by
   rw [V.count_mk,Nat.add_mul,Nat.add_mul,Nat.one_mul]
  rw [hcm];clear hcm;rcases V.formed_cases hfm with h | ⟨_,_,h⟩ | ⟨_,h⟩ | ⟨_,h⟩ | ⟨_,_,h⟩ | ⟨_,h⟩ | ⟨l',hl',h⟩ | ⟨f',hf',hnd,h⟩
  case inr.inr.inr.inr.inr.inr.inl =>
   cases h
   rw [V.bytes_list,List.length_cons,List.length_cons,List.length_flatten,List.map_map];have : (l.map (List.length ∘ V.bytes)).sum = (l.map fun x => x.bytes.length).sum := rfl;omega
  case inr.inr.inr.inr.inr.inr.inr =>
   cases h
   rw [V.bytes_doc,List.length_cons,List.length_cons,List.length_flatten,List.map_map];have : (f.map (List.length ∘ fun x => V.item x.1 x.2.bytes)).sum = (f.map fun x => (V.item x.1 x.2.bytes).length).sum := rfl;omega
  all_goals
   cases h
   rw [V.bytes_mk]
   simp [toLe]
   try omega
theorem V.bytes_le62 {v : V} {w : World} {c : Cv} (hfm : v.formed = true) (hv : In w v c) (hc : v.count ≤ 20000) : v.bytes.length ≤ 4611686018427387904 := by
 have h1 := V.bytes_le v w c hfm hv;have h2 : v.count * 140737488355372 ≤ 20000 * 140737488355372 := Nat.mul_le_mul_right _ hc;omega
theorem V.depth_le40 {v : V} (hc : v.count ≤ 20000) : v.depth ≤ 1099511627776 := by
 have := V.depth_le v;omega
def V.mild (v : V) : Prop := v.depth ≤ 1099511627776 ∧ (v.formed = true → v.bytes.length ≤ 4611686018427387904)
theorem V.mild_of {v : V} {w : World} {c : Cv} (hc : v.count ≤ 20000) (hv : In w v c) : v.mild := ⟨V.depth_le40 hc,fun hf => V.bytes_le62 hf hv hc⟩
theorem good_anyM (v : V) (w : World) (c : Cv) (hm : v.mild) (hT : Tabs w) (hv : In w v c) :
 Calls Tryz.prog 20 #[c.agg] w fun e w' => e = .returned (.int .i64 v.good) ∧ Grow w w' := by
 have HT := hide hT;have HV := hide hv;obtain ⟨ANS,hANS⟩ : ∃ A,v.good = A := ⟨_,rfl⟩;rw [hANS];have HA := hide hANS;clear hT hv hANS;go_enter Tryz.func20,Tryz.ntmps20;go_wp2_with fail;have HB0 := hide (Blk.new w 27 c.cells);have HG0 := hide ((Grow.refl w).alloc (.cells c.cells 27));refine (formed_any v _ c (HT.out.grow HG0.out) (HV.out.grow HG0.out)).mono ?_;rintro e w1 ⟨rfl,hg1⟩;have hB1 := HB0.out.grow hg1;have hc := hB1.cell;have hBl := hB1.lt;have HB1 := hide hB1;have HG1 := hide (HG0.out.trans hg1);clear hg1 hB1;obtain ⟨R,hR⟩ : ∃ R,v.formed = R := ⟨_,rfl⟩;rw [hR];have HR := hide hR;clear hR
 cases R
 ·go_wp2_with fail;go_ret;exact ⟨ret_int (by rw [← HA.out,V.good,if_pos HR.out]),HG1.out⟩
 obtain ⟨M,hM⟩ : ∃ M,v.most = M := ⟨_,rfl⟩;have HM := hide hM;go_wp2_with fail;refine (most_any v _ c (HV.out.grow HG1.out)).mono ?_;rintro e w2 ⟨rfl,hg2⟩;have hB2 := HB1.out.grow hg2;have hc := hB2.cell;have hBl := hB2.lt;have HB2 := hide hB2;have HG2 := hide (HG1.out.trans hg2);clear hg2 hB2;rw [hM];clear hM;by_cases m1 : 64 < M
 ·go_wp2_with fail;go_ret;exact ⟨ret_int (by rw [← HA.out,V.good,if_neg (by rw [HR.out];decide),if_pos (by rw [HM.out];exact m1)]),HG2.out⟩
 obtain ⟨D,hD⟩ : ∃ D,v.depth = D := ⟨_,rfl⟩;have HD := hide hD;go_wp2_with fail;refine (depth_any v _ c HR.out hm.1 (HV.out.grow HG2.out)).mono ?_;rintro e w3 ⟨rfl,hg3⟩;have hB3 := HB2.out.grow hg3;have hc := hB3.cell;have hBl := hB3.lt;have HB3 := hide hB3;have HG3 := hide (HG2.out.trans hg3);clear hg3 hB3;rw [hD];clear hD;by_cases d1 : 16 < D
 ·go_wp2_with fail;go_ret;exact ⟨ret_int (by rw [← HA.out,V.good,if_neg (by rw [HR.out];decide),if_neg (by rw [HM.out];exact m1),if_pos (by rw [HD.out];exact d1)]),HG3.out⟩
 obtain ⟨S,hS⟩ : ∃ S,v.bytes.length = S := ⟨_,rfl⟩;have HS := hide hS;go_wp2_with fail;refine (size_any v _ c HR.out (hm.2 HR.out) (HV.out.grow HG3.out)).mono ?_;rintro e w4 ⟨rfl,hg4⟩;have hB4 := HB3.out.grow hg4;have hc := hB4.cell;have hBl := hB4.lt;have HB4 := hide hB4;have HG4 := hide (HG3.out.trans hg4);clear hg4 hB4;rw [hS];clear hS;by_cases s1 : 4096 < S
 ·go_wp2_with fail;go_ret;exact ⟨ret_int (by rw [← HA.out,V.good,if_neg (by rw [HR.out];decide),if_neg (by rw [HM.out];exact m1),if_neg (by rw [HD.out];exact d1),if_pos (by rw [HS.out];exact s1)]),HG4.out⟩
 go_wp2_with fail;go_ret;exact ⟨ret_int (by rw [← HA.out,V.good,if_neg (by rw [HR.out];decide),if_neg (by rw [HM.out];exact m1),if_neg (by rw [HD.out];exact d1),if_neg (by rw [HS.out];exact s1)]),HG4.out⟩
theorem V.good_formed {v : V} (h : v.good = 0) : v.formed = true ∧ v.bytes.length ≤ 4096 := by
 unfold V.good at h
 cases hf : v.formed
 ·rw [hf] at h;simp at h
 rw [hf] at h;refine ⟨rfl,?_⟩;simp only [Bool.true_eq_false,if_false] at h;split at h
 ·omega
 split at h
 ·omega
 split at h <;> omega
theorem good_any (v : V) (w : World) (c : Cv) (hcount : v.count ≤ 20000) (hT : Tabs w) (hv : In w v c) :
 Calls Tryz.prog 20 #[c.agg] w fun e w' => e = .returned (.int .i64 v.good) ∧ Grow w w' := good_anyM v w c (V.mild_of hcount hv) hT hv
theorem make_u8 (S : Nat) (hS : S ≤ 140737488355328) : ∃ cur : Array Value,cur.size = S ∧ ∀ w : World,(Instr.makeSlice 23 (.int .i64 0) (.int .i64 (S : Int))).run Tryz.prog w = .ok (.slice (some ⟨w.heap.size,0,none⟩) 0 S) (w.alloc (.cells cur 5)) := by
 obtain ⟨i0,hi0,hz0,hz1,hz2⟩ := info_parts info_u8;refine ⟨madeCells (Value.int .u8 0).cells (S * i0.size),?_,fun w => ?_⟩
 ·rw [hz1];simp [madeCells]
 have h := run_make (P := Tryz.prog) (w := w) 23 5 i0 (.int .u8 0) under_u8s hi0 hz0 .i64 .i64 0 (S : Int) (by omega) (by omega) (by rw [hz2];omega) (by omega);exact h
end
section
open Go.RowKit Go.Shelf
theorem grown_set (w : World) (b i : Nat) (u : Value) : w.grownBy (w.setCell ⟨b,i,none⟩ u) (some b) :=
 ⟨rfl,rfl,rfl,by simp [World.setCell],fun k _ hk => Below.heap_setCell w ⟨b,i,none⟩ u k (fun e => hk (by rw [e]))⟩
def GB (w w' : World) (pb : Nat) : Prop := w.grownBy w' (some pb)
theorem GB.trans {a b c : World} {pb : Nat} (h : GB a b pb) (k : GB b c pb) : GB a c pb :=
 ⟨k.os.trans h.os,k.tape.trans h.tape,k.output.trans h.output,Nat.le_trans h.size k.size,fun i hi hne => (k.block i (Nat.lt_of_lt_of_le hi h.size) hne).trans (h.block i hi hne)⟩
theorem info_val : (Tryz.prog.info? 27).map (·.size) = some 5 := by kernel_rfl
def set5 (W : World) (vb : Nat) (c : Cv) : World :=
 ((((W.setCell ⟨vb,0,none⟩ (.int .i64 c.k)).setCell ⟨vb,1,none⟩ (.int .u64 c.n)).setCell ⟨vb,2,none⟩ (.slice c.aB c.nB c.cB)).setCell ⟨vb,3,none⟩ (.slice c.aL c.nL c.cL)).setCell ⟨vb,4,none⟩ (.slice c.aF c.nF c.cF)
theorem set5_blk {W : World} {vb : Nat} {t : TypeId} {c : Cv} (h : Blk W vb t c.cells) : Blk (set5 W vb c) vb t c.cells := by
 have := ((((h.set_ 0 (.int .i64 c.k)).set_ 1 (.int .u64 c.n)).set_ 2 (.slice c.aB c.nB c.cB)).set_ 3 (.slice c.aL c.nL c.cL)).set_ 4 (.slice c.aF c.nF c.cF);exact this
theorem set5_grown (W : World) (vb : Nat) (c : Cv) : W.grownBy (set5 W vb c) (some vb) :=
 ((((grown_set W vb 0 _).trans (grown_set _ vb 1 _)).trans (grown_set _ vb 2 _)).trans (grown_set _ vb 3 _)).trans (grown_set _ vb 4 _)
theorem set5_size (W : World) (vb : Nat) (c : Cv) : (set5 W vb c).heap.size = W.heap.size := by simp [set5,World.setCell]
end
section
open Go.RowKit Go.Shelf
theorem info_val3 : (Tryz.prog.info? 27).map (fun i => (i.zero,i.size,i.bytes)) = some (some (.agg #[.int .i64 0,.int .u64 0,.slice none 0 0,.slice none 0 0,.slice none 0 0]),5,88) := by kernel_rfl
theorem under_vals : Tryz.prog.underlying 24 = some (.slice 27) := by kernel_rfl
theorem info_fld3 : (Tryz.prog.info? 82).map (fun i => (i.zero,i.size,i.bytes)) = some (some (.agg #[.string ⟨#[]⟩,.int .i64 0,.int .u64 0,.slice none 0 0,.slice none 0 0,.slice none 0 0]),6,104) := by kernel_rfl
theorem under_flds : Tryz.prog.underlying 25 = some (.slice 82) := by kernel_rfl
structure VE where
 s : ByteArray
 v : V
 c : Cv
 lo : Nat
 hi : Nat
abbrev noHead : ByteArray → List Value := fun _ => []
abbrev nameHead : ByteArray → List Value := fun s => [.string s]
def cellsOf (hd : ByteArray → List Value) (es : List VE) : List Value := (es.map fun x => hd x.s ++ x.c.cells.toList).flatten
theorem cellsOf_snoc (hd : ByteArray → List Value) (es : List VE) (x : VE) : cellsOf hd (es ++ [x]) = cellsOf hd es ++ (hd x.s ++ x.c.cells.toList) := by simp [cellsOf]
theorem cells_len (c : Cv) : c.cells.toList.length = 5 := rfl
theorem cellsOf_get {hd : ByteArray → List Value} {k z : Nat} (hk : ∀ s,(hd s).length = k) (hz : k + 5 = z) : ∀ (es : List VE) (i t : Nat) (hi : i < es.length) (_ht : t < z),(cellsOf hd es)[i * z + t]? = (hd es[i].s ++ es[i].c.cells.toList)[t]? := by
 intro es
 induction es with
 | nil => intro i t hi;simp at hi
 | cons x xs ih =>
  intro i t hi ht;have e : cellsOf hd (x :: xs) = (hd x.s ++ x.c.cells.toList) ++ cellsOf hd xs := by simp [cellsOf]
  have hl : (hd x.s ++ x.c.cells.toList).length = z := by rw [List.length_append,hk,cells_len];exact hz
  rw [e]
  cases i with
  | zero => rw [Nat.zero_mul,Nat.zero_add,List.getElem?_append_left (by rw [hl];exact ht)];rfl
  | succ i =>
   rw [List.getElem?_append_right (by rw [hl,Nat.succ_mul];omega),hl,show (i + 1) * z + t - z = i * z + t by rw [Nat.succ_mul];omega,ih i t (by simpa using hi) ht];rfl
structure VRow (w : World) (te : TypeId) (hd : ByteArray → List Value) (z lo vb base : Nat) (v : Value) (es : List VE) : Prop where
 own : w.ownsRow base te z v es.length (cellsOf hd es)
 part : ∀ x ∈ es,lo ≤ x.lo ∧ vb < x.lo ∧ (∀ g,v.ownBlock = some g → ¬ (x.lo ≤ g ∧ g < x.hi)) ∧ InS w x.lo x.hi x.v x.c
 apart : ∀ i j (hi : i < es.length) (hj : j < es.length),i < j → es[i].hi ≤ es[j].lo
theorem VRow.own_lt {W : World} {te : TypeId} {hd : ByteArray → List Value} {z lo vb base : Nat} {v : Value} {es : List VE} (h : VRow W te hd z lo vb base v es) {k : Nat} (hk : v.ownBlock = some k) : base ≤ k ∧ k < W.heap.size := World.ownsRow.lt h.own k hk
theorem VRow.cap {W : World} {te : TypeId} {hd : ByteArray → List Value} {z lo vb base n cap : Nat} {A : Option Addr} {es : List VE} (h : VRow W te hd z lo vb base (.slice A n cap) es) (hn : n = es.length) : n ≤ cap := by
 rcases h.own.2 with ⟨hv,h0⟩ | ⟨g,cap',cur,hv,_,_,hc,_⟩
 ·omega
 injection hv with _ _ e;omega
theorem VRow.cellAt {W : World} {te : TypeId} {hd : ByteArray → List Value} {k z lo vb base n cap : Nat} {A : Option Addr} {es : List VE} (h : VRow W te hd z lo vb base (.slice A n cap) es) (hk : ∀ s,(hd s).length = k) (hz : k + 5 = z) (hn : n = es.length) (i : Nat) (hi : i < es.length) :
 ∃ g,A = some ⟨g,0,none⟩ ∧ base ≤ g ∧ g < W.heap.size ∧ ∀ t u,t < z → (hd es[i].s ++ es[i].c.cells.toList)[t]? = some u → CF W ⟨g,0 + i * z + t,none⟩ u := by
 subst hn;obtain ⟨g,cap',hv,hb,hlt⟩ := World.ownsRow.form h.own (by omega);have hA : A = some ⟨g,0,none⟩ := by injection hv
 subst hA;refine ⟨g,rfl,hb,hlt,fun t u ht hu => ⟨?_,World.ownsRow.frozenAt h.own _⟩⟩;have := World.ownsRow.cells h.own (g := g) rfl (i * z + t) u (by rw [cellsOf_get hk hz es i t hi ht];exact hu);rw [add_lit] at this;rw [← this];congr 2;omega
theorem VRow.grow {W W' : World} {te : TypeId} {hd : ByteArray → List Value} {z lo vb base : Nat} {v : Value} {es : List VE} (h : VRow W te hd z lo vb base v es) (hg : Grow W W') : VRow W' te hd z lo vb base v es := by
 refine ⟨World.ownsRow.kept h.own (row := none) ⟨hg.os,hg.tape,hg.output,hg.size,fun k hk _ => hg.below.block k hk⟩ (by cases v.ownBlock <;> simp),fun x hx => ?_,h.apart⟩;obtain ⟨p1,p2,p3,p4⟩ := h.part x hx;exact ⟨p1,p2,p3,p4.grow hg⟩
theorem VRow.add {w2 w3 : World} {te : TypeId} {hd : ByteArray → List Value} {z lo vb base m0 : Nat} {v v' : Value} {es : List VE} {s : ByteArray} {x : V} {c : Cv} {o : Obj} (h : VRow w2 te hd z lo vb base v es) (hv : ∀ k,v.ownBlock = some k → k < m0) (hvb : vb < m0) (hlo : lo ≤ m0) (hm : ∀ y ∈ es,y.hi ≤ m0)
 (hx : InS w2 m0 w2.heap.size x c) (h2 : w3.ownsRow base te z v' (es.length + 1) (cellsOf hd es ++ (hd s ++ c.cells.toList))) (hg : (w2.alloc o).grownBy w3 v.ownBlock)
 (hob : v'.ownBlock = v.ownBlock ∨ v'.ownBlock = some (w2.alloc o).heap.size) : VRow w3 te hd z lo vb base v' (es ++ [⟨s,x,c,m0,w2.heap.size⟩]) := by
 have hsz : (w2.alloc o).heap.size = w2.heap.size + 1 := by simp
 have hgs := hg.size;have hblk : ∀ k,k < w2.heap.size → (∀ g,v.ownBlock = some g → k ≠ g) → w3.heap[k]? = w2.heap[k]? := fun k hk hne =>
  (hg.block k (by omega) (fun e => hne k e.symm rfl)).trans (((Grow.refl w2).alloc o).below.block k hk)
 refine ⟨by rw [List.length_append,cellsOf_snoc];exact h2,fun y hy => ?_,fun i j hi hj hij => ?_⟩
 ·rcases List.mem_append.1 hy with hy | hy
  ·obtain ⟨p1,p2,p3,p4⟩ := h.part y hy;refine ⟨p1,p2,fun g e => ?_,p4.blocks (by omega) (fun k hk hk' => hblk k (Nat.lt_of_lt_of_le hk' p4.1) (fun g e e' => p3 g e (by omega)))⟩;rcases hob with q | q
   ·exact p3 g (q ▸ e)
   rw [q] at e;injection e with e;have := hm y hy;have := p4.1;omega
  rw [List.mem_singleton] at hy;subst hy;refine ⟨hlo,hvb,fun g e => ?_,hx.blocks (by omega) (fun k hk hk' => hblk k hk' (fun g e e' => by have := hv g e;omega))⟩;rcases hob with q | q
  ·have := hv g (q ▸ e);show ¬ (m0 ≤ g ∧ g < w2.heap.size);omega
  rw [q] at e;injection e with e;show ¬ (m0 ≤ g ∧ g < w2.heap.size);omega
 rw [List.length_append,List.length_singleton] at hj;rcases Nat.lt_or_ge j es.length with hj' | hj'
 ·rw [List.getElem_append_left (by omega),List.getElem_append_left hj'];exact h.apart i j (by omega) hj' hij
 have : j = es.length := by omega
 subst this;rw [List.getElem_append_left (by omega),List.getElem_append_right (Nat.le_refl _)];simp only [Nat.sub_self,List.getElem_cons_zero];exact hm _ (List.getElem_mem _)
end
section
open Go.RowKit Go.Shelf
theorem Blk.own {w w' : World} {g : Nat} {t : TypeId} {cs : Array Value} {row : Option Nat} (h : Blk w g t cs) (hg : w.grownBy w' row) (hne : ∀ k,row = some k → k ≠ g) : Blk w' g t cs :=
 (hg.block g h.lt (fun e => hne g e.symm rfl)).trans h
theorem Src.oneV {w : World} (c : Cv) (e : TypeId) : Src Tryz.prog 5 24 (.slice (some ⟨w.heap.size,0,none⟩) 1 1) 1 c.cells.toList (w.alloc (.cells c.cells e)) :=
 Src.ofSlice _ under_vals ⟨w.heap.size,0,none⟩ 1 1 _ rfl (fun j u hu => by
  rw [add_lit,Nat.zero_add,(Blk.new w e c.cells).cell j,← hu,Array.getElem?_toList]) (fun u hu => by
  simp only [List.mem_cons,List.not_mem_nil,or_false] at hu;rcases hu with rfl | rfl | rfl | rfl | rfl <;> rfl)
end
section
open Go.RowKit Go.Shelf Go.Maps Go.WideMaps
def SofarF (f : List UInt8 → Got) (n j : Nat) (r rest : List UInt8) (es : List VE) : Prop :=
 rdF f n [] r = match rdF f (n - j) (es.map VE.s) rest with | .error e => .error e | .ok (l',r') => .ok (es.map (fun x => (x.s,x.v)) ++ l',r')
section
variable {f : List UInt8 → Got} {n j : Nat} {r rest : List UInt8} {es : List VE} (h : SofarF f n j r rest es) (hj : j < n)
include h hj
end
theorem VRow.kept {W W' : World} {te : TypeId} {hd : ByteArray → List Value} {z lo vb base : Nat} {v : Value} {es : List VE} {row : Option Nat} (h : VRow W te hd z lo vb base v es) (hg : W.grownBy W' row) (hne : ∀ k,row = some k → v.ownBlock ≠ some k ∧ k ≤ vb) : VRow W' te hd z lo vb base v es := by
 refine ⟨World.ownsRow.kept h.own hg ?_,fun x hx => ?_,h.apart⟩
 ·cases hr : row with
  | none => cases v.ownBlock <;> simp
  | some k => exact .inr (hne k hr).1
 obtain ⟨p1,p2,p3,p4⟩ := h.part x hx;exact ⟨p1,p2,p3,p4.blocks hg.size (fun k hk hk' => hg.block k (Nat.lt_of_lt_of_le hk' p4.1) (fun e => by have := (hne k e.symm).2;omega))⟩
theorem VRow.lower {W : World} {te : TypeId} {hd : ByteArray → List Value} {z lo vb vb' base : Nat} {v : Value} {es : List VE} (h : VRow W te hd z lo vb base v es) (hv : vb' ≤ vb) : VRow W te hd z lo vb' base v es :=
 ⟨h.own,fun x hx => by obtain ⟨p1,p2,p3,p4⟩ := h.part x hx;exact ⟨p1,by omega,p3,p4⟩,h.apart⟩
abbrev Cv.fcells (s : ByteArray) (c : Cv) : Array Value := #[.string s,.int .i64 c.k,.int .u64 c.n,.slice c.aB c.nB c.cB,.slice c.aL c.nL c.cL,.slice c.aF c.nF c.cF]
theorem Src.oneF {w : World} (s : ByteArray) (c : Cv) (e : TypeId) : Src Tryz.prog 6 25 (.slice (some ⟨w.heap.size,0,none⟩) 1 1) 1 (nameHead s ++ c.cells.toList) (w.alloc (.cells (c.fcells s) e)) :=
 Src.ofSlice _ under_flds ⟨w.heap.size,0,none⟩ 1 1 _ rfl (fun j u hu => by
  rw [add_lit,Nat.zero_add,(Blk.new w e (c.fcells s)).cell j,← hu,← Array.getElem?_toList];rfl) (fun u hu => by
  simp only [List.mem_cons,List.not_mem_nil,or_false,List.cons_append,List.nil_append] at hu;rcases hu with rfl | rfl | rfl | rfl | rfl | rfl <;> rfl)
end
section
open Go.RowKit Go.Shelf
theorem set5_from {W : World} {vb : Nat} {t : TypeId} {c : Cv} {c0 c1 c2 c3 c4 : Value} (h : Blk W vb t #[c0,c1,c2,c3,c4]) : Blk (set5 W vb c) vb t c.cells := by
 have := ((((h.set_ 0 (.int .i64 c.k)).set_ 1 (.int .u64 c.n)).set_ 2 (.slice c.aB c.nB c.cB)).set_ 3 (.slice c.aL c.nL c.cL)).set_ 4 (.slice c.aF c.nF c.cF);exact this
end
section
open Go.RowKit Go.Shelf
theorem conv_bytes2 (w : World) (s : ByteArray) : ∃ c W,(convert 9 23 (.string s)).run Tryz.prog w = .ok (.slice (some ⟨w.heap.size,0,none⟩) s.size c) W ∧ s.size ≤ c ∧ Grow w W ∧ InB W (some ⟨w.heap.size,0,none⟩) s.data.toList := by
 have hg : Grow w (Lib.bytesWorld w 5 s) := Go.Joins.below_bytesWorld _ w _ s (Nat.le_refl _);refine ⟨_,_,Lib.run_convert_string_bytes w _ _ 5 s under_string under_u8s under_u8,grownCap_ge _ _ _ _,hg,?_,?_⟩
 ·simp [u8s]
 intro h0;refine ⟨_,_,rfl,fun j u hu => ?_⟩;have hj : j < s.data.toList.length := by
  have := (List.getElem?_eq_some_iff.1 hu).1;simpa [u8s] using this
 have hj' : j < s.size := by simpa using hj
 rw [u8s_get _ j hj] at hu;injection hu with hu;subst hu;refine ⟨?_,by simp,by rw [Lib.bytesWorld_size];simp⟩;rw [show (0 : Nat) + j = j by omega,Lib.bytesWorld_cell w _ s j hj',List.getD_eq_getElem?_getD,List.getElem?_eq_getElem hj];rfl
theorem cellres {F : Func} {W : World} {vb : Nat} {tmps : Array Value} (hF : F.results = #[ResultVar.cell 2 27]) (h2 : tmps.getD 2 undef = .pointer (some ⟨vb,0,none⟩)) (c : Cv) (hv : Blk W vb 27 c.cells) :
 (results F tmps).run Tryz.prog W = .ok c.agg W := by
 have hvc := hv.cell;have h2' : tmps[2]?.getD undef = .pointer (some ⟨vb,0,none⟩) := by simpa using h2
 simp [results,hF,go_sem,h2',hvc]
end
section
open Go.RowKit Go.Shelf Go.WideShapes
theorem isv_set {w : World} {lo : Nat} {v : V} {c : Cv} (h : IsV (AtW w lo w.heap.size) v c) {p : Addr} (hp : p.block < lo) (u : Value) : IsV (AtW (w.setCell p u) lo (w.setCell p u).heap.size) v c := by
 refine IsV.mono (fun a x ha => ?_) v c h;have hne : a.block ≠ p.block := by have := ha.2.1;omega
 refine ⟨(World.cell?_of_block (a := a) (Below.heap_setCell w p u a.block hne)).trans ha.1,ha.2.1,?_⟩;have := ha.2.2;simpa using this
theorem isv_set5 {w : World} {lo vb : Nat} {v : V} {c : Cv} (h : IsV (AtW w lo w.heap.size) v c) (hp : vb < lo) (d : Cv) : IsV (AtW (set5 w vb d) lo (set5 w vb d).heap.size) v c :=
 isv_set (isv_set (isv_set (isv_set (isv_set h (p := ⟨vb,0,none⟩) hp _) (p := ⟨vb,1,none⟩) hp _) (p := ⟨vb,2,none⟩) hp _) (p := ⟨vb,3,none⟩) hp _) (p := ⟨vb,4,none⟩) hp _
theorem Grow.set5v {a W : World} {vb : Nat} (h : Grow a W) (hb : a.heap.size ≤ vb) (c : Cv) : Grow a (set5 W vb c) :=
 ((((h.setCell (p := ⟨vb,0,none⟩) hb _).setCell (p := ⟨vb,1,none⟩) hb _).setCell (p := ⟨vb,2,none⟩) hb _).setCell (p := ⟨vb,3,none⟩) hb _).setCell (p := ⟨vb,4,none⟩) hb _
theorem VRow.isLK {W : World} {lo vb base n cap : Nat} {A : Option Addr} {es : List VE} (h : VRow W 27 noHead 5 lo vb base (.slice A n cap) es) (hn : n = es.length) (h1 : lo ≤ base) (h2 : vb < base) (h64 : n ≤ 140737488355328) :
 IsS (fun p u => CF W p u ∧ p.block ≠ vb) (.mk 7 0 [] (es.map VE.v) []) ⟨7,0,none,0,0,A,n,cap,none,0,0⟩ (fun q => lo ≤ q ∧ q < W.heap.size) := by
 have hcap := h.cap hn;rw [IsS];refine ⟨rfl,rfl,rfl,by rw [List.length_map];exact hn,rfl,by omega,by omega,by omega,by simp,by simp,by show (es.map VE.v).length ≤ cap;rw [List.length_map];omega,by rw [List.length_map];omega,by simp,by simp,⟨by simp [u8s],fun h => by simp at h⟩,
  ⟨fun i q => ∃ x,es[i]? = some x ∧ x.lo ≤ q ∧ q < x.hi,fun i hi => ?_,fun i j hij hj q hq hq' => ?_⟩,⟨fun _ _ => False,fun i hi => absurd hi (by simp),fun _ _ _ _ _ h => h.elim⟩⟩
 ·rw [List.length_map] at hi;obtain ⟨g,rfl,hb,hlt,hcell⟩ := h.cellAt (k := 0) (fun _ => rfl) rfl hn i hi;obtain ⟨p1,p2,p3,p4⟩ := h.part es[i] (List.getElem_mem hi);refine ⟨g,0,es[i].c,rfl,⟨Nat.le_trans h1 hb,hlt⟩,?_,?_,?_,?_⟩
  ·rintro ⟨x,hx,q⟩;rw [List.getElem?_eq_getElem hi] at hx;injection hx with hx;subst hx;exact p3 g rfl q
  ·rintro q ⟨x,hx,q1,q2⟩;rw [List.getElem?_eq_getElem hi] at hx;injection hx with hx;subst hx;have := p4.1;exact ⟨Nat.le_trans p1 q1,by omega⟩
  ·exact ⟨⟨hcell 0 _ (by omega) rfl,by show g ≠ vb;omega⟩,⟨hcell 1 _ (by omega) rfl,by show g ≠ vb;omega⟩,⟨hcell 2 _ (by omega) rfl,by show g ≠ vb;omega⟩,⟨hcell 3 _ (by omega) rfl,by show g ≠ vb;omega⟩,⟨hcell 4 _ (by omega) rfl,by show g ≠ vb;omega⟩⟩
  rw [List.getElem_map];exact IsS.mono _ _ _ _ (fun p u q s => ⟨q,by have := s.1;omega⟩) (fun q s => ⟨_,List.getElem?_eq_getElem hi,s⟩) p4.2
 rw [List.length_map] at hj;have hi' : i < es.length := Nat.lt_trans hij hj;obtain ⟨x,hx,q1,q2⟩ := hq;obtain ⟨y,hy,q3,q4⟩ := hq';rw [List.getElem?_eq_getElem hi'] at hx;rw [List.getElem?_eq_getElem hj] at hy;injection hx with hx;injection hy with hy;subst hx hy;have := h.apart i j (by omega) hj hij;omega
theorem VRow.isFK {W : World} {lo vb base n cap : Nat} {A : Option Addr} {es : List VE} (h : VRow W 82 nameHead 6 lo vb base (.slice A n cap) es) (hs : ∀ x ∈ es,x.s.size ≤ 140737488355328) (hn : n = es.length) (h1 : lo ≤ base) (h2 : vb < base) (h64 : n ≤ 140737488355328) :
 IsS (fun p u => CF W p u ∧ p.block ≠ vb) (.mk 8 0 [] [] (es.map fun x => (x.s,x.v))) ⟨8,0,none,0,0,none,0,0,A,n,cap⟩ (fun q => lo ≤ q ∧ q < W.heap.size) := by
 have hcap := h.cap hn;rw [IsS];refine ⟨rfl,rfl,rfl,rfl,by rw [List.length_map];exact hn,by omega,by omega,by omega,by simp,by simp,by simp,by simp,by show (es.map fun x => (x.s,x.v)).length ≤ cap;rw [List.length_map];omega,by rw [List.length_map];omega,⟨by simp [u8s],fun h => by simp at h⟩,
  ⟨fun _ _ => False,fun i hi => absurd hi (by simp),fun _ _ _ _ _ h => h.elim⟩,⟨fun i q => ∃ x,es[i]? = some x ∧ x.lo ≤ q ∧ q < x.hi,fun i hi => ?_,fun i j hij hj q hq hq' => ?_⟩⟩
 ·rw [List.length_map] at hi;obtain ⟨g,rfl,hb,hlt,hcell⟩ := h.cellAt (k := 1) (fun _ => rfl) rfl hn i hi;obtain ⟨p1,p2,p3,p4⟩ := h.part es[i] (List.getElem_mem hi);refine ⟨g,0,es[i].c,rfl,⟨Nat.le_trans h1 hb,hlt⟩,?_,?_,?_,?_,?_,?_⟩
  ·rintro ⟨x,hx,q⟩;rw [List.getElem?_eq_getElem hi] at hx;injection hx with hx;subst hx;exact p3 g rfl q
  ·rintro q ⟨x,hx,q1,q2⟩;rw [List.getElem?_eq_getElem hi] at hx;injection hx with hx;subst hx;have := p4.1;exact ⟨Nat.le_trans p1 q1,by omega⟩
  ·rw [List.getElem_map];exact ⟨hcell 0 _ (by omega) rfl,by show g ≠ vb;omega⟩
  ·rw [List.getElem_map];exact hs _ (List.getElem_mem hi)
  ·exact ⟨⟨hcell 1 _ (by omega) rfl,by show g ≠ vb;omega⟩,⟨hcell 2 _ (by omega) rfl,by show g ≠ vb;omega⟩,⟨hcell 3 _ (by omega) rfl,by show g ≠ vb;omega⟩,⟨hcell 4 _ (by omega) rfl,by show g ≠ vb;omega⟩,⟨hcell 5 _ (by omega) rfl,by show g ≠ vb;omega⟩⟩
  rw [List.getElem_map];exact IsS.mono _ _ _ _ (fun p u q s => ⟨q,by have := s.1;omega⟩) (fun q s => ⟨_,List.getElem?_eq_getElem hi,s⟩) p4.2
 rw [List.length_map] at hj;have hi' : i < es.length := Nat.lt_trans hij hj;obtain ⟨x,hx,q1,q2⟩ := hq;obtain ⟨y,hy,q3,q4⟩ := hq';rw [List.getElem?_eq_getElem hi'] at hx;rw [List.getElem?_eq_getElem hj] at hy;injection hx with hx;injection hy with hy;subst hx hy;have := h.apart i j (by omega) hj hij;omega
def CopyC (w : World) (v : V) (e : Ending) (w' : World) : Prop :=
 ∃ c : Cv,e = .returned c.agg ∧ InS w' w.heap.size w'.heap.size v c ∧ Grow w w'
def InBo (w : World) (A : Option Addr) (ts : List Bool) : Prop := Reads (AtW w 0 w.heap.size) 1 A ts.length (ts.map Value.bool)
end
section
open V
def V.sml : V → Prop
 | mk _ _ b l f => b.length ≤ 1000000000 ∧ l.length ≤ 1000000000 ∧ f.length ≤ 1000000000 ∧ (∀ x ∈ l,sml x) ∧ (∀ x ∈ f,sml x.2)
termination_by v => SizeOf.sizeOf v
decreasing_by
 ·exact sizeOf_l ‹_›
 exact sizeOf_f ‹_›
theorem V.sml_mk {k : Int} {n : Nat} {b : List UInt8} {l : List V} {f : List (ByteArray × V)} : (V.mk k n b l f).sml ↔ b.length ≤ 1000000000 ∧ l.length ≤ 1000000000 ∧ f.length ≤ 1000000000 ∧ (∀ x ∈ l,x.sml) ∧ (∀ x ∈ f,x.2.sml) := by
 rw [V.sml]
end
end Go.Proofs.YtndjopkdbdcmdaaGreatDoor
