/- Walks: most, depth, size of the program. · Walks: size of the program. · Walks: laid of the program: a value's bytes behind a row. Written by wip/tools/gen_val3.py. -/
import Derived.Test.YtcdbchifigonpaaDoorLibs
import Derived.Deep.RegionWith
import Derived.Deep.RegionHeld3
namespace Go.Proofs.YtcdbchifigonpaaDoor
open Go.RowKit

set_option maxHeartbeats 400000 in
theorem most_any (v : V) : ∀ (w : World) (c : Cv), In w v c →
    Calls Tryd.prog 51 #[c.agg] w fun e w' => e = .returned (.int .i64 v.most) ∧ Grow w w' := by
  induction v using V.ind with
  | h k n b l f hl hf =>
    intro w c hv
    have HV := hide hv
    obtain ⟨aB, aL, aF, cB, cL, cF, rfl, h1, h2, h3, h4, h5, h6, h7, h8, h9, hb⟩ := hv.open
    have Hl := hide hl
    have Hf := hide hf
    clear hb h1 h2 h3 hl hf h4 h5 hv
    go_enter Tryd.func51, Tryd.ntmps51
    go_wp2_with fail
    all_goals
      go_loopg [3, 18] (l.length + 1) (fun gk m i wr => ∃ j : Nat, j ≤ l.length ∧ gk + j = l.length + 1 ∧ i = .int .i64 j ∧ m = .int .i64 ((((l.take j).map V.most).foldl max (max l.length f.length) : Nat) : Int) ∧
        Grow w wr ∧ In wr (.mk k n b l f) ⟨k, (n : Int), aB, b.length, cB, aL, l.length, cL, aF, f.length, cF⟩ ∧ Blk wr w.heap.size 37 (Cv.cells ⟨k, (n : Int), aB, b.length, cB, aL, l.length, cL, aF, f.length, cF⟩))
      case atStart => exact ⟨0, by omega, by omega, rfl, by simp; omega, (Grow.refl w).alloc _, In.grow HV.out ((Grow.refl w).alloc _), Blk.new _ _ _⟩
      case round =>
        obtain ⟨j, hj, hg, rfl, rfl, hw, hv, hB⟩ := hrel
        obtain ⟨gk', rfl⟩ : ∃ g, gk = g + 1 := ⟨gk - 1, by omega⟩
        by_cases hlt : j < l.length
        · obtain ⟨bk, o, x, ha, hbk, e0, e1, e2, e3, e4, hx⟩ := hv.elemL j hlt
          dsimp only at ha
          subst ha
          have HW := hide hw
          have HX := hide hx
          have HVr := hide hv
          have HB := hide hB
          have hm := foldl_max_take V.most l (max l.length f.length) j hlt
          have HM := hide hm
          clear hw hx hv hB hm
          go_wp2_with fail
          refine (Hl.out _ (List.getElem_mem hlt) _ x (HX.out.grow ((Grow.refl wr).alloc _))).mono ?_
          rintro e w' ⟨rfl, hb'⟩
          have hgr : Hid (Grow wr w') := ((Grow.refl wr).alloc _).trans hb'
          clear hb' e0 e1 e2 e3 e4
          go_wp2_with fail
          all_goals
            go_roundg gk'
            case measure => omega
            case rel => exact ⟨j + 1, by omega, by omega, by go_num, by rw [HM.out]; go_num, HW.out.trans hgr.out, HVr.out.grow hgr.out, HB.out.grow hgr.out⟩
        · obtain rfl : j = l.length := by omega
          have hc := hB.cell
          have HW := hide hw
          have HVr := hide hv
          clear hw hv hB hlt hg
          go_wp2_with fail
          go_loopg [3, 30] (f.length + 1) (fun gk m i wr => ∃ j : Nat, j ≤ f.length ∧ gk + j = f.length + 1 ∧ i = .int .i64 j ∧ m = .int .i64 ((((f.take j).map fun x => x.2.most).foldl max ((l.map V.most).foldl max (max l.length f.length)) : Nat) : Int) ∧
            Grow w wr ∧ In wr (.mk k n b l f) ⟨k, (n : Int), aB, b.length, cB, aL, l.length, cL, aF, f.length, cF⟩)
          case atStart => exact ⟨0, by omega, by omega, rfl, by simp, HW.out, HVr.out⟩
          case round =>
            obtain ⟨j, hj, hg, rfl, rfl, hw, hv⟩ := hrel
            obtain ⟨gk', rfl⟩ : ∃ g, gk = g + 1 := ⟨gk - 1, by omega⟩
            by_cases hlt : j < f.length
            · obtain ⟨bk, o, x, ha, hbk, es, esz, e0, e1, e2, e3, e4, hx⟩ := hv.elemF j hlt
              dsimp only at ha
              subst ha
              have HW := hide hw
              have HX := hide hx
              have HVr := hide hv
              have hm := foldl_max_take (fun x : ByteArray × V => x.2.most) f ((l.map V.most).foldl max (max l.length f.length)) j hlt
              have HM := hide hm
              clear hw hx hv hm
              go_wp2_with fail
              refine (Hf.out _ (List.getElem_mem hlt) _ x (HX.out.grow ((Grow.refl wr).alloc _))).mono ?_
              rintro e w' ⟨rfl, hb'⟩
              have hgr : Hid (Grow wr w') := ((Grow.refl wr).alloc _).trans hb'
              clear hb' e0 e1 e2 e3 e4 es
              go_wp2_with fail
              all_goals
                go_roundg gk'
                case measure => omega
                case rel => exact ⟨j + 1, by omega, by omega, by go_num, by rw [HM.out]; go_num, HW.out.trans hgr.out, HVr.out.grow hgr.out⟩
            · obtain rfl : j = f.length := by omega
              have HW := hide hw
              clear hw hv hlt hg
              go_wp2_with fail
              go_ret
              exact ⟨ret_int (by rw [V.most_mk, List.take_length]), HW.out⟩

set_option maxHeartbeats 400000 in
theorem depth_flat (v : V) (hk : v.k ≠ 7 ∧ v.k ≠ 8) (w : World) (c : Cv) (hv : In w v c) :
    Calls Tryd.prog 52 #[c.agg] w fun e w' => e = .returned (.int .i64 0) ∧ Grow w w' := by
  obtain ⟨k, n, b, l, f⟩ := v
  obtain ⟨aB, aL, aF, cB, cL, cF, rfl, h1, h2, h3, h4, h5, h6, h7, h8, h9, hb⟩ := hv.open
  have e7 : (k != 7) = true := by simpa [V.k] using hk.1
  have e8 : (k != 8) = true := by simpa [V.k] using hk.2
  clear hb hv hk
  go_enter Tryd.func52, Tryd.ntmps52
  go_wp2_with fail
  go_ret
  exact ⟨rfl, (Grow.refl w).alloc _⟩

set_option maxHeartbeats 400000 in
theorem depth_any (v : V) : ∀ (w : World) (c : Cv), v.formed = true → v.depth ≤ 1099511627776 → In w v c →
    Calls Tryd.prog 52 #[c.agg] w fun e w' => e = .returned (.int .i64 v.depth) ∧ Grow w w' := by
  induction v using V.ind with
  | h k n b l f hl hf =>
    intro w c hfm hdp hv
    rcases V.formed_cases hfm with h | ⟨_, _, h⟩ | ⟨_, h⟩ | ⟨_, h⟩ | ⟨_, _, h⟩ | ⟨_, h⟩ | ⟨l', hl', h⟩ | ⟨f', hf', hnd, h⟩
    case inr.inr.inr.inr.inr.inr.inl =>
      cases h
      have hdl : ∀ x ∈ l, x.depth ≤ 1099511627776 := fun x hx => Nat.le_trans (V.depth_l hx) hdp
      rw [V.depth_list] at hdp
      have Hdl := hide hdl
      have HV := hide hv
      obtain ⟨aB, aL, aF, cB, cL, cF, rfl, h1, h2, h3, h4, h5, h6, h7, h8, h9, hb⟩ := hv.open
      have Hl := hide hl
      have Hl' := hide hl'
      clear hb h1 h2 h3 hl hf h4 h5 hv hl' hfm hdl
      go_enter Tryd.func52, Tryd.ntmps52
      go_wp2_with fail
      go_loopg [3, 19] (l.length + 1) (fun gk m i wr => ∃ j : Nat, j ≤ l.length ∧ gk + j = l.length + 1 ∧ i = .int .i64 j ∧ m = .int .i64 ((((l.take j).map V.depth).foldl max 0 : Nat) : Int) ∧
        Grow w wr ∧ In wr (.mk 7 0 [] l []) ⟨7, 0, aB, 0, cB, aL, l.length, cL, aF, 0, cF⟩ ∧ Blk wr w.heap.size 37 (Cv.cells ⟨7, 0, aB, 0, cB, aL, l.length, cL, aF, 0, cF⟩))
      case atStart => exact ⟨0, by omega, by omega, rfl, by simp, (Grow.refl w).alloc _, In.grow HV.out ((Grow.refl w).alloc _), Blk.new _ _ _⟩
      case round =>
        obtain ⟨j, hj, hg, rfl, rfl, hw, hv, hB⟩ := hrel
        obtain ⟨gk', rfl⟩ : ∃ g, gk = g + 1 := ⟨gk - 1, by omega⟩
        by_cases hlt : j < l.length
        · obtain ⟨bk, o, x, ha, hbk, e0, e1, e2, e3, e4, hx⟩ := hv.elemL j hlt
          dsimp only at ha
          subst ha
          have HW := hide hw
          have HX := hide hx
          have HVr := hide hv
          have HB := hide hB
          have hm := foldl_max_take V.depth l 0 j hlt
          have HM := hide hm
          clear hw hx hv hB hm
          go_wp2_with fail
          refine (Hl.out _ (List.getElem_mem hlt) _ x (Hl'.out _ (List.getElem_mem hlt)) (Hdl.out _ (List.getElem_mem hlt)) (HX.out.grow ((Grow.refl wr).alloc _))).mono ?_
          rintro e w' ⟨rfl, hb'⟩
          have hgr : Hid (Grow wr w') := ((Grow.refl wr).alloc _).trans hb'
          clear hb' e0 e1 e2 e3 e4
          go_wp2_with fail
          all_goals
            go_roundg gk'
            case measure => omega
            case rel => exact ⟨j + 1, by omega, by omega, by go_num, by rw [HM.out]; go_num, HW.out.trans hgr.out, HVr.out.grow hgr.out, HB.out.grow hgr.out⟩
        · obtain rfl : j = l.length := by omega
          have hc := hB.cell
          have HW := hide hw
          rw [List.take_length]
          clear hw hv hB hlt hg
          go_wp2_with fail
          refine wp_loop_once ?_
          go_wp2_with fail
          go_ret
          exact ⟨ret_int (by rw [V.depth_list]; omega), HW.out⟩
    case inr.inr.inr.inr.inr.inr.inr =>
      cases h
      have hdl : ∀ x ∈ f, x.2.depth ≤ 1099511627776 := fun x hx => Nat.le_trans (V.depth_f hx) hdp
      rw [V.depth_doc] at hdp
      have Hdl := hide hdl
      have HV := hide hv
      obtain ⟨aB, aL, aF, cB, cL, cF, rfl, h1, h2, h3, h4, h5, h6, h7, h8, h9, hb⟩ := hv.open
      have Hf := hide hf
      have Hf' := hide hf'
      clear hb h1 h2 h3 hl hf h4 h5 hv hf' hfm hdl
      go_enter Tryd.func52, Tryd.ntmps52
      go_wp2_with fail
      refine wp_loop_once ?_
      go_wp2_with fail
      go_loopg [3, 31] (f.length + 1) (fun gk m i wr => ∃ j : Nat, j ≤ f.length ∧ gk + j = f.length + 1 ∧ i = .int .i64 j ∧ m = .int .i64 ((((f.take j).map fun x => x.2.depth).foldl max 0 : Nat) : Int) ∧
        Grow w wr ∧ In wr (.mk 8 0 [] [] f) ⟨8, 0, aB, 0, cB, aL, 0, cL, aF, f.length, cF⟩)
      case atStart => exact ⟨0, by omega, by omega, rfl, by simp, (Grow.refl w).alloc _, In.grow HV.out ((Grow.refl w).alloc _)⟩
      case round =>
        obtain ⟨j, hj, hg, rfl, rfl, hw, hv⟩ := hrel
        obtain ⟨gk', rfl⟩ : ∃ g, gk = g + 1 := ⟨gk - 1, by omega⟩
        by_cases hlt : j < f.length
        · obtain ⟨bk, o, x, ha, hbk, es, esz, e0, e1, e2, e3, e4, hx⟩ := hv.elemF j hlt
          dsimp only at ha
          subst ha
          have HW := hide hw
          have HX := hide hx
          have HVr := hide hv
          have hm := foldl_max_take (fun x : ByteArray × V => x.2.depth) f 0 j hlt
          have HM := hide hm
          clear hw hx hv hm
          go_wp2_with fail
          refine (Hf.out _ (List.getElem_mem hlt) _ x (Hf'.out _ (List.getElem_mem hlt)).2 (Hdl.out _ (List.getElem_mem hlt)) (HX.out.grow ((Grow.refl wr).alloc _))).mono ?_
          rintro e w' ⟨rfl, hb'⟩
          have hgr : Hid (Grow wr w') := ((Grow.refl wr).alloc _).trans hb'
          clear hb' e0 e1 e2 e3 e4 es
          go_wp2_with fail
          all_goals
            go_roundg gk'
            case measure => omega
            case rel => exact ⟨j + 1, by omega, by omega, by go_num, by rw [HM.out]; go_num, HW.out.trans hgr.out, HVr.out.grow hgr.out⟩
        · obtain rfl : j = f.length := by omega
          have HW := hide hw
          rw [List.take_length]
          clear hw hv hlt hg
          go_wp2_with fail
          go_ret
          exact ⟨ret_int (by rw [V.depth_doc]; omega), HW.out⟩
    all_goals
      cases h
      refine (depth_flat _ (by simp [V.k]) w c hv).mono ?_
      rintro e w' ⟨rfl, hg⟩
      exact ⟨by simp [V.depth_mk], hg⟩
end Go.Proofs.YtcdbchifigonpaaDoor

namespace Go.Proofs.YtcdbchifigonpaaDoor
open Go.RowKit

set_option maxHeartbeats 400000 in
theorem size_flat (v : V) (hk : v.l = [] ∧ v.f = []) (w : World) (c : Cv) (hfm : v.formed = true) (hv : In w v c) :
    Calls Tryd.prog 39 #[c.agg] w fun e w' => e = .returned (.int .i64 (v.bytes.length : Nat)) ∧ Grow w w' := by
  rcases V.formed_cases hfm with rfl | ⟨_, _, rfl⟩ | ⟨_, rfl⟩ | ⟨_, rfl⟩ | ⟨_, _, rfl⟩ | ⟨_, rfl⟩ | ⟨l', hl', rfl⟩ | ⟨f', hf', hnd, rfl⟩
  all_goals
    simp only [V.l, V.f] at hk
    obtain ⟨hk1, hk2⟩ := hk
    try subst hk1
    try subst hk2
    obtain ⟨aB, aL, aF, cB, cL, cF, rfl, h1, h2, h3, h4, h5, h6, h7, h8, h9, hb⟩ := hv.open
    clear hb hv hfm
    go_enter Tryd.func39, Tryd.ntmps39
    go_wp2_with fail
    refine wp_loop_once ?_
    go_wp2_with fail
    refine wp_loop_once ?_
    go_wp2_with fail
    go_ret
    exact ⟨ret_int (by rw [V.bytes_mk]; simp [toLe_length] <;> omega), (Grow.refl w).alloc _⟩

set_option maxHeartbeats 800000 in
theorem size_any (v : V) : ∀ (w : World) (c : Cv), v.formed = true → v.bytes.length ≤ 4611686018427387904 → In w v c →
    Calls Tryd.prog 39 #[c.agg] w fun e w' => e = .returned (.int .i64 (v.bytes.length : Nat)) ∧ Grow w w' := by
  induction v using V.ind with
  | h k n b l f hl hf =>
    intro w c hfm hdp hv
    rcases V.formed_cases hfm with h | ⟨_, _, h⟩ | ⟨_, h⟩ | ⟨_, h⟩ | ⟨_, _, h⟩ | ⟨_, h⟩ | ⟨l', hl', h⟩ | ⟨f', hf', hnd, h⟩
    case inr.inr.inr.inr.inr.inr.inl =>
      cases h
      rw [V.bytes_list] at hdp ⊢
      simp only [List.length_cons] at hdp ⊢
      have hdl : ∀ x ∈ l, x.bytes.length ≤ 4611686018427387904 := fun x hx => Nat.le_trans (flat_mem V.bytes l x hx) (by omega)
      have Hdl := hide hdl
      have HV := hide hv
      obtain ⟨aB, aL, aF, cB, cL, cF, rfl, h1, h2, h3, h4, h5, h6, h7, h8, h9, hb⟩ := hv.open
      have Hl := hide hl
      have Hl' := hide hl'
      clear hb h1 h2 h3 hl hf h4 h5 hv hl' hfm hdl
      go_enter Tryd.func39, Tryd.ntmps39
      go_wp2_with fail
      go_loopg [3, 36] (l.length + 1) (fun gk m i wr => ∃ j : Nat, j ≤ l.length ∧ gk + j = l.length + 1 ∧ i = .int .i64 j ∧ m = .int .i64 ((((l.take j).map V.bytes).flatten.length + 2 : Nat) : Int) ∧
        Grow w wr ∧ In wr (.mk 7 0 [] l []) ⟨7, 0, aB, 0, cB, aL, l.length, cL, aF, 0, cF⟩ ∧ Blk wr w.heap.size 37 (Cv.cells ⟨7, 0, aB, 0, cB, aL, l.length, cL, aF, 0, cF⟩))
      case atStart => exact ⟨0, by omega, by omega, rfl, by simp, (Grow.refl w).alloc _, In.grow HV.out ((Grow.refl w).alloc _), Blk.new _ _ _⟩
      case round =>
        obtain ⟨j, hj, hg, rfl, rfl, hw, hv, hB⟩ := hrel
        obtain ⟨gk', rfl⟩ : ∃ g, gk = g + 1 := ⟨gk - 1, by omega⟩
        by_cases hlt : j < l.length
        · obtain ⟨bk, o, x, ha, hbk, e0, e1, e2, e3, e4, hx⟩ := hv.elemL j hlt
          dsimp only at ha
          subst ha
          have HW := hide hw
          have HX := hide hx
          have HVr := hide hv
          have HB := hide hB
          have hm := congrArg List.length (flat_take V.bytes l j hlt)
          rw [List.length_append] at hm
          have hle := flat_le V.bytes l (j + 1)
          rw [hm] at hle
          have HM := hide hm
          obtain ⟨S, hS⟩ : ∃ S, S = ((l.take j).map V.bytes).flatten.length := ⟨_, rfl⟩
          rw [← hS] at hle ⊢
          have HS := hide hS
          clear hw hx hv hB hm hS
          go_wp2_with fail
          refine (Hl.out _ (List.getElem_mem hlt) _ x (Hl'.out _ (List.getElem_mem hlt)) (Hdl.out _ (List.getElem_mem hlt)) (HX.out.grow ((Grow.refl wr).alloc _))).mono ?_
          rintro e w' ⟨rfl, hb'⟩
          have hgr : Hid (Grow wr w') := ((Grow.refl wr).alloc _).trans hb'
          clear hb' e0 e1 e2 e3 e4
          go_wp2_with fail
          go_roundg gk'
          case measure => omega
          case rel => exact ⟨j + 1, by omega, by omega, by go_num, by rw [HM.out, ← HS.out]; go_num, HW.out.trans hgr.out, HVr.out.grow hgr.out, HB.out.grow hgr.out⟩
        · obtain rfl : j = l.length := by omega
          have hc := hB.cell
          have HW := hide hw
          rw [List.take_length]
          clear hw hv hB hlt hg
          go_wp2_with fail
          refine wp_loop_once ?_
          go_wp2_with fail
          go_ret
          exact ⟨ret_int (by omega), HW.out⟩
    case inr.inr.inr.inr.inr.inr.inr =>
      cases h
      rw [V.bytes_doc] at hdp ⊢
      simp only [List.length_cons] at hdp ⊢
      have hdl : ∀ x ∈ f, (V.item x.1 x.2.bytes).length ≤ 4611686018427387904 := fun x hx => Nat.le_trans (flat_mem (fun x : ByteArray × V => V.item x.1 x.2.bytes) f x hx) (by omega)
      have Hdl := hide hdl
      have HV := hide hv
      obtain ⟨aB, aL, aF, cB, cL, cF, rfl, h1, h2, h3, h4, h5, h6, h7, h8, h9, hb⟩ := hv.open
      have Hf := hide hf
      have Hf' := hide hf'
      clear hb h1 h2 h3 hl hf h4 h5 hv hf' hfm hdl
      go_enter Tryd.func39, Tryd.ntmps39
      go_wp2_with fail
      refine wp_loop_once ?_
      go_wp2_with fail
      go_loopg [3, 48] (f.length + 1) (fun gk m i wr => ∃ j : Nat, j ≤ f.length ∧ gk + j = f.length + 1 ∧ i = .int .i64 j ∧ m = .int .i64 ((((f.take j).map fun x => V.item x.1 x.2.bytes).flatten.length + 2 : Nat) : Int) ∧
        Grow w wr ∧ In wr (.mk 8 0 [] [] f) ⟨8, 0, aB, 0, cB, aL, 0, cL, aF, f.length, cF⟩)
      case atStart => exact ⟨0, by omega, by omega, rfl, by simp, (Grow.refl w).alloc _, In.grow HV.out ((Grow.refl w).alloc _)⟩
      case round =>
        obtain ⟨j, hj, hg, rfl, rfl, hw, hv⟩ := hrel
        obtain ⟨gk', rfl⟩ : ∃ g, gk = g + 1 := ⟨gk - 1, by omega⟩
        by_cases hlt : j < f.length
        · obtain ⟨bk, o, x, ha, hbk, es, esz, e0, e1, e2, e3, e4, hx⟩ := hv.elemF j hlt
          dsimp only at ha
          subst ha
          have HW := hide hw
          have HX := hide hx
          have HVr := hide hv
          have hm := congrArg List.length (flat_take (fun x : ByteArray × V => V.item x.1 x.2.bytes) f j hlt)
          rw [List.length_append, V.item_length] at hm
          have hle := flat_le (fun x : ByteArray × V => V.item x.1 x.2.bytes) f (j + 1)
          rw [hm] at hle
          have HM := hide hm
          have hit := Hdl.out _ (List.getElem_mem hlt)
          rw [V.item_length] at hit
          obtain ⟨S, hS⟩ : ∃ S, S = ((f.take j).map fun x : ByteArray × V => V.item x.1 x.2.bytes).flatten.length := ⟨_, rfl⟩
          rw [← hS] at hle ⊢
          have HS := hide hS
          clear hw hx hv hm hS
          go_wp2_with fail
          go_region_with (go_at_call 39; refine (Hf.out _ (List.getElem_mem hlt) _ x (Hf'.out _ (List.getElem_mem hlt)).2 (by omega) (HX.out.grow (((Grow.refl wr).alloc _).drew))).mono ?_; rintro e w' ⟨rfl, hb'⟩; have hcq := (Blk.grow (Blk.drew (Blk.new wr _ _)) hb').cell)
          all_goals
            have hgr : Hid (Grow wr w') := (((Grow.refl wr).alloc _).drew).trans hb'
            clear hb' hcq
            go_wp2_with fail
            go_roundg gk'
            case measure => omega
            case rel => exact ⟨j + 1, by omega, by omega, by go_num, by rw [HM.out, ← HS.out]; go_num, HW.out.trans hgr.out, HVr.out.grow hgr.out⟩
        · obtain rfl : j = f.length := by omega
          have HW := hide hw
          rw [List.take_length]
          clear hw hv hlt hg
          go_wp2_with fail
          go_ret
          exact ⟨ret_int (by omega), HW.out⟩
    all_goals
      cases h
      exact size_flat _ ⟨rfl, rfl⟩ w c hfm hv
end Go.Proofs.YtcdbchifigonpaaDoor

namespace Go.Proofs.YtcdbchifigonpaaDoor
open Go.RowKit

theorem byte_int (n : Nat) : (((UInt8.ofNat n).toNat : Nat) : Int) = (n : Int) % 256 := by rw [UInt8.toNat_ofNat']; simp
theorem byte_small (n : Nat) (h : n < 256) : (((UInt8.ofNat n).toNat : Nat) : Int) = (n : Int) := by rw [UInt8.toNat_ofNat', Nat.mod_eq_of_lt h]

theorem laid_start {w w1 : World} {base m : Nat} {v v1 : Value} {xs : List UInt8} {X : Array Value} {T : TypeId} {Y : Obj} (hr : Row w base v m xs) (hg1 : Grew ((w.alloc (.cells X T)).alloc Y) v w1 v1) (hT : T ≠ 5) :
    Blk w1 w.heap.size T X ∧ Grew w v w1 v1 ∧ w.heap.size ≤ w1.heap.size := by
  have hb : Blk ((w.alloc (.cells X T)).alloc Y) w.heap.size T X := (Blk.new w T X).alloc Y
  have hr2 : Row ((w.alloc (.cells X T)).alloc Y) base v m xs := (hr.alloc _).alloc _
  have hg := (((Grew.refl w v).alloc (.cells X T)).alloc Y).trans hg1
  exact ⟨hg1.blk hb (hr2.ne hb hT), hg, hg.size⟩

theorem laid_step {w w1 w2 : World} {base m1 : Nat} {v v1 v2 : Value} {xs1 : List UInt8} {X : Array Value} {T : TypeId} {g : Nat} {Y : Obj} (h0 : Grew w v w1 v1) (hr1 : Row w1 base v1 m1 xs1) (hb : Blk w1 g T X) (hg2 : Grew (w1.alloc Y) v1 w2 v2) (hT : T ≠ 5) :
    Blk w2 g T X ∧ Grew w v w2 v2 := ⟨hg2.blk (hb.alloc Y) ((hr1.alloc Y).ne (hb.alloc Y) hT), (h0.alloc Y).trans hg2⟩

theorem laid_step2 {w W w2 : World} {base m1 : Nat} {v v1 v2 : Value} {xs1 : List UInt8} {X : Array Value} {T : TypeId} {g : Nat} (hg2 : Grew W v1 w2 v2) (h0 : Grew w v W v1) (hr1 : Row W base v1 m1 xs1) (hb : Blk W g T X) (hT : T ≠ 5) :
    Blk w2 g T X ∧ Grew w v w2 v2 := ⟨hg2.blk hb (hr1.ne hb hT), h0.trans hg2⟩
theorem src_str {w : World} (s : ByteArray) : Src Tryd.prog 1 9 (.string s) s.data.toList.length (u8s s.data.toList) w := Src.ofString w under_string s

/-- What laid leaves. -/
def Laid (w : World) (base : Nat) (A : Option Addr) (m cc : Nat) (xs ys : List UInt8) (e : Ending) (w' : World) : Prop :=
  ∃ A' c', e = .returned (.slice A' (m + ys.length) c') ∧ Row w' base (.slice A' (m + ys.length) c') (m + ys.length) (xs ++ ys) ∧ Grew w (.slice A m cc) w' (.slice A' (m + ys.length) c')
theorem Laid.of {w w' : World} {base : Nat} {A A' : Option Addr} {m cc c' k : Nat} {xs zs ys : List UInt8} (hk : k = m + ys.length) (hz : zs = xs ++ ys) (h1 : Row w' base (.slice A' k c') k zs) (h2 : Grew w (.slice A m cc) w' (.slice A' k c')) :
    Laid w base A m cc xs ys (.returned (.slice A' k c')) w' := by
  subst hk; subst hz; exact ⟨A', c', rfl, h1, h2⟩

set_option maxRecDepth 100000 in
set_option maxHeartbeats 800000 in
theorem laid_null (w : World) (c : Cv) (base : Nat) (A : Option Addr) (cc m : Nat) (xs : List UInt8)  (hv : InU w base (V.mk 1 0 [] [] []) c) (hrow : Row w base (.slice A m cc) m xs) (hbase : base ≤ w.heap.size) (hm : m + (1) ≤ 140737488355328) :
    Calls Tryd.prog 44 #[.slice A m cc, c.agg] w (Laid w base A m cc xs (V.bytes (V.mk 1 0 [] [] []))) := by
  obtain ⟨aB, aL, aF, cB, cL, cF, rfl, h1, h2, h3, h4, h5, h6, h7, h8, h9, hb0⟩ := hv.open
  have HR := hide hrow
  have HV := hide hv
  have HB0 := hide hb0
  clear hb0 hv hrow h1 h2 h4 h6 h8
  go_enter Tryd.func44, Tryd.ntmps44
  go_wp2_with (first | (at_builtin; refine app_src (ys := [1]) rfl (.tmp 9) (.tmp 13) _ rfl rfl (HR.out.alloc _ |>.alloc _) _ rfl (src_one 1 rfl (Blk.new' (by simp) _ _)) (by simp only [List.length_cons, List.length_nil]; omega) (by simp; omega) ?_; intro A1 c1 w1 hr1 hg1; obtain ⟨hbx, hG1, hz1⟩ := laid_start HR.out hg1 (by decide); have HBx := hide hbx; have HG1 := hide hG1; have HR1 := hide hr1; have hcell := hbx.cell; clear hr1 hg1 hbx hG1))
  go_ret
  exact Laid.of (by simp [V.bytes_mk]) (by simp [V.bytes_mk]) HR1.out HG1.out

set_option maxRecDepth 100000 in
set_option maxHeartbeats 800000 in
theorem laid_bool (w : World) (c : Cv) (base : Nat) (A : Option Addr) (cc m : Nat) (xs : List UInt8) (n : Nat) (hn : n ≤ 1) (hv : InU w base (V.mk 2 n [] [] []) c) (hrow : Row w base (.slice A m cc) m xs) (hbase : base ≤ w.heap.size) (hm : m + (2) ≤ 140737488355328) :
    Calls Tryd.prog 44 #[.slice A m cc, c.agg] w (Laid w base A m cc xs (V.bytes (V.mk 2 n [] [] []))) := by
  obtain ⟨aB, aL, aF, cB, cL, cF, rfl, h1, h2, h3, h4, h5, h6, h7, h8, h9, hb0⟩ := hv.open
  have HR := hide hrow
  have HV := hide hv
  have HB0 := hide hb0
  clear hb0 hv hrow h1 h2 h4 h6 h8
  go_enter Tryd.func44, Tryd.ntmps44
  go_wp2_with (first | (at_builtin; refine app_src (ys := [2]) rfl (.tmp 9) (.tmp 13) _ rfl rfl (HR.out.alloc _ |>.alloc _) _ rfl (src_one 2 rfl (Blk.new' (by simp) _ _)) (by simp only [List.length_cons, List.length_nil]; omega) (by simp; omega) ?_; intro A1 c1 w1 hr1 hg1; obtain ⟨hbx, hG1, hz1⟩ := laid_start HR.out hg1 (by decide); have HBx := hide hbx; have HG1 := hide hG1; have HR1 := hide hr1; have hcell := hbx.cell; clear hr1 hg1 hbx hG1) | (at_builtin; refine app_src (ys := [UInt8.ofNat n]) rfl (.tmp 19) (.tmp 23) _ rfl rfl (HR1.out.alloc _) _ rfl (src_one _ (byte_small n (by omega)) (Blk.new' rfl _ _)) (by simp only [List.length_cons, List.length_nil]; omega) (by simp; omega) ?_; intro A2 c2 w2 hr2 hg2; have HG2 := hide ((HG1.out.alloc _).trans hg2); have HR2 := hide hr2; clear hr2 hg2))
  go_ret
  exact Laid.of (by simp [V.bytes_mk]) (by simp [V.bytes_mk]) HR2.out HG2.out

set_option maxRecDepth 100000 in
set_option maxHeartbeats 800000 in
theorem laid_int (w : World) (c : Cv) (base : Nat) (A : Option Addr) (cc m : Nat) (xs : List UInt8) (n : Nat) (hv : InU w base (V.mk 3 n [] [] []) c) (hrow : Row w base (.slice A m cc) m xs) (hbase : base ≤ w.heap.size) (hm : m + (9) ≤ 140737488355328) :
    Calls Tryd.prog 44 #[.slice A m cc, c.agg] w (Laid w base A m cc xs (V.bytes (V.mk 3 n [] [] []))) := by
  obtain ⟨aB, aL, aF, cB, cL, cF, rfl, h1, h2, h3, h4, h5, h6, h7, h8, h9, hb0⟩ := hv.open
  have HR := hide hrow
  have HV := hide hv
  have HB0 := hide hb0
  clear hb0 hv hrow h1 h2 h4 h6 h8
  go_enter Tryd.func44, Tryd.ntmps44
  go_wp2_with (first | (at_builtin; refine app_src (ys := [3]) rfl (.tmp 9) (.tmp 13) _ rfl rfl (HR.out.alloc _ |>.alloc _) _ rfl (src_one 3 rfl (Blk.new' (by simp) _ _)) (by simp only [List.length_cons, List.length_nil]; omega) (by simp; omega) ?_; intro A1 c1 w1 hr1 hg1; obtain ⟨hbx, hG1, hz1⟩ := laid_start HR.out hg1 (by decide); have HBx := hide hbx; have HG1 := hide hG1; have HR1 := hide hr1; have hcell := hbx.cell; clear hr1 hg1 hbx hG1) | (go_at_call 29; refine (lay_any n 8 base A1 c1 (m + 1) _ _ HR1.out (by omega) (by omega) (by omega) (by omega)).mono ?_; rintro e w2 ⟨A2, c2, rfl, hr2, hg2⟩; have HG2 := hide (HG1.out.trans hg2); have HR2 := hide hr2; clear hr2 hg2))
  go_ret
  exact Laid.of (by simp [V.bytes_mk, toLe_length]) (by simp [V.bytes_mk]) HR2.out HG2.out

set_option maxRecDepth 100000 in
set_option maxHeartbeats 800000 in
theorem laid_float (w : World) (c : Cv) (base : Nat) (A : Option Addr) (cc m : Nat) (xs : List UInt8) (n : Nat) (hv : InU w base (V.mk 4 n [] [] []) c) (hrow : Row w base (.slice A m cc) m xs) (hbase : base ≤ w.heap.size) (hm : m + (9) ≤ 140737488355328) :
    Calls Tryd.prog 44 #[.slice A m cc, c.agg] w (Laid w base A m cc xs (V.bytes (V.mk 4 n [] [] []))) := by
  obtain ⟨aB, aL, aF, cB, cL, cF, rfl, h1, h2, h3, h4, h5, h6, h7, h8, h9, hb0⟩ := hv.open
  have HR := hide hrow
  have HV := hide hv
  have HB0 := hide hb0
  clear hb0 hv hrow h1 h2 h4 h6 h8
  go_enter Tryd.func44, Tryd.ntmps44
  go_wp2_with (first | (at_builtin; refine app_src (ys := [4]) rfl (.tmp 9) (.tmp 13) _ rfl rfl (HR.out.alloc _ |>.alloc _) _ rfl (src_one 4 rfl (Blk.new' (by simp) _ _)) (by simp only [List.length_cons, List.length_nil]; omega) (by simp; omega) ?_; intro A1 c1 w1 hr1 hg1; obtain ⟨hbx, hG1, hz1⟩ := laid_start HR.out hg1 (by decide); have HBx := hide hbx; have HG1 := hide hG1; have HR1 := hide hr1; have hcell := hbx.cell; clear hr1 hg1 hbx hG1) | (go_at_call 29; refine (lay_any n 8 base A1 c1 (m + 1) _ _ HR1.out (by omega) (by omega) (by omega) (by omega)).mono ?_; rintro e w2 ⟨A2, c2, rfl, hr2, hg2⟩; have HG2 := hide (HG1.out.trans hg2); have HR2 := hide hr2; clear hr2 hg2))
  go_ret
  exact Laid.of (by simp [V.bytes_mk, toLe_length]) (by simp [V.bytes_mk]) HR2.out HG2.out

set_option maxRecDepth 100000 in
set_option maxHeartbeats 800000 in
theorem laid_text (w : World) (c : Cv) (base : Nat) (A : Option Addr) (cc m : Nat) (xs : List UInt8) (b : List UInt8) (hv : InU w base (V.mk 5 0 b [] []) c) (hrow : Row w base (.slice A m cc) m xs) (hbase : base ≤ w.heap.size) (hm : m + (3 + b.length) ≤ 140737488355328) :
    Calls Tryd.prog 44 #[.slice A m cc, c.agg] w (Laid w base A m cc xs (V.bytes (V.mk 5 0 b [] []))) := by
  obtain ⟨aB, aL, aF, cB, cL, cF, rfl, h1, h2, h3, h4, h5, h6, h7, h8, h9, hb0⟩ := hv.open
  have HR := hide hrow
  have HV := hide hv
  have HB0 := hide hb0
  clear hb0 hv hrow h1 h2 h4 h6 h8
  go_enter Tryd.func44, Tryd.ntmps44
  go_wp2_with (first | (at_builtin; refine app_src (ys := [5]) rfl (.tmp 9) (.tmp 13) _ rfl rfl (HR.out.alloc _ |>.alloc _) _ rfl (src_one 5 rfl (Blk.new' (by simp) _ _)) (by simp only [List.length_cons, List.length_nil]; omega) (by simp; omega) ?_; intro A1 c1 w1 hr1 hg1; obtain ⟨hbx, hG1, hz1⟩ := laid_start HR.out hg1 (by decide); have HBx := hide hbx; have HG1 := hide hG1; have HR1 := hide hr1; have hcell := hbx.cell; clear hr1 hg1 hbx hG1))
  have hc1 : w1.cell? ⟨w.heap.size, 2, none⟩ = some (.slice aB b.length cB) := HBx.out.cell 2
  have hwr : IntKind.u64.wrap (b.length : Int) = (b.length : Int) := IntWalk.u64_in _ (by omega)
  clear hcell
  go_region_held3 (fun w' => w'.cell? ⟨w.heap.size, 2, none⟩ = some (.slice aB b.length cB)) (first | go_keep | exact hc3 | exact hc2)
    (first | (go_at_call 29; refine (lay_any b.length 2 base A1 c1 (m + 1) _ _ HR1.out.drew (by simp; omega) (by omega) (by omega) (by omega)).mono ?_; rintro e w2 ⟨A2, c2, rfl, hr2, hg2⟩; have HB2 := hide (hg2.blk HBx.out.drew (Row.ne HR1.out HBx.out (by decide))); have hc2 := HB2.out.cell 2; have HR2 := hide hr2; have HG2 := hide (HG1.out.drew.trans hg2); have HS2 := hide (HB0.out.mono (AtW.below (HG2.out.below HR.out hbase) (Nat.le_refl _) (Nat.le_refl _) (Nat.le_refl _))); have hz2 := HG2.out.size; clear hr2 hg2) | (refine step_app_src (ys := b) (by rfl) _ _ _ (by rfl) (by rfl) HR2.out _ (by rfl) (Src.ofReads under_u8s HS2.out (u8s_one b)) (by omega) (by omega) ?_; intro A3 c3 w3 hr3 hg3; have hc3 := (hg3.blk HB2.out (Row.ne HR2.out HB2.out (by decide))).cell 2))
  have HR3 := hide hr3
  have HG3 := hide (HG2.out.trans hg3)
  clear hr3 hg3
  go_wp2_with fail
  go_ret
  exact Laid.of (by simp [V.bytes_mk, toLe_length]; omega) (by simp [V.bytes_mk]) HR3.out HG3.out

set_option maxRecDepth 100000 in
set_option maxHeartbeats 800000 in
theorem laid_raw (w : World) (c : Cv) (base : Nat) (A : Option Addr) (cc m : Nat) (xs : List UInt8) (b : List UInt8) (hv : InU w base (V.mk 6 0 b [] []) c) (hrow : Row w base (.slice A m cc) m xs) (hbase : base ≤ w.heap.size) (hm : m + (3 + b.length) ≤ 140737488355328) :
    Calls Tryd.prog 44 #[.slice A m cc, c.agg] w (Laid w base A m cc xs (V.bytes (V.mk 6 0 b [] []))) := by
  obtain ⟨aB, aL, aF, cB, cL, cF, rfl, h1, h2, h3, h4, h5, h6, h7, h8, h9, hb0⟩ := hv.open
  have HR := hide hrow
  have HV := hide hv
  have HB0 := hide hb0
  clear hb0 hv hrow h1 h2 h4 h6 h8
  go_enter Tryd.func44, Tryd.ntmps44
  go_wp2_with (first | (at_builtin; refine app_src (ys := [6]) rfl (.tmp 9) (.tmp 13) _ rfl rfl (HR.out.alloc _ |>.alloc _) _ rfl (src_one 6 rfl (Blk.new' (by simp) _ _)) (by simp only [List.length_cons, List.length_nil]; omega) (by simp; omega) ?_; intro A1 c1 w1 hr1 hg1; obtain ⟨hbx, hG1, hz1⟩ := laid_start HR.out hg1 (by decide); have HBx := hide hbx; have HG1 := hide hG1; have HR1 := hide hr1; have hcell := hbx.cell; clear hr1 hg1 hbx hG1))
  have hc1 : w1.cell? ⟨w.heap.size, 2, none⟩ = some (.slice aB b.length cB) := HBx.out.cell 2
  have hwr : IntKind.u64.wrap (b.length : Int) = (b.length : Int) := IntWalk.u64_in _ (by omega)
  clear hcell
  go_region_held3 (fun w' => w'.cell? ⟨w.heap.size, 2, none⟩ = some (.slice aB b.length cB)) (first | go_keep | exact hc3 | exact hc2)
    (first | (go_at_call 29; refine (lay_any b.length 2 base A1 c1 (m + 1) _ _ HR1.out.drew (by simp; omega) (by omega) (by omega) (by omega)).mono ?_; rintro e w2 ⟨A2, c2, rfl, hr2, hg2⟩; have HB2 := hide (hg2.blk HBx.out.drew (Row.ne HR1.out HBx.out (by decide))); have hc2 := HB2.out.cell 2; have HR2 := hide hr2; have HG2 := hide (HG1.out.drew.trans hg2); have HS2 := hide (HB0.out.mono (AtW.below (HG2.out.below HR.out hbase) (Nat.le_refl _) (Nat.le_refl _) (Nat.le_refl _))); have hz2 := HG2.out.size; clear hr2 hg2) | (refine step_app_src (ys := b) (by rfl) _ _ _ (by rfl) (by rfl) HR2.out _ (by rfl) (Src.ofReads under_u8s HS2.out (u8s_one b)) (by omega) (by omega) ?_; intro A3 c3 w3 hr3 hg3; have hc3 := (hg3.blk HB2.out (Row.ne HR2.out HB2.out (by decide))).cell 2))
  have HR3 := hide hr3
  have HG3 := hide (HG2.out.trans hg3)
  clear hr3 hg3
  go_wp2_with fail
  go_ret
  exact Laid.of (by simp [V.bytes_mk, toLe_length]; omega) (by simp [V.bytes_mk]) HR3.out HG3.out

/-- The contract, as an induction hands it on. -/
def LaidC (x : V) : Prop := ∀ (w : World) (c : Cv) (base : Nat) (A : Option Addr) (cc m : Nat) (xs : List UInt8), InU w base x c → Row w base (.slice A m cc) m xs → base ≤ w.heap.size → m + x.bytes.length ≤ 140737488355328 →
  Calls Tryd.prog 44 #[.slice A m cc, c.agg] w (Laid w base A m cc xs x.bytes)

set_option maxRecDepth 100000 in
set_option maxHeartbeats 800000 in
theorem laid_list (w : World) (c : Cv) (base : Nat) (A : Option Addr) (cc m : Nat) (xs : List UInt8) (l : List V) (hl : ∀ x ∈ l, LaidC x) (hv : InU w base (V.mk 7 0 [] l []) c) (hrow : Row w base (.slice A m cc) m xs) (hbase : base ≤ w.heap.size) (hm : m + (2 + (l.map V.bytes).flatten.length) ≤ 140737488355328) :
    Calls Tryd.prog 44 #[.slice A m cc, c.agg] w (Laid w base A m cc xs (V.bytes (V.mk 7 0 [] l []))) := by
  have Hl := hide hl
  clear hl
  obtain ⟨aB, aL, aF, cB, cL, cF, rfl, h1, h2, h3, h4, h5, h6, h7, h8, h9, hb0⟩ := hv.open
  have HR := hide hrow
  have HV := hide hv
  have HB0 := hide hb0
  clear hb0 hv hrow h1 h2 h4 h6 h8
  go_enter Tryd.func44, Tryd.ntmps44
  go_wp2_with (first | (at_builtin; refine app_src (ys := [7]) rfl (.tmp 9) (.tmp 13) _ rfl rfl (HR.out.alloc _ |>.alloc _) _ rfl (src_one 7 rfl (Blk.new' (by simp) _ _)) (by simp only [List.length_cons, List.length_nil]; omega) (by simp; omega) ?_; intro A1 c1 w1 hr1 hg1; obtain ⟨hbx, hG1, hz1⟩ := laid_start HR.out hg1 (by decide); have HBx := hide hbx; have HG1 := hide hG1; have HR1 := hide hr1; have hcell := hbx.cell; clear hr1 hg1 hbx hG1) | (at_builtin; refine app_src (ys := [UInt8.ofNat l.length]) rfl (.tmp 46) (.tmp 51) _ rfl rfl (HR1.out.alloc _) _ rfl (src_one _ (byte_int _) (Blk.new' rfl _ _)) (by simp only [List.length_cons, List.length_nil]; omega) (by simp; omega) ?_; intro A2 c2 w2 hr2 hg2; obtain ⟨hby, hG2⟩ := laid_step HG1.out HR1.out HBx.out hg2 (by decide); have HG2 := hide hG2; have HBy := hide hby; have HR2 := hide hr2; have hcell2 := hby.cell; clear hr2 hg2 hby hG2))
  have hz2 := HG2.out.size
  go_loopg [0, 56] (l.length + 1) (fun gk v' i wr => ∃ (j : Nat) (A' : Option Addr) (c' : Nat), j ≤ l.length ∧ gk + j = l.length + 1 ∧ i = .int .i64 j ∧ v' = .slice A' (m + 2 + ((l.take j).map V.bytes).flatten.length) c' ∧
    Row wr base (.slice A' (m + 2 + ((l.take j).map V.bytes).flatten.length) c') (m + 2 + ((l.take j).map V.bytes).flatten.length) (xs ++ 7 :: UInt8.ofNat l.length :: ((l.take j).map V.bytes).flatten) ∧ Grew w (.slice A m cc) wr (.slice A' (m + 2 + ((l.take j).map V.bytes).flatten.length) c'))
  case atStart => exact ⟨0, A2, c2, by omega, by omega, rfl, by simp, by simpa using HR2.out, by simpa using HG2.out⟩
  case round =>
    obtain ⟨j, A', c', hj, hg, rfl, rfl, hr, hgr⟩ := hrel
    obtain ⟨gk', rfl⟩ : ∃ g, gk = g + 1 := ⟨gk - 1, by omega⟩
    have hz := hgr.size
    by_cases hlt : j < l.length
    · have hvr : InU wr base _ _ := HV.out.below (hgr.below HR.out hbase) (Nat.le_refl _) (Nat.le_refl _)
      obtain ⟨bk, o, x, ha, hbk, e0, e1, e2, e3, e4, hx⟩ := hvr.elemL j hlt
      dsimp only at ha
      subst ha
      have hm1 := flat_take V.bytes l j hlt
      have hm2 := congrArg List.length hm1
      rw [List.length_append] at hm2
      have hle := flat_le V.bytes l (j + 1)
      rw [hm2] at hle
      have HM1 := hide hm1
      have HM2 := hide hm2
      have HR' := hide hr
      have HG' := hide hgr
      have HX := hide hx
      obtain ⟨S, hS⟩ : ∃ S, S = ((l.take j).map V.bytes).flatten := ⟨_, rfl⟩
      rw [← hS] at hle HR' HG' HM1 HM2 ⊢
      clear hr hgr hx hvr hm1 hm2 hS
      go_wp2_with fail
      refine (Hl.out _ (List.getElem_mem hlt) _ x base A' c' _ _ (HX.out.below ((Below.refl base wr).alloc (by omega) _) (Nat.le_refl _) (Nat.le_refl _)) (HR'.out.alloc _) (by simp; omega) (by omega)).mono ?_
      rintro e w3 ⟨A3, c3, rfl, hr3, hg3⟩
      have HG3 := hide ((HG'.out.alloc _).trans hg3)
      have HR3 := hide hr3
      clear hr3 hg3 e0 e1 e2 e3 e4
      go_wp2_with fail
      go_roundg gk'
      case measure => omega
      case rel =>
        have e1 : m + 2 + S.length + l[j].bytes.length = m + 2 + ((l.take (j + 1)).map V.bytes).flatten.length := by rw [HM2.out]; omega
        refine ⟨j + 1, A3, c3, by omega, by omega, by go_num, by rw [e1], ?_, ?_⟩
        · rw [← e1, HM1.out]; simpa using HR3.out
        · rw [← e1]; exact HG3.out
    · obtain rfl : j = l.length := by omega
      rw [List.take_length] at hr hgr ⊢
      have HR' := hide hr
      have HG' := hide hgr
      clear hr hgr hg hlt
      go_wp2_with fail
      go_ret
      exact Laid.of (by rw [V.bytes_list]; simp; omega) (by rw [V.bytes_list]) HR'.out HG'.out

set_option maxRecDepth 100000 in
set_option maxHeartbeats 800000 in
theorem laid_doc (w : World) (c : Cv) (base : Nat) (A : Option Addr) (cc m : Nat) (xs : List UInt8) (f : List (ByteArray × V)) (hf : ∀ x ∈ f, LaidC x.2) (hv : InU w base (V.mk 8 0 [] [] f) c) (hrow : Row w base (.slice A m cc) m xs) (hbase : base ≤ w.heap.size) (hm : m + (2 + (f.map fun x => V.item x.1 x.2.bytes).flatten.length) ≤ 140737488355328) :
    Calls Tryd.prog 44 #[.slice A m cc, c.agg] w (Laid w base A m cc xs (V.bytes (V.mk 8 0 [] [] f))) := by
  have Hf := hide hf
  clear hf
  obtain ⟨aB, aL, aF, cB, cL, cF, rfl, h1, h2, h3, h4, h5, h6, h7, h8, h9, hb0⟩ := hv.open
  have HR := hide hrow
  have HV := hide hv
  have HB0 := hide hb0
  clear hb0 hv hrow h1 h2 h4 h6 h8
  go_enter Tryd.func44, Tryd.ntmps44
  go_wp2_with (first | (at_builtin; refine app_src (ys := [8]) rfl (.tmp 9) (.tmp 13) _ rfl rfl (HR.out.alloc _ |>.alloc _) _ rfl (src_one 8 rfl (Blk.new' (by simp) _ _)) (by simp only [List.length_cons, List.length_nil]; omega) (by simp; omega) ?_; intro A1 c1 w1 hr1 hg1; obtain ⟨hbx, hG1, hz1⟩ := laid_start HR.out hg1 (by decide); have HBx := hide hbx; have HG1 := hide hG1; have HR1 := hide hr1; have hcell := hbx.cell; clear hr1 hg1 hbx hG1) | (at_builtin; refine app_src (ys := [UInt8.ofNat f.length]) rfl (.tmp 66) (.tmp 71) _ rfl rfl (HR1.out.alloc _) _ rfl (src_one _ (byte_int _) (Blk.new' rfl _ _)) (by simp only [List.length_cons, List.length_nil]; omega) (by simp; omega) ?_; intro A2 c2 w2 hr2 hg2; obtain ⟨hby, hG2⟩ := laid_step HG1.out HR1.out HBx.out hg2 (by decide); have HG2 := hide hG2; have HBy := hide hby; have HR2 := hide hr2; have hcell2 := hby.cell; clear hr2 hg2 hby hG2))
  have hz2 := HG2.out.size
  go_loopg [0, 76] (f.length + 1) (fun gk v' i wr => ∃ (j : Nat) (A' : Option Addr) (c' : Nat), j ≤ f.length ∧ gk + j = f.length + 1 ∧ i = .int .i64 j ∧ v' = .slice A' (m + 2 + ((f.take j).map fun x => V.item x.1 x.2.bytes).flatten.length) c' ∧
    Row wr base (.slice A' (m + 2 + ((f.take j).map fun x => V.item x.1 x.2.bytes).flatten.length) c') (m + 2 + ((f.take j).map fun x => V.item x.1 x.2.bytes).flatten.length) (xs ++ 8 :: UInt8.ofNat f.length :: ((f.take j).map fun x => V.item x.1 x.2.bytes).flatten) ∧ Grew w (.slice A m cc) wr (.slice A' (m + 2 + ((f.take j).map fun x => V.item x.1 x.2.bytes).flatten.length) c'))
  case atStart => exact ⟨0, A2, c2, by omega, by omega, rfl, by simp, by simpa using HR2.out, by simpa using HG2.out⟩
  case round =>
    obtain ⟨j, A', c', hj, hg, rfl, rfl, hr, hgr⟩ := hrel
    obtain ⟨gk', rfl⟩ : ∃ g, gk = g + 1 := ⟨gk - 1, by omega⟩
    have hz := hgr.size
    by_cases hlt : j < f.length
    · have hvr : InU wr base _ _ := HV.out.below (hgr.below HR.out hbase) (Nat.le_refl _) (Nat.le_refl _)
      obtain ⟨bk, o, x, ha, hbk, es, esz, e0, e1, e2, e3, e4, hx⟩ := hvr.elemF j hlt
      dsimp only at ha
      subst ha
      have hm1 := flat_take (fun x : ByteArray × V => V.item x.1 x.2.bytes) f j hlt
      have hm2 := congrArg List.length hm1
      rw [List.length_append, V.item_length] at hm2
      have hle := flat_le (fun x : ByteArray × V => V.item x.1 x.2.bytes) f (j + 1)
      rw [hm2] at hle
      have HM1 := hide hm1
      have HM2 := hide hm2
      have HR' := hide hr
      have HG' := hide hgr
      have HX := hide hx
      have HF := hide (Hf.out _ (List.getElem_mem hlt))
      obtain ⟨S, hS⟩ : ∃ S, S = ((f.take j).map fun x => V.item x.1 x.2.bytes).flatten := ⟨_, rfl⟩
      rw [← hS] at hle HR' HG' HM1 HM2 ⊢
      obtain ⟨s, hs⟩ : ∃ s, s = f[j].1 := ⟨_, rfl⟩
      obtain ⟨y, hy⟩ : ∃ y, y = f[j].2 := ⟨_, rfl⟩
      rw [← hs] at es esz HM1 HM2 hle
      rw [← hy] at HX HM1 HM2 hle HF
      clear hr hgr hx hvr hm1 hm2 hS hs hy
      have hwr : IntKind.u8.wrap (s.size : Int) = (s.size : Int) % 256 := IntKind.wrap_u8 _
      go_wp2_with fail
      have hbx : Blk (wr.alloc (.cells #[.string s, .int .i64 x.k, .int .u64 x.n, .slice x.aB x.nB x.cB, .slice x.aL x.nL x.cL, .slice x.aF x.nF x.cF] 52)) wr.heap.size 52 _ := Blk.new _ _ _
      have hc0 := hbx.cell 0
      simp only [List.getElem?_toArray, List.getElem?_cons_zero] at hc0
      have HBf := hide hbx
      clear hbx
      have hne : (wr.heap.size : Nat) ≠ wr.heap.size + 1 := by omega
      go_region_held3 (fun w' => w'.cell? ⟨wr.heap.size, 0, none⟩ = some (.string s)) (first | go_keep | exact hc3 | exact hc2)
        (first | (refine step_app_src (ys := [UInt8.ofNat s.size]) (by rfl) (.tmp 80) (.tmp 85) _ (by rfl) (by rfl) ((HR'.out.alloc _ |>.drew) |>.alloc _) _ (by rfl) (src_one _ (byte_int _) (Blk.new' (by simp) _ _)) (by simp only [List.length_cons, List.length_nil]; omega) (by simp; omega) ?_; intro A3 c3 w3 hr3 hg3; obtain ⟨hb3, hG3⟩ := laid_step2 hg3 ((HG'.out.alloc _ |>.drew) |>.alloc _) ((HR'.out.alloc _ |>.drew) |>.alloc _) ((HBf.out.drew) |>.alloc _) (by decide); have HB3 := hide hb3; have HG3 := hide hG3; have HR3 := hide hr3; have hz3 := hG3.size; have hc2 := hb3.cell 0; have HGy := hide ((((Grew.refl wr (.slice A' (m + 2 + S.length) c')).alloc _ |>.drew) |>.alloc _).trans hg3); clear hb3 hG3 hr3 hg3) | (refine step_app_src (ys := s.data.toList) (by rfl) (.tmp 86) (.tmp 88) _ (by rfl) (by rfl) HR3.out _ (by rfl) (src_str s) (by simp only [List.length_cons, List.length_nil, Array.length_toList]; have : s.data.size = s.size := rfl; omega) (by omega) ?_; intro A4 c4 w4 hr4 hg4; obtain ⟨hb4, hG4⟩ := laid_step2 hg4 HG3.out HR3.out HB3.out (by decide); have HB4 := hide hb4; have HG4 := hide hG4; have HR4 := hide hr4; have HGx := hide (HGy.out.trans hg4); have hz4 := hG4.size; have hc3 := hb4.cell 0; clear hb4 hG4 hr4 hg4))
      have hc4 := HB4.out.cell
      have hbel4 : Hid (InU w4 base y x) := by
        have h1 : Grew wr (.slice A' (m + 2 + S.length) c') w4 (.slice A4 (m + 2 + S.length + [UInt8.ofNat s.size].length + s.data.toList.length) c4) := HGx.out
        exact HX.out.below (h1.below HR'.out (by omega)) (Nat.le_refl _) (Nat.le_refl _)
      go_wp2_with fail
      refine (HF.out _ x base A4 c4 _ _ hbel4.out HR4.out (by omega) (by simp only [List.length_cons, List.length_nil, Array.length_toList]; have : s.data.size = s.size := rfl; omega)).mono ?_
      rintro e w5 ⟨A5, c5, rfl, hr5, hg5⟩
      have HG5 := hide (HG4.out.trans hg5)
      have HR5 := hide hr5
      clear hr5 hg5 hc4 hc0
      go_wp2_with fail
      go_roundg gk'
      case measure => omega
      case rel =>
        have hsz : s.data.toList.length = s.size := by rw [Array.length_toList]; rfl
        have e1 : m + 2 + S.length + [UInt8.ofNat s.size].length + s.data.toList.length + y.bytes.length = m + 2 + ((f.take (j + 1)).map fun x => V.item x.1 x.2.bytes).flatten.length := by rw [HM2.out, hsz]; simp only [List.length_cons, List.length_nil]; omega
        have e2 : m + 2 + S.length + 1 + s.size + y.bytes.length = m + 2 + ((f.take (j + 1)).map fun x => V.item x.1 x.2.bytes).flatten.length := by rw [HM2.out]; omega
        refine ⟨j + 1, A5, c5, by omega, by omega, by go_num, by rw [e2], ?_, ?_⟩
        · rw [← e1, HM1.out]; simpa [V.item] using HR5.out
        · rw [← e1]; exact HG5.out
    · obtain rfl : j = f.length := by omega
      rw [List.take_length] at hr hgr ⊢
      have HR' := hide hr
      have HG' := hide hgr
      clear hr hgr hg hlt
      go_wp2_with fail
      go_ret
      exact Laid.of (by rw [V.bytes_doc]; simp; omega) (by rw [V.bytes_doc]) HR'.out HG'.out

theorem laid_any (v : V) : v.formed = true → LaidC v := by
  induction v using V.ind with
  | h k n b l f hl hf =>
    intro hfm w c base A cc m xs hv hrow hbase hm
    rcases V.formed_cases hfm with h | ⟨n', hn', h⟩ | ⟨_, h⟩ | ⟨_, h⟩ | ⟨_, _, h⟩ | ⟨_, h⟩ | ⟨l', hl', h⟩ | ⟨f', hf', hnd, h⟩
    all_goals cases h
    · exact laid_null w c base A cc m xs hv hrow hbase (by simpa [V.bytes_mk] using hm)
    · exact laid_bool w c base A cc m xs _ hn' hv hrow hbase (by simpa [V.bytes_mk] using hm)
    · exact laid_int w c base A cc m xs _ hv hrow hbase (by simpa [V.bytes_mk, toLe_length] using hm)
    · exact laid_float w c base A cc m xs _ hv hrow hbase (by simpa [V.bytes_mk, toLe_length] using hm)
    · exact laid_text w c base A cc m xs _ hv hrow hbase (by simp [V.bytes_mk, toLe_length] at hm; omega)
    · exact laid_raw w c base A cc m xs _ hv hrow hbase (by simp [V.bytes_mk, toLe_length] at hm; omega)
    · exact laid_list w c base A cc m xs _ (fun x hx => hl x hx (hl' x hx)) hv hrow hbase (by rw [V.bytes_list] at hm; simp at hm ⊢; omega)
    · exact laid_doc w c base A cc m xs _ (fun x hx => hf x hx (hf' x hx).2) hv hrow hbase (by rw [V.bytes_doc] at hm; simp at hm ⊢; omega)

end Go.Proofs.YtcdbchifigonpaaDoor
