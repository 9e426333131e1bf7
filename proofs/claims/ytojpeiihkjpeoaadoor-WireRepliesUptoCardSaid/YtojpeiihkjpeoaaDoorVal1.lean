/- Walks: most, depth, size of the program. -/
import Derived.Test.YtojpeiihkjpeoaaDoorLib1
import Derived.Deep.RegionWith
namespace Go.Proofs.YtojpeiihkjpeoaaDoor
open Go.RowKit

set_option maxHeartbeats 400000 in
theorem most_any (v : V) : ∀ (w : World) (c : Cv), In w v c →
    Calls Tryd.prog 81 #[c.agg] w fun e w' => e = .returned (.int .i64 v.most) ∧ Grow w w' := by
  induction v using V.ind with
  | h k n b l f hl hf =>
    intro w c hv
    have HV := hide hv
    obtain ⟨aB, aL, aF, cB, cL, cF, rfl, h1, h2, h3, h4, h5, h6, h7, h8, h9, hb⟩ := hv.open
    have Hl := hide hl
    have Hf := hide hf
    clear hb h1 h2 h3 hl hf h4 h5 hv
    go_enter Tryd.func81, Tryd.ntmps81
    go_wp2_with fail
    all_goals
      go_loopg [3, 18] (l.length + 1) (fun gk m i wr => ∃ j : Nat, j ≤ l.length ∧ gk + j = l.length + 1 ∧ i = .int .i64 j ∧ m = .int .i64 ((((l.take j).map V.most).foldl max (max l.length f.length) : Nat) : Int) ∧
        Grow w wr ∧ In wr (.mk k n b l f) ⟨k, (n : Int), aB, b.length, cB, aL, l.length, cL, aF, f.length, cF⟩ ∧ Blk wr w.heap.size 47 (Cv.cells ⟨k, (n : Int), aB, b.length, cB, aL, l.length, cL, aF, f.length, cF⟩))
      case atStart => exact ⟨0, by omega, by omega, rfl, by simp; omega, (Grow.refl w).alloc _, In.grow HV.out ((Grow.refl w).alloc _), Blk.new _ _ _⟩
      case round =>
        obtain ⟨j, hj, hg, rfl, rfl, hw, hv, hB⟩ := hrel
        obtain ⟨gk', rfl⟩ : ∃ g, gk = g + 1 := ⟨gk - 1, by omega⟩
        by_cases hlt : j < l.length
        · obtain ⟨bk, o, x, ha, hbk, e0, e1, e2, e3, e4, hx⟩ := hv.elemL j hlt
          dsimp only at ha
          subst ha
          have HW := hide hw
          have HX := hide hx
          have HVr := hide hv
          have HB := hide hB
          have hm := foldl_max_take V.most l (max l.length f.length) j hlt
          have HM := hide hm
          clear hw hx hv hB hm
          go_wp2_with fail
          refine (Hl.out _ (List.getElem_mem hlt) _ x (HX.out.grow ((Grow.refl wr).alloc _))).mono ?_
          rintro e w' ⟨rfl, hb'⟩
          have hgr : Hid (Grow wr w') := ((Grow.refl wr).alloc _).trans hb'
          clear hb' e0 e1 e2 e3 e4
          go_wp2_with fail
          all_goals
            go_roundg gk'
            case measure => omega
            case rel => exact ⟨j + 1, by omega, by omega, by go_num, by rw [HM.out]; go_num, HW.out.trans hgr.out, HVr.out.grow hgr.out, HB.out.grow hgr.out⟩
        · obtain rfl : j = l.length := by omega
          have hc := hB.cell
          have HW := hide hw
          have HVr := hide hv
          clear hw hv hB hlt hg
          go_wp2_with fail
          go_loopg [3, 30] (f.length + 1) (fun gk m i wr => ∃ j : Nat, j ≤ f.length ∧ gk + j = f.length + 1 ∧ i = .int .i64 j ∧ m = .int .i64 ((((f.take j).map fun x => x.2.most).foldl max ((l.map V.most).foldl max (max l.length f.length)) : Nat) : Int) ∧
            Grow w wr ∧ In wr (.mk k n b l f) ⟨k, (n : Int), aB, b.length, cB, aL, l.length, cL, aF, f.length, cF⟩)
          case atStart => exact ⟨0, by omega, by omega, rfl, by simp, HW.out, HVr.out⟩
          case round =>
            obtain ⟨j, hj, hg, rfl, rfl, hw, hv⟩ := hrel
            obtain ⟨gk', rfl⟩ : ∃ g, gk = g + 1 := ⟨gk - 1, by omega⟩
            by_cases hlt : j < f.length
            · obtain ⟨bk, o, x, ha, hbk, es, esz, e0, e1, e2, e3, e4, hx⟩ := hv.elemF j hlt
              dsimp only at ha
              subst ha
              have HW := hide hw
              have HX := hide hx
              have HVr := hide hv
              have hm := foldl_max_take (fun x : ByteArray × V => x.2.most) f ((l.map V.most).foldl max (max l.length f.length)) j hlt
              have HM := hide hm
              clear hw hx hv hm
              go_wp2_with fail
              refine (Hf.out _ (List.getElem_mem hlt) _ x (HX.out.grow ((Grow.refl wr).alloc _))).mono ?_
              rintro e w' ⟨rfl, hb'⟩
              have hgr : Hid (Grow wr w') := ((Grow.refl wr).alloc _).trans hb'
              clear hb' e0 e1 e2 e3 e4 es
              go_wp2_with fail
              all_goals
                go_roundg gk'
                case measure => omega
                case rel => exact ⟨j + 1, by omega, by omega, by go_num, by rw [HM.out]; go_num, HW.out.trans hgr.out, HVr.out.grow hgr.out⟩
            · obtain rfl : j = f.length := by omega
              have HW := hide hw
              clear hw hv hlt hg
              go_wp2_with fail
              go_ret
              exact ⟨ret_int (by rw [V.most_mk, List.take_length]), HW.out⟩

set_option maxHeartbeats 400000 in
theorem depth_flat (v : V) (hk : v.k ≠ 7 ∧ v.k ≠ 8) (w : World) (c : Cv) (hv : In w v c) :
    Calls Tryd.prog 82 #[c.agg] w fun e w' => e = .returned (.int .i64 0) ∧ Grow w w' := by
  obtain ⟨k, n, b, l, f⟩ := v
  obtain ⟨aB, aL, aF, cB, cL, cF, rfl, h1, h2, h3, h4, h5, h6, h7, h8, h9, hb⟩ := hv.open
  have e7 : (k != 7) = true := by simpa [V.k] using hk.1
  have e8 : (k != 8) = true := by simpa [V.k] using hk.2
  clear hb hv hk
  go_enter Tryd.func82, Tryd.ntmps82
  go_wp2_with fail
  go_ret
  exact ⟨rfl, (Grow.refl w).alloc _⟩

set_option maxHeartbeats 400000 in
theorem depth_any (v : V) : ∀ (w : World) (c : Cv), v.formed = true → v.depth ≤ 1099511627776 → In w v c →
    Calls Tryd.prog 82 #[c.agg] w fun e w' => e = .returned (.int .i64 v.depth) ∧ Grow w w' := by
  induction v using V.ind with
  | h k n b l f hl hf =>
    intro w c hfm hdp hv
    rcases V.formed_cases hfm with h | ⟨_, _, h⟩ | ⟨_, h⟩ | ⟨_, h⟩ | ⟨_, _, h⟩ | ⟨_, h⟩ | ⟨l', hl', h⟩ | ⟨f', hf', hnd, h⟩
    case inr.inr.inr.inr.inr.inr.inl =>
      cases h
      have hdl : ∀ x ∈ l, x.depth ≤ 1099511627776 := fun x hx => Nat.le_trans (V.depth_l hx) hdp
      rw [V.depth_list] at hdp
      have Hdl := hide hdl
      have HV := hide hv
      obtain ⟨aB, aL, aF, cB, cL, cF, rfl, h1, h2, h3, h4, h5, h6, h7, h8, h9, hb⟩ := hv.open
      have Hl := hide hl
      have Hl' := hide hl'
      clear hb h1 h2 h3 hl hf h4 h5 hv hl' hfm hdl
      go_enter Tryd.func82, Tryd.ntmps82
      go_wp2_with fail
      go_loopg [3, 19] (l.length + 1) (fun gk m i wr => ∃ j : Nat, j ≤ l.length ∧ gk + j = l.length + 1 ∧ i = .int .i64 j ∧ m = .int .i64 ((((l.take j).map V.depth).foldl max 0 : Nat) : Int) ∧
        Grow w wr ∧ In wr (.mk 7 0 [] l []) ⟨7, 0, aB, 0, cB, aL, l.length, cL, aF, 0, cF⟩ ∧ Blk wr w.heap.size 47 (Cv.cells ⟨7, 0, aB, 0, cB, aL, l.length, cL, aF, 0, cF⟩))
      case atStart => exact ⟨0, by omega, by omega, rfl, by simp, (Grow.refl w).alloc _, In.grow HV.out ((Grow.refl w).alloc _), Blk.new _ _ _⟩
      case round =>
        obtain ⟨j, hj, hg, rfl, rfl, hw, hv, hB⟩ := hrel
        obtain ⟨gk', rfl⟩ : ∃ g, gk = g + 1 := ⟨gk - 1, by omega⟩
        by_cases hlt : j < l.length
        · obtain ⟨bk, o, x, ha, hbk, e0, e1, e2, e3, e4, hx⟩ := hv.elemL j hlt
          dsimp only at ha
          subst ha
          have HW := hide hw
          have HX := hide hx
          have HVr := hide hv
          have HB := hide hB
          have hm := foldl_max_take V.depth l 0 j hlt
          have HM := hide hm
          clear hw hx hv hB hm
          go_wp2_with fail
          refine (Hl.out _ (List.getElem_mem hlt) _ x (Hl'.out _ (List.getElem_mem hlt)) (Hdl.out _ (List.getElem_mem hlt)) (HX.out.grow ((Grow.refl wr).alloc _))).mono ?_
          rintro e w' ⟨rfl, hb'⟩
          have hgr : Hid (Grow wr w') := ((Grow.refl wr).alloc _).trans hb'
          clear hb' e0 e1 e2 e3 e4
          go_wp2_with fail
          all_goals
            go_roundg gk'
            case measure => omega
            case rel => exact ⟨j + 1, by omega, by omega, by go_num, by rw [HM.out]; go_num, HW.out.trans hgr.out, HVr.out.grow hgr.out, HB.out.grow hgr.out⟩
        · obtain rfl : j = l.length := by omega
          have hc := hB.cell
          have HW := hide hw
          rw [List.take_length]
          clear hw hv hB hlt hg
          go_wp2_with fail
          refine wp_loop_once ?_
          go_wp2_with fail
          go_ret
          exact ⟨ret_int (by rw [V.depth_list]; omega), HW.out⟩
    case inr.inr.inr.inr.inr.inr.inr =>
      cases h
      have hdl : ∀ x ∈ f, x.2.depth ≤ 1099511627776 := fun x hx => Nat.le_trans (V.depth_f hx) hdp
      rw [V.depth_doc] at hdp
      have Hdl := hide hdl
      have HV := hide hv
      obtain ⟨aB, aL, aF, cB, cL, cF, rfl, h1, h2, h3, h4, h5, h6, h7, h8, h9, hb⟩ := hv.open
      have Hf := hide hf
      have Hf' := hide hf'
      clear hb h1 h2 h3 hl hf h4 h5 hv hf' hfm hdl
      go_enter Tryd.func82, Tryd.ntmps82
      go_wp2_with fail
      refine wp_loop_once ?_
      go_wp2_with fail
      go_loopg [3, 31] (f.length + 1) (fun gk m i wr => ∃ j : Nat, j ≤ f.length ∧ gk + j = f.length + 1 ∧ i = .int .i64 j ∧ m = .int .i64 ((((f.take j).map fun x => x.2.depth).foldl max 0 : Nat) : Int) ∧
        Grow w wr ∧ In wr (.mk 8 0 [] [] f) ⟨8, 0, aB, 0, cB, aL, 0, cL, aF, f.length, cF⟩)
      case atStart => exact ⟨0, by omega, by omega, rfl, by simp, (Grow.refl w).alloc _, In.grow HV.out ((Grow.refl w).alloc _)⟩
      case round =>
        obtain ⟨j, hj, hg, rfl, rfl, hw, hv⟩ := hrel
        obtain ⟨gk', rfl⟩ : ∃ g, gk = g + 1 := ⟨gk - 1, by omega⟩
        by_cases hlt : j < f.length
        · obtain ⟨bk, o, x, ha, hbk, es, esz, e0, e1, e2, e3, e4, hx⟩ := hv.elemF j hlt
          dsimp only at ha
          subst ha
          have HW := hide hw
          have HX := hide hx
          have HVr := hide hv
          have hm := foldl_max_take (fun x : ByteArray × V => x.2.depth) f 0 j hlt
          have HM := hide hm
          clear hw hx hv hm
          go_wp2_with fail
          refine (Hf.out _ (List.getElem_mem hlt) _ x (Hf'.out _ (List.getElem_mem hlt)).2 (Hdl.out _ (List.getElem_mem hlt)) (HX.out.grow ((Grow.refl wr).alloc _))).mono ?_
          rintro e w' ⟨rfl, hb'⟩
          have hgr : Hid (Grow wr w') := ((Grow.refl wr).alloc _).trans hb'
          clear hb' e0 e1 e2 e3 e4 es
          go_wp2_with fail
          all_goals
            go_roundg gk'
            case measure => omega
            case rel => exact ⟨j + 1, by omega, by omega, by go_num, by rw [HM.out]; go_num, HW.out.trans hgr.out, HVr.out.grow hgr.out⟩
        · obtain rfl : j = f.length := by omega
          have HW := hide hw
          rw [List.take_length]
          clear hw hv hlt hg
          go_wp2_with fail
          go_ret
          exact ⟨ret_int (by rw [V.depth_doc]; omega), HW.out⟩
    all_goals
      cases h
      refine (depth_flat _ (by simp [V.k]) w c hv).mono ?_
      rintro e w' ⟨rfl, hg⟩
      exact ⟨by simp [V.depth_mk], hg⟩
end Go.Proofs.YtojpeiihkjpeoaaDoor
