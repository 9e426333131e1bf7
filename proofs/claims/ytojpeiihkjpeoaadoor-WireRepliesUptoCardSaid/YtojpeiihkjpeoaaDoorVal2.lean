/- Walks: size of the program. -/
import Derived.Test.YtojpeiihkjpeoaaDoorLib1
import Derived.Deep.RegionWith
namespace Go.Proofs.YtojpeiihkjpeoaaDoor
open Go.RowKit

set_option maxHeartbeats 400000 in
theorem size_flat (v : V) (hk : v.l = [] ∧ v.f = []) (w : World) (c : Cv) (hfm : v.formed = true) (hv : In w v c) :
    Calls Tryd.prog 63 #[c.agg] w fun e w' => e = .returned (.int .i64 (v.bytes.length : Nat)) ∧ Grow w w' := by
  rcases V.formed_cases hfm with rfl | ⟨_, _, rfl⟩ | ⟨_, rfl⟩ | ⟨_, rfl⟩ | ⟨_, _, rfl⟩ | ⟨_, rfl⟩ | ⟨l', hl', rfl⟩ | ⟨f', hf', hnd, rfl⟩
  all_goals
    simp only [V.l, V.f] at hk
    obtain ⟨hk1, hk2⟩ := hk
    try subst hk1
    try subst hk2
    obtain ⟨aB, aL, aF, cB, cL, cF, rfl, h1, h2, h3, h4, h5, h6, h7, h8, h9, hb⟩ := hv.open
    clear hb hv hfm
    go_enter Tryd.func63, Tryd.ntmps63
    go_wp2_with fail
    refine wp_loop_once ?_
    go_wp2_with fail
    refine wp_loop_once ?_
    go_wp2_with fail
    go_ret
    exact ⟨ret_int (by rw [V.bytes_mk]; simp [toLe_length] <;> omega), (Grow.refl w).alloc _⟩

set_option maxHeartbeats 800000 in
theorem size_any (v : V) : ∀ (w : World) (c : Cv), v.formed = true → v.bytes.length ≤ 4611686018427387904 → In w v c →
    Calls Tryd.prog 63 #[c.agg] w fun e w' => e = .returned (.int .i64 (v.bytes.length : Nat)) ∧ Grow w w' := by
  induction v using V.ind with
  | h k n b l f hl hf =>
    intro w c hfm hdp hv
    rcases V.formed_cases hfm with h | ⟨_, _, h⟩ | ⟨_, h⟩ | ⟨_, h⟩ | ⟨_, _, h⟩ | ⟨_, h⟩ | ⟨l', hl', h⟩ | ⟨f', hf', hnd, h⟩
    case inr.inr.inr.inr.inr.inr.inl =>
      cases h
      rw [V.bytes_list] at hdp ⊢
      simp only [List.length_cons] at hdp ⊢
      have hdl : ∀ x ∈ l, x.bytes.length ≤ 4611686018427387904 := fun x hx => Nat.le_trans (flat_mem V.bytes l x hx) (by omega)
      have Hdl := hide hdl
      have HV := hide hv
      obtain ⟨aB, aL, aF, cB, cL, cF, rfl, h1, h2, h3, h4, h5, h6, h7, h8, h9, hb⟩ := hv.open
      have Hl := hide hl
      have Hl' := hide hl'
      clear hb h1 h2 h3 hl hf h4 h5 hv hl' hfm hdl
      go_enter Tryd.func63, Tryd.ntmps63
      go_wp2_with fail
      go_loopg [3, 36] (l.length + 1) (fun gk m i wr => ∃ j : Nat, j ≤ l.length ∧ gk + j = l.length + 1 ∧ i = .int .i64 j ∧ m = .int .i64 ((((l.take j).map V.bytes).flatten.length + 2 : Nat) : Int) ∧
        Grow w wr ∧ In wr (.mk 7 0 [] l []) ⟨7, 0, aB, 0, cB, aL, l.length, cL, aF, 0, cF⟩ ∧ Blk wr w.heap.size 47 (Cv.cells ⟨7, 0, aB, 0, cB, aL, l.length, cL, aF, 0, cF⟩))
      case atStart => exact ⟨0, by omega, by omega, rfl, by simp, (Grow.refl w).alloc _, In.grow HV.out ((Grow.refl w).alloc _), Blk.new _ _ _⟩
      case round =>
        obtain ⟨j, hj, hg, rfl, rfl, hw, hv, hB⟩ := hrel
        obtain ⟨gk', rfl⟩ : ∃ g, gk = g + 1 := ⟨gk - 1, by omega⟩
        by_cases hlt : j < l.length
        · obtain ⟨bk, o, x, ha, hbk, e0, e1, e2, e3, e4, hx⟩ := hv.elemL j hlt
          dsimp only at ha
          subst ha
          have HW := hide hw
          have HX := hide hx
          have HVr := hide hv
          have HB := hide hB
          have hm := congrArg List.length (flat_take V.bytes l j hlt)
          rw [List.length_append] at hm
          have hle := flat_le V.bytes l (j + 1)
          rw [hm] at hle
          have HM := hide hm
          obtain ⟨S, hS⟩ : ∃ S, S = ((l.take j).map V.bytes).flatten.length := ⟨_, rfl⟩
          rw [← hS] at hle ⊢
          have HS := hide hS
          clear hw hx hv hB hm hS
          go_wp2_with fail
          refine (Hl.out _ (List.getElem_mem hlt) _ x (Hl'.out _ (List.getElem_mem hlt)) (Hdl.out _ (List.getElem_mem hlt)) (HX.out.grow ((Grow.refl wr).alloc _))).mono ?_
          rintro e w' ⟨rfl, hb'⟩
          have hgr : Hid (Grow wr w') := ((Grow.refl wr).alloc _).trans hb'
          clear hb' e0 e1 e2 e3 e4
          go_wp2_with fail
          go_roundg gk'
          case measure => omega
          case rel => exact ⟨j + 1, by omega, by omega, by go_num, by rw [HM.out, ← HS.out]; go_num, HW.out.trans hgr.out, HVr.out.grow hgr.out, HB.out.grow hgr.out⟩
        · obtain rfl : j = l.length := by omega
          have hc := hB.cell
          have HW := hide hw
          rw [List.take_length]
          clear hw hv hB hlt hg
          go_wp2_with fail
          refine wp_loop_once ?_
          go_wp2_with fail
          go_ret
          exact ⟨ret_int (by omega), HW.out⟩
    case inr.inr.inr.inr.inr.inr.inr =>
      cases h
      rw [V.bytes_doc] at hdp ⊢
      simp only [List.length_cons] at hdp ⊢
      have hdl : ∀ x ∈ f, (V.item x.1 x.2.bytes).length ≤ 4611686018427387904 := fun x hx => Nat.le_trans (flat_mem (fun x : ByteArray × V => V.item x.1 x.2.bytes) f x hx) (by omega)
      have Hdl := hide hdl
      have HV := hide hv
      obtain ⟨aB, aL, aF, cB, cL, cF, rfl, h1, h2, h3, h4, h5, h6, h7, h8, h9, hb⟩ := hv.open
      have Hf := hide hf
      have Hf' := hide hf'
      clear hb h1 h2 h3 hl hf h4 h5 hv hf' hfm hdl
      go_enter Tryd.func63, Tryd.ntmps63
      go_wp2_with fail
      refine wp_loop_once ?_
      go_wp2_with fail
      go_loopg [3, 48] (f.length + 1) (fun gk m i wr => ∃ j : Nat, j ≤ f.length ∧ gk + j = f.length + 1 ∧ i = .int .i64 j ∧ m = .int .i64 ((((f.take j).map fun x => V.item x.1 x.2.bytes).flatten.length + 2 : Nat) : Int) ∧
        Grow w wr ∧ In wr (.mk 8 0 [] [] f) ⟨8, 0, aB, 0, cB, aL, 0, cL, aF, f.length, cF⟩)
      case atStart => exact ⟨0, by omega, by omega, rfl, by simp, (Grow.refl w).alloc _, In.grow HV.out ((Grow.refl w).alloc _)⟩
      case round =>
        obtain ⟨j, hj, hg, rfl, rfl, hw, hv⟩ := hrel
        obtain ⟨gk', rfl⟩ : ∃ g, gk = g + 1 := ⟨gk - 1, by omega⟩
        by_cases hlt : j < f.length
        · obtain ⟨bk, o, x, ha, hbk, es, esz, e0, e1, e2, e3, e4, hx⟩ := hv.elemF j hlt
          dsimp only at ha
          subst ha
          have HW := hide hw
          have HX := hide hx
          have HVr := hide hv
          have hm := congrArg List.length (flat_take (fun x : ByteArray × V => V.item x.1 x.2.bytes) f j hlt)
          rw [List.length_append, V.item_length] at hm
          have hle := flat_le (fun x : ByteArray × V => V.item x.1 x.2.bytes) f (j + 1)
          rw [hm] at hle
          have HM := hide hm
          have hit := Hdl.out _ (List.getElem_mem hlt)
          rw [V.item_length] at hit
          obtain ⟨S, hS⟩ : ∃ S, S = ((f.take j).map fun x : ByteArray × V => V.item x.1 x.2.bytes).flatten.length := ⟨_, rfl⟩
          rw [← hS] at hle ⊢
          have HS := hide hS
          clear hw hx hv hm hS
          go_wp2_with fail
          go_region_with (go_at_call 63; refine (Hf.out _ (List.getElem_mem hlt) _ x (Hf'.out _ (List.getElem_mem hlt)).2 (by omega) (HX.out.grow (((Grow.refl wr).alloc _).drew))).mono ?_; rintro e w' ⟨rfl, hb'⟩; have hcq := (Blk.grow (Blk.drew (Blk.new wr _ _)) hb').cell)
          all_goals
            have hgr : Hid (Grow wr w') := (((Grow.refl wr).alloc _).drew).trans hb'
            clear hb' hcq
            go_wp2_with fail
            go_roundg gk'
            case measure => omega
            case rel => exact ⟨j + 1, by omega, by omega, by go_num, by rw [HM.out, ← HS.out]; go_num, HW.out.trans hgr.out, HVr.out.grow hgr.out⟩
        · obtain rfl : j = f.length := by omega
          have HW := hide hw
          rw [List.take_length]
          clear hw hv hlt hg
          go_wp2_with fail
          go_ret
          exact ⟨ret_int (by omega), HW.out⟩
    all_goals
      cases h
      exact size_flat _ ⟨rfl, rfl⟩ w c hfm hv
end Go.Proofs.YtojpeiihkjpeoaaDoor
