/- Walks: Same, Zero of the document's answer. -/
import Derived.Test.YtojpeiihkjpeoaaDoorLib1
import Derived.Laws.IdiomStrings
import Derived.MapKept
import Derived.Lib.BufferRead
import Derived.Deep.RegionHeld3
import Derived.Deep.QuietTactic
import Derived.BigQuiet
namespace Go.Proofs.YtojpeiihkjpeoaaDoor
open Go.RowKit

theorem under_u8 : Tryd.prog.underlying 5 = some (.int .u8) := by kernel_rfl

theorem conv_str {w : World} {A : Option Addr} {b : List UInt8} {lo hi : Nat} (c : Nat) (h : Reads (AtW w lo hi) 1 A b.length (u8s b)) :
    (convert 26 9 (.slice A b.length c)).run Tryd.prog w = .ok (.string ⟨b.toArray⟩) w := by
  rcases Nat.eq_zero_or_pos b.length with h0 | h0
  · have : b = [] := List.eq_nil_of_length_eq_zero h0
    subst this
    rcases A with _ | ad
    · exact Lib.run_convert_nil_bytes w _ _ _ c under_u8s under_u8 under_string
    · exact run_convert_bytes_back w _ _ _ ad c [] under_u8s under_u8 under_string (fun j hj => absurd hj (by simp))
  · obtain ⟨bk, o, rfl, hc⟩ := h.2 h0
    refine run_convert_bytes_back w _ _ _ _ c b under_u8s under_u8 under_string (fun j hj => ?_)
    rw [add_lit]
    exact (hc j _ (u8s_get b j hj)).1

open Classical in
/-- Are two values the same? -/
noncomputable def sameB (a b : V) : Bool := decide (a = b)
theorem sameB_self (a : V) : sameB a a = true := by simp [sameB]
theorem sameB_ne {a b : V} (h : a ≠ b) : sameB a b = false := by simp [sameB, h]
theorem sameB_iff {a b : V} : sameB a b = true ↔ a = b := by simp [sameB]

theorem str_beq (a b : ByteArray) : (a.toList == b.toList) = true ↔ a = b := by rw [← beq_toListBytes]; exact MapKept.bytes_beq a b
theorem ret_bool {a b : Bool} (h : a = b) : Ending.returned (.bool a) = .returned (.bool b) := by rw [h]
theorem lists_eq {α : Type} {l l' : List α} (hl : l.length = l'.length) (h : ∀ i (h1 : i < l.length) (h2 : i < l'.length), l[i] = l'[i]) : l = l' := List.ext_getElem hl h

set_option maxRecDepth 100000 in
set_option maxHeartbeats 800000 in
theorem same_head (k k' : Int) (n n' : Nat) (b b' : List UInt8) (l l' : List V) (f f' : List (ByteArray × V)) (c c' : Cv) (w : World) (hv : In w (.mk k n b l f) c) (hv' : In w (.mk k' n' b' l' f') c')
    (hne : k ≠ k' ∨ n ≠ n' ∨ b ≠ b' ∨ l.length ≠ l'.length ∨ f.length ≠ f'.length) :
    Calls Tryd.prog 73 #[c.agg, c'.agg] w fun e w' => e = .returned (.bool false) ∧ Grow w w' := by
  obtain ⟨aB, aL, aF, cB, cL, cF, rfl, h1, h2, h3, h4, h5, h6, h7, h8, h9, hb⟩ := hv.open
  obtain ⟨aB', aL', aF', cB', cL', cF', rfl, h1', h2', h3', h4', h5', h6', h7', h8', h9', hb'⟩ := hv'.open
  have hc1 : ∀ o1 o2 : Obj, (convert 26 9 (.slice aB b.length cB)).run Tryd.prog ((w.alloc o1).alloc o2) = .ok (.string ⟨b.toArray⟩) ((w.alloc o1).alloc o2) := fun o1 o2 => conv_str _ (hb.grow (((Grow.refl w).alloc o1).alloc o2))
  have hc2 : ∀ o1 o2 : Obj, (convert 26 9 (.slice aB' b'.length cB')).run Tryd.prog ((w.alloc o1).alloc o2) = .ok (.string ⟨b'.toArray⟩) ((w.alloc o1).alloc o2) := fun o1 o2 => conv_str _ (hb'.grow (((Grow.refl w).alloc o1).alloc o2))
  clear hv hv' hb hb' h1 h2 h3 h4 h5 h6 h7 h8 h9 h1' h2' h3' h4' h5' h6' h7' h8' h9'
  by_cases e1 : k = k'
  · by_cases e2 : n = n'
    · by_cases e3 : b = b'
      · have hne2 := ((hne.resolve_left (fun h => h e1)).resolve_left (fun h => h e2)).resolve_left (fun h => h e3)
        clear hne
        subst e1 e2 e3
        by_cases e4 : l.length = l'.length
        · have e5 : f.length ≠ f'.length := hne2.resolve_left (fun h => h e4)
          have t4 : ((l.length : Int) != (l'.length : Int)) = false := by simp [e4]
          have t5 : ((f.length : Int) != (f'.length : Int)) = true := by simp; omega
          clear hne2 e4 e5
          go_enter Tryd.func73, Tryd.ntmps73
          go_wp2_with fail
          go_ret
          exact ⟨rfl, ((Grow.refl w).alloc _).alloc _⟩
        · have t4 : ((l.length : Int) != (l'.length : Int)) = true := by simp; omega
          clear hne2 e4
          go_enter Tryd.func73, Tryd.ntmps73
          go_wp2_with fail
          go_ret
          exact ⟨rfl, ((Grow.refl w).alloc _).alloc _⟩
      · subst e1 e2
        have t3 : (b == b') = false := by simpa using e3
        clear hne e3
        go_enter Tryd.func73, Tryd.ntmps73
        go_wp2_with fail
        go_ret
        exact ⟨rfl, ((Grow.refl w).alloc _).alloc _⟩
    · subst e1
      have t2 : ((n : Int) != (n' : Int)) = true := by simp; omega
      clear hne e2
      go_enter Tryd.func73, Tryd.ntmps73
      go_wp2_with fail
      go_ret
      exact ⟨rfl, ((Grow.refl w).alloc _).alloc _⟩
  · have t1 : (k != k') = true := by simpa using e1
    clear hne e1
    go_enter Tryd.func73, Tryd.ntmps73
    go_wp2_with fail
    go_ret
    exact ⟨rfl, ((Grow.refl w).alloc _).alloc _⟩

/-- The contract, as an induction hands it on. -/
def SameC (x : V) : Prop := ∀ (y : V) (w : World) (c c' : Cv), In w x c → In w y c' →
  Calls Tryd.prog 73 #[c.agg, c'.agg] w fun e w' => e = .returned (.bool (sameB x y)) ∧ Grow w w'

set_option maxRecDepth 100000 in
set_option maxHeartbeats 1600000 in
theorem same_tail (k : Int) (n : Nat) (b : List UInt8) (l l' : List V) (f f' : List (ByteArray × V)) (c c' : Cv) (w : World) (hv : In w (.mk k n b l f) c) (hv' : In w (.mk k n b l' f') c')
    (hll : l.length = l'.length) (hff : f.length = f'.length) (hl : ∀ x ∈ l, SameC x) (hf : ∀ x ∈ f, SameC x.2) :
    Calls Tryd.prog 73 #[c.agg, c'.agg] w fun e w' => e = .returned (.bool (sameB (.mk k n b l f) (.mk k n b l' f'))) ∧ Grow w w' := by
  obtain ⟨aB, aL, aF, cB, cL, cF, rfl, h1, h2, h3, h4, h5, h6, h7, h8, h9, hb⟩ := hv.open
  obtain ⟨aB', aL', aF', cB', cL', cF', rfl, h1', h2', h3', h4', h5', h6', h7', h8', h9', hb'⟩ := hv'.open
  have hc1 : ∀ o1 o2 : Obj, (convert 26 9 (.slice aB b.length cB)).run Tryd.prog ((w.alloc o1).alloc o2) = .ok (.string ⟨b.toArray⟩) ((w.alloc o1).alloc o2) := fun o1 o2 => conv_str _ (hb.grow (((Grow.refl w).alloc o1).alloc o2))
  have hc2 : ∀ o1 o2 : Obj, (convert 26 9 (.slice aB' b.length cB')).run Tryd.prog ((w.alloc o1).alloc o2) = .ok (.string ⟨b.toArray⟩) ((w.alloc o1).alloc o2) := fun o1 o2 => conv_str _ (hb'.grow (((Grow.refl w).alloc o1).alloc o2))
  have HV := hide hv
  have HV' := hide hv'
  have Hl := hide hl
  have Hf := hide hf
  have t4 : ((l.length : Int) != (l'.length : Int)) = false := by simp [hll]
  have t5 : ((f.length : Int) != (f'.length : Int)) = false := by simp [hff]
  have hll2 : l.length ≤ l'.length := by omega
  have hff2 : f.length ≤ f'.length := by omega
  have HLL := hide hll
  have HFF := hide hff
  clear hv hv' hb hb' h1 h2 h3 h4 h5 h6 h8 h1' h2' h3' h4' h5' h6' h8' hl hf hll hff
  go_enter Tryd.func73, Tryd.ntmps73
  go_wp2_with fail
  clear hc1 hc2 t4 t5
  go_loopg [5] (l.length + 1) (fun gk i wr => ∃ j : Nat, j ≤ l.length ∧ gk + j = l.length + 1 ∧ i = .int .i64 j ∧ (∀ i (h1 : i < l.length) (h2 : i < l'.length), i < j → l[i] = l'[i]) ∧ Grow w wr ∧
    Blk wr w.heap.size 47 (Cv.cells ⟨k, (n : Int), aB, b.length, cB, aL, l.length, cL, aF, f.length, cF⟩) ∧ Blk wr (w.heap.size + 1) 47 (Cv.cells ⟨k, (n : Int), aB', b.length, cB', aL', l'.length, cL', aF', f'.length, cF'⟩))
  case atStart => exact ⟨0, by omega, by omega, rfl, fun i _ _ h => absurd h (by omega), ((Grow.refl w).alloc _).alloc _, (Blk.new _ _ _).alloc _, Blk.new' (by simp) _ _⟩
  case round =>
    obtain ⟨j, hj, hg, rfl, heq, hw, hB, hB'⟩ := hrel
    obtain ⟨gk', rfl⟩ : ∃ g, gk = g + 1 := ⟨gk - 1, by omega⟩
    have hc3 := hB.cell
    have hc3' := hB'.cell
    have HW := hide hw
    have HEQ := hide heq
    have HB := hide hB
    have HB' := hide hB'
    by_cases hlt : j < l.length
    · have hlt' : j < l'.length := by omega
      obtain ⟨bk, o, x, ha, hbk, e0, e1, e2, e3, e4, hx⟩ := (HV.out.grow hw).elemL j hlt
      obtain ⟨bk', o', x', ha', hbk', e0', e1', e2', e3', e4', hx'⟩ := (HV'.out.grow hw).elemL j hlt'
      dsimp only at ha ha'
      subst ha ha'
      have HX := hide hx
      have HX' := hide hx'
      have Hlj := hide (Hl.out _ (List.getElem_mem hlt))
      clear hw hx hx' hB hB' heq
      have hz0 : w.heap.size < wr.heap.size := HB.out.lt
      have hz1 : w.heap.size + 1 < wr.heap.size := HB'.out.lt
      by_cases he : l[j] = l'[j]
      · have hs : sameB l[j] l'[j] = true := sameB_iff.2 he
        have HE := hide he
        clear he
        go_wp2_with fail
        go_region_held3 (fun w' => ∀ b o, b < wr.heap.size → w'.cell? ⟨b, o, none⟩ = wr.cell? ⟨b, o, none⟩) (first | exact fun _ _ _ => rfl | exact fun b o h => hgr.below.cell (p := ⟨b, o, none⟩) h)
          (first | (go_at_call 73; refine (Hlj.out _ _ x x' (HX.out.grow (Grow.refl wr).drew) (HX'.out.grow (Grow.refl wr).drew)).mono ?_; rintro e w2 ⟨rfl, hb2⟩; have hgr : Grow wr w2 := (Grow.refl wr).drew.trans hb2))
        have HGR := hide hgr
        clear hgr hb2
        go_wp2_with fail
        go_roundg gk'
        case measure => omega
        case rel =>
          refine ⟨j + 1, by omega, by omega, by go_num, fun i h1 h2 h3 => ?_, HW.out.trans HGR.out, HB.out.grow HGR.out, HB'.out.grow HGR.out⟩
          rcases Nat.lt_or_ge i j with h | h
          · exact HEQ.out i h1 h2 h
          · obtain rfl : i = j := by omega
            exact HE.out
      · have hs : sameB l[j] l'[j] = false := sameB_ne he
        have HE := hide he
        clear he
        go_wp2_with fail
        go_region_held3 (fun w' => ∀ b o, b < wr.heap.size → w'.cell? ⟨b, o, none⟩ = wr.cell? ⟨b, o, none⟩) (first | exact fun _ _ _ => rfl | exact fun b o h => hgr.below.cell (p := ⟨b, o, none⟩) h)
          (first | (go_at_call 73; refine (Hlj.out _ _ x x' (HX.out.grow (Grow.refl wr).drew) (HX'.out.grow (Grow.refl wr).drew)).mono ?_; rintro e w2 ⟨rfl, hb2⟩; have hgr : Grow wr w2 := (Grow.refl wr).drew.trans hb2))
        have HGR := hide hgr
        clear hgr hb2
        go_wp2_with fail
        go_ret
        refine ⟨ret_bool (sameB_ne (fun h => HE.out ?_)).symm, HW.out.trans HGR.out⟩
        injection h with _ _ _ h _
        subst h; rfl
    · obtain rfl : j = l.length := by omega
      have hll : l = l' := lists_eq HLL.out (fun i h1 h2 => HEQ.out i h1 h2 h1)
      clear hw hB hB' heq HEQ
      go_wp2_with fail
      go_loopg [6] (f.length + 1) (fun gk i wr => ∃ j : Nat, j ≤ f.length ∧ gk + j = f.length + 1 ∧ i = .int .i64 j ∧ (∀ i (h1 : i < f.length) (h2 : i < f'.length), i < j → f[i] = f'[i]) ∧ Grow w wr ∧
        Blk wr w.heap.size 47 (Cv.cells ⟨k, (n : Int), aB, b.length, cB, aL, l.length, cL, aF, f.length, cF⟩) ∧ Blk wr (w.heap.size + 1) 47 (Cv.cells ⟨k, (n : Int), aB', b.length, cB', aL', l'.length, cL', aF', f'.length, cF'⟩))
      case atStart => exact ⟨0, by omega, by omega, rfl, fun i _ _ h => absurd h (by omega), HW.out, HB.out, HB'.out⟩
      case round =>
        obtain ⟨j, hj, hg, rfl, heq, hw, hB, hB'⟩ := hrel
        obtain ⟨gk', rfl⟩ : ∃ g, gk = g + 1 := ⟨gk - 1, by omega⟩
        clear hc3 hc3'
        have hc4 := hB.cell
        have hc4' := hB'.cell
        have HW := hide hw
        have HEQ := hide heq
        have HB := hide hB
        have HB' := hide hB'
        have HLq := hide hll
        clear hll
        by_cases hlt : j < f.length
        · have hlt' : j < f'.length := by omega
          obtain ⟨bk, o, x, ha, hbk, es, esz, e0, e1, e2, e3, e4, hx⟩ := (HV.out.grow hw).elemF j hlt
          obtain ⟨bk', o', x', ha', hbk', es', esz', e0', e1', e2', e3', e4', hx'⟩ := (HV'.out.grow hw).elemF j hlt'
          dsimp only at ha ha'
          subst ha ha'
          have HX := hide hx
          have HX' := hide hx'
          have Hfj := hide (Hf.out _ (List.getElem_mem hlt))
          have hz0 : w.heap.size < wr.heap.size := HB.out.lt
          have hz1 : w.heap.size + 1 < wr.heap.size := HB'.out.lt
          clear hw hx hx' hB hB' heq esz esz'
          by_cases hn : f[j].1 = f'[j].1
          · have hn1 : (f[j].1.toList == f'[j].1.toList) = true := (str_beq _ _).2 hn
            have hn2 : (f[j].1.toList != f'[j].1.toList) = false := by rw [bne, hn1]; rfl
            have HN := hide hn
            clear hn
            by_cases he : f[j].2 = f'[j].2
            · have hs : sameB f[j].2 f'[j].2 = true := sameB_iff.2 he
              have HE := hide he
              clear he
              go_wp2_with fail
              go_region_held3 (fun w' => ∀ b o, b < wr.heap.size → w'.cell? ⟨b, o, none⟩ = wr.cell? ⟨b, o, none⟩) (first | exact fun _ _ _ => rfl | exact fun b o h => hgr.below.cell (p := ⟨b, o, none⟩) h)
                (first | (go_at_call 73; refine (Hfj.out _ _ x x' (HX.out.grow (Grow.refl wr).drew) (HX'.out.grow (Grow.refl wr).drew)).mono ?_; rintro e w2 ⟨rfl, hb2⟩; have hgr : Grow wr w2 := (Grow.refl wr).drew.trans hb2))
              have HGR := hide hgr
              clear hgr hb2
              go_wp2_with fail
              go_roundg gk'
              case measure => omega
              case rel =>
                refine ⟨j + 1, by omega, by omega, by go_num, fun i h1 h2 h3 => ?_, HW.out.trans HGR.out, HB.out.grow HGR.out, HB'.out.grow HGR.out⟩
                rcases Nat.lt_or_ge i j with h | h
                · exact HEQ.out i h1 h2 h
                · obtain rfl : i = j := by omega
                  exact Prod.ext HN.out HE.out
            · have hs : sameB f[j].2 f'[j].2 = false := sameB_ne he
              have HE := hide he
              clear he
              go_wp2_with fail
              go_region_held3 (fun w' => ∀ b o, b < wr.heap.size → w'.cell? ⟨b, o, none⟩ = wr.cell? ⟨b, o, none⟩) (first | exact fun _ _ _ => rfl | exact fun b o h => hgr.below.cell (p := ⟨b, o, none⟩) h)
                (first | (go_at_call 73; refine (Hfj.out _ _ x x' (HX.out.grow (Grow.refl wr).drew) (HX'.out.grow (Grow.refl wr).drew)).mono ?_; rintro e w2 ⟨rfl, hb2⟩; have hgr : Grow wr w2 := (Grow.refl wr).drew.trans hb2))
              have HGR := hide hgr
              clear hgr hb2
              go_wp2_with fail
              go_ret
              refine ⟨ret_bool (sameB_ne (fun h => HE.out ?_)).symm, HW.out.trans HGR.out⟩
              injection h with _ _ _ _ h
              subst h; rfl
          · have hn1 : (f[j].1.toList == f'[j].1.toList) = false := by
              rw [Bool.eq_false_iff]; exact fun h => hn ((str_beq _ _).1 h)
            have hn2 : (f[j].1.toList != f'[j].1.toList) = true := by rw [bne, hn1]; rfl
            have HN := hide hn
            clear hn
            go_wp2_with fail
            go_quiet (fail)
            go_wp2_with fail
            go_ret
            refine ⟨ret_bool (sameB_ne (fun h => HN.out ?_)).symm, HW.out.drewN _⟩
            injection h with _ _ _ _ h
            subst h; rfl
        · obtain rfl : j = f.length := by omega
          have hff : f = f' := lists_eq HFF.out (fun i h1 h2 => HEQ.out i h1 h2 h1)
          have HFq := hide hff
          clear hw hB hB' heq HEQ hff
          go_wp2_with fail
          go_ret
          exact ⟨ret_bool (by rw [HLq.out, HFq.out, sameB_self]), HW.out⟩

theorem same_any (x : V) : SameC x := by
  induction x using V.ind with
  | h k n b l f hl hf =>
    intro y w c c' hv hv'
    obtain ⟨k', n', b', l', f'⟩ := y
    by_cases hne : k ≠ k' ∨ n ≠ n' ∨ b ≠ b' ∨ l.length ≠ l'.length ∨ f.length ≠ f'.length
    · refine (same_head k k' n n' b b' l l' f f' c c' w hv hv' hne).mono ?_
      rintro e w' ⟨rfl, hg⟩
      refine ⟨ret_bool (sameB_ne (fun h => ?_)).symm, hg⟩
      injection h with h1 h2 h3 h4 h5
      subst h1 h2 h3 h4 h5
      simp at hne
    · have h1 : k = k' := Decidable.byContradiction fun h => hne (.inl h)
      have h2 : n = n' := Decidable.byContradiction fun h => hne (.inr (.inl h))
      have h3 : b = b' := Decidable.byContradiction fun h => hne (.inr (.inr (.inl h)))
      have h4 : l.length = l'.length := Decidable.byContradiction fun h => hne (.inr (.inr (.inr (.inl h))))
      have h5 : f.length = f'.length := Decidable.byContradiction fun h => hne (.inr (.inr (.inr (.inr h))))
      clear hne
      subst h1 h2 h3
      exact same_tail k n b l l' f f' c c' w hv hv' h4 h5 hl hf

theorem In.zero_ (w : World) : In w V.zero Cv.zero := by
  unfold In V.zero
  rw [IsV]
  exact ⟨rfl, rfl, rfl, rfl, rfl, by omega, by omega, by omega, by simp, by simp, by simp, by simp, by simp, by simp, ⟨rfl, fun h => absurd h (by simp)⟩, fun i h => absurd h (by simp), fun i h => absurd h (by simp)⟩
end Go.Proofs.YtojpeiihkjpeoaaDoor
