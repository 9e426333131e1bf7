/- Walks: Same, Zero of the document's answer. · Walks: Zero, same, walked, Vast. -/
import Derived.Test.YtcdbchifigonpaaDoorLibs
import Derived.Laws.IdiomStrings
import Derived.MapKept
import Derived.Lib.BufferRead
import Derived.Deep.RegionHeld3
import Derived.Deep.QuietTactic
import Derived.BigQuiet
namespace Go.Proofs.YtcdbchifigonpaaDoor
open Go.RowKit

theorem under_u8 : Tryd.prog.underlying 5 = some (.int .u8) := by kernel_rfl

theorem conv_str {w : World} {A : Option Addr} {b : List UInt8} {lo hi : Nat} (c : Nat) (h : Reads (AtW w lo hi) 1 A b.length (u8s b)) :
    (convert 23 9 (.slice A b.length c)).run Tryd.prog w = .ok (.string ⟨b.toArray⟩) w := by
  rcases Nat.eq_zero_or_pos b.length with h0 | h0
  · have : b = [] := List.eq_nil_of_length_eq_zero h0
    subst this
    rcases A with _ | ad
    · exact Lib.run_convert_nil_bytes w _ _ _ c under_u8s under_u8 under_string
    · exact run_convert_bytes_back w _ _ _ ad c [] under_u8s under_u8 under_string (fun j hj => absurd hj (by simp))
  · obtain ⟨bk, o, rfl, hc⟩ := h.2 h0
    refine run_convert_bytes_back w _ _ _ _ c b under_u8s under_u8 under_string (fun j hj => ?_)
    rw [add_lit]
    exact (hc j _ (u8s_get b j hj)).1

open Classical in
/-- Are two values the same? -/
noncomputable def sameB (a b : V) : Bool := decide (a = b)
theorem sameB_self (a : V) : sameB a a = true := by simp [sameB]
theorem sameB_ne {a b : V} (h : a ≠ b) : sameB a b = false := by simp [sameB, h]
theorem sameB_iff {a b : V} : sameB a b = true ↔ a = b := by simp [sameB]

theorem str_beq (a b : ByteArray) : (a.toList == b.toList) = true ↔ a = b := by rw [← beq_toListBytes]; exact MapKept.bytes_beq a b
theorem ret_bool {a b : Bool} (h : a = b) : Ending.returned (.bool a) = .returned (.bool b) := by rw [h]
theorem lists_eq {α : Type} {l l' : List α} (hl : l.length = l'.length) (h : ∀ i (h1 : i < l.length) (h2 : i < l'.length), l[i] = l'[i]) : l = l' := List.ext_getElem hl h

set_option maxRecDepth 100000 in
set_option maxHeartbeats 800000 in
theorem same_head (k k' : Int) (n n' : Nat) (b b' : List UInt8) (l l' : List V) (f f' : List (ByteArray × V)) (c c' : Cv) (w : World) (hv : In w (.mk k n b l f) c) (hv' : In w (.mk k' n' b' l' f') c')
    (hne : k ≠ k' ∨ n ≠ n' ∨ b ≠ b' ∨ l.length ≠ l'.length ∨ f.length ≠ f'.length) :
    Calls Tryd.prog 43 #[c.agg, c'.agg] w fun e w' => e = .returned (.bool false) ∧ Grow w w' := by
  obtain ⟨aB, aL, aF, cB, cL, cF, rfl, h1, h2, h3, h4, h5, h6, h7, h8, h9, hb⟩ := hv.open
  obtain ⟨aB', aL', aF', cB', cL', cF', rfl, h1', h2', h3', h4', h5', h6', h7', h8', h9', hb'⟩ := hv'.open
  have hc1 : ∀ o1 o2 : Obj, (convert 23 9 (.slice aB b.length cB)).run Tryd.prog ((w.alloc o1).alloc o2) = .ok (.string ⟨b.toArray⟩) ((w.alloc o1).alloc o2) := fun o1 o2 => conv_str _ (hb.grow (((Grow.refl w).alloc o1).alloc o2))
  have hc2 : ∀ o1 o2 : Obj, (convert 23 9 (.slice aB' b'.length cB')).run Tryd.prog ((w.alloc o1).alloc o2) = .ok (.string ⟨b'.toArray⟩) ((w.alloc o1).alloc o2) := fun o1 o2 => conv_str _ (hb'.grow (((Grow.refl w).alloc o1).alloc o2))
  clear hv hv' hb hb' h1 h2 h3 h4 h5 h6 h7 h8 h9 h1' h2' h3' h4' h5' h6' h7' h8' h9'
  by_cases e1 : k = k'
  · by_cases e2 : n = n'
    · by_cases e3 : b = b'
      · have hne2 := ((hne.resolve_left (fun h => h e1)).resolve_left (fun h => h e2)).resolve_left (fun h => h e3)
        clear hne
        subst e1 e2 e3
        by_cases e4 : l.length = l'.length
        · have e5 : f.length ≠ f'.length := hne2.resolve_left (fun h => h e4)
          have t4 : ((l.length : Int) != (l'.length : Int)) = false := by simp [e4]
          have t5 : ((f.length : Int) != (f'.length : Int)) = true := by simp; omega
          clear hne2 e4 e5
          go_enter Tryd.func43, Tryd.ntmps43
          go_wp2_with fail
          go_ret
          exact ⟨rfl, ((Grow.refl w).alloc _).alloc _⟩
        · have t4 : ((l.length : Int) != (l'.length : Int)) = true := by simp; omega
          clear hne2 e4
          go_enter Tryd.func43, Tryd.ntmps43
          go_wp2_with fail
          go_ret
          exact ⟨rfl, ((Grow.refl w).alloc _).alloc _⟩
      · subst e1 e2
        have t3 : (b == b') = false := by simpa using e3
        clear hne e3
        go_enter Tryd.func43, Tryd.ntmps43
        go_wp2_with fail
        go_ret
        exact ⟨rfl, ((Grow.refl w).alloc _).alloc _⟩
    · subst e1
      have t2 : ((n : Int) != (n' : Int)) = true := by simp; omega
      clear hne e2
      go_enter Tryd.func43, Tryd.ntmps43
      go_wp2_with fail
      go_ret
      exact ⟨rfl, ((Grow.refl w).alloc _).alloc _⟩
  · have t1 : (k != k') = true := by simpa using e1
    clear hne e1
    go_enter Tryd.func43, Tryd.ntmps43
    go_wp2_with fail
    go_ret
    exact ⟨rfl, ((Grow.refl w).alloc _).alloc _⟩

/-- The contract, as an induction hands it on. -/
def SameC (x : V) : Prop := ∀ (y : V) (w : World) (c c' : Cv), In w x c → In w y c' →
  Calls Tryd.prog 43 #[c.agg, c'.agg] w fun e w' => e = .returned (.bool (sameB x y)) ∧ Grow w w'

set_option maxRecDepth 100000 in
set_option maxHeartbeats 1600000 in
theorem same_tail (k : Int) (n : Nat) (b : List UInt8) (l l' : List V) (f f' : List (ByteArray × V)) (c c' : Cv) (w : World) (hv : In w (.mk k n b l f) c) (hv' : In w (.mk k n b l' f') c')
    (hll : l.length = l'.length) (hff : f.length = f'.length) (hl : ∀ x ∈ l, SameC x) (hf : ∀ x ∈ f, SameC x.2) :
    Calls Tryd.prog 43 #[c.agg, c'.agg] w fun e w' => e = .returned (.bool (sameB (.mk k n b l f) (.mk k n b l' f'))) ∧ Grow w w' := by
  obtain ⟨aB, aL, aF, cB, cL, cF, rfl, h1, h2, h3, h4, h5, h6, h7, h8, h9, hb⟩ := hv.open
  obtain ⟨aB', aL', aF', cB', cL', cF', rfl, h1', h2', h3', h4', h5', h6', h7', h8', h9', hb'⟩ := hv'.open
  have hc1 : ∀ o1 o2 : Obj, (convert 23 9 (.slice aB b.length cB)).run Tryd.prog ((w.alloc o1).alloc o2) = .ok (.string ⟨b.toArray⟩) ((w.alloc o1).alloc o2) := fun o1 o2 => conv_str _ (hb.grow (((Grow.refl w).alloc o1).alloc o2))
  have hc2 : ∀ o1 o2 : Obj, (convert 23 9 (.slice aB' b.length cB')).run Tryd.prog ((w.alloc o1).alloc o2) = .ok (.string ⟨b.toArray⟩) ((w.alloc o1).alloc o2) := fun o1 o2 => conv_str _ (hb'.grow (((Grow.refl w).alloc o1).alloc o2))
  have HV := hide hv
  have HV' := hide hv'
  have Hl := hide hl
  have Hf := hide hf
  have t4 : ((l.length : Int) != (l'.length : Int)) = false := by simp [hll]
  have t5 : ((f.length : Int) != (f'.length : Int)) = false := by simp [hff]
  have hll2 : l.length ≤ l'.length := by omega
  have hff2 : f.length ≤ f'.length := by omega
  have HLL := hide hll
  have HFF := hide hff
  clear hv hv' hb hb' h1 h2 h3 h4 h5 h6 h8 h1' h2' h3' h4' h5' h6' h8' hl hf hll hff
  go_enter Tryd.func43, Tryd.ntmps43
  go_wp2_with fail
  clear hc1 hc2 t4 t5
  go_loopg [5] (l.length + 1) (fun gk i wr => ∃ j : Nat, j ≤ l.length ∧ gk + j = l.length + 1 ∧ i = .int .i64 j ∧ (∀ i (h1 : i < l.length) (h2 : i < l'.length), i < j → l[i] = l'[i]) ∧ Grow w wr ∧
    Blk wr w.heap.size 37 (Cv.cells ⟨k, (n : Int), aB, b.length, cB, aL, l.length, cL, aF, f.length, cF⟩) ∧ Blk wr (w.heap.size + 1) 37 (Cv.cells ⟨k, (n : Int), aB', b.length, cB', aL', l'.length, cL', aF', f'.length, cF'⟩))
  case atStart => exact ⟨0, by omega, by omega, rfl, fun i _ _ h => absurd h (by omega), ((Grow.refl w).alloc _).alloc _, (Blk.new _ _ _).alloc _, Blk.new' (by simp) _ _⟩
  case round =>
    obtain ⟨j, hj, hg, rfl, heq, hw, hB, hB'⟩ := hrel
    obtain ⟨gk', rfl⟩ : ∃ g, gk = g + 1 := ⟨gk - 1, by omega⟩
    have hc3 := hB.cell
    have hc3' := hB'.cell
    have HW := hide hw
    have HEQ := hide heq
    have HB := hide hB
    have HB' := hide hB'
    by_cases hlt : j < l.length
    · have hlt' : j < l'.length := by omega
      obtain ⟨bk, o, x, ha, hbk, e0, e1, e2, e3, e4, hx⟩ := (HV.out.grow hw).elemL j hlt
      obtain ⟨bk', o', x', ha', hbk', e0', e1', e2', e3', e4', hx'⟩ := (HV'.out.grow hw).elemL j hlt'
      dsimp only at ha ha'
      subst ha ha'
      have HX := hide hx
      have HX' := hide hx'
      have Hlj := hide (Hl.out _ (List.getElem_mem hlt))
      clear hw hx hx' hB hB' heq
      have hz0 : w.heap.size < wr.heap.size := HB.out.lt
      have hz1 : w.heap.size + 1 < wr.heap.size := HB'.out.lt
      by_cases he : l[j] = l'[j]
      · have hs : sameB l[j] l'[j] = true := sameB_iff.2 he
        have HE := hide he
        clear he
        go_wp2_with fail
        go_region_held3 (fun w' => ∀ b o, b < wr.heap.size → w'.cell? ⟨b, o, none⟩ = wr.cell? ⟨b, o, none⟩) (first | exact fun _ _ _ => rfl | exact fun b o h => hgr.below.cell (p := ⟨b, o, none⟩) h)
          (first | (go_at_call 43; refine (Hlj.out _ _ x x' (HX.out.grow (Grow.refl wr).drew) (HX'.out.grow (Grow.refl wr).drew)).mono ?_; rintro e w2 ⟨rfl, hb2⟩; have hgr : Grow wr w2 := (Grow.refl wr).drew.trans hb2))
        have HGR := hide hgr
        clear hgr hb2
        go_wp2_with fail
        go_roundg gk'
        case measure => omega
        case rel =>
          refine ⟨j + 1, by omega, by omega, by go_num, fun i h1 h2 h3 => ?_, HW.out.trans HGR.out, HB.out.grow HGR.out, HB'.out.grow HGR.out⟩
          rcases Nat.lt_or_ge i j with h | h
          · exact HEQ.out i h1 h2 h
          · obtain rfl : i = j := by omega
            exact HE.out
      · have hs : sameB l[j] l'[j] = false := sameB_ne he
        have HE := hide he
        clear he
        go_wp2_with fail
        go_region_held3 (fun w' => ∀ b o, b < wr.heap.size → w'.cell? ⟨b, o, none⟩ = wr.cell? ⟨b, o, none⟩) (first | exact fun _ _ _ => rfl | exact fun b o h => hgr.below.cell (p := ⟨b, o, none⟩) h)
          (first | (go_at_call 43; refine (Hlj.out _ _ x x' (HX.out.grow (Grow.refl wr).drew) (HX'.out.grow (Grow.refl wr).drew)).mono ?_; rintro e w2 ⟨rfl, hb2⟩; have hgr : Grow wr w2 := (Grow.refl wr).drew.trans hb2))
        have HGR := hide hgr
        clear hgr hb2
        go_wp2_with fail
        go_ret
        refine ⟨ret_bool (sameB_ne (fun h => HE.out ?_)).symm, HW.out.trans HGR.out⟩
        injection h with _ _ _ h _
        subst h; rfl
    · obtain rfl : j = l.length := by omega
      have hll : l = l' := lists_eq HLL.out (fun i h1 h2 => HEQ.out i h1 h2 h1)
      clear hw hB hB' heq HEQ
      go_wp2_with fail
      go_loopg [6] (f.length + 1) (fun gk i wr => ∃ j : Nat, j ≤ f.length ∧ gk + j = f.length + 1 ∧ i = .int .i64 j ∧ (∀ i (h1 : i < f.length) (h2 : i < f'.length), i < j → f[i] = f'[i]) ∧ Grow w wr ∧
        Blk wr w.heap.size 37 (Cv.cells ⟨k, (n : Int), aB, b.length, cB, aL, l.length, cL, aF, f.length, cF⟩) ∧ Blk wr (w.heap.size + 1) 37 (Cv.cells ⟨k, (n : Int), aB', b.length, cB', aL', l'.length, cL', aF', f'.length, cF'⟩))
      case atStart => exact ⟨0, by omega, by omega, rfl, fun i _ _ h => absurd h (by omega), HW.out, HB.out, HB'.out⟩
      case round =>
        obtain ⟨j, hj, hg, rfl, heq, hw, hB, hB'⟩ := hrel
        obtain ⟨gk', rfl⟩ : ∃ g, gk = g + 1 := ⟨gk - 1, by omega⟩
        clear hc3 hc3'
        have hc4 := hB.cell
        have hc4' := hB'.cell
        have HW := hide hw
        have HEQ := hide heq
        have HB := hide hB
        have HB' := hide hB'
        have HLq := hide hll
        clear hll
        by_cases hlt : j < f.length
        · have hlt' : j < f'.length := by omega
          obtain ⟨bk, o, x, ha, hbk, es, esz, e0, e1, e2, e3, e4, hx⟩ := (HV.out.grow hw).elemF j hlt
          obtain ⟨bk', o', x', ha', hbk', es', esz', e0', e1', e2', e3', e4', hx'⟩ := (HV'.out.grow hw).elemF j hlt'
          dsimp only at ha ha'
          subst ha ha'
          have HX := hide hx
          have HX' := hide hx'
          have Hfj := hide (Hf.out _ (List.getElem_mem hlt))
          have hz0 : w.heap.size < wr.heap.size := HB.out.lt
          have hz1 : w.heap.size + 1 < wr.heap.size := HB'.out.lt
          clear hw hx hx' hB hB' heq esz esz'
          by_cases hn : f[j].1 = f'[j].1
          · have hn1 : (f[j].1.toList == f'[j].1.toList) = true := (str_beq _ _).2 hn
            have hn2 : (f[j].1.toList != f'[j].1.toList) = false := by rw [bne, hn1]; rfl
            have HN := hide hn
            clear hn
            by_cases he : f[j].2 = f'[j].2
            · have hs : sameB f[j].2 f'[j].2 = true := sameB_iff.2 he
              have HE := hide he
              clear he
              go_wp2_with fail
              go_region_held3 (fun w' => ∀ b o, b < wr.heap.size → w'.cell? ⟨b, o, none⟩ = wr.cell? ⟨b, o, none⟩) (first | exact fun _ _ _ => rfl | exact fun b o h => hgr.below.cell (p := ⟨b, o, none⟩) h)
                (first | (go_at_call 43; refine (Hfj.out _ _ x x' (HX.out.grow (Grow.refl wr).drew) (HX'.out.grow (Grow.refl wr).drew)).mono ?_; rintro e w2 ⟨rfl, hb2⟩; have hgr : Grow wr w2 := (Grow.refl wr).drew.trans hb2))
              have HGR := hide hgr
              clear hgr hb2
              go_wp2_with fail
              go_roundg gk'
              case measure => omega
              case rel =>
                refine ⟨j + 1, by omega, by omega, by go_num, fun i h1 h2 h3 => ?_, HW.out.trans HGR.out, HB.out.grow HGR.out, HB'.out.grow HGR.out⟩
                rcases Nat.lt_or_ge i j with h | h
                · exact HEQ.out i h1 h2 h
                · obtain rfl : i = j := by omega
                  exact Prod.ext HN.out HE.out
            · have hs : sameB f[j].2 f'[j].2 = false := sameB_ne he
              have HE := hide he
              clear he
              go_wp2_with fail
              go_region_held3 (fun w' => ∀ b o, b < wr.heap.size → w'.cell? ⟨b, o, none⟩ = wr.cell? ⟨b, o, none⟩) (first | exact fun _ _ _ => rfl | exact fun b o h => hgr.below.cell (p := ⟨b, o, none⟩) h)
                (first | (go_at_call 43; refine (Hfj.out _ _ x x' (HX.out.grow (Grow.refl wr).drew) (HX'.out.grow (Grow.refl wr).drew)).mono ?_; rintro e w2 ⟨rfl, hb2⟩; have hgr : Grow wr w2 := (Grow.refl wr).drew.trans hb2))
              have HGR := hide hgr
              clear hgr hb2
              go_wp2_with fail
              go_ret
              refine ⟨ret_bool (sameB_ne (fun h => HE.out ?_)).symm, HW.out.trans HGR.out⟩
              injection h with _ _ _ _ h
              subst h; rfl
          · have hn1 : (f[j].1.toList == f'[j].1.toList) = false := by
              rw [Bool.eq_false_iff]; exact fun h => hn ((str_beq _ _).1 h)
            have hn2 : (f[j].1.toList != f'[j].1.toList) = true := by rw [bne, hn1]; rfl
            have HN := hide hn
            clear hn
            go_wp2_with fail
            go_quiet (fail)
            go_wp2_with fail
            go_ret
            refine ⟨ret_bool (sameB_ne (fun h => HN.out ?_)).symm, HW.out.drewN _⟩
            injection h with _ _ _ _ h
            subst h; rfl
        · obtain rfl : j = f.length := by omega
          have hff : f = f' := lists_eq HFF.out (fun i h1 h2 => HEQ.out i h1 h2 h1)
          have HFq := hide hff
          clear hw hB hB' heq HEQ hff
          go_wp2_with fail
          go_ret
          exact ⟨ret_bool (by rw [HLq.out, HFq.out, sameB_self]), HW.out⟩

theorem same_any (x : V) : SameC x := by
  induction x using V.ind with
  | h k n b l f hl hf =>
    intro y w c c' hv hv'
    obtain ⟨k', n', b', l', f'⟩ := y
    by_cases hne : k ≠ k' ∨ n ≠ n' ∨ b ≠ b' ∨ l.length ≠ l'.length ∨ f.length ≠ f'.length
    · refine (same_head k k' n n' b b' l l' f f' c c' w hv hv' hne).mono ?_
      rintro e w' ⟨rfl, hg⟩
      refine ⟨ret_bool (sameB_ne (fun h => ?_)).symm, hg⟩
      injection h with h1 h2 h3 h4 h5
      subst h1 h2 h3 h4 h5
      simp at hne
    · have h1 : k = k' := Decidable.byContradiction fun h => hne (.inl h)
      have h2 : n = n' := Decidable.byContradiction fun h => hne (.inr (.inl h))
      have h3 : b = b' := Decidable.byContradiction fun h => hne (.inr (.inr (.inl h)))
      have h4 : l.length = l'.length := Decidable.byContradiction fun h => hne (.inr (.inr (.inr (.inl h))))
      have h5 : f.length = f'.length := Decidable.byContradiction fun h => hne (.inr (.inr (.inr (.inr h))))
      clear hne
      subst h1 h2 h3
      exact same_tail k n b l l' f f' c c' w hv hv' h4 h5 hl hf

theorem In.zero_ (w : World) : In w V.zero Cv.zero := by
  unfold In V.zero
  rw [IsV]
  exact ⟨rfl, rfl, rfl, rfl, rfl, by omega, by omega, by omega, by simp, by simp, by simp, by simp, by simp, by simp, ⟨rfl, fun h => absurd h (by simp)⟩, fun i h => absurd h (by simp), fun i h => absurd h (by simp)⟩
end Go.Proofs.YtcdbchifigonpaaDoor

namespace Go.Proofs.YtcdbchifigonpaaDoor
open Go.RowKit

set_option maxHeartbeats 400000 in
theorem zero_any (x : V) (w : World) (c : Cv) (hv : In w x c) :
    Calls Tryd.prog 45 #[c.agg] w fun e w' => e = .returned (.bool (sameB x V.zero)) ∧ Grow w w' := by
  have HV := hide (hv.grow ((Grow.refl w).alloc (.cells c.cells 37)))
  clear hv
  go_enter Tryd.func45, Tryd.ntmps45
  go_wp2_with fail
  refine (same_any x V.zero _ c Cv.zero HV.out (In.zero_ _)).mono ?_
  rintro e w' ⟨rfl, hg⟩
  have HG := hide (((Grow.refl w).alloc _).trans hg)
  clear hg
  go_wp2_with fail
  go_ret
  exact ⟨rfl, HG.out⟩

set_option maxHeartbeats 400000 in
theorem lawSame_any (x y : V) (w : World) (c c' : Cv) (hv : In w x c) (hv' : In w y c') :
    Calls Tryd.prog 17 #[c.agg, c'.agg] w fun e w' => e = .returned (.bool (sameB x y)) ∧ Grow w w' := by
  have HG0 := hide (((Grow.refl w).alloc (.cells c.cells 37)).alloc (.cells c'.cells 37))
  have HV := hide (hv.grow HG0.out)
  have HV' := hide (hv'.grow HG0.out)
  clear hv hv'
  go_enter Tryd.func17, Tryd.ntmps17
  go_wp2_with fail
  refine (same_any x y _ c c' HV.out HV'.out).mono ?_
  rintro e w' ⟨rfl, hg⟩
  have HG := hide (HG0.out.trans hg)
  clear hg
  go_wp2_with fail
  go_ret
  exact ⟨rfl, HG.out⟩

theorem sum_take {α : Type} (g : α → Nat) (l : List α) (j : Nat) (h : j < l.length) : ((l.take (j + 1)).map g).sum = ((l.take j).map g).sum + g l[j] := by
  rw [take_snoc l j h, List.map_append, List.sum_append]; simp
theorem sum_take_le {α : Type} (g : α → Nat) (l : List α) (j : Nat) : ((l.take j).map g).sum ≤ (l.map g).sum := by
  have : l.map g = (l.take j).map g ++ (l.drop j).map g := by rw [← List.map_append, List.take_append_drop]
  rw [this, List.sum_append]; omega
theorem V.count_pos (v : V) : 1 ≤ v.count := by obtain ⟨k, n, b, l, f⟩ := v; rw [V.count_mk]; omega

theorem ret_ib {k : IntKind} {a b : Int} {p q : Bool} (h : a = b) (h' : p = q) : Ending.returned (.tuple #[.int k a, .bool p]) = .returned (.tuple #[.int k b, .bool q]) := by rw [h, h']

/-- What walked leaves. -/
def Walked (w : World) (n : Nat) (left : Int) (e : Ending) (w' : World) : Prop :=
  ∃ r : Int, e = .returned (.tuple #[.int .i64 r, .bool (decide ((n : Int) < left))]) ∧ ((n : Int) < left → r = left - n) ∧ Grow w w'

set_option maxRecDepth 100000 in
set_option maxHeartbeats 1600000 in
theorem walked_any (v : V) : ∀ (left : Int) (w : World) (c : Cv), 1 ≤ left → left ≤ 20000 → In w v c →
    Calls Tryd.prog 28 #[c.agg, .int .i64 left] w (Walked w v.count left) := by
  induction v using V.ind with
  | h k n b l f hl hf =>
    intro left w c hl1 hl2 hv
    have HV := hide hv
    obtain ⟨aB, aL, aF, cB, cL, cF, rfl, h1, h2, h3, h4, h5, h6, h7, h8, h9, hb⟩ := hv.open
    have Hl := hide hl
    have Hf := hide hf
    rw [V.count_mk]
    obtain ⟨SL, hSL⟩ : ∃ SL, SL = (l.map V.count).sum := ⟨_, rfl⟩
    obtain ⟨SF, hSF⟩ : ∃ SF, SF = (f.map fun x => x.2.count).sum := ⟨_, rfl⟩
    rw [← hSL, ← hSF]
    have HSL := hide hSL
    have HSF := hide hSF
    clear hb h1 h2 h3 hl hf h4 h5 hv hSL hSF
    go_enter Tryd.func28, Tryd.ntmps28
    go_wp2_with fail
    go_loopg [1, 6] (l.length + 1) (fun gk t i wr => ∃ (j : Nat) (T : Int), j ≤ l.length ∧ gk + j = l.length + 1 ∧ i = .int .i64 j ∧ t = .int .i64 T ∧ 0 ≤ T ∧ T ≤ left ∧ T + 1 + ((((l.take j).map V.count).sum : Nat) : Int) = left ∧ Grow w wr ∧
      Blk wr w.heap.size 37 (Cv.cells ⟨k, (n : Int), aB, b.length, cB, aL, l.length, cL, aF, f.length, cF⟩))
    case atStart => exact ⟨0, left - 1, by omega, by omega, rfl, rfl, by omega, by omega, by simp, (Grow.refl w).alloc _, Blk.new _ _ _⟩
    case round =>
      obtain ⟨j, T, hj, hg, rfl, rfl, hT0, hT1, hT2, hw, hB⟩ := hrel
      obtain ⟨gk', rfl⟩ : ∃ g, gk = g + 1 := ⟨gk - 1, by omega⟩
      have hc3 := hB.cell
      have HW := hide hw
      have HB := hide hB
      have HT2 := hide hT2
      clear hT2
      by_cases hgo : j < l.length ∧ 0 < T
      · obtain ⟨hlt, hTp⟩ := hgo
        obtain ⟨bk, o, x, ha, hbk, e0, e1, e2, e3, e4, hx⟩ := (HV.out.grow hw).elemL j hlt
        dsimp only at ha
        subst ha
        have hs := sum_take V.count l j hlt
        have HS := hide hs
        have hle := sum_take_le V.count l (j + 1)
        rw [hs, ← HSL.out] at hle
        have HX := hide hx
        have hcp := V.count_pos l[j]
        have HC := hide (Hl.out _ (List.getElem_mem hlt) T wr x (by omega) (by omega) hx)
        clear hw hx hB hs
        go_wp2_with fail
        refine HC.out.mono ?_
        rintro e w2 ⟨r, rfl, hr, hb2⟩
        have HGR := hide hb2
        clear hb2
        have hc4 := (HB.out.grow HGR.out).cell
        by_cases hlt2 : ((l[j].count : Nat) : Int) < T
        · have hd : decide (((l[j].count : Nat) : Int) < T) = true := decide_eq_true hlt2
          have HR := hide (hr hlt2)
          clear hr
          go_wp2_with fail
          go_roundg gk'
          case measure => omega
          case rel =>
            have h1 := HR.out
            have h2 := HT2.out
            have h3 := HS.out
            exact ⟨j + 1, r, by omega, by omega, by go_num, rfl, by omega, by omega, by rw [h3]; push_cast; omega, HW.out.trans HGR.out, HB.out.grow HGR.out⟩
        · have hd : decide (((l[j].count : Nat) : Int) < T) = false := decide_eq_false hlt2
          clear hr
          go_wp2_with fail
          go_ret2
          have h2 := HT2.out
          have hfin : ¬ (((1 + SL + SF : Nat) : Int) < left) := by push_cast; omega
          exact ⟨0, ret_ib rfl (decide_eq_false hfin).symm, fun h => absurd h hfin, HW.out.trans HGR.out⟩
      · have hpost : ∃ T' : Int, T' = T ∧ ((T' + 1 + (SL : Int) = left) ∨ (T' = 0 ∧ left ≤ 1 + (SL : Int))) := by
          have h2 := HT2.out
          by_cases hlt : j < l.length
          · have h0 : T = 0 := by omega
            have hle := sum_take_le V.count l j
            rw [← HSL.out] at hle
            exact ⟨T, rfl, .inr ⟨h0, by omega⟩⟩
          · obtain rfl : j = l.length := by omega
            rw [List.take_length, ← HSL.out] at h2
            exact ⟨T, rfl, .inl h2⟩
        obtain ⟨T', rfl, hpost⟩ := hpost
        have HP := hide hpost
        clear hw hB hpost
        by_cases hjl : j < l.length
        all_goals
          have hT' : j < l.length → T' ≤ 0 := fun h => by omega
          clear hgo
          first
          | (have h := hT' hjl; clear hT')
          | clear hT'
          go_wp2_with fail
          go_loopg [1, 9] (f.length + 1) (fun gk t i wr => ∃ (j : Nat) (T : Int), j ≤ f.length ∧ gk + j = f.length + 1 ∧ i = .int .i64 j ∧ t = .int .i64 T ∧ 0 ≤ T ∧ T ≤ left ∧ ((T + 1 + (SL : Int) + ((((f.take j).map fun x => x.2.count).sum : Nat) : Int) = left) ∨ (T = 0 ∧ left ≤ 1 + (SL : Int))) ∧ Grow w wr ∧
            Blk wr w.heap.size 37 (Cv.cells ⟨k, (n : Int), aB, b.length, cB, aL, l.length, cL, aF, f.length, cF⟩))
          case atStart => exact ⟨0, T', by omega, by omega, rfl, rfl, by omega, by omega, by simpa using HP.out, HW.out, HB.out⟩
          case round =>
            obtain ⟨j, T, hj, hg, rfl, rfl, hT0, hT1, hT2, hw, hB⟩ := hrel
            obtain ⟨gk', rfl⟩ : ∃ g, gk = g + 1 := ⟨gk - 1, by omega⟩
            clear hc3
            have hc5 := hB.cell
            have HW := hide hw
            have HB := hide hB
            have HT2 := hide hT2
            clear hT2
            by_cases hgo : j < f.length ∧ 0 < T
            · obtain ⟨hlt, hTp⟩ := hgo
              have HT3 := hide (HT2.out.resolve_right (fun h => by omega))
              obtain ⟨bk, o, x, ha, hbk, es, esz, e0, e1, e2, e3, e4, hx⟩ := (HV.out.grow hw).elemF j hlt
              dsimp only at ha
              subst ha
              have hs := sum_take (fun x : ByteArray × V => x.2.count) f j hlt
              have HS := hide hs
              have hle := sum_take_le (fun x : ByteArray × V => x.2.count) f (j + 1)
              rw [hs, ← HSF.out] at hle
              have HX := hide hx
              have hcp := V.count_pos f[j].2
              have HC := hide (Hf.out _ (List.getElem_mem hlt) T wr x (by omega) (by omega) hx)
              clear hw hx hB hs es esz
              go_wp2_with fail
              refine HC.out.mono ?_
              rintro e w2 ⟨r, rfl, hr, hb2⟩
              have HGR := hide hb2
              clear hb2
              have hc4 := (HB.out.grow HGR.out).cell
              by_cases hlt2 : ((f[j].2.count : Nat) : Int) < T
              · have hd : decide (((f[j].2.count : Nat) : Int) < T) = true := decide_eq_true hlt2
                have HR := hide (hr hlt2)
                clear hr
                go_wp2_with fail
                go_roundg gk'
                case measure => omega
                case rel =>
                  have h1 := HR.out
                  have h2 := HT3.out
                  have h3 := HS.out
                  exact ⟨j + 1, r, by omega, by omega, by go_num, rfl, by omega, by omega, .inl (by rw [h3]; push_cast; omega), HW.out.trans HGR.out, HB.out.grow HGR.out⟩
              · have hd : decide (((f[j].2.count : Nat) : Int) < T) = false := decide_eq_false hlt2
                clear hr
                go_wp2_with fail
                go_ret2
                have h2 := HT3.out
                have hfin : ¬ (((1 + SL + SF : Nat) : Int) < left) := by push_cast; omega
                exact ⟨0, ret_ib rfl (decide_eq_false hfin).symm, fun h => absurd h hfin, HW.out.trans HGR.out⟩
            · have hpost : (T = left - ((1 + SL + SF : Nat) : Int)) ∨ (T = 0 ∧ ¬ (((1 + SL + SF : Nat) : Int) < left)) := by
                rcases HT2.out with h2 | h2
                · by_cases hlt : j < f.length
                  · have h0 : T = 0 := by omega
                    have hle := sum_take_le (fun x : ByteArray × V => x.2.count) f (j + 1)
                    rw [sum_take _ _ _ hlt, ← HSF.out] at hle
                    have hcp := V.count_pos f[j].2
                    exact .inr ⟨h0, by push_cast; omega⟩
                  · obtain rfl : j = f.length := by omega
                    rw [List.take_length, ← HSF.out] at h2
                    exact .inl (by push_cast; omega)
                · exact .inr ⟨h2.1, by push_cast; omega⟩
              have HP2 := hide hpost
              clear hw hB hpost
              by_cases hjf : j < f.length
              all_goals
                have hT' : j < f.length → T ≤ 0 := fun h => by omega
                clear hgo
                first
                | (have h := hT' hjf; clear hT')
                | clear hT'
                go_wp2_with fail
                go_ret2
                refine ⟨T, ret_ib rfl ?_, fun h => ?_, HW.out⟩
                · rcases HP2.out with h | h
                  · rw [h]; exact decide_eq_decide.2 ⟨fun h => by omega, fun h => by omega⟩
                  · rw [decide_eq_false (Int.not_lt.2 h.2), h.1]; rfl
                · rcases HP2.out with h' | h'
                  · exact h'
                  · exact absurd h (Int.not_lt.2 h'.2)

/-- A list of values that lies in the world: as the list of a value. -/
abbrev lcv (A : Option Addr) (n cap : Nat) : Cv := ⟨7, 0, none, 0, 0, A, n, cap, none, 0, 0⟩
def InL (w : World) (A : Option Addr) (cap : Nat) (vs : List V) : Prop := In w (.mk 7 0 [] vs []) (lcv A vs.length cap)
theorem InL.grow {w w' : World} {A : Option Addr} {cap : Nat} {vs : List V} (h : InL w A cap vs) (hg : Grow w w') : InL w' A cap vs := In.grow h hg

set_option maxRecDepth 100000 in
set_option maxHeartbeats 800000 in
theorem vast_any (vs : List V) (A : Option Addr) (cap : Nat) (w : World) (hv : InL w A cap vs) :
    Calls Tryd.prog 8 #[.slice A vs.length cap] w fun e w' => e = .returned (.bool (decide (20000 ≤ (vs.map V.count).sum))) ∧ Grow w w' := by
  have hl := InU.open hv
  obtain ⟨_, _, _, _, _, _, _, _, _, _, _, _, _, hlen, _, _, _⟩ := hl
  have HV := hide hv
  clear hv
  go_enter Tryd.func8, Tryd.ntmps8
  go_wp2_with fail
  go_loopg [3, 4] (vs.length + 1) (fun gk t i wr => ∃ (j : Nat) (T : Int), j ≤ vs.length ∧ gk + j = vs.length + 1 ∧ i = .int .i64 j ∧ t = .int .i64 T ∧ 1 ≤ T ∧ T ≤ 20000 ∧ T + ((((vs.take j).map V.count).sum : Nat) : Int) = 20000 ∧ Grow w wr)
  case atStart => exact ⟨0, 20000, by omega, by omega, rfl, rfl, by omega, by omega, by simp, Grow.refl w⟩
  case round =>
    obtain ⟨j, T, hj, hg, rfl, rfl, hT0, hT1, hT2, hw⟩ := hrel
    obtain ⟨gk', rfl⟩ : ∃ g, gk = g + 1 := ⟨gk - 1, by omega⟩
    have HW := hide hw
    have HT2 := hide hT2
    clear hT2
    by_cases hlt : j < vs.length
    · obtain ⟨bk, o, x, ha, hbk, e0, e1, e2, e3, e4, hx⟩ := In.elemL (HV.out.grow hw) j hlt
      dsimp only at ha
      subst ha
      have hs := sum_take V.count vs j hlt
      have HS := hide hs
      have hle := sum_take_le V.count vs (j + 1)
      rw [hs] at hle
      have hcp := V.count_pos vs[j]
      have HC := hide (walked_any vs[j] T wr x (by omega) (by omega) hx)
      clear hw hx hs
      go_wp2_with fail
      refine HC.out.mono ?_
      rintro e w2 ⟨r, rfl, hr, hb2⟩
      have HGR := hide hb2
      clear hb2
      by_cases hlt2 : ((vs[j].count : Nat) : Int) < T
      · have hd : decide (((vs[j].count : Nat) : Int) < T) = true := decide_eq_true hlt2
        have HR := hide (hr hlt2)
        clear hr
        go_wp2_with fail
        go_roundg gk'
        case measure => omega
        case rel =>
          have h1 := HR.out
          have h2 := HT2.out
          have h3 := HS.out
          exact ⟨j + 1, r, by omega, by omega, by go_num, rfl, by omega, by omega, by rw [h3]; push_cast; omega, HW.out.trans HGR.out⟩
      · have hd : decide (((vs[j].count : Nat) : Int) < T) = false := decide_eq_false hlt2
        clear hr
        go_wp2_with fail
        go_ret
        have h2 := HT2.out
        exact ⟨ret_bool (decide_eq_true (by omega)).symm, HW.out.trans HGR.out⟩
    · obtain rfl : j = vs.length := by omega
      have h2 := HT2.out
      rw [List.take_length] at h2
      have H2 := hide h2
      clear hw h2
      go_wp2_with fail
      go_ret
      have h2 := H2.out
      exact ⟨ret_bool (decide_eq_false (by omega)).symm, HW.out⟩
end Go.Proofs.YtcdbchifigonpaaDoor
