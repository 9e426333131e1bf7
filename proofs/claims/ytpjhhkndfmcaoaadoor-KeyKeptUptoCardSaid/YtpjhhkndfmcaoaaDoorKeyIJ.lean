/- Walks of the document's answer: all bytes turned; a number of bytes. · Walks of the document's answer: bytes with their noughts told, read. -/
import Derived.Test.YtpjhhkndfmcaoaaDoorKeyH
set_option linter.unusedVariables false
set_option linter.unusedSimpArgs false
namespace Go.Proofs.YtpjhhkndfmcaoaaDoor
open Go.RowKit Go.Shelf Go.WideShapes

set_option maxRecDepth 100000 in
set_option maxHeartbeats 3200000 in
theorem rfallen_any (b : List UInt8) (B : Option Addr) (bc : Nat) (w : World) (hb : InB w B b) (hl : b.length ≤ 70000000000000) : Calls Tryd.prog 64 #[.slice B b.length bc] w (BytK w (b.map flip1)) := by
  have HB := hide hb
  clear hb
  go_enter Tryd.func64, Tryd.ntmps64
  go_wp2_with fail
  go_loopg [3, 4] (b.length + 1) (fun gk o i wr => ∃ (k : Nat) (A' : Option Addr) (c' : Nat), k ≤ b.length ∧ gk + k = b.length + 1 ∧ i = .int .i64 k ∧ o = .slice A' k c' ∧ Row wr w.heap.size (.slice A' k c') k ((b.take k).map flip1) ∧ Grow w wr)
  case atStart => exact ⟨0, none, 0, Nat.zero_le _, rfl, rfl, rfl, World.ownsRow_nil _ _ _ _, Grow.refl w⟩
  case round =>
    obtain ⟨k, A', c', hk, hg, rfl, rfl, hr, hgr⟩ := hrel
    have HR := hide hr
    have HG := hide hgr
    have hzz := hgr.size
    clear hr hgr
    by_cases hlt : k < b.length
    · obtain ⟨gk', rfl⟩ : ∃ g, gk = g + 1 := ⟨gk - 1, by omega⟩
      obtain ⟨bk, o, rfl, hcell⟩ := HB.out.2 (by omega)
      have hcw := hcell k _ (u8s_get b k hlt)
      have hc := (HG.out.below.cell hcw.2.2).trans hcw.1
      have hbl : bk < wr.heap.size := Nat.lt_of_lt_of_le hcw.2.2 HG.out.size
      have HST := hide (show (b.take (k + 1)).map flip1 = (b.take k).map flip1 ++ [flip1 b[k]] by rw [take_snoc b k hlt, List.map_append]; rfl)
      obtain ⟨x, hxx⟩ : ∃ x, b[k] = x := ⟨_, rfl⟩
      rw [hxx] at HST hc
      have hc' : wr.cell? ⟨bk, o + k, none⟩ = some (.int .u8 (x.toNat : Int)) := hc
      have hxl := x.toNat_lt
      have HF := hide (show (((flip1 x).toNat : Nat) : Int) = 255 - (x.toNat : Int) by unfold flip1; rw [UInt8.toNat_ofNat']; omega)
      clear hxx hcell hcw hc
      go_wp2_with (at_builtin; refine app_src (ys := [flip1 x]) rfl (.tmp 11) (.tmp 17) _ rfl rfl (HR.out.alloc _) _ rfl (src_one _ HF.out (Blk.new wr _ _)) (by simp only [List.length_cons, List.length_nil]; omega) (by simp; omega) ?_; intro A4 c4 w4 hr4 hg4; have HR4 := hide hr4; have HG4 := hide (show Grow w w4 from Below.trans (HG.out.alloc _) (Grew.below hg4 (HR.out.alloc _) (by simp; omega))); clear hr4 hg4)
      go_roundg gk'
      case measure => omega
      case rel =>
        have e : k + [flip1 x].length = k + 1 := rfl
        have hr5 := HR4.out
        rw [e, ← HST.out] at hr5
        exact ⟨k + 1, A4, c4, by omega, by omega, by go_num, rfl, hr5, HG4.out⟩
    · have hkb : k = b.length := by omega
      go_wp2_with fail
      go_ret
      exact BytK.of (by rw [hkb, List.take_length]) (by simp [hkb]) HR.out HG.out

set_option maxRecDepth 100000 in
set_option maxHeartbeats 3200000 in
theorem rlow_any (b : List UInt8) (B : Option Addr) (bc : Nat) (w : World) (hb : InB w B b) (hl : b.length ≤ 8) : Calls Tryd.prog 106 #[.slice B b.length bc] w fun e w' => e = .returned (.int .u64 (ofBe b)) ∧ w' = w := by
  have HB := hide hb
  clear hb
  go_enter Tryd.func106, Tryd.ntmps106
  go_wp2_with fail
  go_loopg [3, 4] (b.length + 1) (fun gk o i wr => ∃ (k n : Nat), k ≤ b.length ∧ gk + k = b.length + 1 ∧ i = .int .i64 k ∧ o = .int .u64 n ∧ n = ofBe (b.take k) ∧ wr = w)
  case atStart => exact ⟨0, 0, Nat.zero_le _, rfl, rfl, rfl, rfl, rfl⟩
  case round =>
    obtain ⟨k, n, hk, hg, rfl, rfl, hn, rfl⟩ := hrel
    by_cases hlt : k < b.length
    · obtain ⟨gk', rfl⟩ : ∃ g, gk = g + 1 := ⟨gk - 1, by omega⟩
      obtain ⟨bk, o, rfl, hcell⟩ := HB.out.2 (by omega)
      have hcw := hcell k _ (u8s_get b k hlt)
      have hc := hcw.1
      have hbl : bk < wr.heap.size := hcw.2.2
      have hs : ofBe (b.take (k + 1)) = b[k].toNat + 256 * n := by rw [take_snoc b k hlt, ofBe_snoc, hn]
      have hnl : n < 256 ^ 7 := by
        have := ofBe_lt (b.take k)
        rw [List.length_take, ← hn] at this
        exact Nat.lt_of_lt_of_le this (Nat.pow_le_pow_right (by decide) (by omega))
      obtain ⟨x, hxx⟩ : ∃ x, b[k] = x := ⟨_, rfl⟩
      rw [hxx] at hs hc
      have hc' : wr.cell? ⟨bk, o + k, none⟩ = some (.int .u8 (x.toNat : Int)) := hc
      have hxl := x.toNat_lt
      have HO := hide (show bits .or .u64 ((n : Int) * 256) (x.toNat : Int) = ((x.toNat + 256 * n : Nat) : Int) by
        have h1 := u64_or_nat (256 * n) x.toNat (by omega) (by omega)
        have h2 : 256 * n ||| x.toNat = 256 * n + x.toNat := (Nat.two_pow_add_eq_or_of_lt (i := 8) hxl n).symm
        rw [h2, Nat.add_comm] at h1
        rw [show (n : Int) * 256 = ((256 * n : Nat) : Int) by omega]
        exact h1)
      have HS := hide hs
      clear hxx hcell hcw hc hs hn
      go_wp2_with fail
      rw [HO.out]
      go_roundg gk'
      case measure => omega
      case rel => exact ⟨k + 1, x.toNat + 256 * n, by omega, by omega, by go_num, rfl, HS.out.symm, rfl⟩
    · have hkb : k = b.length := by omega
      have HN := hide hn
      clear hn
      go_wp2_with fail
      go_ret
      rw [HN.out, hkb, List.take_length]
      exact ⟨rfl, rfl⟩
end Go.Proofs.YtpjhhkndfmcaoaaDoor

set_option linter.unusedVariables false
set_option linter.unusedSimpArgs false
namespace Go.Proofs.YtpjhhkndfmcaoaaDoor
open Go.RowKit Go.Shelf Go.WideShapes

/-- What untext tells of a place. -/
def UntC (w : World) (b : List UInt8) (g : Option (List UInt8 × List UInt8)) (e : Ending) (w' : World) : Prop :=
  (∀ t r, g = some (t, r) → ∃ A c, r.length ≤ b.length ∧ e = .returned (.tuple #[.slice A t.length c, .int .i64 ((b.length - r.length : Nat) : Int), .bool true]) ∧ Row w' w.heap.size (.slice A t.length c) t.length t ∧ Grow w w') ∧
  (g = none → ∃ A n c z, e = .returned (.tuple #[.slice A n c, .int .i64 z, .bool false]) ∧ Grow w w')
theorem UntC.no {w w' : World} {b : List UInt8} {g : Option (List UInt8 × List UInt8)} {A : Option Addr} {n c : Nat} {z : Int} (h : g = none) (hg : Grow w w') : UntC w b g (.returned (.tuple #[.slice A n c, .int .i64 z, .bool false])) w' :=
  ⟨fun t r e => by (rw [h] at e; cases e), fun _ => ⟨A, n, c, z, rfl, hg⟩⟩
theorem UntC.yes {w w' : World} {b : List UInt8} {g : Option (List UInt8 × List UInt8)} {A : Option Addr} {n c k : Nat} {xs : List UInt8} (h : g = some (xs, b.drop k)) (hk : k ≤ b.length) (hn : n = xs.length) (hr : Row w' w.heap.size (.slice A n c) n xs) (hg : Grow w w') :
    UntC w b g (.returned (.tuple #[.slice A n c, .int .i64 (k : Int), .bool true])) w' := by
  subst hn
  refine ⟨fun t r e => ?_, fun e => by (rw [h] at e; cases e)⟩
  rw [h] at e
  cases e
  refine ⟨A, c, by rw [List.length_drop]; omega, ?_, hr, hg⟩
  rw [List.length_drop, show b.length - (b.length - k) = k by omega]
theorem drop2 {b : List UInt8} {k : Nat} (h : k + 1 < b.length) : b.drop k = b[k] :: b[k + 1] :: b.drop (k + 2) := by
  rw [List.drop_eq_getElem_cons (by omega), List.drop_eq_getElem_cons h]
theorem unesc_short (st : Bool) {l : List UInt8} (h : l.length ≤ 1) : unesc st l = none := by
  match l, h with
  | [], _ => rfl
  | [_], _ => rfl
theorem map_map_app {g : Option (List UInt8 × List UInt8)} (xs ys : List UInt8) : (g.map (fun p => (ys ++ p.1, p.2))).map (fun p => (xs ++ p.1, p.2)) = g.map (fun p => (xs ++ ys ++ p.1, p.2)) := by
  cases g <;> simp

set_option maxRecDepth 100000 in
set_option maxHeartbeats 6400000 in
theorem untext_any (b : List UInt8) (a : Nat) (B : Option Addr) (bc : Nat) (w : World) (hb : InB w B b) (hl : b.length ≤ 140737488355328) (ha : a ≤ b.length) : Calls Tryd.prog 108 #[.slice B b.length bc, .int .i64 a] w (UntC w b (unesc true (b.drop a))) := by
  have HB := hide hb
  clear hb
  go_enter Tryd.func108, Tryd.ntmps108
  go_wp2_with fail
  go_loopg [1, 7] (b.length + 1 - a) (fun gk i o wr => ∃ (k : Nat) (xs : List UInt8) (A' : Option Addr) (c' : Nat), k ≤ b.length ∧ gk = b.length + 1 - k ∧ i = .int .i64 k ∧ xs.length ≤ k ∧ o = .slice A' xs.length c' ∧ Row wr w.heap.size (.slice A' xs.length c') xs.length xs ∧ Grow w wr ∧ unesc true (b.drop a) = (unesc true (b.drop k)).map (fun p => (xs ++ p.1, p.2)))
  case atStart => exact ⟨a, [], none, 0, ha, rfl, rfl, Nat.zero_le _, rfl, World.ownsRow_nil _ _ _ _, Grow.refl w, by simp⟩
  case round =>
    obtain ⟨k, xs, A', c', hk, rfl, rfl, hxk, rfl, hr, hgr, hu⟩ := hrel
    have HR := hide hr
    have HG := hide hgr
    have hzz := hgr.size
    clear hr hgr
    by_cases hlt : k + 1 < b.length
    · have hli : ((k : Int) + 1 < (b.length : Int)) = (k + 1 < b.length) := by simp; omega
      obtain ⟨bk, o, rfl, hcell⟩ := HB.out.2 (by omega)
      have hcw := hcell k _ (u8s_get b k (by omega))
      have hcw1 := hcell (k + 1) _ (u8s_get b (k + 1) hlt)
      have hc := (HG.out.below.cell hcw.2.2).trans hcw.1
      have hc1 := (HG.out.below.cell hcw1.2.2).trans hcw1.1
      have hbl : bk < wr.heap.size := Nat.lt_of_lt_of_le hcw.2.2 HG.out.size
      have hd := drop2 hlt
      obtain ⟨x, hxx⟩ : ∃ x, b[k] = x := ⟨_, rfl⟩
      obtain ⟨y, hyy⟩ : ∃ y, b[k + 1] = y := ⟨_, rfl⟩
      have hd1 : b.drop (k + 1) = y :: b.drop (k + 2) := by rw [List.drop_eq_getElem_cons hlt, hyy]
      rw [hxx] at hc hd
      rw [hyy] at hc1 hd
      have hc' : wr.cell? ⟨bk, o + k, none⟩ = some (.int .u8 (x.toNat : Int)) := hc
      have hc1' : wr.cell? ⟨bk, o + (k + 1), none⟩ = some (.int .u8 (y.toNat : Int)) := hc1
      have hxl := x.toNat_lt
      have hyl := y.toNat_lt
      rw [hd, unesc] at hu
      clear hc hc1 hcell hcw hcw1 hd
      by_cases hx : x = 0
      · subst hx
        rw [if_pos rfl] at hu
        have hc0 : wr.cell? ⟨bk, o + k, none⟩ = some (.int .u8 0) := hc'
        by_cases hy : y = 255
        · subst hy
          rw [if_pos rfl, Option.map_map] at hu
          have hc5 : wr.cell? ⟨bk, o + (k + 1), none⟩ = some (.int .u8 255) := hc1'
          have HU := hide hu
          clear hu hc' hc1' hxx hyy hd1
          go_wp2_with (at_builtin; refine app_src (ys := [0]) rfl (.tmp 44) (.tmp 45) _ rfl rfl (HR.out.alloc _) _ rfl (src_one 0 rfl (Blk.new wr _ _)) (by simp only [List.length_cons, List.length_nil]; omega) (by simp; omega) ?_; intro A4 c4 w4 hr4 hg4; have HR4 := hide hr4; have HG4 := hide (show Grow w w4 from Below.trans (HG.out.alloc _) (Grew.below hg4 (HR.out.alloc _) (by simp; omega))); clear hr4 hg4)
          go_roundg (b.length + 1 - (k + 2))
          case measure => omega
          case rel =>
            have e : xs.length + [(0 : UInt8)].length = (xs ++ [0]).length := by simp
            have hr5 := HR4.out
            rw [e] at hr5
            refine ⟨k + 2, xs ++ [0], A4, c4, by omega, rfl, by go_num, by simp; omega, by rw [← e]; rfl, hr5, HG4.out, ?_⟩
            rw [HU.out]
            congr 1
            funext p
            simp
        · have hyn : ((y.toNat : Int) == 255) = false := by
            have : y.toNat ≠ 255 := fun e => hy (UInt8.toNat_inj.1 e)
            simp; omega
          rw [if_neg hy] at hu
          have hcd : wr.drew.cell? ⟨bk, o + (k + 1), none⟩ = some (.int .u8 (y.toNat : Int)) := hc1'
          have HGD := hide HG.out.drew
          have hwr1 : IntKind.i64.wrap ((k : Int) + 1) = (k : Int) + 1 := by rw [IntKind.wrap_i64]; omega
          have hwr2 : IntKind.i64.wrap ((k : Int) + 2) = (k : Int) + 2 := by rw [IntKind.wrap_i64]; omega
          have hki : 0 ≤ (k : Int) + 1 ∧ (k : Int) + 1 < (b.length : Int) := ⟨by omega, by omega⟩
          have htn : ((k : Int) + 1).toNat = k + 1 := by omega
          have HU := hide hu
          clear hu hc' hxx hyy hd1
          go_wp2_with fail
          refine wp_region_noPanic ?_
          refine wp_region_held_drew (S := fun w' => w' = wr.drew) (by kernel_rfl) (rfl) (fun hHeld => ?_)
          refine wpAnyH_take (i := 0) (v := ?_) (by simp only [List.getElem?_toArray, List.getElem?_cons_succ, List.getElem?_cons_zero]; rfl) (by kernel_rfl) (by kernel_rfl) (by kernel_rfl) (fun _ _ _ h => h) (Or.inl ⟨by rfl, ?_⟩) (by assumption) ?_
          rotate_left 1
          · (intro w hSw; (try dsimp only at hSw); rw [hSw]; go_simp; (try simp only [hwr1, hwr2]); (try rw [if_pos hki]); (try rw [htn]); try with_reducible rfl)
          try simp only [Act.put, List.setIfInBounds_toArray, List.set_cons_zero, List.set_cons_succ]
          refine wpAnyH_take (i := 1) (v := ?_) (by simp only [List.getElem?_toArray, List.getElem?_cons_succ, List.getElem?_cons_zero]; rfl) (by kernel_rfl) (by kernel_rfl) (by kernel_rfl) (fun _ _ _ h => h) (Or.inl ⟨by rfl, ?_⟩) (by assumption) ?_
          rotate_left 1
          · (intro w hSw; (try dsimp only at hSw); rw [hSw]; go_simp; (try simp only [hwr1, hwr2]); (try rw [if_pos hki]); (try rw [htn]); try with_reducible rfl)
          try simp only [Act.put, List.setIfInBounds_toArray, List.set_cons_zero, List.set_cons_succ]
          refine wpAnyH_take (i := 2) (v := ?_) (by simp only [List.getElem?_toArray, List.getElem?_cons_succ, List.getElem?_cons_zero]; rfl) (by kernel_rfl) (by kernel_rfl) (by kernel_rfl) (fun _ _ _ h => h) (Or.inl ⟨by rfl, ?_⟩) (by assumption) ?_
          rotate_left 1
          · (intro w hSw; (try dsimp only at hSw); rw [hSw]; go_simp; (try simp only [hwr1, hwr2]); (try rw [if_pos hki]); (try rw [htn]); try with_reducible rfl)
          try simp only [Act.put, List.setIfInBounds_toArray, List.set_cons_zero, List.set_cons_succ]
          refine wpAnyH_take (i := 3) (v := ?_) (by simp only [List.getElem?_toArray, List.getElem?_cons_succ, List.getElem?_cons_zero]; rfl) (by kernel_rfl) (by kernel_rfl) (by kernel_rfl) (fun _ _ _ h => h) (Or.inl ⟨by rfl, ?_⟩) (by assumption) ?_
          rotate_left 1
          · (intro w hSw; (try dsimp only at hSw); rw [hSw]; go_simp; (try simp only [hwr1, hwr2]); (try rw [if_pos hki]); (try rw [htn]); try with_reducible rfl)
          try simp only [Act.put, List.setIfInBounds_toArray, List.set_cons_zero, List.set_cons_succ]
          refine wpAnyH_take (i := 4) (v := ?_) (by simp only [List.getElem?_toArray, List.getElem?_cons_succ, List.getElem?_cons_zero]; rfl) (by kernel_rfl) (by kernel_rfl) (by kernel_rfl) (fun _ _ _ h => h) (Or.inl ⟨by rfl, ?_⟩) (by assumption) ?_
          rotate_left 1
          · (intro w hSw; (try dsimp only at hSw); rw [hSw]; go_simp; (try simp only [hwr1, hwr2]); (try rw [if_pos hki]); (try rw [htn]); try with_reducible rfl)
          try simp only [Act.put, List.setIfInBounds_toArray, List.set_cons_zero, List.set_cons_succ]
          refine wpAnyH_take (i := 5) (v := ?_) (by simp only [List.getElem?_toArray, List.getElem?_cons_succ, List.getElem?_cons_zero]; rfl) (by kernel_rfl) (by kernel_rfl) (by kernel_rfl) (fun _ _ _ h => h) (Or.inl ⟨by rfl, ?_⟩) (by assumption) ?_
          rotate_left 1
          · (intro w hSw; (try dsimp only at hSw); rw [hSw]; go_simp; (try simp only [hwr1, hwr2]); (try rw [if_pos hki]); (try rw [htn]); try with_reducible rfl)
          try simp only [Act.put, List.setIfInBounds_toArray, List.set_cons_zero, List.set_cons_succ]
          refine wpAnyH_take (i := 6) (v := ?_) (by simp only [List.getElem?_toArray, List.getElem?_cons_succ, List.getElem?_cons_zero]; rfl) (by kernel_rfl) (by kernel_rfl) (by kernel_rfl) (fun _ _ _ h => h) (Or.inl ⟨by rfl, ?_⟩) (by assumption) ?_
          rotate_left 1
          · (intro w hSw; (try dsimp only at hSw); rw [hSw]; go_simp; (try simp only [hwr1, hwr2]); (try rw [if_pos hki]); (try rw [htn]); try with_reducible rfl)
          try simp only [Act.put, List.setIfInBounds_toArray, List.set_cons_zero, List.set_cons_succ]
          refine wpAnyH_take (i := 7) (v := ?_) (by simp only [List.getElem?_toArray, List.getElem?_cons_succ, List.getElem?_cons_zero]; rfl) (by kernel_rfl) (by kernel_rfl) (by kernel_rfl) (fun _ _ _ h => h) (Or.inl ⟨by rfl, ?_⟩) (by assumption) ?_
          rotate_left 1
          · (intro w hSw; (try dsimp only at hSw); rw [hSw]; go_simp; (try simp only [hwr1, hwr2]); (try rw [if_pos hki]); (try rw [htn]); try with_reducible rfl)
          try simp only [Act.put, List.setIfInBounds_toArray, List.set_cons_zero, List.set_cons_succ]
          refine wpAnyH_take (i := 8) (v := ?_) (by simp only [List.getElem?_toArray, List.getElem?_cons_succ, List.getElem?_cons_zero]; rfl) (by kernel_rfl) (by kernel_rfl) (by kernel_rfl) (fun _ _ _ h => h) (Or.inl ⟨by rfl, ?_⟩) (by assumption) ?_
          rotate_left 1
          · (intro w hSw; (try dsimp only at hSw); rw [hSw]; go_simp; (try simp only [hwr1, hwr2]); (try rw [if_pos hki]); (try rw [htn]); try with_reducible rfl)
          try simp only [Act.put, List.setIfInBounds_toArray, List.set_cons_zero, List.set_cons_succ]
          refine wpAnyH_take (i := 9) (v := ?_) (by simp only [List.getElem?_toArray, List.getElem?_cons_succ, List.getElem?_cons_zero]; rfl) (by kernel_rfl) (by kernel_rfl) (by kernel_rfl) (fun _ _ _ h => h) (Or.inl ⟨by rfl, ?_⟩) (by assumption) ?_
          rotate_left 1
          · (intro w hSw; (try dsimp only at hSw); rw [hSw]; go_simp; (try simp only [hwr1, hwr2]); (try rw [if_pos hki]); (try rw [htn]); try with_reducible rfl)
          try simp only [Act.put, List.setIfInBounds_toArray, List.set_cons_zero, List.set_cons_succ]
          refine wpAnyH_take (i := 10) (v := ?_) (by simp only [List.getElem?_toArray, List.getElem?_cons_succ, List.getElem?_cons_zero]; rfl) (by kernel_rfl) (by kernel_rfl) (by kernel_rfl) (fun _ _ _ h => h) (Or.inl ⟨by rfl, ?_⟩) (by assumption) ?_
          rotate_left 1
          · (intro w hSw; (try dsimp only at hSw); rw [hSw]; go_simp; (try simp only [hwr1, hwr2]); (try rw [if_pos hki]); (try rw [htn]); try with_reducible rfl)
          try simp only [Act.put, List.setIfInBounds_toArray, List.set_cons_zero, List.set_cons_succ]
          refine wpAnyH_take (i := 11) (v := ?_) (by simp only [List.getElem?_toArray, List.getElem?_cons_succ, List.getElem?_cons_zero]; rfl) (by kernel_rfl) (by kernel_rfl) (by kernel_rfl) (fun _ _ _ h => h) (Or.inl ⟨by rfl, ?_⟩) (by assumption) ?_
          rotate_left 1
          · (intro w hSw; (try dsimp only at hSw); rw [hSw]; go_simp; (try simp only [hwr1, hwr2]); (try rw [if_pos hki]); (try rw [htn]); try with_reducible rfl)
          try simp only [Act.put, List.setIfInBounds_toArray, List.set_cons_zero, List.set_cons_succ]
          refine wpAnyH_done (by kernel_rfl) ?_ _
          refine NoPanic.normal ?_
          go_wp2_with fail
          by_cases hy0 : y = 0
          · subst hy0
            go_ret3
            refine UntC.yes (k := k + 2) ?_ (by omega) rfl HR.out.drew HGD.out
            rw [HU.out]; simp
          · have hy1 : ((y.toNat : Int) == 0) = false := by
              have : y.toNat ≠ 0 := fun e => hy0 (UInt8.toNat_inj.1 e)
              simp; omega
            simp only [hy1]
            go_ret3
            refine UntC.no ?_ HGD.out
            rw [HU.out]; simp [hy0]
      · have hne : ((x.toNat : Int) == 0) = false := by
          have : x.toNat ≠ 0 := fun e => hx (UInt8.toNat_inj.1 e)
          simp; omega
        rw [if_neg hx, ← hd1, Option.map_map] at hu
        have HU := hide hu
        clear hu hxx hyy hd1
        go_wp2_with (at_builtin; refine app_src (ys := [x]) rfl (.tmp 28) (.tmp 33) _ rfl rfl (HR.out.alloc _) _ rfl (src_one x rfl (Blk.new wr _ _)) (by simp only [List.length_cons, List.length_nil]; omega) (by simp; omega) ?_; intro A4 c4 w4 hr4 hg4; have HR4 := hide hr4; have HG4 := hide (show Grow w w4 from Below.trans (HG.out.alloc _) (Grew.below hg4 (HR.out.alloc _) (by simp; omega))); clear hr4 hg4)
        go_roundg (b.length + 1 - (k + 1))
        case measure => omega
        case rel =>
          have e : xs.length + [x].length = (xs ++ [x]).length := by simp
          have hr5 := HR4.out
          rw [e] at hr5
          refine ⟨k + 1, xs ++ [x], A4, c4, by omega, rfl, by go_num, by simp; omega, by rw [← e]; rfl, hr5, HG4.out, ?_⟩
          rw [HU.out]
          congr 1
          funext p
          simp
    · have hli : ((k : Int) + 1 < (b.length : Int)) = (k + 1 < b.length) := by simp; omega
      rw [unesc_short true (l := b.drop k) (by rw [List.length_drop]; omega)] at hu
      have HU := hide hu
      clear hu
      go_wp2_with fail
      go_ret3
      exact UntC.no HU.out HG.out
end Go.Proofs.YtpjhhkndfmcaoaaDoor
