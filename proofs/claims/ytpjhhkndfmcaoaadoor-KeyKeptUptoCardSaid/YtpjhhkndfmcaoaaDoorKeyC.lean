/- Walks: what is above all that begin so; byte strings in order; bytes turned. -/
import Derived.Test.YtpjhhkndfmcaoaaDoorKeyEG
import Derived.Deep.RegionHeld3
set_option linter.unusedVariables false
set_option linter.unusedSimpArgs false
namespace Go.Proofs.YtpjhhkndfmcaoaaDoor
open Go.RowKit Go.Shelf Go.WideShapes

/-- How many of the first n bytes are left without the 255s at their end. -/
def stripN (b : List UInt8) : Nat → Nat
  | 0 => 0
  | n + 1 => if b[n]? = some 255 then stripN b n else n + 1
theorem stripN_le (b : List UInt8) : ∀ n, stripN b n ≤ n
  | 0 => Nat.le_refl _
  | n + 1 => by rw [stripN]; split <;> have := stripN_le b n <;> omega
/-- What After tells. -/
def afterN (b : List UInt8) : List UInt8 × Bool :=
  if stripN b b.length = 0 then ([], false) else ((b.take (stripN b b.length)).set (stripN b b.length - 1) (UInt8.ofNat ((b.getD (stripN b b.length - 1) 0).toNat + 1)), true)
def AftC (w : World) (p : List UInt8 × Bool) (e : Ending) (w' : World) : Prop :=
  ∃ base A c, e = .returned (.tuple #[.slice A p.1.length c, .bool p.2]) ∧ w.heap.size ≤ base ∧ Row w' base (.slice A p.1.length c) p.1.length p.1 ∧ Grow w w'
theorem afterN_no {b : List UInt8} (h : stripN b b.length = 0) : afterN b = ([], false) := by unfold afterN; rw [if_pos h]
theorem afterN_yes {b : List UInt8} {k : Nat} (h : stripN b b.length = k + 1) {y : UInt8} (hy : b[k]? = some y) : afterN b = ((b.take (k + 1)).set k (UInt8.ofNat (y.toNat + 1)), true) := by
  unfold afterN
  rw [h, if_neg (by omega), Nat.add_sub_cancel, List.getD_eq_getElem?_getD, hy]
  rfl

set_option maxRecDepth 100000 in
set_option maxHeartbeats 6400000 in
theorem kafter_any (b : List UInt8) (B : Option Addr) (bc : Nat) (w : World) (hb : InB w B b) (hl : b.length ≤ 140737488355328) (hcap : b.length ≤ bc) : Calls Tryd.prog 28 #[.slice B b.length bc] w (AftC w (afterN b)) := by
  have HB := hide hb
  clear hb
  go_enter Tryd.func28, Tryd.ntmps28
  go_wp2_with fail
  go_loopg [4] (b.length + 1) (fun gk i wr => ∃ n : Nat, n ≤ b.length ∧ gk = n + 1 ∧ i = .int .i64 n ∧ wr = w ∧ stripN b b.length = stripN b n)
  case atStart => exact ⟨b.length, Nat.le_refl _, rfl, rfl, rfl, rfl⟩
  case round =>
    obtain ⟨n, hn, rfl, rfl, rfl, hs⟩ := hrel
    cases n with
    | zero =>
      have HS := hide hs
      clear hs
      go_wp2_with fail
      go_ret2
      rw [afterN_no (by rw [HS.out]; rfl)]
      exact ⟨wr.heap.size, none, 0, rfl, Nat.le_refl _, World.ownsRow_nil _ _ _ _, Grow.refl wr⟩
    | succ k =>
      obtain ⟨bk, o, rfl, hcell⟩ := HB.out.2 (by omega)
      obtain ⟨y, hy⟩ : ∃ y, b[k]'(by omega) = y := ⟨_, rfl⟩
      have hy2 : b[k]? = some y := by rw [List.getElem?_eq_getElem (by omega), hy]
      have hc := (hcell k _ (u8s_get b k (by omega))).1
      have hbl := (hcell k _ (u8s_get b k (by omega))).2.2
      dsimp only at hbl
      rw [hy] at hc
      have hyl := y.toNat_lt
      rw [stripN, hy2] at hs
      by_cases h255 : y = 255
      · subst h255
        rw [if_pos rfl] at hs
        have hc' : wr.cell? ⟨bk, o + k, none⟩ = some (.int .u8 255) := hc
        have HS := hide hs
        clear hs hy hy2 hc hcell
        go_wp2_with fail
        go_roundg (k + 1)
        case measure => omega
        case rel => exact ⟨k, by omega, rfl, by go_num, rfl, HS.out⟩
      · rw [if_neg (by simpa using h255)] at hs
        have hne : ((y.toNat : Int) == 255) = false := by
          have : y.toNat ≠ 255 := fun e => h255 (UInt8.toNat_inj.1 e)
          simp; omega
        have hlt255 : y.toNat < 255 := by
          have : y.toNat ≠ 255 := fun e => h255 (UInt8.toNat_inj.1 e)
          omega
        have hwr : IntKind.u8.wrap ((y.toNat : Int) + 1) = ((UInt8.ofNat (y.toNat + 1)).toNat : Int) := by
          rw [IntKind.wrap_u8, UInt8.toNat_ofNat']; omega
        have HA := hide (afterN_yes hs hy2)
        have hlen : (b.take (k + 1)).length = k + 1 := by rw [List.length_take]; omega
        have hgk : (b.take (k + 1))[k]? = some y := by rw [List.getElem?_take, if_pos (by omega), hy2]
        have HGK := hide hgk
        have HLEN := hide hlen
        have HIN := hide (show Reads (AtW wr 0 wr.heap.size) 1 (some ⟨bk, o, none⟩) (k + 1) (u8s (b.take (k + 1))) by
          have h0 : Reads (AtW wr 0 wr.heap.size) 1 (some ⟨bk, o, none⟩) b.length (u8s b) := HB.out
          have h1 := Reads.take_ h0 (k + 1) (by omega)
          rwa [show (u8s b).take (k + 1) = u8s (b.take (k + 1)) from (List.map_take ..).symm] at h1)
        clear hs hy hy2 h255 hcell hlen hgk
        obtain ⟨cur, hcur, hmk⟩ := make_u8 (k + 1) (by omega)
        simp only [show ((k + 1 : Nat) : Int) = (k : Int) + 1 from rfl] at hmk
        have hkc : 0 ≤ (k : Int) + 1 ∧ (k : Int) + 1 ≤ (bc : Int) := ⟨by omega, by omega⟩
        have HROW := hide (Row.made (w := wr.drew) cur (k + 1) (by simp only [maxLen]; omega) hcur)
        have HSRC := hide (show Src Tryd.prog 1 23 (.slice (some ⟨bk, o, none⟩) (k + 1) bc) (b.take (k + 1)).length (u8s (b.take (k + 1))) (wr.drew.alloc (.cells cur 5)) by
          rw [HLEN.out]
          have hG : Grow wr (wr.drew.alloc (.cells cur 5)) := (Grow.refl wr).drew.alloc _
          have hR : Reads (AtW (wr.drew.alloc (.cells cur 5)) 0 (wr.drew.alloc (.cells cur 5)).heap.size) 1 (some ⟨bk, o, none⟩) (k + 1) (u8s (b.take (k + 1))) := HIN.out.mono (AtW.below hG.below (Nat.le_refl _) (Nat.le_refl _) hG.size)
          exact Src.ofReads under_u8s hR (u8s_one _))
        go_wp2_with fail
        refine wp_region_noPanic ?_
        refine wp_region_held_drew (S := fun _ => True) (by kernel_rfl) (trivial) (fun hHeld => ?_)
        refine wpAnyH_take (i := 0) (v := ?_) (by simp only [List.getElem?_toArray, List.getElem?_cons_succ, List.getElem?_cons_zero]; rfl) (by kernel_rfl) (by kernel_rfl) (by kernel_rfl) (fun _ _ _ h => h) (Or.inl ⟨by rfl, ?_⟩) (by assumption) ?_
        rotate_left 1
        · (intro w hSw; (try dsimp only at hSw); go_simp; try with_reducible rfl)
        try simp only [Act.put, List.setIfInBounds_toArray, List.set_cons_zero, List.set_cons_succ]
        refine wpAnyH_take (i := 2) (v := ?_) (by simp only [List.getElem?_toArray, List.getElem?_cons_succ, List.getElem?_cons_zero]; rfl) (by kernel_rfl) (by kernel_rfl) (by kernel_rfl) (fun _ _ _ h => h) (Or.inl ⟨by rfl, ?_⟩) (by assumption) ?_
        rotate_left 1
        · (intro w hSw; (try dsimp only at hSw); go_simp; try with_reducible rfl)
        try simp only [Act.put, List.setIfInBounds_toArray, List.set_cons_zero, List.set_cons_succ]
        refine wpAnyH_take (i := 3) (v := ?_) (by simp only [List.getElem?_toArray, List.getElem?_cons_succ, List.getElem?_cons_zero]; rfl) (by kernel_rfl) (by kernel_rfl) (by kernel_rfl) (fun _ _ _ h => h) (Or.inl ⟨by rfl, ?_⟩) (by assumption) ?_
        rotate_left 1
        · (intro w hSw; (try dsimp only at hSw); go_simp; try with_reducible rfl)
        try simp only [Act.put, List.setIfInBounds_toArray, List.set_cons_zero, List.set_cons_succ]
        refine wpAnyH_take (i := 4) (v := ?_) (by simp only [List.getElem?_toArray, List.getElem?_cons_succ, List.getElem?_cons_zero]; rfl) (by kernel_rfl) (by kernel_rfl) (by kernel_rfl) (fun _ _ _ h => h) (Or.inl ⟨by rfl, ?_⟩) (by assumption) ?_
        rotate_left 1
        · (intro w hSw; (try dsimp only at hSw); go_simp; (try rw [if_pos hkc]); try with_reducible rfl)
        try simp only [Act.put, List.setIfInBounds_toArray, List.set_cons_zero, List.set_cons_succ]
        refine wpAnyH_ready (rs := [1]) (by kernel_rfl) (by simp) ?_
        refine AllReadyH.cons (by simp only [List.getElem?_toArray, List.getElem?_cons_succ, List.getElem?_cons_zero]; rfl) (fun K hK => ?_) AllReadyH.nil
        go_simp
        
        refine hK.out _ _ (trivial) (fun hHeld => ?_)
        clear hK K
        try simp only [Act.put, List.setIfInBounds_toArray, List.set_cons_zero, List.set_cons_succ]
        refine wpAnyH_ready (rs := [5]) (by kernel_rfl) (by simp) ?_
        refine AllReadyH.cons (by simp only [List.getElem?_toArray, List.getElem?_cons_succ, List.getElem?_cons_zero]; rfl) (fun K hK => ?_) AllReadyH.nil
        refine step_app_src (ys := b.take (k + 1)) rfl (.tmp 23) (.tmp 26) _ rfl rfl HROW.out _ rfl HSRC.out (by rw [HLEN.out]; omega) (by simp) ?_
        intro A3 c3 w3 hr3 hg3
        rw [Nat.zero_add, List.nil_append, HLEN.out] at hr3
        have HR3 := hide hr3
        have HG3 := hide (show Grow wr w3 from Below.trans ((Grow.refl wr).drew.alloc _) (Grew.below hg3 HROW.out (by simp)))
        rw [HLEN.out, Nat.zero_add]
        clear hr3 hg3
        refine hK.out _ _ trivial (fun hHeld => ?_)
        clear hK K
        try simp only [Act.put, List.setIfInBounds_toArray, List.set_cons_zero, List.set_cons_succ]
        refine wpAnyH_take (i := 6) (v := ?_) (by simp only [List.getElem?_toArray, List.getElem?_cons_succ, List.getElem?_cons_zero]; rfl) (by kernel_rfl) (by kernel_rfl) (by kernel_rfl) (fun _ _ _ h => h) (Or.inl ⟨by rfl, ?_⟩) (by assumption) ?_
        rotate_left 1
        · (intro w hSw; (try dsimp only at hSw); go_simp; try with_reducible rfl)
        try simp only [Act.put, List.setIfInBounds_toArray, List.set_cons_zero, List.set_cons_succ]
        refine wpAnyH_done (by kernel_rfl) ?_ _
        refine NoPanic.normal ?_
        obtain ⟨gb, gcap, hgv, hgb, hglt⟩ := World.ownsRow.form HR3.out (by omega)
        have hA : A3 = some ⟨gb, 0, none⟩ := by injection hgv
        subst hA
        have hck := World.ownsRow.cells HR3.out (g := gb) rfl k (.int .u8 (y.toNat : Int)) (by rw [u8s, List.getElem?_map, HGK.out]; rfl)
        rw [add_lit, Nat.zero_add] at hck
        have hfz := World.ownsRow.frozenAt HR3.out k
        go_wp2_with fail
        go_ret2
        rw [HA.out]
        have hls : ((b.take (k + 1)).set k (UInt8.ofNat (y.toNat + 1))).length = k + 1 := by rw [List.length_set, HLEN.out]
        have hu : Value.int .u8 (((y.toNat : Int) + 1) % 256) = .int .u8 ((UInt8.ofNat (y.toNat + 1)).toNat : Int) := by
          rw [← hwr, IntKind.wrap_u8]
        have hfin := HR3.out.setAt k (by omega) (UInt8.ofNat (y.toNat + 1)) _ hu
        have hgf := HG3.out.setCell (p := ⟨gb, k, none⟩) hgb (Value.int .u8 (((y.toNat : Int) + 1) % 256))
        generalize hz : (b.take (k + 1)).set k (UInt8.ofNat (y.toNat + 1)) = z at hls hfin ⊢
        rw [← hls] at hfin
        exact ⟨_, some ⟨gb, 0, none⟩, c3, congrArg (fun n => Ending.returned (.tuple #[.slice (some ⟨gb, 0, none⟩) n c3, .bool true])) hls.symm, Nat.le_refl _, hfin, hgf⟩

set_option maxRecDepth 100000 in
set_option maxHeartbeats 6400000 in
theorem rafter_any (b : List UInt8) (B : Option Addr) (bc : Nat) (w : World) (hb : InB w B b) (hl : b.length ≤ 140737488355328) (hcap : b.length ≤ bc) : Calls Tryd.prog 29 #[.slice B b.length bc] w (AftC w (afterN b)) := by
  have HB := hide hb
  clear hb
  go_enter Tryd.func29, Tryd.ntmps29
  go_wp2_with fail
  go_loopg [4] (b.length + 1) (fun gk i wr => ∃ n : Nat, n ≤ b.length ∧ gk = n + 1 ∧ i = .int .i64 n ∧ wr = w ∧ stripN b b.length = stripN b n)
  case atStart => exact ⟨b.length, Nat.le_refl _, rfl, rfl, rfl, rfl⟩
  case round =>
    obtain ⟨n, hn, rfl, rfl, rfl, hs⟩ := hrel
    cases n with
    | zero =>
      have HS := hide hs
      clear hs
      go_wp2_with fail
      go_ret2
      rw [afterN_no (by rw [HS.out]; rfl)]
      exact ⟨wr.heap.size, none, 0, rfl, Nat.le_refl _, World.ownsRow_nil _ _ _ _, Grow.refl wr⟩
    | succ k =>
      obtain ⟨bk, o, rfl, hcell⟩ := HB.out.2 (by omega)
      obtain ⟨y, hy⟩ : ∃ y, b[k]'(by omega) = y := ⟨_, rfl⟩
      have hy2 : b[k]? = some y := by rw [List.getElem?_eq_getElem (by omega), hy]
      have hc := (hcell k _ (u8s_get b k (by omega))).1
      have hbl := (hcell k _ (u8s_get b k (by omega))).2.2
      dsimp only at hbl
      rw [hy] at hc
      have hyl := y.toNat_lt
      rw [stripN, hy2] at hs
      by_cases h255 : y = 255
      · subst h255
        rw [if_pos rfl] at hs
        have hc' : wr.cell? ⟨bk, o + k, none⟩ = some (.int .u8 255) := hc
        have HS := hide hs
        clear hs hy hy2 hc hcell
        go_wp2_with fail
        go_roundg (k + 1)
        case measure => omega
        case rel => exact ⟨k, by omega, rfl, by go_num, rfl, HS.out⟩
      · rw [if_neg (by simpa using h255)] at hs
        have hne : ((y.toNat : Int) == 255) = false := by
          have : y.toNat ≠ 255 := fun e => h255 (UInt8.toNat_inj.1 e)
          simp; omega
        have hlt255 : y.toNat < 255 := by
          have : y.toNat ≠ 255 := fun e => h255 (UInt8.toNat_inj.1 e)
          omega
        have hwr : IntKind.u8.wrap ((y.toNat : Int) + 1) = ((UInt8.ofNat (y.toNat + 1)).toNat : Int) := by
          rw [IntKind.wrap_u8, UInt8.toNat_ofNat']; omega
        have HA := hide (afterN_yes hs hy2)
        have hlen : (b.take (k + 1)).length = k + 1 := by rw [List.length_take]; omega
        have hgk : (b.take (k + 1))[k]? = some y := by rw [List.getElem?_take, if_pos (by omega), hy2]
        have HGK := hide hgk
        have HLEN := hide hlen
        have HIN := hide (show Reads (AtW wr 0 wr.heap.size) 1 (some ⟨bk, o, none⟩) (k + 1) (u8s (b.take (k + 1))) by
          have h0 : Reads (AtW wr 0 wr.heap.size) 1 (some ⟨bk, o, none⟩) b.length (u8s b) := HB.out
          have h1 := Reads.take_ h0 (k + 1) (by omega)
          rwa [show (u8s b).take (k + 1) = u8s (b.take (k + 1)) from (List.map_take ..).symm] at h1)
        clear hs hy hy2 h255 hcell hlen hgk
        have HSRC := hide (show Src Tryd.prog 1 23 (.slice (some ⟨bk, o, none⟩) (k + 1) bc) (b.take (k + 1)).length (u8s (b.take (k + 1))) wr by
          rw [HLEN.out]
          exact Src.ofReads under_u8s HIN.out (u8s_one _))
        go_wp2_with (at_builtin; refine app_src (base := wr.heap.size) (xs := []) (ys := b.take (k + 1)) rfl (.tmp 22) (.tmp 25) _ rfl rfl (World.ownsRow_nil _ _ _ _) _ rfl HSRC.out (by rw [HLEN.out]; omega) (Nat.le_refl _) ?_; intro A3 c3 w3 hr3 hg3; rw [Nat.zero_add, List.nil_append, HLEN.out] at hr3; have HR3 := hide hr3; have HG3 := hide (show Grow wr w3 from Grew.below hg3 (show Row wr wr.heap.size (.slice none 0 0) 0 [] from World.ownsRow_nil _ _ _ _) (Nat.le_refl _)); rw [HLEN.out, Nat.zero_add]; clear hr3 hg3; obtain ⟨gb, gcap, hgv, hgb, hglt⟩ := World.ownsRow.form HR3.out (by omega); have hA : A3 = some ⟨gb, 0, none⟩ := (by injection hgv); subst hA; have hck := World.ownsRow.cells HR3.out (g := gb) rfl k (.int .u8 (y.toNat : Int)) (by rw [u8s, List.getElem?_map, HGK.out]; rfl); rw [add_lit, Nat.zero_add] at hck; have hfz := World.ownsRow.frozenAt HR3.out k)
        go_ret2
        rw [HA.out]
        have hls : ((b.take (k + 1)).set k (UInt8.ofNat (y.toNat + 1))).length = k + 1 := by rw [List.length_set, HLEN.out]
        have hu : Value.int .u8 (((y.toNat : Int) + 1) % 256) = .int .u8 ((UInt8.ofNat (y.toNat + 1)).toNat : Int) := by
          rw [← hwr, IntKind.wrap_u8]
        have hfin := HR3.out.setAt k (by omega) (UInt8.ofNat (y.toNat + 1)) _ hu
        have hgf := HG3.out.setCell (p := ⟨gb, k, none⟩) hgb (Value.int .u8 (((y.toNat : Int) + 1) % 256))
        generalize hz : (b.take (k + 1)).set k (UInt8.ofNat (y.toNat + 1)) = z at hls hfin ⊢
        rw [← hls] at hfin
        exact ⟨_, some ⟨gb, 0, none⟩, c3, congrArg (fun n => Ending.returned (.tuple #[.slice (some ⟨gb, 0, none⟩) n c3, .bool true])) hls.symm, Nat.le_refl _, hfin, hgf⟩
end Go.Proofs.YtpjhhkndfmcaoaaDoor
