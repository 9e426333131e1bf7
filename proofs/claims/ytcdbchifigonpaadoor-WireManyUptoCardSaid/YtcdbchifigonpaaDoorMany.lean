/- The law WireMany holds: frames one behind the other are split one by one; what is read of any bytes is written as the bytes that were read. -/
import Derived.Test.YtcdbchifigonpaaDoorManyP
import Derived.Test.YtcdbchifigonpaaDoorPutQ
set_option linter.unusedVariables false
set_option linter.unusedSimpArgs false
namespace Go.Proofs.YtcdbchifigonpaaDoor
open Go.RowKit Go.Shelf

set_option maxRecDepth 100000 in
set_option maxHeartbeats 1600000 in
theorem wmany_any (l : List Rp) (A : Option Addr) (cap : Nat) (b : List UInt8) (B : Option Addr) (bc : Nat) (w : World) (hT : Tabs w) (hin : InRs w A l) (hll : l.length ≤ 1048576) (hlc : l.length ≤ cap) (hb : InB w B b) (hl : b.length ≤ 140737488351232) (hcap : b.length ≤ bc) :
    Calls Tryd.prog 3 #[.slice A l.length cap, .slice B b.length bc] w fun e w' => e = .returned (.bool true) ∧ Grow w w' := by
  have HT := hide hT
  have HIN := hide hin
  have HB := hide hb
  clear hT hin hb
  go_enter Tryd.func3, Tryd.ntmps3
  go_wp2_with fail
  refine (wawake_any _ HT.out).mono ?_
  rintro e w1 ⟨rfl, hg1⟩
  have HG1 := hide hg1
  clear hg1
  go_wp2_with fail
  go_loopg [5] (l.length + 1) (fun gk i wr => ∃ j : Nat, j ≤ l.length ∧ gk + j = l.length + 1 ∧ i = .int .i64 j ∧ (∀ k (hk : k < l.length), k < j → (l[k].docs.map V.count).sum < 20000) ∧ Grow w wr)
  case atStart => exact ⟨0, by omega, by omega, rfl, fun k _ h => absurd h (by omega), HG1.out⟩
  case round =>
    obtain ⟨j, hj, hgk, rfl, hlow, hwr⟩ := hrel
    have HLOW := hide hlow
    have HWR := hide hwr
    clear hlow hwr
    obtain ⟨gk', rfl⟩ : ∃ g, gk = g + 1 := ⟨gk - 1, by omega⟩
    by_cases hlt : j < l.length
    · obtain ⟨bk, o, dA, dc, ha, -, -, h2, -, hd, -⟩ := (HIN.out.grow HWR.out) j hlt
      subst ha
      have hc := h2.1
      have HD := hide hd
      have HL := hide (show (l[j].docs.map V.count).sum = (l[j].docs.map V.count).sum from rfl)
      obtain ⟨ds, hds⟩ : ∃ ds, l[j].docs = ds := ⟨_, rfl⟩
      rw [hds] at hc HD
      have HDS := hide hds
      clear h2 hd hds HL
      go_wp2_with fail
      refine (vast_any ds dA dc wr HD.out).mono ?_
      rintro e w2 ⟨rfl, hg2⟩
      have HG2 := hide (HWR.out.trans hg2)
      clear hg2 hc
      by_cases hbig : 20000 ≤ (ds.map V.count).sum
      · rw [decide_eq_true hbig]
        go_wp2_with fail
        go_ret
        exact ⟨rfl, HG2.out⟩
      · rw [decide_eq_false hbig]
        have HBG := hide hbig
        clear hbig
        go_wp2_with fail
        go_roundg gk'
        case measure => omega
        case rel =>
          refine ⟨j + 1, by omega, by omega, by go_num, fun k hk hkj => ?_, HG2.out⟩
          by_cases e : k = j
          · subst e
            have := HBG.out
            rw [HDS.out]
            omega
          · exact HLOW.out k hk (by omega)
    · obtain rfl : j = l.length := by omega
      have HCN := hide (show ∀ k (hk : k < l.length), ∀ v ∈ l[k].docs, v.count ≤ 20000 from fun k hk v hv => by
        have h1 := HLOW.out k hk hk
        have h2 : v.count ≤ (l[k].docs.map V.count).sum := sum_mem_ V.count l[k].docs v hv
        omega)
      clear HLOW
      rename World => w3
      have HW3 := hide HWR.out
      clear HWR
      go_wp2_with fail
      clear hgk hlt
      go_loopg [6, 7, 8] (l.length + 1) (fun gk s k i wr => ∃ (j n m c2 : Nat) (A2 : Option Addr), j ≤ l.length ∧ gk + j = l.length + 1 ∧ i = .int .i64 j ∧ k = .int .i64 m ∧ s = .slice A2 n c2 ∧ m = (bodies (l.take j)).length ∧ n ≤ 12591300608 ∧ m ≤ j ∧ Row wr w3.heap.size (.slice A2 n c2) n (framesB (l.take j)) ∧ Grow w3 wr)
      case atStart => exact ⟨0, 0, 0, 0, none, by omega, by omega, rfl, rfl, rfl, rfl, by omega, by omega, Row.nil _ _, Grow.refl _⟩
      case round =>
        obtain ⟨j, n, m, c2, A2, hj, hgk, rfl, rfl, rfl, hm, hn, hmj, hrow, hwr⟩ := hrel
        have HWR := hide hwr
        have HROW := hide hrow
        have HM := hide hm
        clear hwr hrow hm
        obtain ⟨gk', rfl⟩ : ∃ g, gk = g + 1 := ⟨gk - 1, by omega⟩
        by_cases hlt : j < l.length
        · obtain ⟨bk, o, dA, dc, ha, g0, g1, g2, g3, hd, hr0, hr1, hr2⟩ := (HIN.out.grow (HW3.out.trans HWR.out)) j hlt
          subst ha
          have hc0 := g0.1
          have hc1 := g1.1
          have hc2 := g2.1
          have hc3 := g3.1
          have HP := hide (putRp_any l[j] dA dc wr (HT.out.grow (HW3.out.trans HWR.out)) hd (HCN.out j hlt) hr0 hr1 hr2)
          obtain ⟨E, hE⟩ : ∃ E, l[j].e = E := ⟨_, rfl⟩
          obtain ⟨M, hM⟩ : ∃ M, l[j].n = M := ⟨_, rfl⟩
          obtain ⟨K, hK⟩ : ∃ K, l[j].cursor = K := ⟨_, rfl⟩
          obtain ⟨L, hL⟩ : ∃ L, l[j].docs.length = L := ⟨_, rfl⟩
          rw [hE] at hc0 HP; rw [hM] at hc1 HP; rw [hL] at hc2 HP; rw [hK] at hc3 HP
          clear g0 g1 g2 g3 hd hr0 hr1 hr2 hE hM hK hL
          go_wp2_with fail
          refine HP.out.mono ?_
          rintro e w4 ⟨base, PA, pc, rfl, hb0, hb1, hrow4, hg4⟩
          obtain ⟨pb, pe, hput⟩ : ∃ pb pe, l[j].put = (pb, pe) := ⟨_, _, rfl⟩
          rw [hput] at hrow4 ⊢
          dsimp only at hrow4 ⊢
          have HROW4 := hide hrow4
          have HG4 := hide (HWR.out.trans hg4)
          have HR4 := hide (HROW.out.grow hg4)
          have HPUT := hide hput
          have hz4 := HG4.out.size
          clear hrow4 hg4 hput hc0 hc1 hc2 hc3 hb0 hb1
          by_cases hpe : pe = 0
          · subst hpe
            have HF := hide (bodies_yes hlt HPUT.out)
            have hpl : pb.length ≤ 12008 := by obtain ⟨_, h2, h3⟩ := putOf_ok HPUT.out; rw [h3, frameOf_length]; omega
            have hnj : n + pb.length ≤ 12591300608 := by
              have h1 := HROW.out.reads.2
              have h2 := frames_len_take l (j + 1)
              rw [HF.out.1, List.length_append, h1] at h2
              omega
            go_wp2_with (at_builtin; refine app_src (ys := pb) rfl (.tmp 49) (.tmp 50) _ rfl rfl HR4.out _ rfl (Src.ofReads (c := pc) under_u8s HROW4.out.reads.1 (u8s_one pb)) (by omega) hz4 ?_; intro A5 c5 w5 hr5 hg5; have HR5 := hide hr5; have HG5 := hide (Below.trans HG4.out (Grew.below hg5 HR4.out hz4)); clear hr5 hg5)
            go_roundg gk'
            case measure => omega
            case rel =>
              refine ⟨j + 1, n + pb.length, m + 1, c5, A5, by omega, by omega, by go_num, by go_num, rfl, ?_, hnj, by omega, ?_, HG5.out⟩
              · rw [HF.out.2, HM.out]
              · rw [HF.out.1]; exact HR5.out
          · have HF := hide (bodies_no hlt HPUT.out hpe)
            have hpe2 : (pe != 0) = true := by simpa using hpe
            go_wp2_with fail
            go_roundg gk'
            case measure => omega
            case rel =>
              refine ⟨j + 1, n, m, c2, A2, by omega, by omega, by go_num, rfl, rfl, ?_, hn, by omega, ?_, HG4.out⟩
              · rw [HF.out.2, HM.out]
              · rw [HF.out.1]; exact HR4.out
        · obtain rfl : j = l.length := by omega
          have hsp := frames_split l
          have hrd := HROW.out.reads
          rw [List.take_length] at hrd
          have hC := split_any (framesB l) A2 c2 wr hrd.1 (by rw [hrd.2]; omega) (by rw [hrd.2]; exact HROW.out.cap)
          unfold SplitC at hC
          have hm2 := HM.out
          rw [List.take_length] at hm2
          rw [hsp, ← hm2, hrd.2] at hC
          have HC := hide hC
          have HW4 := hide (HW3.out.trans HWR.out)
          clear hC hsp hrd hm2 HROW HM hmj hn
          go_wp2_with fail
          refine HC.out.mono ?_
          rintro e w5 ⟨rfl, hg5⟩
          have HG5 := hide (HW4.out.trans hg5)
          clear hg5
          go_wp2_with fail
          refine (getQ_any b B bc w5 (HT.out.grow HG5.out) (HB.out.grow HG5.out) (by omega) hcap).mono ?_
          rintro e w6 ⟨u2, rfl, hret, hg6⟩
          have HG6 := hide (HG5.out.trans hg6)
          obtain ⟨q, m, f, hgot⟩ : ∃ q m f, getReq b = (q, m, f) := ⟨_, _, _, rfl⟩
          rw [hgot] at hret ⊢
          dsimp only at hret ⊢
          have hz6 := hg6.size
          clear hg6
          have HPQ := hide (show f = 0 → (b.take m).length = m ∧ m ≤ b.length ∧ ∀ w', Grow w6 w' → Calls Tryd.prog 12 #[u2] w' (PutW w' (b.take m, 0)) from fun hf => by
            subst hf
            have hok := getReq_ok hgot
            have hback := getReq_back hgot
            refine ⟨by rw [List.length_take]; omega, hback.2, fun w' hg => ?_⟩
            obtain ⟨ck, cl, ch, cx, rfl, j1, j2, j3, j4⟩ := hret
            have i1 := j1.in_
            have i2 := j2.in_
            have i3 := j3.in_
            have i4 := j4.in_
            obtain ⟨s1, s2, s3, s4, s5⟩ := hok.sizes
            rw [← hback.1]
            exact putRq_any q ck cl ch cx w' (HT.out.grow (HG6.out.trans hg)) (i1.grow hg) (i2.grow hg) (i3.grow hg) (i4.grow hg) hok.small s1 s2 s3 s4 s5)
          obtain ⟨cs2, hu, hcn, hco⟩ := hret.cells
          subst hu
          have HCN2 := hide hcn
          have HCO2 := hide hco
          have HNEW := hide (Blk.new w6 39 zeroQ)
          clear hret hgot hcn hco
          by_cases hf : f = 0
          rotate_left 1
          · have hf1 : (f != 0) = true := by simpa using hf
            go_wp2_with (first
              | ((with_reducible refine at_alloc 39 ?_); refine alloc_to (cells := zeroQ) (fun w => by kernel_rfl) ?_)
              | ((with_reducible refine at_store 39 ?_); refine store_blk (g := w6.heap.size) (n := 26) (cells := cs2) rfl rfl HNEW.out info_rQ rfl HCN2.out HCO2.out ?_; intro w7 hb7 hgs7 hz7; have HGA7 := hide (show Grow w6 w7 from ((Grow.refl w6).alloc (.cells zeroQ 39)).grown hgs7 (fun k e => by injection e with e; omega)); clear hb7 hgs7))
            go_ret
            exact ⟨rfl, HG6.out.trans HGA7.out⟩
          subst hf
          obtain ⟨hml, hmb, hpq⟩ := HPQ.out rfl
          have HPQ2 := hide hpq
          clear HPQ hpq
          go_wp2_with (first
            | ((with_reducible refine at_alloc 39 ?_); refine alloc_to (cells := zeroQ) (fun w => by kernel_rfl) ?_)
            | ((with_reducible refine at_store 39 ?_); refine store_blk (g := w6.heap.size) (n := 26) (cells := cs2) rfl rfl HNEW.out info_rQ rfl HCN2.out HCO2.out ?_; intro w7 hb7 hgs7 hz7; have HB7 := hide hb7; have HGA7 := hide (show Grow w6 w7 from ((Grow.refl w6).alloc (.cells zeroQ 39)).grown hgs7 (fun k e => by injection e with e; omega)); clear hb7 hgs7)
            | ((with_reducible refine at_load 39 ?_); refine load_blk (g := w6.heap.size) (n := 26) (cells := cs2) Tryd.underlying39 rfl rfl HB7.out info_rQ HCN2.out ?_))
          refine (HPQ2.out w7 HGA7.out).mono ?_
          rintro e w8 ⟨base, PA, pc, rfl, hb0, hb1, hrow8, hg8⟩
          dsimp only at hrow8 ⊢
          rw [hml] at hrow8 ⊢
          have HROW8 := hide hrow8
          have HG8 := hide ((HG6.out.trans HGA7.out).trans hg8)
          obtain ⟨s, hs⟩ : ∃ s : ByteArray, (⟨(b.take m).toArray⟩ : ByteArray) = s := ⟨_, rfl⟩
          have HSTR := hide hs
          have HCV := hide (show ∀ w', Grow w8 w' → (convert 23 9 (.slice B m bc)).run Tryd.prog w' = .ok (.string ⟨(b.take m).toArray⟩) w' from fun w' hg => by
            have h := conv_str bc ((HB.out.grow (HG8.out.trans hg)).take m)
            rwa [hml] at h)
          have HCV2 := hide (show ∀ w', Grow w8 w' → (convert 23 9 (.slice PA m pc)).run Tryd.prog w' = .ok (.string ⟨(b.take m).toArray⟩) w' from fun w' hg => by
            have h := conv_str pc ((HROW8.out.grow hg).reads.1)
            rwa [hml] at h)
          have hss : (s.toList == s.toList) = true := by simp
          have hmbc : m ≤ bc := by omega
          have hmm : ((m : Int) == (m : Int)) = true := by simp
          clear hrow8 hg8 hb0 hb1 hs hml
          go_upto_region 24 with fail
          refine wp_region_noPanic ?_
          refine wp_region_held_drew (S := fun w' => Grow w8 w') (by kernel_rfl) ((Grow.refl _).drew) (fun hHeld => ?_)
          refine wpAnyH_take (i := 0) (v := ?_) (by simp only [List.getElem?_toArray, List.getElem?_cons_succ, List.getElem?_cons_zero]; rfl) (by kernel_rfl) (by kernel_rfl) (by kernel_rfl) (fun _ _ _ h => h) (Or.inl ⟨by rfl, ?_⟩) (by assumption) ?_
          rotate_left 1
          · (intro w hSw; (try dsimp only at hSw); go_simp; try with_reducible rfl)
          try simp only [Act.put, List.setIfInBounds_toArray, List.set_cons_zero, List.set_cons_succ]
          refine wpAnyH_take (i := 1) (v := ?_) (by simp only [List.getElem?_toArray, List.getElem?_cons_succ, List.getElem?_cons_zero]; rfl) (by kernel_rfl) (by kernel_rfl) (by kernel_rfl) (fun _ _ _ h => h) (Or.inl ⟨by rfl, ?_⟩) (by assumption) ?_
          rotate_left 1
          · (intro w hSw; (try dsimp only at hSw); go_simp; try with_reducible rfl)
          try simp only [Act.put, List.setIfInBounds_toArray, List.set_cons_zero, List.set_cons_succ]
          refine wpAnyH_take (i := 2) (v := ?_) (by simp only [List.getElem?_toArray, List.getElem?_cons_succ, List.getElem?_cons_zero]; rfl) (by kernel_rfl) (by kernel_rfl) (by kernel_rfl) (fun _ _ _ h => h) (Or.inl ⟨by rfl, ?_⟩) (by assumption) ?_
          rotate_left 1
          · (intro w hSw; (try dsimp only at hSw); go_simp; try with_reducible rfl)
          try simp only [Act.put, List.setIfInBounds_toArray, List.set_cons_zero, List.set_cons_succ]
          refine wpAnyH_take (i := 3) (v := ?_) (by simp only [List.getElem?_toArray, List.getElem?_cons_succ, List.getElem?_cons_zero]; rfl) (by kernel_rfl) (by kernel_rfl) (by kernel_rfl) (fun _ _ _ h => h) (Or.inl ⟨by rfl, ?_⟩) (by assumption) ?_
          rotate_left 1
          · (intro w hSw; (try dsimp only at hSw); go_simp; try with_reducible rfl)
          try simp only [Act.put, List.setIfInBounds_toArray, List.set_cons_zero, List.set_cons_succ]
          refine wpAnyH_take (i := 4) (v := ?_) (by simp only [List.getElem?_toArray, List.getElem?_cons_succ, List.getElem?_cons_zero]; rfl) (by kernel_rfl) (by kernel_rfl) (by kernel_rfl) (fun _ _ _ h => h) (Or.inl ⟨by rfl, ?_⟩) (by assumption) ?_
          rotate_left 1
          · (intro w hSw; (try dsimp only at hSw); go_simp; try with_reducible rfl)
          try simp only [Act.put, List.setIfInBounds_toArray, List.set_cons_zero, List.set_cons_succ]
          refine wpAnyH_take (i := 5) (v := ?_) (by simp only [List.getElem?_toArray, List.getElem?_cons_succ, List.getElem?_cons_zero]; rfl) (by kernel_rfl) (by kernel_rfl) (by kernel_rfl) (fun _ _ _ h => h) (Or.inl ⟨by rfl, ?_⟩) (by assumption) ?_
          rotate_left 1
          · (intro w hSw; (try dsimp only at hSw); go_simp; try with_reducible rfl)
          try simp only [Act.put, List.setIfInBounds_toArray, List.set_cons_zero, List.set_cons_succ]
          refine wpAnyH_take (i := 6) (v := ?_) (by simp only [List.getElem?_toArray, List.getElem?_cons_succ, List.getElem?_cons_zero]; rfl) (by kernel_rfl) (by kernel_rfl) (by kernel_rfl) (fun _ _ _ h => h) (Or.inl ⟨by rfl, ?_⟩) (by assumption) ?_
          rotate_left 1
          · (intro w hSw; (try dsimp only at hSw); go_simp; try with_reducible rfl)
          try simp only [Act.put, List.setIfInBounds_toArray, List.set_cons_zero, List.set_cons_succ]
          refine wpAnyH_take (i := 7) (v := ?_) (by simp only [List.getElem?_toArray, List.getElem?_cons_succ, List.getElem?_cons_zero]; rfl) (by kernel_rfl) (by kernel_rfl) (by kernel_rfl) (fun _ _ _ h => h) (Or.inl ⟨by rfl, ?_⟩) (by assumption) ?_
          rotate_left 1
          · (intro w hSw; (try dsimp only at hSw); go_simp; try with_reducible rfl)
          try simp only [Act.put, List.setIfInBounds_toArray, List.set_cons_zero, List.set_cons_succ]
          refine wpAnyH_take (i := 8) (v := ?_) (by simp only [List.getElem?_toArray, List.getElem?_cons_succ, List.getElem?_cons_zero]; rfl) (by kernel_rfl) (by kernel_rfl) (by kernel_rfl) (fun _ _ _ h => h) (Or.inl ⟨by rfl, ?_⟩) (by assumption) ?_
          rotate_left 1
          · (intro w hSw; (try dsimp only at hSw); go_simp; try with_reducible rfl)
          try simp only [Act.put, List.setIfInBounds_toArray, List.set_cons_zero, List.set_cons_succ]
          refine wpAnyH_take (i := 9) (v := ?_) (by simp only [List.getElem?_toArray, List.getElem?_cons_succ, List.getElem?_cons_zero]; rfl) (by kernel_rfl) (by kernel_rfl) (by kernel_rfl) (fun _ _ _ h => h) (Or.inl ⟨by rfl, ?_⟩) (by assumption) ?_
          rotate_left 1
          · (intro w hSw; (try dsimp only at hSw); go_simp; try with_reducible rfl)
          try simp only [Act.put, List.setIfInBounds_toArray, List.set_cons_zero, List.set_cons_succ]
          refine wpAnyH_take (i := 10) (v := ?_) (by simp only [List.getElem?_toArray, List.getElem?_cons_succ, List.getElem?_cons_zero]; rfl) (by kernel_rfl) (by kernel_rfl) (by kernel_rfl) (fun _ _ _ h => h) (Or.inl ⟨by rfl, ?_⟩) (by assumption) ?_
          rotate_left 1
          · (intro w hSw; (try dsimp only at hSw); go_simp; try with_reducible rfl)
          try simp only [Act.put, List.setIfInBounds_toArray, List.set_cons_zero, List.set_cons_succ]
          refine wpAnyH_take (i := 11) (v := ?_) (by simp only [List.getElem?_toArray, List.getElem?_cons_succ, List.getElem?_cons_zero]; rfl) (by kernel_rfl) (by kernel_rfl) (by kernel_rfl) (fun _ _ _ h => h) (Or.inl ⟨by rfl, ?_⟩) (by assumption) ?_
          rotate_left 1
          · (intro w hSw; (try dsimp only at hSw); go_simp; try with_reducible rfl)
          try simp only [Act.put, List.setIfInBounds_toArray, List.set_cons_zero, List.set_cons_succ]
          refine wpAnyH_take (i := 12) (v := ?_) (by simp only [List.getElem?_toArray, List.getElem?_cons_succ, List.getElem?_cons_zero]; rfl) (by kernel_rfl) (by kernel_rfl) (by kernel_rfl) (fun _ _ _ h => h) (Or.inl ⟨by rfl, ?_⟩) (by assumption) ?_
          rotate_left 1
          · (intro w hSw; (try dsimp only at hSw); go_simp; try with_reducible rfl)
          try simp only [Act.put, List.setIfInBounds_toArray, List.set_cons_zero, List.set_cons_succ]
          refine wpAnyH_take (i := 13) (v := ?_) (by simp only [List.getElem?_toArray, List.getElem?_cons_succ, List.getElem?_cons_zero]; rfl) (by kernel_rfl) (by kernel_rfl) (by kernel_rfl) (fun _ _ _ h => h) (Or.inl ⟨by rfl, ?_⟩) (by assumption) ?_
          rotate_left 1
          · (intro w hSw; (try dsimp only at hSw); go_simp; try with_reducible rfl)
          try simp only [Act.put, List.setIfInBounds_toArray, List.set_cons_zero, List.set_cons_succ]
          refine wpAnyH_take (i := 14) (v := ?_) (by simp only [List.getElem?_toArray, List.getElem?_cons_succ, List.getElem?_cons_zero]; rfl) (by kernel_rfl) (by kernel_rfl) (by kernel_rfl) (fun _ _ _ h => h) (Or.inl ⟨by rfl, ?_⟩) (by assumption) ?_
          rotate_left 1
          · (intro w hSw; (try dsimp only at hSw); go_simp; try with_reducible rfl)
          try simp only [Act.put, List.setIfInBounds_toArray, List.set_cons_zero, List.set_cons_succ]
          refine wpAnyH_take (i := 15) (v := ?_) (by simp only [List.getElem?_toArray, List.getElem?_cons_succ, List.getElem?_cons_zero]; rfl) (by kernel_rfl) (by kernel_rfl) (by kernel_rfl) (fun _ _ _ h => h) (Or.inl ⟨by rfl, ?_⟩) (by assumption) ?_
          rotate_left 1
          · (intro w hSw; (try dsimp only at hSw); go_simp; try with_reducible rfl)
          try simp only [Act.put, List.setIfInBounds_toArray, List.set_cons_zero, List.set_cons_succ]
          refine wpAnyH_take (i := 16) (v := ?_) (by simp only [List.getElem?_toArray, List.getElem?_cons_succ, List.getElem?_cons_zero]; rfl) (by kernel_rfl) (by kernel_rfl) (by kernel_rfl) (fun _ _ _ h => h) (Or.inl ⟨by rfl, ?_⟩) (by assumption) ?_
          rotate_left 1
          · (intro w hSw; (try dsimp only at hSw); have q1 := HCV2.out _ hSw; have q2 := HCV.out _ hSw; rw [HSTR.out] at q1 q2; go_simp; try with_reducible rfl)
          try simp only [Act.put, List.setIfInBounds_toArray, List.set_cons_zero, List.set_cons_succ]
          refine wpAnyH_take (i := 17) (v := ?_) (by simp only [List.getElem?_toArray, List.getElem?_cons_succ, List.getElem?_cons_zero]; rfl) (by kernel_rfl) (by kernel_rfl) (by kernel_rfl) (fun _ _ _ h => h) (Or.inl ⟨by rfl, ?_⟩) (by assumption) ?_
          rotate_left 1
          · (intro w hSw; (try dsimp only at hSw); go_simp; try with_reducible rfl)
          try simp only [Act.put, List.setIfInBounds_toArray, List.set_cons_zero, List.set_cons_succ]
          refine wpAnyH_take (i := 18) (v := ?_) (by simp only [List.getElem?_toArray, List.getElem?_cons_succ, List.getElem?_cons_zero]; rfl) (by kernel_rfl) (by kernel_rfl) (by kernel_rfl) (fun _ _ _ h => h) (Or.inl ⟨by rfl, ?_⟩) (by assumption) ?_
          rotate_left 1
          · (intro w hSw; (try dsimp only at hSw); go_simp; try with_reducible rfl)
          try simp only [Act.put, List.setIfInBounds_toArray, List.set_cons_zero, List.set_cons_succ]
          refine wpAnyH_take (i := 19) (v := ?_) (by simp only [List.getElem?_toArray, List.getElem?_cons_succ, List.getElem?_cons_zero]; rfl) (by kernel_rfl) (by kernel_rfl) (by kernel_rfl) (fun _ _ _ h => h) (Or.inl ⟨by rfl, ?_⟩) (by assumption) ?_
          rotate_left 1
          · (intro w hSw; (try dsimp only at hSw); go_simp; try with_reducible rfl)
          try simp only [Act.put, List.setIfInBounds_toArray, List.set_cons_zero, List.set_cons_succ]
          refine wpAnyH_take (i := 20) (v := ?_) (by simp only [List.getElem?_toArray, List.getElem?_cons_succ, List.getElem?_cons_zero]; rfl) (by kernel_rfl) (by kernel_rfl) (by kernel_rfl) (fun _ _ _ h => h) (Or.inl ⟨by rfl, ?_⟩) (by assumption) ?_
          rotate_left 1
          · (intro w hSw; (try dsimp only at hSw); have q1 := HCV2.out _ hSw; have q2 := HCV.out _ hSw; rw [HSTR.out] at q1 q2; go_simp; try with_reducible rfl)
          try simp only [Act.put, List.setIfInBounds_toArray, List.set_cons_zero, List.set_cons_succ]
          refine wpAnyH_take (i := 21) (v := ?_) (by simp only [List.getElem?_toArray, List.getElem?_cons_succ, List.getElem?_cons_zero]; rfl) (by kernel_rfl) (by kernel_rfl) (by kernel_rfl) (fun _ _ _ h => h) (Or.inl ⟨by rfl, ?_⟩) (by assumption) ?_
          rotate_left 1
          · (intro w hSw; (try dsimp only at hSw); go_simp; try with_reducible rfl)
          try simp only [Act.put, List.setIfInBounds_toArray, List.set_cons_zero, List.set_cons_succ]
          refine wpAnyH_take (i := 22) (v := ?_) (by simp only [List.getElem?_toArray, List.getElem?_cons_succ, List.getElem?_cons_zero]; rfl) (by kernel_rfl) (by kernel_rfl) (by kernel_rfl) (fun _ _ _ h => h) (Or.inl ⟨by rfl, ?_⟩) (by assumption) ?_
          rotate_left 1
          · (intro w hSw; (try dsimp only at hSw); go_simp; try with_reducible rfl)
          try simp only [Act.put, List.setIfInBounds_toArray, List.set_cons_zero, List.set_cons_succ]
          refine wpAnyH_take (i := 23) (v := ?_) (by simp only [List.getElem?_toArray, List.getElem?_cons_succ, List.getElem?_cons_zero]; rfl) (by kernel_rfl) (by kernel_rfl) (by kernel_rfl) (fun _ _ _ h => h) (Or.inl ⟨by rfl, ?_⟩) (by assumption) ?_
          rotate_left 1
          · (intro w hSw; (try dsimp only at hSw); go_simp; try with_reducible rfl)
          try simp only [Act.put, List.setIfInBounds_toArray, List.set_cons_zero, List.set_cons_succ]
          refine wpAnyH_done (by kernel_rfl) ?_ _
          refine NoPanic.normal ?_
          go_wp2_with fail
          go_ret
          exact ⟨rfl, HG8.out.drew⟩
end Go.Proofs.YtcdbchifigonpaaDoor
