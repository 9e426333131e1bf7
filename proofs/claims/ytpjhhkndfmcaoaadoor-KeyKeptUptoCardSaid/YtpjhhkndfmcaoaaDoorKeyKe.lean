/- Walk of the law KeyKept: values and bytes that are handed in stay; what is told is new memory. -/
import Derived.Test.YtpjhhkndfmcaoaaDoorKeySg
import Derived.Test.YtpjhhkndfmcaoaaDoorKeyPs
set_option linter.unusedVariables false
set_option linter.unusedSimpArgs false
namespace Go.Proofs.YtpjhhkndfmcaoaaDoor
open Go.RowKit Go.Shelf Go.WideShapes

/-- The row's bytes may be written. -/
theorem Row.cellsF {w : World} {base m c : Nat} {A : Option Addr} {xs : List UInt8} (h : Row w base (.slice A m c) m xs) (hm : 0 < m) : ∃ bk o, A = some ⟨bk, o, none⟩ ∧ base ≤ bk ∧ bk < w.heap.size ∧ ∀ t, t < m → ∃ u, CF w ⟨bk, o + t, none⟩ u := by
  obtain ⟨g, cap', hv, hb, hlt⟩ := World.ownsRow.form h hm
  have hA : A = some ⟨g, 0, none⟩ := by injection hv
  subst hA
  have hx := h.reads.2
  refine ⟨g, 0, rfl, hb, hlt, fun t ht => ⟨.int .u8 ((xs[t]'(by omega)).toNat : Int), ?_, World.ownsRow.frozenAt h _⟩⟩
  · have := World.ownsRow.cells h (g := g) rfl t _ (u8s_get xs t (by omega))
    rw [add_lit] at this
    exact this
theorem Row.keptS {S : Nat → Prop} {w w' : World} {base m : Nat} {v : Value} {xs : List UInt8} (h : Row w base v m xs) (hk : Kept S w w') (hs : ∀ q, base ≤ q → ¬ S q) : Row w' base v m xs := by
  rcases h.2 with h0 | ⟨g, cap, cur, rfl, hb, hg, hr⟩
  · exact ⟨h.1, .inl h0⟩
  · exact ⟨h.1, .inr ⟨g, cap, cur, rfl, hb, Kept.blk (S := S) (t := 5) (cs := cur) hk hg (hs g hb), hr⟩⟩
/-- The cells of n rows of z cells each that may be written: the first of each, from j on. -/
def Cells (w : World) (lo hi : Nat) (A : Option Addr) (z n : Nat) : Prop := ∀ t, t < n → ∃ bk o, A = some ⟨bk, o, none⟩ ∧ lo ≤ bk ∧ bk < hi ∧ ∃ u, CF w ⟨bk, o + t * z, none⟩ u
theorem Cells.set {w : World} {lo hi : Nat} {A : Option Addr} {z n : Nat} (h : Cells w lo hi A z n) (p : Addr) (v : Value) : Cells (w.setCell p v) lo hi A z n := by
  intro t ht
  obtain ⟨bk, o, e, h1, h2, u, hu⟩ := h t ht
  obtain ⟨v', hv'⟩ := cell?_setCell_some (w := w) (p := p) (x := v) (q := ⟨bk, o + t * z, none⟩) hu.1
  exact ⟨bk, o, e, h1, h2, v', hv', (frozen_setCell w p v _).trans hu.2⟩
theorem Cells.grow {w w' : World} {lo hi : Nat} {A : Option Addr} {z n : Nat} (h : Cells w lo hi A z n) (hg : Grow w w') : Cells w' lo hi A z n := by
  intro t ht
  obtain ⟨bk, o, e, h1, h2, u, hu⟩ := h t ht
  exact ⟨bk, o, e, h1, h2, u, hu.block (hg.below.block _ hu.lt)⟩
theorem InS.cellsB {w : World} {lo hi : Nat} {v : V} {c : Cv} (h : InS w lo hi v c) : c.nB = v.b.length ∧ c.nB ≤ 140737488355328 ∧ c.nB ≤ c.cB ∧ Cells w lo hi c.aB 1 c.nB := by
  obtain ⟨k, n, b, l, f⟩ := v
  have h2 := h.2
  rw [IsS] at h2
  obtain ⟨e1, e2, e3, e4, e5, h1, h2, h3, h4, h5, h6, h7, h8, h9, hb, _, _⟩ := h2
  refine ⟨e3, by rw [e3]; exact h5, by rw [e3]; exact h4, fun t ht => ?_⟩
  rw [e3] at ht
  obtain ⟨bk, o, ha, hc⟩ := hb.2 (by omega)
  have := hc t _ (u8s_get b t ht)
  exact ⟨bk, o, ha, this.2.1, this.2.2, _, by rw [Nat.mul_one]; exact this.1⟩

theorem Row.cellsC {w : World} {base m c lo : Nat} {A : Option Addr} {xs : List UInt8} (h : Row w base (.slice A m c) m xs) (hlo : lo ≤ base) : Cells w lo w.heap.size A 1 m := by
  intro t ht
  obtain ⟨bk, o, e, h1, h2, h3⟩ := h.cellsF (by omega)
  obtain ⟨u, hu⟩ := h3 t ht
  exact ⟨bk, o, e, by omega, h2, u, by rw [Nat.mul_one]; exact hu⟩
theorem Kept.grow_ {S : Nat → Prop} {w0 a b : World} (h : Grow w0 a) (k : Kept S a b) (hs : ∀ q, S q → w0.heap.size ≤ q) : Grow w0 b := Below.trans h (k.below h.size hs)
theorem Kept.grown {S : Nat → Prop} {a w w' : World} {row : Option Nat} (h : Kept S a w) (hg : w.grownBy w' row) (hr : ∀ k, row = some k → S k) : Kept S a w' :=
  h.trans ⟨hg.os, hg.tape, hg.output, hg.size, fun k hk hs => hg.block k hk (fun e => hs (hr k e.symm))⟩
/-- What key.Back tells, both ways in one: where its bytes lie. -/
theorem KBackS.both {w w' : World} {g : Option V} {e : Ending} (h : KBackS w g e w') : ∃ (c : Cv) (f : Int), e = .returned (.tuple #[c.agg, .int .i64 f]) ∧ (g = none → f = 14) ∧ (g ≠ none → f = 0) ∧ Grow w w' ∧ (c.nB ≤ 140737488355328 ∧ c.nB ≤ c.cB) ∧ Cells w' w.heap.size w'.heap.size c.aB 1 c.nB := by
  obtain ⟨hg, h1, h2⟩ := h
  cases g with
  | none => exact ⟨_, _, h2 rfl, fun _ => rfl, fun h => absurd rfl h, hg, ⟨by simp, by simp⟩, fun t ht => absurd ht (by simp)⟩
  | some u =>
    obtain ⟨c, e, hi⟩ := h1 u rfl
    obtain ⟨_, b1, b2, b3⟩ := hi.cellsB
    exact ⟨c, 0, e, (fun h => by cases h), fun _ => rfl, hg, ⟨b1, b2⟩, b3⟩

theorem BackC.bothZ {w w' : World} {g : Option V} {e : Ending} (h : BackC w g e w') : ∃ (c : Cv) (t : Bool) (u : V), e = .returned (.tuple #[c.agg, .bool t]) ∧ In w' u c ∧ Grow w w' ∧ ((g = none ∧ t = false ∧ u = V.zero) ∨ (g = some u ∧ t = true)) := by
  obtain ⟨hg, h1, h2⟩ := h
  cases g with
  | none => exact ⟨_, _, _, h2 rfl, zeroIn w', hg, .inl ⟨rfl, rfl, rfl⟩⟩
  | some u => obtain ⟨c, e, hi⟩ := h1 u rfl; exact ⟨_, _, _, e, hi, hg, .inr ⟨rfl, rfl⟩⟩
theorem afterN_len (b : List UInt8) : (afterN b).1.length ≤ b.length := by
  unfold afterN
  split
  · simp
  · simp only [List.length_set, List.length_take]; omega
set_option maxRecDepth 100000 in
set_option maxHeartbeats 12800000 in
theorem kkept_any (v : V) (cv : Cv) (b : List UInt8) (B : Option Addr) (bc : Nat) (w : World) (hT : Tabs w) (hv : In w v cv) (hsz : v.formed = true → v.bytes.length ≤ 140737488355328) (hb : InB w B b) (hl : b.length ≤ 1000000000) (hcap : b.length ≤ bc) :
    Calls Tryd.prog 5 #[cv.agg, .slice B b.length bc] w fun e w' => e = .returned (.bool true) ∧ Grow w w' := by
  have HG0 := hide ((Grow.refl w).alloc (.cells cv.cells 27))
  have HV0 := hide (Blk.new w 27 cv.cells)
  have HT := hide hT
  have HV := hide hv
  have HB := hide hb
  have HSZ := hide hsz
  have HFIT := hide (IsV.fit v cv hv)
  clear hT hv hb hsz
  go_enter Tryd.func5, Tryd.ntmps5
  go_wp2_with fail
  refine (kawake_any _ (HT.out.grow HG0.out)).mono ?_
  rintro e w1 ⟨rfl, hg1⟩
  have HG1 := hide (HG0.out.trans hg1)
  have HV1 := hide (HV0.out.grow hg1)
  have hv1 := HV1.out.cell
  have hlv1 := HV1.out.lt
  have HONE := hide (InL.oneK (HV.out.grow HG1.out))
  clear hg1
  go_wp2_with fail
  refine (vast_any [v] _ 1 _ HONE.out).mono ?_
  rintro e w2 ⟨rfl, hg2⟩
  have hga := ((Grow.refl w1).alloc (.cells cv.cells 27)).trans hg2
  have HG2 := hide (HG1.out.trans hga)
  have HV2 := hide (HV1.out.grow hga)
  clear hg2 hga hv1 hlv1 HONE
  by_cases hbig : 20000 ≤ (List.map V.count [v]).sum
  · rw [decide_eq_true hbig]
    go_wp2_with fail
    go_ret
    exact ⟨rfl, HG2.out⟩
  rw [decide_eq_false hbig]
  have hcount : v.count ≤ 20000 := by simp at hbig; omega
  clear hbig
  have HMILD := hide (V.mild_of hcount HV.out)
  clear hcount
  have hrow2 : Row (w2.alloc (.cells #[] 5)) w2.heap.size (.slice (some ⟨w2.heap.size, 0, none⟩) 0 0) 0 [] := Row.made (w := w2) #[] 0 (by simp [maxLen]) rfl
  have HRow2 := hide hrow2
  have HG2' := hide (HG2.out.alloc (.cells #[] 5))
  have HOF := hide (fun W (hg : Grow w W) => of_anyM v cv W HFIT.out HMILD.out (HT.out.grow hg) (HV.out.grow hg))
  have HRO := hide (fun W (hg : Grow w W) => rOf_closed v cv W HMILD.out.1 HSZ.out (HV.out.grow hg))
  obtain ⟨⟨xb, ex⟩, hxe⟩ : ∃ r, ofK v = r := ⟨_, rfl⟩
  rw [hxe] at HOF HRO
  have hxl : xb.length ≤ 96 := by
    have h := hxe
    unfold ofK at h
    split at h
    · injection h with h _; subst h; simp
    · split at h
      · injection h with h _; subst h; simp
      · injection h with h _; subst h; omega
  clear hrow2 hxe
  go_upto_region 6 with (first
      | (at_builtin; refine app_src (ys := b) rfl (.tmp 32) (.tmp 33) _ rfl rfl HRow2.out _ rfl (Src.ofReads under_u8s (HB.out.grow HG2'.out) (u8s_one b)) (by omega) (by simp) ?_; intro A5 c5 w5 hr5 hg5; have HG5 := hide (Below.trans ((Grow.refl w2).alloc (.cells #[] 5)) (Grew.below hg5 HRow2.out (by simp))); rw [Nat.zero_add, List.nil_append] at hr5; have HR5 := hide hr5; clear hr5 hg5)
      | (at_builtin; refine app_src (ys := [201]) rfl (.tmp 34) (.tmp 35) _ rfl rfl (HR5.out.alloc _) _ rfl (src_one 201 rfl (Blk.new w5 _ _)) (by simp only [List.length_cons, List.length_nil]; omega) (by have := Grow.size HG5.out; simp at this ⊢; omega) ?_; intro A6 c6 w6 hr6 hg6; have HG6 := hide (Below.trans (Below.alloc HG5.out (Grow.size HG5.out) (.cells #[.int .u8 201] 5)) (Grew.below hg6 (HR5.out.alloc _) (by have := Grow.size HG5.out; simp at this ⊢; omega))); have HR6 := hide hr6; clear hr6 hg6; obtain ⟨bk6, o6, rfl, hcell6⟩ := HR6.out.reads.1.2 (by simp); have hcap6 := HR6.out.cap; have hlen6 : (b ++ [(201 : UInt8)]).length = b.length + 1 := by simp))
  have HIN6 := hide (show InB w6 (some ⟨bk6, o6, none⟩) b from by
    have h0 : Reads (AtW w6 0 w6.heap.size) 1 (some ⟨bk6, o6, none⟩) (b ++ [(201 : UInt8)]).length (u8s (b ++ [201])) := Reads.mono (fun p u hp => ⟨hp.1, Nat.zero_le _, hp.2.2⟩) HR6.out.reads.1
    have h1 := Reads.take_ h0 b.length (by simp)
    rw [show (u8s (b ++ [(201 : UInt8)])).take b.length = u8s b by rw [u8s_append, List.take_left' (u8s_length b)]] at h1
    exact h1)
  have HGW6 := hide (show Grow w w6 from Grow.trans HG2.out HG6.out)
  have HV6 := hide (HV2.out.grow (show Grow w2 w6 from HG6.out))
  have HLT6 := hide ((hcell6 0 ((u8s (b ++ [201]))[0]'(by simp [u8s])) (by simp)).2.2)
  have H201 := hide ((hcell6 b.length _ (by simp [u8s])).1 : w6.cell? ⟨bk6, o6 + b.length, none⟩ = some (.int .u8 201))
  have hcp6 : b.length + 1 ≤ c6 := by have := hcap6; simp at this; omega
  have HCP6 := hide hcp6
  have hcpb : b.length ≤ c6 := by omega
  have hv6 := HV6.out.cell
  have hlv6 := HV6.out.lt
  clear hcell6 hcap6 hlen6 HG5 HR5 HG6 HRow2 HG2' HR6 HV2 HG2 HG1 HV1 HG0 HV0 hcp6
  go_wp2_with fail
  refine (HOF.out _ HGW6.out).mono ?_
  rintro e w7 ⟨bx, AX, cx, rfl, hbx, hrx, hg67⟩
  dsimp only at hrx ⊢
  have HX7 := hide (hrx.fromLow hbx)
  have HG67 := hide hg67
  have hz67 := hg67.size
  have HV7 := hide (HV6.out.grow hg67)
  have hv7 := HV7.out.cell
  have hlv7 := HV7.out.lt
  clear hrx hbx hg67 hv6 hlv6
  go_wp2_with fail
  refine (HOF.out _ (HGW6.out.trans HG67.out)).mono ?_
  rintro e w8 ⟨by_, AY, cy, rfl, hby, hry, hg78⟩
  dsimp only at hry ⊢
  have HX8 := hide (HX7.out.grow hg78)
  have HY8 := hide (hry.fromLow hby)
  have HG78 := hide hg78
  have hz78 := hg78.size
  clear hry hby hg78 hv7 hlv7
  go_wp2_with fail
  go_loopg [10] (xb.length + 1) (fun gk i wr => ∃ j : Nat, j ≤ xb.length ∧ gk + j = xb.length + 1 ∧ i = .int .i64 j ∧ Kept (fun q => w6.heap.size ≤ q ∧ q < w7.heap.size) w8 wr ∧ ∃ zs : List UInt8, zs.length = xb.length ∧ Row wr w6.heap.size (.slice AX xb.length cx) xb.length zs)
  case atStart => exact ⟨0, by omega, by omega, rfl, Kept.refl _ _, xb, rfl, HX8.out⟩
  case round =>
    obtain ⟨j, hj, hgk, rfl, hK, zs, hzl, hR⟩ := hrel
    have HK := hide hK
    have HR := hide hR
    have HZL := hide hzl
    by_cases hlt : j < xb.length
    · obtain ⟨gk', rfl⟩ : ∃ g, gk = g + 1 := ⟨gk - 1, by omega⟩
      obtain ⟨g, cap', hgv, hgb, hglt⟩ := World.ownsRow.form hR (by omega)
      have hA : AX = some ⟨g, 0, none⟩ := by injection hgv
      subst hA
      have hg7 := (World.ownsRow.lt HX7.out g rfl).2
      have hck := World.ownsRow.cells hR (g := g) rfl j _ (u8s_get zs j (by omega))
      rw [add_lit, Nat.zero_add] at hck
      have hfz := World.ownsRow.frozenAt hR j
      obtain ⟨u0, hu0⟩ : ∃ u, wr.cell? ⟨g, j, none⟩ = some u := ⟨_, hck⟩
      clear hck
      clear hK hR hzl hgv
      go_wp2_with fail
      go_roundg gk'
      case measure => omega
      case rel => exact ⟨j + 1, by omega, by omega, by go_num, HK.out.set (p := ⟨g, j, none⟩) ⟨hgb, hg7⟩ _, zs.set j 99, by rw [List.length_set]; exact HZL.out, HR.out.setAt j hlt 99 _ rfl⟩
    · obtain rfl : j = xb.length := by omega
      have hz9 := hK.size
      clear hK hR hzl hlt hgk hj
      go_upto_region 13 with (at_builtin; refine app_src (ys := [98]) rfl (.tmp 59) (.tmp 60) _ rfl rfl (HR.out.alloc _) _ rfl (src_one 98 rfl (Blk.new wr _ _)) (by simp only [List.length_cons, List.length_nil]; omega) (by simp only [World.size_alloc]; omega) ?_; intro A10 c10 w10 hr10 hg10; have HGR10 := hide hg10; clear hr10 hg10)
      have HK10 := hide ((HK.out.alloc (.cells #[.int .u8 98] 5)).grown HGR10.out.grow (fun k hk => World.ownsRow.lt HX7.out k hk))
      have HG610 := hide (Kept.grow_ (HG67.out.trans HG78.out) HK10.out (fun q h => h.1))
      have HY10 := hide (HY8.out.keptS HK10.out (fun q hq h => by omega))
      have HV10 := hide (HV6.out.grow HG610.out)
      clear HK HR HZL HGR10 HK10 HX8 HY8 hz9
      go_wp2_with fail
      refine (kafter_any b _ c6 w10 (HIN6.out.grow HG610.out) (by omega) hcpb).mono ?_
      rintro e w11 ⟨bp, AP, cp, rfl, hbp, hrp, hg1011⟩
      have HP11 := hide (hrp.cellsC (lo := w10.heap.size) hbp)
      have HG1011 := hide hg1011
      have hz1011 := hg1011.size
      have hpcap := row_cap hrp
      clear hrp hbp hg1011
      go_wp2_with fail
      refine (kafter_any b _ c6 w11 (HIN6.out.grow (HG610.out.trans HG1011.out)) (by omega) hcpb).mono ?_
      rintro e w12 ⟨bq, AQ, cq, rfl, hbq, hrq, hg1112⟩
      have HQ12 := hide (hrq.fromLow hbq)
      have HP12 := hide (HP11.out.grow hg1112)
      have HG1112 := hide hg1112
      have hz1112 := hg1112.size
      clear hrq hbq hg1112 HP11
      have hpl := afterN_len b
      obtain ⟨⟨pb, pok⟩, hpb⟩ : ∃ r, afterN b = r := ⟨_, rfl⟩
      rw [hpb] at HP12 HQ12 hpl hpcap ⊢
      have HPB := hide hpb
      dsimp only at HP12 HQ12 hpl hpcap ⊢
      clear hpb
      go_wp2_with fail
      go_loopg [15] (pb.length + 1) (fun gk i wr => ∃ j : Nat, j ≤ pb.length ∧ gk + j = pb.length + 1 ∧ i = .int .i64 j ∧ Kept (fun q => w10.heap.size ≤ q ∧ q < w11.heap.size) w12 wr ∧ Cells wr w10.heap.size w11.heap.size AP 1 pb.length)
      case atStart => exact ⟨0, by omega, by omega, rfl, Kept.refl _ _, HP12.out⟩
      case round =>
        obtain ⟨j, hj, hgk, rfl, hK, hC⟩ := hrel
        have HK := hide hK
        have HC := hide hC
        clear hK hC
        by_cases hlt : j < pb.length
        · obtain ⟨gk', rfl⟩ : ∃ g, gk = g + 1 := ⟨gk - 1, by omega⟩
          obtain ⟨bk, o, rfl, hlo, hhi, u, hu, hfu⟩ := HC.out j hlt
          rw [Nat.mul_one] at hu hfu
          go_wp2_with fail
          go_roundg gk'
          case measure => omega
          case rel => exact ⟨j + 1, by omega, by omega, by go_num, HK.out.set (p := ⟨bk, o + j, none⟩) ⟨hlo, hhi⟩ _, HC.out.set _ _⟩
        · obtain rfl : j = pb.length := by omega
          have HG1013 := hide (Kept.grow_ (HG1011.out.trans HG1112.out) HK.out (fun q h => h.1))
          have HQ13 := hide (HQ12.out.keptS HK.out (fun q hq h => by omega))
          have HY13 := hide (HY10.out.grow HG1013.out)
          have HG613 := hide (HG610.out.trans HG1013.out)
          clear HK HC HP12 HQ12 HG1011 HG1112 HY10 HV10 hlt hgk hj
          go_wp2_with fail
          refine (rafter_any b B bc wr (HB.out.grow (HGW6.out.trans HG613.out)) (by omega) hcap).mono ?_
          rintro e w14 ⟨br, AR, cr, rfl, hbr, hrr, hg1314⟩
          rw [HPB.out] at hrr ⊢
          dsimp only at hrr ⊢
          have HR14 := hide hrr
          have HQ14 := hide (HQ13.out.grow hg1314)
          have HY14 := hide (HY13.out.grow hg1314)
          have HG614 := hide (HG613.out.trans hg1314)
          clear hrr hbr hg1314 HQ13 HY13 HG613 HG1013
          have HKB := hide (kbackS_any b _ c6 w14 (HIN6.out.grow HG614.out) (fun W F fc hg hb' hf => kpartsS_any b [false] _ F c6 fc W (HT.out.grow ((HGW6.out.trans HG614.out).trans hg)) hb' hf hl hcpb (by decide)))
          go_wp2_with fail
          refine HKB.out.mono ?_
          rintro e w15 hk
          obtain ⟨cu, f, rfl, hf1, hf2, hg1415, hnB, hCB⟩ := KBackS.both hk
          have hnB1 := hnB.1
          have hnB2 := hnB.2
          have HF1 := hide hf1
          have HF2 := hide hf2
          have HG1415 := hide hg1415
          have hz1415 := hg1415.size
          have HCB := hide (hCB.grow ((Grow.refl w15).alloc (.cells cu.cells 27)))
          have HU15 := hide (Blk.new w15 27 cu.cells)
          clear hk hf1 hf2 hg1415 hnB hCB HKB
          go_wp2_with fail
          go_loopg [20] (cu.nB + 1) (fun gk i wr => ∃ j : Nat, j ≤ cu.nB ∧ gk + j = cu.nB + 1 ∧ i = .int .i64 j ∧ Kept (fun q => w14.heap.size ≤ q ∧ q < w15.heap.size) (w15.alloc (.cells cu.cells 27)) wr ∧ Cells wr w14.heap.size w15.heap.size cu.aB 1 cu.nB)
          case atStart => exact ⟨0, by omega, by omega, rfl, Kept.refl _ _, HCB.out⟩
          case round =>
            obtain ⟨j, hj, hgk, rfl, hK, hC⟩ := hrel
            have hUr := hK.blk HU15.out (by omega)
            have hcu := hUr.cell 2
            have hlu := hUr.lt
            have HK := hide hK
            have HC := hide hC
            clear hK hC hUr
            by_cases hlt : j < cu.nB
            · obtain ⟨gk', rfl⟩ : ∃ g, gk = g + 1 := ⟨gk - 1, by omega⟩
              obtain ⟨bk, o, haB, hlo, hhi, u, hu, hfu⟩ := HC.out j hlt
              rw [Nat.mul_one] at hu hfu
              have hcu' : wr.cell? ⟨w15.heap.size, 2, none⟩ = some (.slice (some ⟨bk, o, none⟩) cu.nB cu.cB) := by rw [hcu, ← haB]; rfl
              clear hcu haB
              go_wp2_with fail
              go_roundg gk'
              case measure => omega
              case rel => exact ⟨j + 1, by omega, by omega, by go_num, HK.out.set (p := ⟨bk, o + j, none⟩) ⟨hlo, hhi⟩ _, HC.out.set _ _⟩
            · obtain rfl : j = cu.nB := by omega
              have hcu' : wr.cell? ⟨w15.heap.size, 2, none⟩ = some (.slice cu.aB cu.nB cu.cB) := hcu
              clear hcu
              have HG1416 := hide (Kept.grow_ (HG1415.out.alloc (.cells cu.cells 27)) HK.out (fun q h => h.1))
              have HQ16 := hide (HQ14.out.grow HG1416.out)
              have HR16 := hide (HR14.out.grow HG1416.out)
              have HY16 := hide (HY14.out.grow HG1416.out)
              have HG616 := hide (HG614.out.trans HG1416.out)
              have HGW16 := hide (HGW6.out.trans HG616.out)
              clear HK HC HU15 HCB hlt hgk hj HQ14 HR14 HY14 HG614 HG1415 HG1416 hnB1 hnB2 hz1415
              have HKW := hide (kBack_closed b B bc wr (HT.out.grow HGW16.out) (HB.out.grow HGW16.out) hl hcap)
              go_wp2_with fail
              refine HKW.out.mono ?_
              rintro e w17 hk
              obtain ⟨cw, f2, u2, rfl, hx17, hg, hRW⟩ := KBackC.both hk (zeroIn w17)
              have hga := hg.alloc (.cells cw.cells 27)
              have HW17 := hide (Blk.new w17 27 cw.cells)
              have HIW17 := hide (hx17.grow ((Grow.refl w17).alloc (.cells cw.cells 27)))
              have HQ17 := hide (HQ16.out.grow hga)
              have HR17 := hide (HR16.out.grow hga)
              have HY17 := hide (HY16.out.grow hga)
              have HG617 := hide (HG616.out.trans hga)
              have HRW := hide hRW
              clear hk hx17 hg hRW hga HQ16 HR16 HY16 HG616 HKW hcu' hlu
              have HRBK := hide (rBack_closed b B bc (w17.alloc (.cells cw.cells 27)) (HB.out.grow (HGW6.out.trans HG617.out)) hl hcap)
              go_wp2_with fail
              refine HRBK.out.mono ?_
              rintro e w18 hk
              obtain ⟨cy2, ok, y2, rfl, hx18, hg, hRY⟩ := BackC.bothZ hk
              have hga := hg.alloc (.cells cy2.cells 27)
              have HW18 := hide (HW17.out.grow hga)
              have HY2 := hide (Blk.new w18 27 cy2.cells)
              have HIW18 := hide (HIW17.out.grow hga)
              have HIY18 := hide (hx18.grow ((Grow.refl w18).alloc (.cells cy2.cells 27)))
              have HQ18 := hide (HQ17.out.grow hga)
              have HR18 := hide (HR17.out.grow hga)
              have HY18 := hide (HY17.out.grow hga)
              have HG618 := hide (HG617.out.trans hga)
              have HV18 := hide (HV6.out.grow HG618.out)
              have HRY := hide hRY
              have hv18 := HV18.out.cell
              have hlv18 := HV18.out.lt
              clear hk hx18 hg hRY hga HQ17 HR17 HY17 HG617 HRBK HW17 HIW17
              go_wp2_with fail
              refine (HRO.out _ (HGW6.out.trans HG618.out)).mono ?_
              rintro e w19 ⟨bw, AW, cww, rfl, hbw, hrw, hg⟩
              dsimp only at hrw ⊢
              have hs1 := conv_row (HY18.out.grow hg)
              have hs2 := conv_row hrw
              have hs3 := conv_row (HQ18.out.grow hg)
              have hs4 := conv_row (HR18.out.grow hg)
              have HG619 := hide (HG618.out.trans hg)
              have hw19 := (HW18.out.grow hg).cell
              have hy19 := (HY2.out.grow hg).cell
              have hlw19 := (HW18.out.grow hg).lt
              have hly19 := (HY2.out.grow hg).lt
              have HIW19 := hide (HIW18.out.grow hg)
              have HIY19 := hide (HIY18.out.grow hg)
              clear hbw hrw hg hv18 hlv18
              have hall : f = f2 ∧ (f2 = 0 ∧ ok = true ∨ f2 = 14 ∧ ok = false) ∧ u2 = y2 := by
                rcases HRW.out with ⟨r1, hf, hu⟩ | ⟨r1, hf⟩
                · rcases HRY.out with ⟨r2, ht, hy⟩ | ⟨r2, ht⟩
                  · exact ⟨by rw [HF1.out r1, hf], .inr ⟨hf, ht⟩, by rw [hu, hy]⟩
                  · rw [r1] at r2; cases r2
                · rcases HRY.out with ⟨r2, ht, hy⟩ | ⟨r2, ht⟩
                  · rw [r1] at r2; cases r2
                  · exact ⟨by rw [HF2.out (by rw [r1]; simp), hf], .inl ⟨hf, ht⟩, by rw [r1] at r2; injection r2⟩
              obtain ⟨hff, hok, huy⟩ := hall
              subst hff huy
              have HSAME := hide (same_any u2 u2 w19 cw cy2 HIW19.out HIY19.out)
              rw [sameB_self] at HSAME
              have hcp := HCP6.out
              rcases hok with ⟨hf0, ht0⟩ | ⟨hf0, ht0⟩
              all_goals
                subst hf0 ht0
                go_wp2_with fail
                refine HSAME.out.mono ?_
                rintro e w20 ⟨rfl, hg⟩
                have hg6 := HG619.out.trans hg
                have HGE := hide (HGW6.out.trans hg6)
                have hcvc := conv_str c6 (HIN6.out.grow hg6)
                have hcvb := conv_str bc (HB.out.grow HGE.out)
                have h201 := (hg6.below.cell (p := ⟨bk6, o6 + b.length, none⟩) HLT6.out).trans H201.out
                clear hg hg6 hs1 hs2 hs3 hs4 hw19 hy19
                go_wp2_with fail
                go_ret
                exact ⟨rfl, HGE.out⟩
end Go.Proofs.YtpjhhkndfmcaoaaDoor
