/- Walks of key.Parts and key.Back once more: what they tell lies in memory of its own. -/
import Derived.Test.YtpjhhkndfmcaoaaDoorKeyBk
set_option linter.unusedVariables false
set_option linter.unusedSimpArgs false
namespace Go.Proofs.YtpjhhkndfmcaoaaDoor
open Go.RowKit Go.Shelf Go.WideShapes

/-- What key.Parts tells. -/
def KPartsS (w : World) (g : Option (List V)) (e : Ending) (w' : World) : Prop :=
  Grow w w' ∧ (∀ l, g = some l → ∃ A cap, e = .returned (.tuple #[.slice A l.length cap, .int .i64 0]) ∧ InS w' w.heap.size w'.heap.size (.mk 7 0 [] l []) (lcv A l.length cap)) ∧ (g = none → e = .returned (.tuple #[.slice none 0 0, .int .i64 14]))
/-- What key.Back tells. -/
def KBackS (w : World) (g : Option V) (e : Ending) (w' : World) : Prop :=
  Grow w w' ∧ (∀ v, g = some v → ∃ c : Cv, e = .returned (.tuple #[c.agg, .int .i64 0]) ∧ InS w' w.heap.size w'.heap.size v c) ∧ (g = none → e = .returned (.tuple #[Cv.zero.agg, .int .i64 14]))
theorem KPartsS.no {w w' : World} {g : Option (List V)} (h : g = none) (hg : Grow w w') : KPartsS w g (.returned (.tuple #[.slice none 0 0, .int .i64 14])) w' :=
  ⟨hg, fun v e => (by rw [h] at e; cases e), fun _ => rfl⟩
theorem KBackS.no {w w' : World} {g : Option V} (h : g = none) (hg : Grow w w') : KBackS w g (.returned (.tuple #[Cv.zero.agg, .int .i64 14])) w' :=
  ⟨hg, fun v e => by (rw [h] at e; cases e), fun _ => rfl⟩
theorem KBackS.yes {w w' : World} {g : Option V} {v : V} {c : Cv} (h : g = some v) (hg : Grow w w') (hv : InS w' w.heap.size w'.heap.size v c) : KBackS w g (.returned (.tuple #[c.agg, .int .i64 0])) w' :=
  ⟨hg, fun u e => by (rw [h] at e; cases e; exact ⟨c, rfl, hv⟩), fun e => by (rw [h] at e; cases e)⟩
theorem iss_first {w : World} {lo cap : Nat} {A : Option Addr} {v : V} (h : InS w lo w.heap.size (.mk 7 0 [] [v] []) (lcv A 1 cap)) :
    ∃ bk o x, A = some ⟨bk, o, none⟩ ∧ bk < w.heap.size ∧ At5 (AtW w lo w.heap.size) bk o x ∧ InS w lo w.heap.size v x := by
  have h2 := h.2
  rw [IsS] at h2
  obtain ⟨_, _, _, _, _, _, _, _, _, _, _, _, _, _, _, ⟨T, hL, _⟩, _⟩ := h2
  obtain ⟨bk, o, x, ha, hs, hn, hts, h5, hv⟩ := hL 0 (by simp)
  rw [Nat.zero_mul, Nat.add_zero] at h5
  refine ⟨bk, o, x, ha, hs.2, ⟨⟨h5.1.1, hs⟩, ⟨h5.2.1.1, hs⟩, ⟨h5.2.2.1.1, hs⟩, ⟨h5.2.2.2.1.1, hs⟩, ⟨h5.2.2.2.2.1, hs⟩⟩, Nat.le_refl _, ?_⟩
  exact IsS.mono v x _ _ (fun _ _ q _ => q) hts hv
theorem inS_set5 {W : World} {lo lo' vb : Nat} {v : V} {c : Cv} (h : InS W lo W.heap.size v c) (hvb : vb < lo) (hlo : lo' ≤ lo) (d : Cv) : InS (set5 W vb d) lo' (set5 W vb d).heap.size v c := by
  have hs : (set5 W vb d).heap.size = W.heap.size := by unfold set5; simp [World.setCell]
  rw [hs]
  refine (h.blocks (w' := set5 W vb d) (by omega) (fun k h1 h2 => ?_)).wider hlo (Nat.le_refl _) (by omega)
  have hk : k ≠ vb := by omega
  unfold set5
  iterate 5 rw [Below.heap_setCell _ _ _ k hk]

set_option maxRecDepth 100000 in
set_option maxHeartbeats 6400000 in
theorem kpartsS_any (b : List UInt8) (ts : List Bool) (B F : Option Addr) (bc fc : Nat) (w : World) (hT : Tabs w) (hb : InB w B b) (hf : InBo w F ts) (hl : b.length ≤ 1000000000) (hcap : b.length ≤ bc) (hts : ts.length ≤ 1000000000) :
    Calls Tryd.prog 24 #[.slice B b.length bc, .slice F ts.length fc] w (KPartsS w (partsK (kd false 17) ts b)) := by
  have hw0 : 0 < w.heap.size := by have := hT.lt; omega
  have HT := hide hT
  have HB := hide hb
  have HF := hide hf
  obtain ⟨cur, hcur, hmk⟩ := make_valsN (min ts.length b.length) (by omega)
  have hmin : ((min ts.length b.length : Nat) : Int) = min (ts.length : Int) (b.length : Int) := by omega
  rw [hmin] at hmk
  obtain ⟨S, hS⟩ : ∃ S, min ts.length b.length = S := ⟨_, rfl⟩
  rw [hS] at hcur hmk
  have hown0 : (w.alloc (.cells cur 27)).ownsRow w.heap.size 27 5 (.slice (some ⟨w.heap.size, 0, none⟩) 0 S) 0 (cellsOf noHead []) := World.ownsRow_made w cur S (Nat.le_refl _) (by simp only [maxLen]; omega) (by omega)
  have HV0 := hide (show VRow (w.alloc (.cells cur 27)) 27 noHead 5 w.heap.size 0 w.heap.size (.slice (some ⟨w.heap.size, 0, none⟩) 0 S) [] from ⟨hown0, fun x hx => by simp at hx, fun i j hi => by simp at hi⟩)
  have HG0 := hide ((Grow.refl w).alloc (.cells cur 27))
  obtain ⟨i0, hi0, hz0', hz1, hz2⟩ := info_parts info_val3
  have Hi0 := hide hi0
  have Hz0 := hide hz0'
  have Hz1 := hide hz1
  have Hz2 := hide hz2
  clear hi0 hz0' hz1 hz2 hown0 hmin hS hcur
  clear hT hb hf
  go_enter Tryd.func24, Tryd.ntmps24
  go_wp2_with fail
  go_loopg [6, 7, 24] (ts.length + 1) (fun gk out rest i wr => ∃ (j : Nat) (es : List VE) (A : Option Addr) (cap : Nat) (r : List UInt8) (R : Option Addr) (rc : Nat), j ≤ ts.length ∧ gk + j = ts.length + 1 ∧ i = .int .i64 j ∧ out = .slice A es.length cap ∧ rest = .slice R r.length rc ∧ es.length = j ∧ r.length ≤ rc ∧ Reads (AtW wr 0 w.heap.size) 1 R r.length (u8s r) ∧ r.length ≤ b.length ∧ PSo ts b j r es ∧ (∀ x ∈ es, x.v.mild) ∧ VRow wr 27 noHead 5 w.heap.size 0 w.heap.size (.slice A es.length cap) es ∧ Grow w wr)
  case atStart => exact ⟨0, [], _, _, b, B, bc, Nat.zero_le _, by omega, rfl, rfl, rfl, rfl, hcap, Reads.mono (AtW.below HG0.out.below (Nat.le_refl _) (Nat.le_refl _) (Nat.le_refl _)) HB.out, Nat.le_refl _, PSo.start _ _, fun x hx => by simp at hx, HV0.out, HG0.out⟩
  case round =>
    obtain ⟨j, es, A, cap, r, R, rc, hj, hgk, rfl, rfl, rfl, hej, hrc, hr, hrb, hps, hcnt, hv, hg⟩ := hrel
    obtain ⟨gk', rfl⟩ : ∃ g, gk = g + 1 := ⟨gk - 1, by omega⟩
    have HR := hide hr
    have HPS := hide hps
    have HCN := hide hcnt
    have HV := hide hv
    have HG := hide hg
    have HEJ := hide hej
    clear hr hps hcnt hv hg hej HV0 HG0 hmk
    by_cases hlt : j < ts.length
    · obtain ⟨hfl, hfc0⟩ := HF.out.grow HG.out
      obtain ⟨bk, o, rfl, hcf⟩ := hfc0 (by omega)
      have hfj := (hcf j (.bool ts[j]) (by simp [hlt])).1
      have hrd := kread_any (flip ts[j] r) ts[j] R rc wr w.heap.size HG.out.size (by rw [flip_flip, flip_length]; exact HR.out) (by rw [flip_length]; omega) (by rw [flip_length]; omega) (fun v r' hk W c hv => copy_any v (kd_sml _ _ _ _ _ (by rw [flip_length]; omega) hk).2 W c hv)
      rw [flip_length] at hrd
      obtain ⟨t, ht⟩ : ∃ t, ts[j] = t := ⟨_, rfl⟩
      rw [ht] at hrd hfj
      have HTJ := hide ht
      clear hcf hfl ht
      cases hkd : kd false 17 (flip t r) with
      | none =>
        rw [hkd] at hrd
        have HRD := hide hrd
        have HN := hide (partsK_none (HPS.out.fail hlt (by rw [HTJ.out]; exact hkd)))
        clear hrd hkd
        go_wp2_with fail
        refine HRD.out.mono ?_
        rintro e w2 ⟨hg2, hn2, -⟩
        obtain rfl := hn2 rfl
        have HG2 := hide (HG.out.trans hg2)
        clear hn2 hg2
        go_wp2_with fail
        go_ret2
        exact KPartsS.no HN.out (HG2.out.alloc _)
      | some xr =>
        obtain ⟨xv, r'⟩ := xr
        rw [hkd] at hrd
        have HRD := hide hrd
        have HKD := hide hkd
        clear hrd hkd
        go_wp2_with fail
        refine HRD.out.mono ?_
        rintro e w2 ⟨hg2, -, hy2⟩
        obtain ⟨c2, A2, cap2, rfl, hin2, hc2, hr2⟩ := hy2 _ _ rfl
        have hg2' := hg2
        have hrl : r'.length ≤ r.length := by
          obtain ⟨⟨p, e, _⟩, _⟩ := kd_tail _ _ _ _ _ HKD.out
          have := congrArg List.length e
          rw [List.length_append, flip_length] at this; omega
        have hx20 : xv.mild := kd_mild HKD.out (by decide) (by rw [flip_length]; omega)
        have hel : es.length ≤ 1000000000 := by have := HEJ.out; omega
        have hwz := HG.out.size
        have hv2 := HV.out.grow hg2
        have hown2 := hv2.own
        have hz2 := hg2.size
        have hd := (Blk.new w2 27 c2.cells).cell
        have HIN := hide hin2
        have HR2 := hide hr2
        have HV2 := hide hv2
        have HG2 := hide (HG.out.trans hg2)
        clear hy2 hin2 hr2 hv2 hg2 hg2' hfj
        go_wp2_with (first | (at_builtin; refine wpList_append_src rfl (.tmp 38) (.tmp 40) 24 24 rfl w.heap.size 27 i0 _ 5 88 under_vals Hi0.out Hz0.out Hz1.out Hz2.out rfl (.slice A es.length cap) es.length (cellsOf noHead es) rfl ((hown2.alloc _).alloc _) _ 1 c2.cells.toList rfl (Src.oneV2 c2 _) (by omega) (by simp only [maxLen]; omega) (by simp; omega) ?_; intro A3 c3 w3 hown3 hgr3 hat3) | fail)
        have HV4 := hide (VRow.add (s := ⟨#[]⟩) (m0 := wr.heap.size) (HV2.out.grow ((Grow.refl w2).alloc (.cells c2.cells 27))) (fun k hk => (HV.out.own_lt hk).2) (by omega) hwz (fun y hy => (HV.out.part y hy).2.2.2.1) ((HIN.out.grow ((Grow.refl w2).alloc (.cells c2.cells 27))).wider (Nat.le_refl _) (by simp) (Nat.le_refl _)) hown3 hgr3 hat3)
        have HG4 := hide (((HG2.out.alloc _).alloc _).grown hgr3 (fun k hk => (HV2.out.own_lt hk).1))
        clear hown2 hown3 hgr3 hat3 hd
        go_roundg gk'
        case measure => omega
        case rel =>
          have hn : (es ++ [(⟨⟨#[]⟩, xv, c2, wr.heap.size, (w2.alloc (.cells c2.cells 27)).heap.size⟩ : VE)]).length = es.length + 1 := by simp
          exact ⟨j + 1, es ++ [⟨⟨#[]⟩, xv, c2, wr.heap.size, (w2.alloc (.cells c2.cells 27)).heap.size⟩], A3, c3, flip t r', A2, cap2, by omega, by omega, by go_num, by rw [hn], by rw [flip_length], by rw [hn, HEJ.out], by rw [flip_length]; exact hc2, by rw [flip_length]; exact Reads.mono (fun p u h => ⟨(HG4.out.below.cell h.2.2).trans ((HG2.out.below.cell h.2.2).symm.trans h.1), h.2⟩) HR2.out, by rw [flip_length]; omega, by
            have h := HPS.out.step (x := ⟨⟨#[]⟩, xv, c2, wr.heap.size, (w2.alloc (.cells c2.cells 27)).heap.size⟩) hlt (by rw [HTJ.out]; exact HKD.out)
            rwa [HTJ.out] at h, fun x hx => by
              rcases List.mem_append.1 hx with hx | hx
              · exact HCN.out x hx
              · rw [List.mem_singleton] at hx; subst hx; exact hx20, by rw [hn]; exact HV4.out, HG4.out⟩
    · obtain rfl : j = ts.length := by omega
      have hPD := HPS.out.done
      have HPD := hide hPD
      have hel : es.length ≤ 1000000000 := by have := HEJ.out; omega
      have hwz := HG.out.size
      have hL := HV.out.list rfl (Nat.le_refl _) hw0 (by omega)
      have HALL := hide (all_anyM (es.map VE.v) ts A F cap fc wr (fun v hv => by obtain ⟨x, hx, rfl⟩ := List.mem_map.1 hv; exact HCN.out x hx) (HT.out.grow HG.out) (IsV.mono (fun _ _ h => ⟨h.1, Nat.zero_le _, h.2.2⟩) _ _ hL) (HF.out.grow HG.out) (by omega))
      rw [List.length_map] at HALL
      obtain ⟨KB, ke, hke⟩ : ∃ kb ke, allK (es.map VE.v) ts = (kb, ke) := ⟨_, _, rfl⟩
      rw [hke] at HALL
      have HKE := hide hke
      clear hPD hL hke
      go_wp2_with fail
      refine HALL.out.mono ?_
      rintro e w2 ⟨base2, A2, c2, rfl, hb2, hr2, hg2⟩
      dsimp only at hr2 ⊢
      have HG2 := hide (HG.out.trans hg2)
      have HR2 := hide hr2.reads.1
      have HGA := hide hg2
      clear hr2 hb2
      by_cases hk0 : ke = 0
      · subst hk0
        have HBQ := hide (beq_any KB b A2 B c2 bc w2 HR2.out (HB.out.grow HG2.out))
        cases hkb : (KB == b) with
        | false =>
          rw [hkb] at HBQ
          have HN := hide (partsK_other HPD.out (by rw [HKE.out]; intro e; injection e with e; rw [e] at hkb; simp at hkb))
          go_wp2_with fail
          refine HBQ.out.mono ?_
          rintro e w3 ⟨rfl, rfl⟩
          go_wp2_with fail
          go_ret2
          exact KPartsS.no HN.out HG2.out
        | true =>
          rw [hkb] at HBQ
          have HY := hide (partsK_yes HPD.out (by rw [HKE.out]; simp at hkb; rw [hkb]))
          obtain ⟨cur2, hcur2, hmk2⟩ := make_valsN es.length (by omega)
          have hv2 := HV.out.grow HGA.out
          have HV2 := hide hv2
          have hmade : (w2.alloc (.cells cur2 27)).ownsRow w2.heap.size 27 5 (.slice (some ⟨w2.heap.size, 0, none⟩) 0 es.length) 0 (cellsOf noHead []) := World.ownsRow_made w2 cur2 es.length (Nat.le_refl _) (by simp only [maxLen]; omega) (by omega)
          have HM := hide hmade
          have HSRC := hide (src_vals (hv2.own.alloc (.cells cur2 27)))
          clear hv2 hmade hcur2
          go_wp2_with fail
          refine HBQ.out.mono ?_
          rintro e w3 ⟨rfl, rfl⟩
          go_wp2_with (first | (at_builtin; refine wpList_append_src rfl (.tmp 60) (.tmp 61) 24 24 rfl w3.heap.size 27 i0 _ 5 88 under_vals Hi0.out Hz0.out Hz1.out Hz2.out rfl (.slice (some ⟨w3.heap.size, 0, none⟩) 0 es.length) 0 (cellsOf noHead []) rfl HM.out _ es.length (cellsOf noHead es) rfl HSRC.out (by omega) (by simp only [maxLen]; omega) (by simp) ?_; intro A5 c5 w5 hown5 hgr5 hat5) | fail)
          rw [Nat.zero_add] at hown5 hat5
          have hz3 := HG2.out.size
          have hv5 := HV2.out.moved (W' := w5) (base' := w3.heap.size) (A' := A5) (n := es.length) (cap' := c5) (by have := hgr5.size; simp at this; omega) (fun k hk => (hgr5.block k (by simp; omega) (fun e => by have e2 : k = w3.heap.size := Option.some.inj e; omega)).trans (((Grow.refl w3).alloc _).below.block k hk)) (Nat.le_refl _) hown5
          have HGF := hide ((HG2.out.alloc (.cells cur2 27)).grown hgr5 (fun k e => by have e2 : w3.heap.size = k := Option.some.inj e; omega))
          have HL5 := hide (hv5.isLK rfl hz3 (by omega) (by omega))
          clear hv5 hown5 hgr5 hat5
          go_ret2
          refine ⟨HGF.out, fun l e => ?_, fun e => by rw [HY.out] at e; cases e⟩
          rw [HY.out] at e
          injection e with e
          subst e
          exact ⟨A5, c5, by rw [List.length_map]; rfl, Nat.le_refl _, by have h := HL5.out; rw [List.length_map]; exact IsS.mono _ _ _ _ (fun _ _ q _ => q.1) (fun _ q => q) h⟩
      · have hkq : (ke != 0) = true := by simpa using hk0
        have HN := hide (partsK_other HPD.out (by rw [HKE.out]; intro e; injection e with e1 e2; exact hk0 e2))
        go_wp2_with fail
        go_ret2
        exact KPartsS.no HN.out HG2.out
set_option maxRecDepth 100000 in
set_option maxHeartbeats 6400000 in
theorem kbackS_any (b : List UInt8) (B : Option Addr) (bc : Nat) (w : World) (hb : InB w B b)
    (hparts : ∀ W F fc, Grow w W → InB W B b → InBo W F [false] → Calls Tryd.prog 24 #[.slice B b.length bc, .slice F 1 fc] W (KPartsS W (partsK (kd false 17) [false] b))) :
    Calls Tryd.prog 17 #[.slice B b.length bc] w (KBackS w (backK (kd false 17) b)) := by
  have hg0 : Grow w (w.alloc (.cells Cv.zero.cells 27)) := (Grow.refl w).alloc _
  have hg1 := hg0.alloc (.cells #[.bool false] 4)
  have HG1 := hide hg1
  have HB1 := hide ((Blk.new w 27 Cv.zero.cells).alloc (.cells #[.bool false] 4))
  have hF : InBo ((w.alloc (.cells Cv.zero.cells 27)).alloc (.cells #[.bool false] 4)) (some ⟨w.heap.size + 1, 0, none⟩) [false] := by
    refine ⟨rfl, fun _ => ⟨_, _, rfl, fun j u hu => ?_⟩⟩
    have hn := Blk.new' (w := w.alloc (.cells Cv.zero.cells 27)) (g := w.heap.size + 1) (by simp) 4 #[.bool false]
    cases j with
    | zero => cases hu; exact ⟨hn.cell 0, Nat.zero_le _, hn.lt⟩
    | succ j => simp at hu
  have HP := hide (hparts _ _ 1 hg1 (hb.grow hg1) hF)
  rw [partsK_one] at HP
  clear hF hg0 hg1 hparts hb
  go_enter Tryd.func17, Tryd.ntmps17
  go_wp2_with fail
  refine HP.out.mono ?_
  rintro e w1 ⟨hg2, hy, hn⟩
  have HG2 := hide (HG1.out.trans hg2)
  have HB2 := hide (HB1.out.grow hg2)
  have hc1 := HB2.out.cell
  have hlt1 := HB2.out.lt
  have hz1 := HB2.out.frozen
  cases hk : backK (kd false 17) b with
  | none =>
    have HKK := hide hk
    rw [hk] at hn
    obtain rfl := hn rfl
    clear hy hn hk hg2
    go_wp2_with fail
    refine bodyPost_ret (back_res rfl rfl rfl Cv.zero (set5_blk (c := Cv.zero) HB2.out)) rfl (KBackS.no HKK.out (HG2.out.set5v (Nat.le_refl _) Cv.zero))
  | some v =>
    have HKK := hide hk
    rw [hk] at hy
    obtain ⟨A, cap, rfl, hv⟩ := hy _ rfl
    obtain ⟨bk, o, x, rfl, hbk, h5, hx⟩ := iss_first hv
    obtain ⟨⟨e0, _⟩, ⟨e1, _⟩, ⟨e2, _⟩, ⟨e3, _⟩, ⟨e4, _⟩⟩ := h5
    have HX := hide hx
    clear hy hn hk hg2 hv hx
    go_wp2_with fail
    refine bodyPost_ret (back_res rfl rfl rfl x (set5_from (c := x) HB2.out)) rfl (KBackS.yes HKK.out (HG2.out.set5v (Nat.le_refl _) x) (inS_set5 HX.out (by simp only [World.size_alloc]; omega) (by simp only [World.size_alloc]; omega) x))
end Go.Proofs.YtpjhhkndfmcaoaaDoor
