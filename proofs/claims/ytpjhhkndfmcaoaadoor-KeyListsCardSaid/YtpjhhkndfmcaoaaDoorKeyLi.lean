/- Walk of the law KeyLists: keys of two values each go by the first that differs, each by its own way. -/
import Derived.Test.YtpjhhkndfmcaoaaDoorKeyOr
set_option linter.unusedVariables false
set_option linter.unusedSimpArgs false
namespace Go.Proofs.YtpjhhkndfmcaoaaDoor
open Go.RowKit Go.Shelf

theorem boolsO2 (w : World) (s t : Bool) : InBo (w.alloc (.cells #[.bool s, .bool t] 4)) (some ⟨w.heap.size, 0, none⟩) [s, t] := by
  refine ⟨rfl, fun _ => ⟨_, _, rfl, fun j u hu => ?_⟩⟩
  have hn := Blk.new w 4 #[.bool s, .bool t]
  rcases j with _ | _ | j
  · cases hu; exact ⟨hn.cell 0, Nat.zero_le _, hn.lt⟩
  · cases hu; exact ⟨hn.cell 1, Nat.zero_le _, hn.lt⟩
  · simp at hu
/-- What key.All tells of two values. -/
theorem kall_twoO (u v : V) (s t : Bool) (A F : Option Addr) (cap fc : Nat) (w : World) (h1 : u.mild) (h2 : v.mild) (hT : Tabs w) (hv : InL w A cap [u, v]) (hf : InBo w F [s, t]) :
    Calls Tryd.prog 23 #[.slice A 2 cap, .slice F 2 fc] w (OfC w (allK [u, v] [s, t])) :=
  all_anyM [u, v] [s, t] A F cap fc w (fun x hx => by
    rcases List.mem_cons.1 hx with rfl | hx
    · exact h1
    · rw [List.mem_singleton] at hx; subst hx; exact h2) hT hv hf (by simp)
theorem all_twoO {u v : V} {s t : Bool} {b : List UInt8} (h : allK [u, v] [s, t] = (b, 0)) : u.good = 0 ∧ v.good = 0 ∧ b = flip s u.key ++ flip t v.key := by
  obtain ⟨-, h2, h3, -⟩ := allK_ok h
  refine ⟨h2 u (by simp), h2 v (by simp), ?_⟩
  rw [← h3]
  simp [allB]

set_option maxRecDepth 100000 in
set_option maxHeartbeats 12800000 in
theorem klists_any (a b c d : V) (ca cb cc cd : Cv) (s t : Bool) (w : World) (hT : Tabs w) (ha : In w a ca) (hb : In w b cb) (hc : In w c cc) (hd : In w d cd) :
    Calls Tryd.prog 13 #[ca.agg, cb.agg, cc.agg, cd.agg, .bool s, .bool t] w fun e w' => e = .returned (.bool true) ∧ Grow w w' := by
  have HG0 := hide (((((Grow.refl w).alloc (.cells ca.cells 27)).alloc (.cells cb.cells 27)).alloc (.cells cc.cells 27)).alloc (.cells cd.cells 27))
  have HA0 := hide ((((Blk.new w 27 ca.cells).alloc (.cells cb.cells 27)).alloc (.cells cc.cells 27)).alloc (.cells cd.cells 27))
  have HB0 := hide (((Blk.new' (w := w.alloc (.cells ca.cells 27)) (g := w.heap.size + 1) (by simp) 27 cb.cells).alloc (.cells cc.cells 27)).alloc (.cells cd.cells 27))
  have HC0 := hide ((Blk.new' (w := (w.alloc (.cells ca.cells 27)).alloc (.cells cb.cells 27)) (g := w.heap.size + 1 + 1) (by simp) 27 cc.cells).alloc (.cells cd.cells 27))
  have HD0 := hide (Blk.new' (w := ((w.alloc (.cells ca.cells 27)).alloc (.cells cb.cells 27)).alloc (.cells cc.cells 27)) (g := w.heap.size + 1 + 1 + 1) (by simp) 27 cd.cells)
  have HT := hide hT
  have IA := hide ha
  have IB := hide hb
  have IC := hide hc
  have ID := hide hd
  clear hT ha hb hc hd
  go_enter Tryd.func13, Tryd.ntmps13
  go_wp2_with fail
  refine (kawake_any _ (HT.out.grow HG0.out)).mono ?_
  rintro e w1 ⟨rfl, hg⟩
  have HG1 := hide (HG0.out.trans hg)
  have HA1 := hide (HA0.out.grow hg)
  have hca1 := HA1.out.cell
  have hla1 := HA1.out.lt
  have HB1 := hide (HB0.out.grow hg)
  have hcb1 := HB1.out.cell
  have hlb1 := HB1.out.lt
  have HC1 := hide (HC0.out.grow hg)
  have hcc1 := HC1.out.cell
  have hlc1 := HC1.out.lt
  have HD1 := hide (HD0.out.grow hg)
  have hcd1 := HD1.out.cell
  have hld1 := HD1.out.lt
  clear hg
  have HROW := hide (InL.row4 (IA.out.grow HG1.out) (IB.out.grow HG1.out) (IC.out.grow HG1.out) (ID.out.grow HG1.out))
  go_wp2_with fail
  refine (vast_any [a, b, c, d] _ 4 _ HROW.out).mono ?_
  rintro e w2 ⟨rfl, hg2⟩
  have hg := ((Grow.refl w1).alloc (.cells (cells4 ca cb cc cd) 27)).trans hg2
  clear hg2 HROW
  have HG2 := hide (HG1.out.trans hg)
  have HA2 := hide (HA1.out.grow hg)
  have hca2 := HA2.out.cell
  have hla2 := HA2.out.lt
  have HB2 := hide (HB1.out.grow hg)
  have hcb2 := HB2.out.cell
  have hlb2 := HB2.out.lt
  have HC2 := hide (HC1.out.grow hg)
  have hcc2 := HC2.out.cell
  have hlc2 := HC2.out.lt
  have HD2 := hide (HD1.out.grow hg)
  have hcd2 := HD2.out.cell
  have hld2 := HD2.out.lt
  clear hg
  try clear hca1 hla1 hcb1 hlb1 hcc1 hlc1 hcd1 hld1
  by_cases hbig : 20000 ≤ (List.map V.count [a, b, c, d]).sum
  · rw [decide_eq_true hbig]
    go_wp2_with fail
    go_ret
    exact ⟨rfl, HG2.out⟩
  rw [decide_eq_false hbig]
  have hca : a.count ≤ 20000 := by simp at hbig; omega
  have hcb : b.count ≤ 20000 := by simp at hbig; omega
  have hcc : c.count ≤ 20000 := by simp at hbig; omega
  have hcd : d.count ≤ 20000 := by simp at hbig; omega
  clear hbig
  have MA := hide (V.mild_of hca IA.out)
  have MB := hide (V.mild_of hcb IB.out)
  have MC := hide (V.mild_of hcc IC.out)
  have MD := hide (V.mild_of hcd ID.out)
  clear hca hcb hcc hcd
  have HBO := hide (boolsO2 w2 s t)
  have hgb := (Grow.refl w2).alloc (.cells #[.bool s, .bool t] 4)
  have hr3 := InL.row2 (IA.out.grow (HG2.out.trans hgb)) (IB.out.grow (HG2.out.trans hgb))
  simp only [World.size_alloc] at hr3
  have hgc := hgb.alloc (.cells (cells2 ca cb) 27)
  have HAL := hide (kall_twoO a b s t _ _ 2 2 _ MA.out MB.out (HT.out.grow (HG2.out.trans hgc)) hr3 (HBO.out.grow ((Grow.refl _).alloc _)))
  obtain ⟨⟨xb, ex⟩, hxe⟩ : ∃ r, allK [a, b] [s, t] = r := ⟨_, rfl⟩
  obtain ⟨⟨yb, ey⟩, hye⟩ : ∃ r, allK [c, d] [s, t] = r := ⟨_, rfl⟩
  rw [hxe] at HAL
  have HXE := hide hxe
  have HYE := hide hye
  clear hxe hr3
  go_wp2_with fail
  refine HAL.out.mono ?_
  rintro e w3 ⟨bx, AX, cx, rfl, hbx, hrx, hg2⟩
  dsimp only at hrx ⊢
  have HRX3 := hide hrx
  have hg := hgc.trans hg2
  have HBO3 := hide (HBO.out.grow (((Grow.refl _).alloc (.cells (cells2 ca cb) 27)).trans hg2))
  clear hrx hbx hg2 hgc hgb HAL HBO
  have HG3 := hide (HG2.out.trans hg)
  have HA3 := hide (HA2.out.grow hg)
  have hca3 := HA3.out.cell
  have hla3 := HA3.out.lt
  have HB3 := hide (HB2.out.grow hg)
  have hcb3 := HB3.out.cell
  have hlb3 := HB3.out.lt
  have HC3 := hide (HC2.out.grow hg)
  have hcc3 := HC3.out.cell
  have hlc3 := HC3.out.lt
  have HD3 := hide (HD2.out.grow hg)
  have hcd3 := HD3.out.cell
  have hld3 := HD3.out.lt
  clear hg
  try clear hca2 hla2 hcb2 hlb2 hcc2 hlc2 hcd2 hld2
  have HR4 := hide (InL.row2 (IC.out.grow HG3.out) (ID.out.grow HG3.out))
  have hgc := (Grow.refl w3).alloc (.cells (cells2 cc cd) 27)
  have hal := kall_twoO c d s t _ _ 2 2 _ MC.out MD.out (HT.out.grow (HG3.out.trans hgc)) HR4.out (HBO3.out.grow hgc)
  rw [hye] at hal
  have HAL := hide hal
  clear hye hal
  go_wp2_with fail
  refine HAL.out.mono ?_
  rintro e w4 ⟨by_, AY, cy, rfl, hby, hry, hg2⟩
  dsimp only at hry ⊢
  have HRY4 := hide hry
  have hg := hgc.trans hg2
  clear hry hby hg2 hgc HAL HR4 HBO3
  have HG4 := hide (HG3.out.trans hg)
  have HA4 := hide (HA3.out.grow hg)
  have hca4 := HA4.out.cell
  have hla4 := HA4.out.lt
  have HB4 := hide (HB3.out.grow hg)
  have hcb4 := HB4.out.cell
  have hlb4 := HB4.out.lt
  have HC4 := hide (HC3.out.grow hg)
  have hcc4 := HC4.out.cell
  have hlc4 := HC4.out.lt
  have HD4 := hide (HD3.out.grow hg)
  have hcd4 := HD4.out.cell
  have hld4 := HD4.out.lt
  have HRX4 := hide (HRX3.out.grow hg)
  clear hg
  try clear hca3 hla3 hcb3 hlb3 hcc3 hlc3 hcd3 hld3
  by_cases h1 : ex = 0
  · subst h1
    by_cases h2 : ey = 0
    · subst h2
      obtain ⟨ga, gb, hxk⟩ := all_twoO HXE.out
      obtain ⟨gc, gd, hyk⟩ := all_twoO HYE.out
      have fa : Fine a := ⟨(V.good_formed ga).1, IsV.fit _ _ IA.out⟩
      have fb : Fine b := ⟨(V.good_formed gb).1, IsV.fit _ _ IB.out⟩
      have fc : Fine c := ⟨(V.good_formed gc).1, IsV.fit _ _ IC.out⟩
      have fd : Fine d := ⟨(V.good_formed gd).1, IsV.fit _ _ ID.out⟩
      have hcmp := V.two_cmp s t fa fb fc fd
      rw [← hxk, ← hyk] at hcmp
      have HC1 := hide (fun W (hg : Grow w W) => kvcompare_any a c ca cc W MA.out MC.out (HT.out.grow hg) (IA.out.grow hg) (IC.out.grow hg))
      have HC2 := hide (fun W (hg : Grow w W) => kvcompare_any b d cb cd W MB.out MD.out (HT.out.grow hg) (IB.out.grow hg) (ID.out.grow hg))
      rw [show cmpV a c = (V.cmp a c, 0) by unfold cmpV; rw [if_pos (by rw [ga, gc]; rfl)]] at HC1
      rw [show cmpV b d = (V.cmp b d, 0) by unfold cmpV; rw [if_pos (by rw [gb, gd]; rfl)]] at HC2
      dsimp only at HC1 HC2
      have hz1 := neg_wrap (V.cmp_vals fa fc)
      have hz2 := neg_wrap (V.cmp_vals fb fd)
      obtain ⟨z1, hzz1⟩ : ∃ z, V.cmp a c = z := ⟨_, rfl⟩
      obtain ⟨z2, hzz2⟩ : ∃ z, V.cmp b d = z := ⟨_, rfl⟩
      rw [hzz1] at HC1 hz1 hcmp
      rw [hzz2] at HC2 hz2 hcmp
      have HCMP := hide hcmp
      clear hcmp hzz1 hzz2 ga gb gc gd fa fb fc fd hxk hyk HXE HYE
      cases s <;> cases t <;> by_cases h0 : z1 = 0
      all_goals
        first
        | (subst h0; skip)
        | (have hq : (z1 == 0) = false := by simpa using h0)
        try have hq' : (-z1 == 0) = false := by simp; omega
        have HOR := hide HCMP.out
        simp only [V.sgnC, if_true, Bool.false_eq_true, if_false] at HOR
        go_wp2_with fail
        refine (HC1.out _ HG4.out).mono ?_
        rintro e w5 ⟨rfl, hg⟩
        have HG5 := hide (HG4.out.trans hg)
        have HA5 := hide (HA4.out.grow hg)
        have hca5 := HA5.out.cell
        have hla5 := HA5.out.lt
        have HB5 := hide (HB4.out.grow hg)
        have hcb5 := HB5.out.cell
        have hlb5 := HB5.out.lt
        have HC5 := hide (HC4.out.grow hg)
        have hcc5 := HC5.out.cell
        have hlc5 := HC5.out.lt
        have HD5 := hide (HD4.out.grow hg)
        have hcd5 := HD5.out.cell
        have hld5 := HD5.out.lt
        have HRX5 := hide (HRX4.out.grow hg)
        have HRY5 := hide (HRY4.out.grow hg)
        clear hg
        try clear hca4 hla4 hcb4 hlb4 hcc4 hlc4 hcd4 hld4
        go_wp2_with fail
        refine (HC2.out _ HG5.out).mono ?_
        rintro e w6 ⟨rfl, hg⟩
        have HG6 := hide (HG5.out.trans hg)
        have HA6 := hide (HA5.out.grow hg)
        have hca6 := HA6.out.cell
        have hla6 := HA6.out.lt
        have HB6 := hide (HB5.out.grow hg)
        have hcb6 := HB6.out.cell
        have hlb6 := HB6.out.lt
        have HC6 := hide (HC5.out.grow hg)
        have hcc6 := HC6.out.cell
        have hlc6 := HC6.out.lt
        have HD6 := hide (HD5.out.grow hg)
        have hcd6 := HD6.out.cell
        have hld6 := HD6.out.lt
        have HRX6 := hide (HRX5.out.grow hg)
        have HRY6 := hide (HRY5.out.grow hg)
        clear hg
        try clear hca5 hla5 hcb5 hlb5 hcc5 hlc5 hcd5 hld5
        have hk := kcmp_any xb yb AX AY cx cy w6 (row_inO HRX6.out rfl) (row_inO HRY6.out rfl)
        rw [HOR.out] at hk
        try rw [orC_n _ h0] at hk
        try rw [orC_n _ (show -z1 ≠ 0 by omega)] at hk
        try rw [show (-(0 : Int)) = 0 from rfl] at hk
        try rw [orC_0] at hk
        have HK := hide (hk.mono fun e w' h => (⟨h.1, h.2.symm⟩ : _ ∧ w6 = w'))
        try clear h0
        clear hk HCMP HOR
        go_wp2_with (go_at_call 48; refine HK.out.mono ?_; rintro e w' ⟨rfl, rfl⟩)
        go_ret
        exact ⟨rfl, HG6.out⟩
    · have hq : (ey != 0) = true := by simpa using h2
      clear h2
      go_wp2_with fail
      go_ret
      exact ⟨rfl, HG4.out⟩
  · have hq : (ex != 0) = true := by simpa using h1
    clear h1
    go_wp2_with fail
    go_ret
    exact ⟨rfl, HG4.out⟩
end Go.Proofs.YtpjhhkndfmcaoaaDoor
