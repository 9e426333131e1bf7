/- Walk of the law ValChain: an order on all good values. -/
import Derived.Test.YtpjhhkndfmcaoaaDoorVoO
import Derived.Deep.DeepCutAuto
set_option linter.unusedVariables false
set_option linter.unusedSimpArgs false
namespace Go.Proofs.YtpjhhkndfmcaoaaDoor
open Go.RowKit Go.Shelf

/-! The order, plainly. -/

theorem cmpB_vals : ∀ (a b : List UInt8), Lib.compareBytes a b = -1 ∨ Lib.compareBytes a b = 0 ∨ Lib.compareBytes a b = 1 := fun a b => by
  fun_induction Lib.compareBytes a b <;> simp_all
theorem cmpB_trans : ∀ (a b c : List UInt8), Lib.compareBytes a b ≤ 0 → Lib.compareBytes b c ≤ 0 → Lib.compareBytes a c ≤ 0 ∧ (Lib.compareBytes a b < 0 → Lib.compareBytes a c < 0)
  | [], [], c, _, h => ⟨h, fun h => by simp [Lib.compareBytes] at h⟩
  | [], _ :: _, [], _, h => by simp [Lib.compareBytes] at h
  | [], _ :: _, _ :: _, _, _ => by simp [Lib.compareBytes]
  | _ :: _, [], _, h, _ => by simp [Lib.compareBytes] at h
  | _ :: _, _ :: _, [], _, h => by simp [Lib.compareBytes] at h
  | x :: a, y :: b, z :: c, h, k => by
    rw [Lib.compareBytes] at h k ⊢
    simp only [UInt8.lt_iff_toNat_lt] at h k ⊢
    rw [Lib.compareBytes]
    simp only [UInt8.lt_iff_toNat_lt]
    by_cases h1 : x.toNat < y.toNat
    · by_cases k1 : y.toNat < z.toNat
      · rw [if_pos (show x.toNat < z.toNat by omega)]; exact ⟨by decide, fun _ => by decide⟩
      · rw [if_neg k1] at k
        by_cases k2 : z.toNat < y.toNat
        · rw [if_pos k2] at k; exact absurd k (by decide)
        · rw [if_pos (show x.toNat < z.toNat by omega)]; exact ⟨by decide, fun _ => by decide⟩
    · rw [if_neg h1] at h ⊢
      by_cases h2 : y.toNat < x.toNat
      · rw [if_pos h2] at h; exact absurd h (by decide)
      · rw [if_neg h2] at h ⊢
        by_cases k1 : y.toNat < z.toNat
        · rw [if_pos (show x.toNat < z.toNat by omega)]; exact ⟨by decide, fun _ => by decide⟩
        · rw [if_neg k1] at k
          by_cases k2 : z.toNat < y.toNat
          · rw [if_pos k2] at k; exact absurd k (by decide)
          · rw [if_neg k2] at k
            rw [if_neg (show ¬ x.toNat < z.toNat by omega), if_neg (show ¬ z.toNat < x.toNat by omega)]
            exact cmpB_trans a b c h k
/-- A good value as it lies in the world. -/
structure Fine (u : V) : Prop where
  formed : u.formed = true
  fit : u.fit
namespace V
theorem cmp_bytes {u v : V} (hu : Fine u) (hv : Fine v) : cmp u v = Lib.compareBytes u.key v.key := by
  rcases key_diff u v hu.formed hu.fit hv.formed hv.fit with ⟨rfl, h⟩ | h
  · rw [h, cmpB_self]
  · exact h.cmp.symm
theorem cmp_vals {u v : V} (hu : Fine u) (hv : Fine v) : cmp u v = -1 ∨ cmp u v = 0 ∨ cmp u v = 1 := by rw [cmp_bytes hu hv]; exact cmpB_vals _ _
theorem cmp_self {u : V} (hu : Fine u) : cmp u u = 0 := by rw [cmp_bytes hu hu]; exact cmpB_self _
theorem cmp_eq0 {u v : V} (hu : Fine u) (hv : Fine v) : cmp u v = 0 ↔ u = v := by
  rcases key_diff u v hu.formed hu.fit hv.formed hv.fit with ⟨rfl, h⟩ | h
  · exact ⟨fun _ => rfl, fun _ => h⟩
  · exact ⟨fun e => absurd e h.ne0, fun e => by subst e; exact h.irrefl.elim⟩
theorem cmp_swap {u v : V} (hu : Fine u) (hv : Fine v) : cmp v u = -(cmp u v) := by
  rcases key_diff u v hu.formed hu.fit hv.formed hv.fit with ⟨rfl, h⟩ | h
  · rw [h]; rfl
  · rcases key_diff v u hv.formed hv.fit hu.formed hu.fit with ⟨rfl, h'⟩ | h'
    · exact h.irrefl.elim
    · exact h'.uniq h.swap
theorem cmp_trans {u v x : V} (hu : Fine u) (hv : Fine v) (hx : Fine x) (h : cmp u v ≤ 0) (k : cmp v x ≤ 0) : cmp u x ≤ 0 ∧ (cmp u v < 0 → cmp u x < 0) := by
  rw [cmp_bytes hu hv] at h ⊢
  rw [cmp_bytes hv hx] at k
  rw [cmp_bytes hu hx]
  exact cmpB_trans _ _ _ h k
theorem cmp_lists {x u v : V} (hx : Fine x) : cmp (mk 7 0 [] [x, u] []) (mk 7 0 [] [x, v] []) = cmp u v := by
  rw [cmp_mk, if_neg (by simp), if_neg (by decide), if_neg (by decide), if_neg (by decide)]
  have e0 : cmpF [] [] = 0 := rfl
  have e1 : cmpL [x, u] [x, v] = orC (cmp x x) (orC (cmp u v) 0) := rfl
  rw [e0, e1, cmp_self hx, orC_0]
  have e2 : sg (([x, u].length + ([] : List (ByteArray × V)).length : Nat) : Int) (([x, v].length + ([] : List (ByteArray × V)).length : Nat) : Int) = 0 := rfl
  rw [e2]
  unfold orC; repeat' split
  all_goals simp_all
end V

theorem cellresW {F : Func} {W : World} {vb : Nat} {tmps : Array Value} (hF : F.results = #[ResultVar.cell 2 27]) (h2 : tmps.getD 2 undef = .pointer (some ⟨vb, 0, none⟩)) (c : Cv) (hv : Blk W vb 27 c.cells) :
    (results F tmps).run Tryd.prog W = .ok c.agg W := by
  have hvc := hv.cell
  have h2' : tmps[2]?.getD undef = .pointer (some ⟨vb, 0, none⟩) := by simpa using h2
  simp [results, hF, go_sem, h2', hvc]
theorem Lval_any (A : Option Addr) (n cap : Nat) (w : World) : Calls Tryd.prog 41 #[.slice A n cap] w fun e w' => e = .returned (Cv.agg ⟨7, 0, none, 0, 0, A, n, cap, none, 0, 0⟩) ∧ Grow w w' := by
  go_enter Tryd.func41, Tryd.ntmps41
  go_wp2_with fail
  exact bodyPost_ret (cellresW rfl rfl ⟨7, 0, none, 0, 0, A, n, cap, none, 0, 0⟩ (Blk.new w _ _)) rfl ⟨rfl, (Grow.refl w).alloc _⟩

set_option maxRecDepth 100000 in
set_option maxHeartbeats 6400000 in
theorem chain_any (a b x : V) (ca cb cx : Cv) (w : World) (hT : Tabs w) (ha : In w a ca) (hb : In w b cb) (hx : In w x cx) :
    Calls Tryd.prog 8 #[ca.agg, cb.agg, cx.agg] w fun e w' => e = .returned (.bool true) ∧ Grow w w' := by
  have HG0 := hide ((((Grow.refl w).alloc (.cells ca.cells 27)).alloc (.cells cb.cells 27)).alloc (.cells cx.cells 27))
  have HA0 := hide (((Blk.new w 27 ca.cells).alloc (.cells cb.cells 27)).alloc (.cells cx.cells 27))
  have HB0 := hide ((Blk.new' (w := w.alloc (.cells ca.cells 27)) (g := w.heap.size + 1) (by simp) 27 cb.cells).alloc (.cells cx.cells 27))
  have HX0 := hide (Blk.new' (w := (w.alloc (.cells ca.cells 27)).alloc (.cells cb.cells 27)) (g := w.heap.size + 1 + 1) (by simp) 27 cx.cells)
  have HT := hide hT
  have HA := hide ha
  have HB := hide hb
  have HX := hide hx
  clear hT ha hb hx
  go_enter Tryd.func8, Tryd.ntmps8
  go_wp2_with fail
  refine (awake_any _ (HT.out.grow HG0.out)).mono ?_
  rintro e w1 ⟨rfl, hg⟩
  have HG1 := hide (HG0.out.trans hg)
  have HA1 := hide (HA0.out.grow hg)
  have HB1 := hide (HB0.out.grow hg)
  have HX1 := hide (HX0.out.grow hg)
  have hca1 := HA1.out.cell
  have hcb1 := HB1.out.cell
  have hcx1 := HX1.out.cell
  have hla1 := HA1.out.lt
  have hlb1 := HB1.out.lt
  have hlx1 := HX1.out.lt
  clear hg
  have HROW := hide (InL.row3 (HA.out.grow HG1.out) (HB.out.grow HG1.out) (HX.out.grow HG1.out))
  go_wp2_with fail
  refine (vast_any [a, b, x] _ 3 _ HROW.out).mono ?_
  rintro e w2 ⟨rfl, hg2⟩
  have hg := ((Grow.refl w1).alloc (.cells (cells3 ca cb cx) 27)).trans hg2
  clear hg2 HROW
  have HG2 := hide (HG1.out.trans hg)
  have HA2 := hide (HA1.out.grow hg)
  have HB2 := hide (HB1.out.grow hg)
  have HX2 := hide (HX1.out.grow hg)
  have hca2 := HA2.out.cell
  have hcb2 := HB2.out.cell
  have hcx2 := HX2.out.cell
  have hla2 := HA2.out.lt
  have hlb2 := HB2.out.lt
  have hlx2 := HX2.out.lt
  clear hg
  clear hca1 hcb1 hcx1 hla1 hlb1 hlx1
  by_cases hbig : 20000 ≤ (List.map V.count [a, b, x]).sum
  · rw [decide_eq_true hbig]
    go_wp2_with fail
    go_ret
    exact ⟨rfl, HG2.out⟩
  rw [decide_eq_false hbig]
  have hca : a.count ≤ 20000 := by simp at hbig; omega
  have hcb : b.count ≤ 20000 := by simp at hbig; omega
  have hcx : x.count ≤ 20000 := by simp at hbig; omega
  have hcxa : (V.mk 7 0 [] [x, a] []).count ≤ 20000 := by rw [V.count_mk]; simp at hbig ⊢; omega
  have hcxb : (V.mk 7 0 [] [x, b] []).count ≤ 20000 := by rw [V.count_mk]; simp at hbig ⊢; omega
  clear hbig
  have HMA := hide (V.mild_of hca HA.out)
  have HMB := hide (V.mild_of hcb HB.out)
  have HMX := hide (V.mild_of hcx HX.out)
  have HCXA := hide hcxa
  have HCXB := hide hcxb
  clear hca hcb hcx hcxa hcxb
  have HGA := hide (fun W (hg : Grow w W) => good_anyM a W ca HMA.out (HT.out.grow hg) (HA.out.grow hg))
  have HGB := hide (fun W (hg : Grow w W) => good_anyM b W cb HMB.out (HT.out.grow hg) (HB.out.grow hg))
  have HGX := hide (fun W (hg : Grow w W) => good_anyM x W cx HMX.out (HT.out.grow hg) (HX.out.grow hg))
  have HKAB := hide (fun W (hg : Grow w W) => kvcompare_any a b ca cb W HMA.out HMB.out (HT.out.grow hg) (HA.out.grow hg) (HB.out.grow hg))
  have HKBA := hide (fun W (hg : Grow w W) => kvcompare_any b a cb ca W HMB.out HMA.out (HT.out.grow hg) (HB.out.grow hg) (HA.out.grow hg))
  have HKBX := hide (fun W (hg : Grow w W) => kvcompare_any b x cb cx W HMB.out HMX.out (HT.out.grow hg) (HB.out.grow hg) (HX.out.grow hg))
  have HKAX := hide (fun W (hg : Grow w W) => kvcompare_any a x ca cx W HMA.out HMX.out (HT.out.grow hg) (HA.out.grow hg) (HX.out.grow hg))
  obtain ⟨ga, hga⟩ : ∃ g, a.good = g := ⟨_, rfl⟩
  obtain ⟨gb, hgb⟩ : ∃ g, b.good = g := ⟨_, rfl⟩
  obtain ⟨gx, hgx⟩ : ∃ g, x.good = g := ⟨_, rfl⟩
  rw [hga] at HGA
  rw [hgb] at HGB
  rw [hgx] at HGX
  have HEA := hide hga
  have HEB := hide hgb
  have HEX := hide hgx
  have HFA := hide (fun (h : ga = 0) => (show Fine a from ⟨(V.good_formed (hga.trans h)).1, IsV.fit _ _ HA.out⟩))
  have HFB := hide (fun (h : gb = 0) => (show Fine b from ⟨(V.good_formed (hgb.trans h)).1, IsV.fit _ _ HB.out⟩))
  have HFX := hide (fun (h : gx = 0) => (show Fine x from ⟨(V.good_formed (hgx.trans h)).1, IsV.fit _ _ HX.out⟩))
  have HAB := hide (show cmpV a b = if orC ga gb = 0 then (V.cmp a b, 0) else (0, orC ga gb) by unfold cmpV; rw [hga, hgb])
  have HBA := hide (show cmpV b a = if orC gb ga = 0 then (V.cmp b a, 0) else (0, orC gb ga) by unfold cmpV; rw [hgb, hga])
  have HBX := hide (show cmpV b x = if orC gb gx = 0 then (V.cmp b x, 0) else (0, orC gb gx) by unfold cmpV; rw [hgb, hgx])
  have HAX := hide (show cmpV a x = if orC ga gx = 0 then (V.cmp a x, 0) else (0, orC ga gx) by unfold cmpV; rw [hga, hgx])
  clear hga hgb hgx
  obtain ⟨⟨ab1, ab2⟩, hab⟩ : ∃ r, cmpV a b = r := ⟨_, rfl⟩
  rw [hab] at HKAB HAB
  dsimp only at HKAB
  clear hab
  obtain ⟨⟨ba1, ba2⟩, hba⟩ : ∃ r, cmpV b a = r := ⟨_, rfl⟩
  rw [hba] at HKBA HBA
  dsimp only at HKBA
  clear hba
  obtain ⟨⟨bx1, bx2⟩, hbx⟩ : ∃ r, cmpV b x = r := ⟨_, rfl⟩
  rw [hbx] at HKBX HBX
  dsimp only at HKBX
  clear hbx
  obtain ⟨⟨ax1, ax2⟩, hax⟩ : ∃ r, cmpV a x = r := ⟨_, rfl⟩
  rw [hax] at HKAX HAX
  dsimp only at HKAX
  clear hax
  go_wp2_with fail
  refine (HKAB.out _ HG2.out).mono ?_
  rintro e w3 ⟨rfl, hg⟩
  have HG3 := hide (HG2.out.trans hg)
  have HA3 := hide (HA2.out.grow hg)
  have HB3 := hide (HB2.out.grow hg)
  have HX3 := hide (HX2.out.grow hg)
  have hca3 := HA3.out.cell
  have hcb3 := HB3.out.cell
  have hcx3 := HX3.out.cell
  have hla3 := HA3.out.lt
  have hlb3 := HB3.out.lt
  have hlx3 := HX3.out.lt
  clear hg
  clear hca2 hcb2 hcx2 hla2 hlb2 hlx2
  go_wp2_with fail
  refine (HKBA.out _ HG3.out).mono ?_
  rintro e w4 ⟨rfl, hg⟩
  have HG4 := hide (HG3.out.trans hg)
  have HA4 := hide (HA3.out.grow hg)
  have HB4 := hide (HB3.out.grow hg)
  have HX4 := hide (HX3.out.grow hg)
  have hca4 := HA4.out.cell
  have hcb4 := HB4.out.cell
  have hcx4 := HX4.out.cell
  have hla4 := HA4.out.lt
  have hlb4 := HB4.out.lt
  have hlx4 := HX4.out.lt
  clear hg
  clear hca3 hcb3 hcx3 hla3 hlb3 hlx3
  go_wp2_with fail
  refine (HKBX.out _ HG4.out).mono ?_
  rintro e w5 ⟨rfl, hg⟩
  have HG5 := hide (HG4.out.trans hg)
  have HA5 := hide (HA4.out.grow hg)
  have HB5 := hide (HB4.out.grow hg)
  have HX5 := hide (HX4.out.grow hg)
  have hca5 := HA5.out.cell
  have hcb5 := HB5.out.cell
  have hcx5 := HX5.out.cell
  have hla5 := HA5.out.lt
  have hlb5 := HB5.out.lt
  have hlx5 := HX5.out.lt
  clear hg
  clear hca4 hcb4 hcx4 hla4 hlb4 hlx4
  go_wp2_with fail
  refine (HKAX.out _ HG5.out).mono ?_
  rintro e w6 ⟨rfl, hg⟩
  have HG6 := hide (HG5.out.trans hg)
  have HA6 := hide (HA5.out.grow hg)
  have HB6 := hide (HB5.out.grow hg)
  have HX6 := hide (HX5.out.grow hg)
  have hca6 := HA6.out.cell
  have hcb6 := HB6.out.cell
  have hcx6 := HX6.out.cell
  have hla6 := HA6.out.lt
  have hlb6 := HB6.out.lt
  have hlx6 := HX6.out.lt
  clear hg
  clear hca5 hcb5 hcx5 hla5 hlb5 hlx5
  clear HKAB HKBA HKBX HKAX
  by_cases h1 : ga = 0
  · subst h1
    by_cases h2 : gb = 0
    · subst h2
      by_cases h3 : gx = 0
      · subst h3
        have hab := HAB.out
        have hba := HBA.out
        have hbx := HBX.out
        have hax := HAX.out
        rw [show orC 0 0 = 0 from rfl, if_pos rfl] at hab hba hbx hax
        injection hab with eab eab2
        injection hba with eba eba2
        injection hbx with ebx ebx2
        injection hax with eax eax2
        subst eab2 eba2 ebx2 eax2
        have fa := HFA.out rfl
        have fb := HFB.out rfl
        have fx := HFX.out rfl
        have hvals := V.cmp_vals fa fb
        have hvals2 := V.cmp_vals fb fx
        have hvals3 := V.cmp_vals fa fx
        have hswap := V.cmp_swap fa fb
        have heq := V.cmp_eq0 fa fb
        have htr := V.cmp_trans fa fb fx
        have HLS := hide (V.cmp_lists (x := x) (u := a) (v := b) fx)
        rw [← eab] at hvals hswap heq htr HLS
        rw [← eba] at hswap
        rw [← ebx] at hvals2 htr
        rw [← eax] at hvals3 htr
        subst hswap
        have hneg : IntKind.i64.wrap (-(-ab1)) = ab1 := by rcases hvals with rfl | rfl | rfl <;> decide
        have hneg2 : IntKind.i64.wrap (ab1) = ab1 := by rcases hvals with rfl | rfl | rfl <;> decide
        have HSM := hide (fun W (hg : Grow w W) => lawSame_any a b W ca cb (HA.out.grow hg) (HB.out.grow hg))
        have hsame : sameB a b = decide (ab1 = 0) := by unfold sameB; exact decide_eq_decide.2 heq.symm
        rw [hsame] at HSM
        have HTR := hide htr
        have HV1 := hide hvals
        have HV2 := hide hvals2
        have HV3 := hide hvals3
        clear hsame htr heq eab eba ebx eax fa fb fx hvals hvals2 hvals3
        go_upto_region 11 with fail
        go_cut [109] (fun t wx => t = .bool false ∧ Grow w6 wx)
        case first =>
          have hv1 := HV1.out
          have hv2 := HV2.out
          have hv3 := HV3.out
          rcases hv1 with rfl | rfl | rfl
          · rcases hv2 with rfl | rfl | rfl
            · have h := (HTR.out (by decide) (by decide)).2 (by decide)
              obtain rfl : ax1 = -1 := by omega
              go_wp2_with (go_at_call 40; refine (HSM.out _ HG6.out).mono ?_; rintro e wy ⟨rfl, hgy⟩)
              go_meet
              exact ⟨rfl, hgy⟩
            · have h := (HTR.out (by decide) (by decide)).2 (by decide)
              obtain rfl : ax1 = -1 := by omega
              go_wp2_with (go_at_call 40; refine (HSM.out _ HG6.out).mono ?_; rintro e wy ⟨rfl, hgy⟩)
              go_meet
              exact ⟨rfl, hgy⟩
            · go_wp2_with (go_at_call 40; refine (HSM.out _ HG6.out).mono ?_; rintro e wy ⟨rfl, hgy⟩)
              go_meet
              exact ⟨rfl, hgy⟩
          · rcases hv2 with rfl | rfl | rfl
            · have h := (HTR.out (by decide) (by decide)).1
              rcases hv3 with rfl | rfl | rfl
              · go_wp2_with (go_at_call 40; refine (HSM.out _ HG6.out).mono ?_; rintro e wy ⟨rfl, hgy⟩)
                go_meet
                exact ⟨rfl, hgy⟩
              · go_wp2_with (go_at_call 40; refine (HSM.out _ HG6.out).mono ?_; rintro e wy ⟨rfl, hgy⟩)
                go_meet
                exact ⟨rfl, hgy⟩
              · exact absurd h (by decide)
            · have h := (HTR.out (by decide) (by decide)).1
              rcases hv3 with rfl | rfl | rfl
              · go_wp2_with (go_at_call 40; refine (HSM.out _ HG6.out).mono ?_; rintro e wy ⟨rfl, hgy⟩)
                go_meet
                exact ⟨rfl, hgy⟩
              · go_wp2_with (go_at_call 40; refine (HSM.out _ HG6.out).mono ?_; rintro e wy ⟨rfl, hgy⟩)
                go_meet
                exact ⟨rfl, hgy⟩
              · exact absurd h (by decide)
            · go_wp2_with (go_at_call 40; refine (HSM.out _ HG6.out).mono ?_; rintro e wy ⟨rfl, hgy⟩)
              go_meet
              exact ⟨rfl, hgy⟩
          · go_wp2_with (go_at_call 40; refine (HSM.out _ HG6.out).mono ?_; rintro e wy ⟨rfl, hgy⟩)
            go_meet
            exact ⟨rfl, hgy⟩
        case rest =>
          obtain ⟨rfl, hg⟩ := hcut
          rename World => w7
          have HG7 := hide (HG6.out.trans hg)
          have HA7 := hide (HA6.out.grow hg)
          have HB7 := hide (HB6.out.grow hg)
          have HX7 := hide (HX6.out.grow hg)
          have hca7 := HA7.out.cell
          have hcb7 := HB7.out.cell
          have hcx7 := HX7.out.cell
          have hla7 := HA7.out.lt
          have hlb7 := HB7.out.lt
          have hlx7 := HX7.out.lt
          clear hg
          clear hca6 hcb6 hcx6 hla6 hlb6 hlx6
          obtain ⟨⟨r1, r2⟩, hr⟩ : ∃ r, cmpV (V.mk 7 0 [] [x, a] []) (V.mk 7 0 [] [x, b] []) = r := ⟨_, rfl⟩
          have HKL := hide (fun W A1 A2 (hg : Grow w W) (h1 : InL W A1 2 [x, a]) (h2 : InL W A2 2 [x, b]) => kvcompare_any (V.mk 7 0 [] [x, a] []) (V.mk 7 0 [] [x, b] []) _ _ W (V.mild_of HCXA.out h1) (V.mild_of HCXB.out h2) (HT.out.grow hg) h1 h2)
          rw [hr] at HKL
          dsimp only at HKL
          have HR := hide hr
          clear hr
          have HSTART := hide (show Grow w7 w7.drew from (Grow.refl w7).drew)
          go_upto_region 13 with fail
          go_cut [15, 8] (fun l e wx => l = .int .i64 r1 ∧ e = .int .i64 r2 ∧ Grow w7 wx)
          case first =>
            refine wp_region_noPanic ?_
            refine wp_region_held_drew (S := fun w' => ∀ b o, b < w7.heap.size → w'.cell? ⟨b, o, none⟩ = w7.cell? ⟨b, o, none⟩) (by kernel_rfl) (fun _ _ _ => rfl) (fun hHeld => ?_)
            refine wpAnyH_take (i := 0) (v := ?_) (by simp only [List.getElem?_toArray, List.getElem?_cons_succ, List.getElem?_cons_zero]; rfl) (by kernel_rfl) (by kernel_rfl) (by kernel_rfl) (fun _ _ _ h => h) (Or.inl ⟨by rfl, ?_⟩) (by assumption) ?_
            rotate_left 1
            · (intro w hSw; (try dsimp only at hSw); go_simp; try with_reducible rfl)
            try simp only [Act.put, List.setIfInBounds_toArray, List.set_cons_zero, List.set_cons_succ]
            refine wpAnyH_take (i := 1) (v := ?_) (by simp only [List.getElem?_toArray, List.getElem?_cons_succ, List.getElem?_cons_zero]; rfl) (by kernel_rfl) (by kernel_rfl) (by kernel_rfl) (fun _ _ _ h => h) (Or.inl ⟨by rfl, ?_⟩) (by assumption) ?_
            rotate_left 1
            · (intro w hSw; (try dsimp only at hSw); go_simp; try with_reducible rfl)
            try simp only [Act.put, List.setIfInBounds_toArray, List.set_cons_zero, List.set_cons_succ]
            refine wpAnyH_take (i := 4) (v := ?_) (by simp only [List.getElem?_toArray, List.getElem?_cons_succ, List.getElem?_cons_zero]; rfl) (by kernel_rfl) (by kernel_rfl) (by kernel_rfl) (fun _ _ _ h => h) (Or.inl ⟨by rfl, ?_⟩) (by assumption) ?_
            rotate_left 1
            · (intro w hSw; (try dsimp only at hSw); go_simp; try with_reducible rfl)
            try simp only [Act.put, List.setIfInBounds_toArray, List.set_cons_zero, List.set_cons_succ]
            refine wpAnyH_take (i := 5) (v := ?_) (by simp only [List.getElem?_toArray, List.getElem?_cons_succ, List.getElem?_cons_zero]; rfl) (by kernel_rfl) (by kernel_rfl) (by kernel_rfl) (fun _ _ _ h => h) (Or.inl ⟨by rfl, ?_⟩) (by assumption) ?_
            rotate_left 1
            · (intro w hSw; (try dsimp only at hSw); go_simp; try with_reducible rfl)
            try simp only [Act.put, List.setIfInBounds_toArray, List.set_cons_zero, List.set_cons_succ]
            refine wpAnyH_ready (rs := [2, 6]) (by kernel_rfl) (by simp) ?_
            refine AllReadyH.cons (by simp only [List.getElem?_toArray, List.getElem?_cons_succ, List.getElem?_cons_zero]; rfl) (fun K hK => ?_) ?_
            · go_simp
              have hr2_0 := InL.row2 (HX.out.grow (HG7.out.trans (HSTART.out))) (HA.out.grow (HG7.out.trans (HSTART.out)))
              try simp only [World.size_alloc] at hr2_0
              have hgo0 := (Grow.refl (w7.drew)).alloc (.cells (cells2 cx ca) 27)
              refine hK.out _ _ (fun b o h => ((HSTART.out).alloc (.cells (cells2 cx ca) 27)).below.cell (p := ⟨b, o, none⟩) h) (fun hHeld => ?_)
              clear hK K
              try simp only [Act.put, List.setIfInBounds_toArray, List.set_cons_zero, List.set_cons_succ]
              refine wpAnyH_ready (rs := [3, 6]) (by kernel_rfl) (by simp) ?_
              refine AllReadyH.cons (by simp only [List.getElem?_toArray, List.getElem?_cons_succ, List.getElem?_cons_zero]; rfl) (fun K hK => ?_) ?_
              · go_simp
                go_at_call 41
                refine (Lval_any _ _ _ _).mono ?_
                rintro e v1 ⟨rfl, hgo1⟩
                refine hK.out _ _ (fun b o h => (((HSTART.out).alloc (.cells (cells2 cx ca) 27)).trans hgo1).below.cell (p := ⟨b, o, none⟩) h) (fun hHeld => ?_)
                clear hK K
                try simp only [Act.put, List.setIfInBounds_toArray, List.set_cons_zero, List.set_cons_succ]
                refine wpAnyH_ready (rs := [6]) (by kernel_rfl) (by simp) ?_
                refine AllReadyH.cons (by simp only [List.getElem?_toArray, List.getElem?_cons_succ, List.getElem?_cons_zero]; rfl) (fun K hK => ?_) AllReadyH.nil
                go_simp
                have hr6_2 := InL.row2 (HX.out.grow (HG7.out.trans (((HSTART.out).alloc (.cells (cells2 cx ca) 27)).trans hgo1))) (HB.out.grow (HG7.out.trans (((HSTART.out).alloc (.cells (cells2 cx ca) 27)).trans hgo1)))
                try simp only [World.size_alloc] at hr6_2
                have hgo2 := (Grow.refl (v1)).alloc (.cells (cells2 cx cb) 27)
                refine hK.out _ _ (fun b o h => ((((HSTART.out).alloc (.cells (cells2 cx ca) 27)).trans hgo1).alloc (.cells (cells2 cx cb) 27)).below.cell (p := ⟨b, o, none⟩) h) (fun hHeld => ?_)
                clear hK K
                try simp only [Act.put, List.setIfInBounds_toArray, List.set_cons_zero, List.set_cons_succ]
                refine wpAnyH_ready (rs := [7]) (by kernel_rfl) (by simp) ?_
                refine AllReadyH.cons (by simp only [List.getElem?_toArray, List.getElem?_cons_succ, List.getElem?_cons_zero]; rfl) (fun K hK => ?_) AllReadyH.nil
                go_simp
                go_at_call 41
                refine (Lval_any _ _ _ _).mono ?_
                rintro e v3 ⟨rfl, hgo3⟩
                refine hK.out _ _ (fun b o h => (((((HSTART.out).alloc (.cells (cells2 cx ca) 27)).trans hgo1).alloc (.cells (cells2 cx cb) 27)).trans hgo3).below.cell (p := ⟨b, o, none⟩) h) (fun hHeld => ?_)
                clear hK K
                try simp only [Act.put, List.setIfInBounds_toArray, List.set_cons_zero, List.set_cons_succ]
                refine wpAnyH_ready (rs := [8]) (by kernel_rfl) (by simp) ?_
                refine AllReadyH.cons (by simp only [List.getElem?_toArray, List.getElem?_cons_succ, List.getElem?_cons_zero]; rfl) (fun K hK => ?_) AllReadyH.nil
                go_simp
                go_at_call 35
                refine (HKL.out _ _ _ (HG7.out.trans (((((HSTART.out).alloc (.cells (cells2 cx ca) 27)).trans hgo1).alloc (.cells (cells2 cx cb) 27)).trans hgo3)) ((((hr2_0).grow hgo1).grow hgo2).grow hgo3) ((hr6_2).grow hgo3)).mono ?_
                rintro e v4 ⟨rfl, hgo4⟩
                refine hK.out _ _ (fun b o h => ((((((HSTART.out).alloc (.cells (cells2 cx ca) 27)).trans hgo1).alloc (.cells (cells2 cx cb) 27)).trans hgo3).trans hgo4).below.cell (p := ⟨b, o, none⟩) h) (fun hHeld => ?_)
                clear hK K
                try simp only [Act.put, List.setIfInBounds_toArray, List.set_cons_zero, List.set_cons_succ]
                refine wpAnyH_take (i := 9) (v := ?_) (by simp only [List.getElem?_toArray, List.getElem?_cons_succ, List.getElem?_cons_zero]; rfl) (by kernel_rfl) (by kernel_rfl) (by kernel_rfl) (fun _ _ _ h => h) (Or.inl ⟨by rfl, ?_⟩) (by assumption) ?_
                rotate_left 1
                · (intro w hSw; (try dsimp only at hSw); go_simp; try with_reducible rfl)
                try simp only [Act.put, List.setIfInBounds_toArray, List.set_cons_zero, List.set_cons_succ]
                refine wpAnyH_take (i := 10) (v := ?_) (by simp only [List.getElem?_toArray, List.getElem?_cons_succ, List.getElem?_cons_zero]; rfl) (by kernel_rfl) (by kernel_rfl) (by kernel_rfl) (fun _ _ _ h => h) (Or.inl ⟨by rfl, ?_⟩) (by assumption) ?_
                rotate_left 1
                · (intro w hSw; (try dsimp only at hSw); go_simp; try with_reducible rfl)
                try simp only [Act.put, List.setIfInBounds_toArray, List.set_cons_zero, List.set_cons_succ]
                refine wpAnyH_take (i := 11) (v := ?_) (by simp only [List.getElem?_toArray, List.getElem?_cons_succ, List.getElem?_cons_zero]; rfl) (by kernel_rfl) (by kernel_rfl) (by kernel_rfl) (fun _ _ _ h => h) (Or.inl ⟨by rfl, ?_⟩) (by assumption) ?_
                rotate_left 1
                · (intro w hSw; (try dsimp only at hSw); go_simp; try with_reducible rfl)
                try simp only [Act.put, List.setIfInBounds_toArray, List.set_cons_zero, List.set_cons_succ]
                refine wpAnyH_take (i := 12) (v := ?_) (by simp only [List.getElem?_toArray, List.getElem?_cons_succ, List.getElem?_cons_zero]; rfl) (by kernel_rfl) (by kernel_rfl) (by kernel_rfl) (fun _ _ _ h => h) (Or.inl ⟨by rfl, ?_⟩) (by assumption) ?_
                rotate_left 1
                · (intro w hSw; (try dsimp only at hSw); go_simp; try with_reducible rfl)
                try simp only [Act.put, List.setIfInBounds_toArray, List.set_cons_zero, List.set_cons_succ]
                refine wpAnyH_take (i := 13) (v := ?_) (by simp only [List.getElem?_toArray, List.getElem?_cons_succ, List.getElem?_cons_zero]; rfl) (by kernel_rfl) (by kernel_rfl) (by kernel_rfl) (fun _ _ _ h => h) (Or.inl ⟨by rfl, ?_⟩) (by assumption) ?_
                rotate_left 1
                · (intro w hSw; (try dsimp only at hSw); go_simp; try with_reducible rfl)
                try simp only [Act.put, List.setIfInBounds_toArray, List.set_cons_zero, List.set_cons_succ]
                refine wpAnyH_done (by kernel_rfl) ?_ _
                refine NoPanic.normal ?_
                go_wp2_with fail
                go_meet
                exact ⟨rfl, rfl, (((((HSTART.out).alloc (.cells (cells2 cx ca) 27)).trans hgo1).alloc (.cells (cells2 cx cb) 27)).trans hgo3).trans hgo4⟩
              refine AllReadyH.cons (by simp only [List.getElem?_toArray, List.getElem?_cons_succ, List.getElem?_cons_zero]; rfl) (fun K hK => ?_) AllReadyH.nil
              go_simp
              have hr6_1 := InL.row2 (HX.out.grow (HG7.out.trans ((HSTART.out).alloc (.cells (cells2 cx ca) 27)))) (HB.out.grow (HG7.out.trans ((HSTART.out).alloc (.cells (cells2 cx ca) 27))))
              try simp only [World.size_alloc] at hr6_1
              have hgo1 := (Grow.refl ((w7.drew).alloc (.cells (cells2 cx ca) 27))).alloc (.cells (cells2 cx cb) 27)
              refine hK.out _ _ (fun b o h => (((HSTART.out).alloc (.cells (cells2 cx ca) 27)).alloc (.cells (cells2 cx cb) 27)).below.cell (p := ⟨b, o, none⟩) h) (fun hHeld => ?_)
              clear hK K
              try simp only [Act.put, List.setIfInBounds_toArray, List.set_cons_zero, List.set_cons_succ]
              refine wpAnyH_ready (rs := [3]) (by kernel_rfl) (by simp) ?_
              refine AllReadyH.cons (by simp only [List.getElem?_toArray, List.getElem?_cons_succ, List.getElem?_cons_zero]; rfl) (fun K hK => ?_) AllReadyH.nil
              go_simp
              go_at_call 41
              refine (Lval_any _ _ _ _).mono ?_
              rintro e v2 ⟨rfl, hgo2⟩
              refine hK.out _ _ (fun b o h => ((((HSTART.out).alloc (.cells (cells2 cx ca) 27)).alloc (.cells (cells2 cx cb) 27)).trans hgo2).below.cell (p := ⟨b, o, none⟩) h) (fun hHeld => ?_)
              clear hK K
              try simp only [Act.put, List.setIfInBounds_toArray, List.set_cons_zero, List.set_cons_succ]
              refine wpAnyH_ready (rs := [7]) (by kernel_rfl) (by simp) ?_
              refine AllReadyH.cons (by simp only [List.getElem?_toArray, List.getElem?_cons_succ, List.getElem?_cons_zero]; rfl) (fun K hK => ?_) AllReadyH.nil
              go_simp
              go_at_call 41
              refine (Lval_any _ _ _ _).mono ?_
              rintro e v3 ⟨rfl, hgo3⟩
              refine hK.out _ _ (fun b o h => (((((HSTART.out).alloc (.cells (cells2 cx ca) 27)).alloc (.cells (cells2 cx cb) 27)).trans hgo2).trans hgo3).below.cell (p := ⟨b, o, none⟩) h) (fun hHeld => ?_)
              clear hK K
              try simp only [Act.put, List.setIfInBounds_toArray, List.set_cons_zero, List.set_cons_succ]
              refine wpAnyH_ready (rs := [8]) (by kernel_rfl) (by simp) ?_
              refine AllReadyH.cons (by simp only [List.getElem?_toArray, List.getElem?_cons_succ, List.getElem?_cons_zero]; rfl) (fun K hK => ?_) AllReadyH.nil
              go_simp
              go_at_call 35
              refine (HKL.out _ _ _ (HG7.out.trans (((((HSTART.out).alloc (.cells (cells2 cx ca) 27)).alloc (.cells (cells2 cx cb) 27)).trans hgo2).trans hgo3)) ((((hr2_0).grow hgo1).grow hgo2).grow hgo3) (((hr6_1).grow hgo2).grow hgo3)).mono ?_
              rintro e v4 ⟨rfl, hgo4⟩
              refine hK.out _ _ (fun b o h => ((((((HSTART.out).alloc (.cells (cells2 cx ca) 27)).alloc (.cells (cells2 cx cb) 27)).trans hgo2).trans hgo3).trans hgo4).below.cell (p := ⟨b, o, none⟩) h) (fun hHeld => ?_)
              clear hK K
              try simp only [Act.put, List.setIfInBounds_toArray, List.set_cons_zero, List.set_cons_succ]
              refine wpAnyH_take (i := 9) (v := ?_) (by simp only [List.getElem?_toArray, List.getElem?_cons_succ, List.getElem?_cons_zero]; rfl) (by kernel_rfl) (by kernel_rfl) (by kernel_rfl) (fun _ _ _ h => h) (Or.inl ⟨by rfl, ?_⟩) (by assumption) ?_
              rotate_left 1
              · (intro w hSw; (try dsimp only at hSw); go_simp; try with_reducible rfl)
              try simp only [Act.put, List.setIfInBounds_toArray, List.set_cons_zero, List.set_cons_succ]
              refine wpAnyH_take (i := 10) (v := ?_) (by simp only [List.getElem?_toArray, List.getElem?_cons_succ, List.getElem?_cons_zero]; rfl) (by kernel_rfl) (by kernel_rfl) (by kernel_rfl) (fun _ _ _ h => h) (Or.inl ⟨by rfl, ?_⟩) (by assumption) ?_
              rotate_left 1
              · (intro w hSw; (try dsimp only at hSw); go_simp; try with_reducible rfl)
              try simp only [Act.put, List.setIfInBounds_toArray, List.set_cons_zero, List.set_cons_succ]
              refine wpAnyH_take (i := 11) (v := ?_) (by simp only [List.getElem?_toArray, List.getElem?_cons_succ, List.getElem?_cons_zero]; rfl) (by kernel_rfl) (by kernel_rfl) (by kernel_rfl) (fun _ _ _ h => h) (Or.inl ⟨by rfl, ?_⟩) (by assumption) ?_
              rotate_left 1
              · (intro w hSw; (try dsimp only at hSw); go_simp; try with_reducible rfl)
              try simp only [Act.put, List.setIfInBounds_toArray, List.set_cons_zero, List.set_cons_succ]
              refine wpAnyH_take (i := 12) (v := ?_) (by simp only [List.getElem?_toArray, List.getElem?_cons_succ, List.getElem?_cons_zero]; rfl) (by kernel_rfl) (by kernel_rfl) (by kernel_rfl) (fun _ _ _ h => h) (Or.inl ⟨by rfl, ?_⟩) (by assumption) ?_
              rotate_left 1
              · (intro w hSw; (try dsimp only at hSw); go_simp; try with_reducible rfl)
              try simp only [Act.put, List.setIfInBounds_toArray, List.set_cons_zero, List.set_cons_succ]
              refine wpAnyH_take (i := 13) (v := ?_) (by simp only [List.getElem?_toArray, List.getElem?_cons_succ, List.getElem?_cons_zero]; rfl) (by kernel_rfl) (by kernel_rfl) (by kernel_rfl) (fun _ _ _ h => h) (Or.inl ⟨by rfl, ?_⟩) (by assumption) ?_
              rotate_left 1
              · (intro w hSw; (try dsimp only at hSw); go_simp; try with_reducible rfl)
              try simp only [Act.put, List.setIfInBounds_toArray, List.set_cons_zero, List.set_cons_succ]
              refine wpAnyH_done (by kernel_rfl) ?_ _
              refine NoPanic.normal ?_
              go_wp2_with fail
              go_meet
              exact ⟨rfl, rfl, (((((HSTART.out).alloc (.cells (cells2 cx ca) 27)).alloc (.cells (cells2 cx cb) 27)).trans hgo2).trans hgo3).trans hgo4⟩
            refine AllReadyH.cons (by simp only [List.getElem?_toArray, List.getElem?_cons_succ, List.getElem?_cons_zero]; rfl) (fun K hK => ?_) AllReadyH.nil
            go_simp
            have hr6_0 := InL.row2 (HX.out.grow (HG7.out.trans (HSTART.out))) (HB.out.grow (HG7.out.trans (HSTART.out)))
            try simp only [World.size_alloc] at hr6_0
            have hgo0 := (Grow.refl (w7.drew)).alloc (.cells (cells2 cx cb) 27)
            refine hK.out _ _ (fun b o h => ((HSTART.out).alloc (.cells (cells2 cx cb) 27)).below.cell (p := ⟨b, o, none⟩) h) (fun hHeld => ?_)
            clear hK K
            try simp only [Act.put, List.setIfInBounds_toArray, List.set_cons_zero, List.set_cons_succ]
            refine wpAnyH_ready (rs := [2]) (by kernel_rfl) (by simp) ?_
            refine AllReadyH.cons (by simp only [List.getElem?_toArray, List.getElem?_cons_succ, List.getElem?_cons_zero]; rfl) (fun K hK => ?_) AllReadyH.nil
            go_simp
            have hr2_1 := InL.row2 (HX.out.grow (HG7.out.trans ((HSTART.out).alloc (.cells (cells2 cx cb) 27)))) (HA.out.grow (HG7.out.trans ((HSTART.out).alloc (.cells (cells2 cx cb) 27))))
            try simp only [World.size_alloc] at hr2_1
            have hgo1 := (Grow.refl ((w7.drew).alloc (.cells (cells2 cx cb) 27))).alloc (.cells (cells2 cx ca) 27)
            refine hK.out _ _ (fun b o h => (((HSTART.out).alloc (.cells (cells2 cx cb) 27)).alloc (.cells (cells2 cx ca) 27)).below.cell (p := ⟨b, o, none⟩) h) (fun hHeld => ?_)
            clear hK K
            try simp only [Act.put, List.setIfInBounds_toArray, List.set_cons_zero, List.set_cons_succ]
            refine wpAnyH_ready (rs := [3]) (by kernel_rfl) (by simp) ?_
            refine AllReadyH.cons (by simp only [List.getElem?_toArray, List.getElem?_cons_succ, List.getElem?_cons_zero]; rfl) (fun K hK => ?_) AllReadyH.nil
            go_simp
            go_at_call 41
            refine (Lval_any _ _ _ _).mono ?_
            rintro e v2 ⟨rfl, hgo2⟩
            refine hK.out _ _ (fun b o h => ((((HSTART.out).alloc (.cells (cells2 cx cb) 27)).alloc (.cells (cells2 cx ca) 27)).trans hgo2).below.cell (p := ⟨b, o, none⟩) h) (fun hHeld => ?_)
            clear hK K
            try simp only [Act.put, List.setIfInBounds_toArray, List.set_cons_zero, List.set_cons_succ]
            refine wpAnyH_ready (rs := [7]) (by kernel_rfl) (by simp) ?_
            refine AllReadyH.cons (by simp only [List.getElem?_toArray, List.getElem?_cons_succ, List.getElem?_cons_zero]; rfl) (fun K hK => ?_) AllReadyH.nil
            go_simp
            go_at_call 41
            refine (Lval_any _ _ _ _).mono ?_
            rintro e v3 ⟨rfl, hgo3⟩
            refine hK.out _ _ (fun b o h => (((((HSTART.out).alloc (.cells (cells2 cx cb) 27)).alloc (.cells (cells2 cx ca) 27)).trans hgo2).trans hgo3).below.cell (p := ⟨b, o, none⟩) h) (fun hHeld => ?_)
            clear hK K
            try simp only [Act.put, List.setIfInBounds_toArray, List.set_cons_zero, List.set_cons_succ]
            refine wpAnyH_ready (rs := [8]) (by kernel_rfl) (by simp) ?_
            refine AllReadyH.cons (by simp only [List.getElem?_toArray, List.getElem?_cons_succ, List.getElem?_cons_zero]; rfl) (fun K hK => ?_) AllReadyH.nil
            go_simp
            go_at_call 35
            refine (HKL.out _ _ _ (HG7.out.trans (((((HSTART.out).alloc (.cells (cells2 cx cb) 27)).alloc (.cells (cells2 cx ca) 27)).trans hgo2).trans hgo3)) (((hr2_1).grow hgo2).grow hgo3) ((((hr6_0).grow hgo1).grow hgo2).grow hgo3)).mono ?_
            rintro e v4 ⟨rfl, hgo4⟩
            refine hK.out _ _ (fun b o h => ((((((HSTART.out).alloc (.cells (cells2 cx cb) 27)).alloc (.cells (cells2 cx ca) 27)).trans hgo2).trans hgo3).trans hgo4).below.cell (p := ⟨b, o, none⟩) h) (fun hHeld => ?_)
            clear hK K
            try simp only [Act.put, List.setIfInBounds_toArray, List.set_cons_zero, List.set_cons_succ]
            refine wpAnyH_take (i := 9) (v := ?_) (by simp only [List.getElem?_toArray, List.getElem?_cons_succ, List.getElem?_cons_zero]; rfl) (by kernel_rfl) (by kernel_rfl) (by kernel_rfl) (fun _ _ _ h => h) (Or.inl ⟨by rfl, ?_⟩) (by assumption) ?_
            rotate_left 1
            · (intro w hSw; (try dsimp only at hSw); go_simp; try with_reducible rfl)
            try simp only [Act.put, List.setIfInBounds_toArray, List.set_cons_zero, List.set_cons_succ]
            refine wpAnyH_take (i := 10) (v := ?_) (by simp only [List.getElem?_toArray, List.getElem?_cons_succ, List.getElem?_cons_zero]; rfl) (by kernel_rfl) (by kernel_rfl) (by kernel_rfl) (fun _ _ _ h => h) (Or.inl ⟨by rfl, ?_⟩) (by assumption) ?_
            rotate_left 1
            · (intro w hSw; (try dsimp only at hSw); go_simp; try with_reducible rfl)
            try simp only [Act.put, List.setIfInBounds_toArray, List.set_cons_zero, List.set_cons_succ]
            refine wpAnyH_take (i := 11) (v := ?_) (by simp only [List.getElem?_toArray, List.getElem?_cons_succ, List.getElem?_cons_zero]; rfl) (by kernel_rfl) (by kernel_rfl) (by kernel_rfl) (fun _ _ _ h => h) (Or.inl ⟨by rfl, ?_⟩) (by assumption) ?_
            rotate_left 1
            · (intro w hSw; (try dsimp only at hSw); go_simp; try with_reducible rfl)
            try simp only [Act.put, List.setIfInBounds_toArray, List.set_cons_zero, List.set_cons_succ]
            refine wpAnyH_take (i := 12) (v := ?_) (by simp only [List.getElem?_toArray, List.getElem?_cons_succ, List.getElem?_cons_zero]; rfl) (by kernel_rfl) (by kernel_rfl) (by kernel_rfl) (fun _ _ _ h => h) (Or.inl ⟨by rfl, ?_⟩) (by assumption) ?_
            rotate_left 1
            · (intro w hSw; (try dsimp only at hSw); go_simp; try with_reducible rfl)
            try simp only [Act.put, List.setIfInBounds_toArray, List.set_cons_zero, List.set_cons_succ]
            refine wpAnyH_take (i := 13) (v := ?_) (by simp only [List.getElem?_toArray, List.getElem?_cons_succ, List.getElem?_cons_zero]; rfl) (by kernel_rfl) (by kernel_rfl) (by kernel_rfl) (fun _ _ _ h => h) (Or.inl ⟨by rfl, ?_⟩) (by assumption) ?_
            rotate_left 1
            · (intro w hSw; (try dsimp only at hSw); go_simp; try with_reducible rfl)
            try simp only [Act.put, List.setIfInBounds_toArray, List.set_cons_zero, List.set_cons_succ]
            refine wpAnyH_done (by kernel_rfl) ?_ _
            refine NoPanic.normal ?_
            go_wp2_with fail
            go_meet
            exact ⟨rfl, rfl, (((((HSTART.out).alloc (.cells (cells2 cx cb) 27)).alloc (.cells (cells2 cx ca) 27)).trans hgo2).trans hgo3).trans hgo4⟩
          case rest =>
            obtain ⟨rfl, rfl, hg⟩ := hcut
            rename World => w8
            have HG8 := hide (HG7.out.trans hg)
            clear hg
            have hr := HR.out
            unfold cmpV at hr
            by_cases hz : orC (V.mk 7 0 [] [x, a] []).good (V.mk 7 0 [] [x, b] []).good = 0
            · rw [if_pos hz, HLS.out] at hr
              injection hr with e1 e2
              subst e1 e2
              clear hz
              go_wp2_with fail
              go_ret
              exact ⟨rfl, HG8.out⟩
            · rw [if_neg hz] at hr
              injection hr with e1 e2
              have hq : (r2 != 0) = true := by rw [← e2]; simpa using hz
              clear hz e1 e2
              go_wp2_with fail
              go_ret
              exact ⟨rfl, HG8.out⟩
      · have hab := HAB.out
        have hba := HBA.out
        have hbx := HBX.out
        rw [show orC 0 0 = 0 from rfl, if_pos rfl] at hab hba
        rw [orC_0, if_neg h3] at hbx
        injection hab with eab eab2
        injection hba with eba eba2
        injection hbx with ebx ebx2
        subst eab2 eba2 ebx2
        have hq : (bx2 != 0) = true := by simpa using h3
        clear eab eba ebx h3
        go_wp2_with fail
        refine (HGA.out _ HG6.out).mono ?_
        rintro e w7 ⟨rfl, hg⟩
        have HG7 := hide (HG6.out.trans hg)
        have HA7 := hide (HA6.out.grow hg)
        have HB7 := hide (HB6.out.grow hg)
        have HX7 := hide (HX6.out.grow hg)
        have hca7 := HA7.out.cell
        have hcb7 := HB7.out.cell
        have hcx7 := HX7.out.cell
        have hla7 := HA7.out.lt
        have hlb7 := HB7.out.lt
        have hlx7 := HX7.out.lt
        clear hg
        clear hca6 hcb6 hcx6 hla6 hlb6 hlx6
        go_wp2_with fail
        refine (HGB.out _ HG7.out).mono ?_
        rintro e w8 ⟨rfl, hg⟩
        have HG8 := hide (HG7.out.trans hg)
        have HA8 := hide (HA7.out.grow hg)
        have HB8 := hide (HB7.out.grow hg)
        have HX8 := hide (HX7.out.grow hg)
        have hca8 := HA8.out.cell
        have hcb8 := HB8.out.cell
        have hcx8 := HX8.out.cell
        have hla8 := HA8.out.lt
        have hlb8 := HB8.out.lt
        have hlx8 := HX8.out.lt
        clear hg
        clear hca7 hcb7 hcx7 hla7 hlb7 hlx7
        go_wp2_with fail
        refine (HGX.out _ HG8.out).mono ?_
        rintro e w9 ⟨rfl, hg⟩
        have HG9 := hide (HG8.out.trans hg)
        clear hg
        go_wp2_with fail
        go_ret
        exact ⟨rfl, HG9.out⟩
    · have hab := HAB.out
      rw [orC_0, if_neg h2] at hab
      injection hab with eab eab2
      subst eab2
      have hq : (ab2 != 0) = true := by simpa using h2
      clear eab h2
      go_wp2_with fail
      refine (HGA.out _ HG6.out).mono ?_
      rintro e w7 ⟨rfl, hg⟩
      have HG7 := hide (HG6.out.trans hg)
      have HA7 := hide (HA6.out.grow hg)
      have HB7 := hide (HB6.out.grow hg)
      have HX7 := hide (HX6.out.grow hg)
      have hca7 := HA7.out.cell
      have hcb7 := HB7.out.cell
      have hcx7 := HX7.out.cell
      have hla7 := HA7.out.lt
      have hlb7 := HB7.out.lt
      have hlx7 := HX7.out.lt
      clear hg
      clear hca6 hcb6 hcx6 hla6 hlb6 hlx6
      go_wp2_with fail
      refine (HGB.out _ HG7.out).mono ?_
      rintro e w8 ⟨rfl, hg⟩
      have HG8 := hide (HG7.out.trans hg)
      clear hg
      go_wp2_with fail
      go_ret
      exact ⟨rfl, HG8.out⟩
  · have hab := HAB.out
    rw [orC_n _ h1, if_neg h1] at hab
    injection hab with eab eab2
    subst eab2
    have hq : (ab2 != 0) = true := by simpa using h1
    clear eab h1
    go_wp2_with fail
    refine (HGA.out _ HG6.out).mono ?_
    rintro e w7 ⟨rfl, hg⟩
    have HG7 := hide (HG6.out.trans hg)
    clear hg
    go_wp2_with fail
    go_ret
    exact ⟨rfl, HG7.out⟩
end Go.Proofs.YtpjhhkndfmcaoaaDoor
