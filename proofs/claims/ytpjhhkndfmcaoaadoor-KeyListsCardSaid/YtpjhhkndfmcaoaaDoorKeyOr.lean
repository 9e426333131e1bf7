/- Walk of the law KeyOrders: keys are ordered as their values; falling ones the other way; none is another one's beginning; they come back. -/
import Derived.Test.YtpjhhkndfmcaoaaDoorVoQ
import Derived.Test.YtpjhhkndfmcaoaaDoorVoP
import Derived.Test.YtpjhhkndfmcaoaaDoorKeyBk
import Derived.Test.YtpjhhkndfmcaoaaDoorKeyH
import Derived.Deep.RegionHeld3
set_option linter.unusedVariables false
set_option linter.unusedSimpArgs false
namespace Go.Proofs.YtpjhhkndfmcaoaaDoor
open Go.RowKit Go.Shelf

theorem row_capO {W : World} {base n c : Nat} {A : Option Addr} {xs : List UInt8} (h : Row W base (.slice A n c) n xs) : n ≤ c := by
  rcases h.2 with ⟨hv, h0⟩ | ⟨g, cap', cur, hv, _, _, hc, _⟩
  · omega
  · injection hv with _ _ e; omega
theorem row_inO {W : World} {base n c : Nat} {A : Option Addr} {xs : List UInt8} (h : Row W base (.slice A n c) n xs) (hn : n = xs.length) : InB W A xs := by
  subst hn
  exact Reads.mono (fun p u hp => ⟨hp.1, Nat.zero_le _, hp.2.2⟩) h.reads.1
theorem boolsO (w : World) (t : Bool) : InBo (w.alloc (.cells #[.bool t] 4)) (some ⟨w.heap.size, 0, none⟩) [t] := by
  refine ⟨rfl, fun _ => ⟨_, _, rfl, fun j u hu => ?_⟩⟩
  have hn := Blk.new w 4 #[.bool t]
  cases j with
  | zero => cases hu; exact ⟨hn.cell 0, Nat.zero_le _, hn.lt⟩
  | succ j => simp at hu
/-- What key.Back tells of bytes that are a key. -/
theorem kback_someO (b : List UInt8) (v : V) (B : Option Addr) (bc : Nat) (w : World) (hT : Tabs w) (hb : InB w B b) (hl : b.length ≤ 1000000000) (hcap : b.length ≤ bc) (h : backK (kd false 17) b = some v) :
    Calls Tryd.prog 17 #[.slice B b.length bc] w fun e w' => ∃ c : Cv, e = .returned (.tuple #[c.agg, .int .i64 0]) ∧ In w' v c ∧ Grow w w' := by
  refine (kback_any b B bc w hb (fun W F fc hg hb' hf => kparts_any b [false] B F bc fc W (hT.grow hg) hb' hf hl hcap (by decide))).mono ?_
  rintro e w' ⟨hg, h1, -⟩
  obtain ⟨c, he, hi⟩ := h1 v h
  exact ⟨c, he, hi, hg⟩
/-- What key.Parts tells of bytes that are one key. -/
theorem kparts_oneO (b : List UInt8) (t : Bool) (v : V) (B F : Option Addr) (bc fc : Nat) (w : World) (hT : Tabs w) (hb : InB w B b) (hf : InBo w F [t]) (hl : b.length ≤ 1000000000) (hcap : b.length ≤ bc) (h : partsK (kd false 17) [t] b = some [v]) :
    Calls Tryd.prog 24 #[.slice B b.length bc, .slice F 1 fc] w fun e w' => ∃ A cap, e = .returned (.tuple #[.slice A 1 cap, .int .i64 0]) ∧ InL w' A cap [v] ∧ Grow w w' := by
  refine (kparts_any b [t] B F bc fc w hT hb hf hl hcap (by simp)).mono ?_
  rintro e w' ⟨hg, h1, -⟩
  obtain ⟨A, cap, he, hi⟩ := h1 [v] h
  exact ⟨A, cap, he, IsV.mono (fun _ _ h => ⟨h.1, Nat.zero_le _, h.2.2⟩) _ _ hi, hg⟩
/-- What key.All tells of one value whose key is short enough. -/
theorem kall_oneO (v : V) (t : Bool) (A F : Option Addr) (cap fc : Nat) (w : World) (hk : V.Keyed v) (hm : v.mild) (hT : Tabs w) (hv : InL w A cap [v]) (hf : InBo w F [t]) :
    Calls Tryd.prog 23 #[.slice A 1 cap, .slice F 1 fc] w (OfC w (flip t v.key, 0)) := by
  have h := all_anyM [v] [t] A F cap fc w (fun x hx => by rw [List.mem_singleton] at hx; subst hx; exact hm) hT hv hf (by simp)
  rw [hk.all t] at h
  exact h
theorem begB_noO {a b : List UInt8} (h : ¬ b <+: a) : begB a b = false := by
  unfold begB
  by_cases hl : b.length ≤ a.length
  · rw [decide_eq_true hl, Bool.true_and]
    simp only [beq_eq_false_iff_ne, ne_eq]
    exact fun e => h (by rw [← e]; exact List.take_prefix _ _)
  · rw [decide_eq_false hl]; rfl

set_option maxRecDepth 100000 in
set_option maxHeartbeats 12800000 in
theorem korders_any (a b : V) (ca cb : Cv) (w : World) (hT : Tabs w) (ha : In w a ca) (hb : In w b cb) :
    Calls Tryd.prog 12 #[ca.agg, cb.agg] w fun e w' => e = .returned (.bool true) ∧ Grow w w' := by
  have HG0 := hide (((Grow.refl w).alloc (.cells ca.cells 27)).alloc (.cells cb.cells 27))
  have HA0 := hide ((Blk.new w 27 ca.cells).alloc (.cells cb.cells 27))
  have HB0 := hide (Blk.new' (w := w.alloc (.cells ca.cells 27)) (g := w.heap.size + 1) (by simp) 27 cb.cells)
  have HT := hide hT
  have HA := hide ha
  have HB := hide hb
  clear hT ha hb
  go_enter Tryd.func12, Tryd.ntmps12
  go_wp2_with fail
  refine (kawake_any _ (HT.out.grow HG0.out)).mono ?_
  rintro e w1 ⟨rfl, hg⟩
  have HG1 := hide (HG0.out.trans hg)
  have HA1 := hide (HA0.out.grow hg)
  have HB1 := hide (HB0.out.grow hg)
  have hca1 := HA1.out.cell
  have hcb1 := HB1.out.cell
  have hla1 := HA1.out.lt
  have hlb1 := HB1.out.lt
  clear hg
  have HROW := hide (InL.row2 (HA.out.grow HG1.out) (HB.out.grow HG1.out))
  go_wp2_with fail
  refine (vast_any [a, b] _ 2 _ HROW.out).mono ?_
  rintro e w2 ⟨rfl, hg2⟩
  have hg := ((Grow.refl w1).alloc (.cells (cells2 ca cb) 27)).trans hg2
  clear hg2 HROW
  have HG2 := hide (HG1.out.trans hg)
  have HA2 := hide (HA1.out.grow hg)
  have HB2 := hide (HB1.out.grow hg)
  have hca2 := HA2.out.cell
  have hcb2 := HB2.out.cell
  have hla2 := HA2.out.lt
  have hlb2 := HB2.out.lt
  clear hg
  try clear hca1 hcb1 hla1 hlb1
  by_cases hbig : 20000 ≤ (List.map V.count [a, b]).sum
  · rw [decide_eq_true hbig]
    go_wp2_with fail
    go_ret
    exact ⟨rfl, HG2.out⟩
  rw [decide_eq_false hbig]
  have hca : a.count ≤ 20000 := by simp at hbig; omega
  have hcb : b.count ≤ 20000 := by simp at hbig; omega
  clear hbig
  have HMA := hide (V.mild_of hca HA.out)
  have HMB := hide (V.mild_of hcb HB.out)
  clear hca hcb
  have HOA := hide (fun W (hg : Grow w W) => of_anyM a ca W (IsV.fit _ _ HA.out) HMA.out (HT.out.grow hg) (HA.out.grow hg))
  have HOB := hide (fun W (hg : Grow w W) => of_anyM b cb W (IsV.fit _ _ HB.out) HMB.out (HT.out.grow hg) (HB.out.grow hg))
  obtain ⟨⟨xb, ex⟩, hxe⟩ : ∃ r, ofK a = r := ⟨_, rfl⟩
  obtain ⟨⟨yb, ey⟩, hye⟩ : ∃ r, ofK b = r := ⟨_, rfl⟩
  rw [hxe] at HOA
  rw [hye] at HOB
  have HXE := hide hxe
  have HYE := hide hye
  clear hxe hye
  go_wp2_with fail
  refine (HOA.out _ HG2.out).mono ?_
  rintro e w3 ⟨bx, AX, cx, rfl, hbx, hrx, hg⟩
  dsimp only at hrx ⊢
  have HRX3 := hide hrx
  clear hrx hbx
  have HG3 := hide (HG2.out.trans hg)
  have HA3 := hide (HA2.out.grow hg)
  have HB3 := hide (HB2.out.grow hg)
  have hca3 := HA3.out.cell
  have hcb3 := HB3.out.cell
  have hla3 := HA3.out.lt
  have hlb3 := HB3.out.lt
  clear hg
  try clear hca2 hcb2 hla2 hlb2
  go_wp2_with fail
  refine (HOB.out _ HG3.out).mono ?_
  rintro e w4 ⟨by_, AY, cy, rfl, hby, hry, hg⟩
  dsimp only at hry ⊢
  have HRY4 := hide hry
  clear hry hby
  have HG4 := hide (HG3.out.trans hg)
  have HA4 := hide (HA3.out.grow hg)
  have HB4 := hide (HB3.out.grow hg)
  have HRX4 := hide (HRX3.out.grow hg)
  have hca4 := HA4.out.cell
  have hcb4 := HB4.out.cell
  have hla4 := HA4.out.lt
  have hlb4 := HB4.out.lt
  clear hg
  try clear hca3 hcb3 hla3 hlb3
  by_cases h1 : ex = 0
  · subst h1
    have hka := V.Keyed.of (v := a) (by rw [HXE.out]) (IsV.fit _ _ HA.out)
    have hxk : xb = a.key := by have := HXE.out; rw [hka.ofK] at this; injection this with e _; exact e.symm
    by_cases h2 : ey = 0
    · subst h2
      have hkb := V.Keyed.of (v := b) (by rw [HYE.out]) (IsV.fit _ _ HB.out)
      have hyk : yb = b.key := by have := HYE.out; rw [hkb.ofK] at this; injection this with e _; exact e.symm
      have HKA := hide hka
      have HKB := hide hkb
      have HC := hide (kvcompare_any a b ca cb w4 HMA.out HMB.out (HT.out.grow HG4.out) (HA.out.grow HG4.out) (HB.out.grow HG4.out))
      have hcv : cmpV a b = (V.cmp a b, 0) := by unfold cmpV; rw [if_pos (by rw [hka.good, hkb.good]; rfl)]
      rw [hcv] at HC
      dsimp only at HC
      obtain ⟨z, hz⟩ : ∃ z, V.cmp a b = z := ⟨_, rfl⟩
      have hzv := V.cmp_vals hka.toFine hkb.toFine
      have hkc := V.cmp_bytes hka.toFine hkb.toFine
      have hkf := V.cmp_flip hka.toFine hkb.toFine
      have hnb := V.begins_no hka.toFine hkb.toFine
      rw [hz] at HC hzv hkc hkf hnb
      have hbk := hka.back
      have hpk := hka.parts true
      have hal := hka.short
      have hbl := hkb.short
      rw [← hxk] at hkc hbk hnb hal
      rw [← hyk] at hkc hnb hbl
      have hKL := fun A F cap fc W (hT : Tabs W) (hv : InL W A cap [a]) (hf : InBo W F [true]) => kall_oneO a true A F cap fc W HKA.out HMA.out hT hv hf
      have hKM := fun A F cap fc W (hT : Tabs W) (hv : InL W A cap [b]) (hf : InBo W F [true]) => kall_oneO b true A F cap fc W HKB.out HMB.out hT hv hf
      obtain ⟨u, hu⟩ : ∃ u, flip true a.key = u := ⟨_, rfl⟩
      obtain ⟨v, hv⟩ : ∃ u, flip true b.key = u := ⟨_, rfl⟩
      rw [hu] at hKL hkf hpk
      rw [hv] at hKM hkf
      have hul : u.length ≤ 96 := by rw [← hu, V.flip_length', ← hxk]; exact hal
      have hvl : v.length ≤ 96 := by rw [← hv, V.flip_length', ← hyk]; exact hbl
      have HKL := hide hKL
      have HKM := hide hKM
      have HKC := hide hkc
      have HKF := hide hkf
      have HNB := hide hnb
      have HBK := hide hbk
      have HPK := hide hpk
      have HZV := hide hzv
      clear hcv hz hzv hkc hkf hnb hbk hpk hKL hKM hu hv hxk hyk hka hkb HXE HYE HOA HOB
      go_wp2_with fail
      refine HC.out.mono ?_
      rintro e w5 ⟨rfl, hg⟩
      clear HC
      have HG5 := hide (HG4.out.trans hg)
      have HA5 := hide (HA4.out.grow hg)
      have HB5 := hide (HB4.out.grow hg)
      have HRX5 := hide (HRX4.out.grow hg)
      have HRY5 := hide (HRY4.out.grow hg)
      have hca5 := HA5.out.cell
      have hcb5 := HB5.out.cell
      have hla5 := HA5.out.lt
      have hlb5 := HB5.out.lt
      clear hg
      try clear hca4 hcb4 hla4 hlb4
      have hk5 := kcmp_any xb yb AX AY cx cy w5 (row_inO HRX5.out rfl) (row_inO HRY5.out rfl)
      rw [← HKC.out] at hk5
      have HK5 := hide (hk5.mono fun e w' h => (⟨h.1, h.2.symm⟩ : e = .returned (.int .i64 z) ∧ w5 = w'))
      clear hk5
      have HROWA := hide (InL.row1 (HA.out.grow HG5.out))
      have hba := boolsO (w5.alloc (.cells (cells1 ca) 27)) true
      simp only [World.size_alloc] at hba
      have HBA := hide hba
      have hg := ((Grow.refl w5).alloc (.cells (cells1 ca) 27)).alloc (.cells #[.bool true] 4)
      have HKA5 := hide (HKL.out _ _ _ 1 _ (HT.out.grow (HG5.out.trans hg)) (HROWA.out.grow ((Grow.refl _).alloc _)) HBA.out)
      clear hba
      go_wp2_with (go_at_call 48; refine HK5.out.mono ?_; rintro e w' ⟨rfl, rfl⟩)
      refine HKA5.out.mono ?_
      rintro e w6 ⟨bu, AU, cu, rfl, hbu, hru, hg2⟩
      dsimp only at hru ⊢
      have HRU6 := hide hru
      replace hg := hg.trans hg2
      clear hru hbu hg2 HKA5 HROWA HBA HK5 HKL
      have HG6 := hide (HG5.out.trans hg)
      have HA6 := hide (HA5.out.grow hg)
      have HB6 := hide (HB5.out.grow hg)
      have HRX6 := hide (HRX5.out.grow hg)
      have HRY6 := hide (HRY5.out.grow hg)
      have hca6 := HA6.out.cell
      have hcb6 := HB6.out.cell
      have hla6 := HA6.out.lt
      have hlb6 := HB6.out.lt
      clear hg
      try clear hca5 hcb5 hla5 hlb5
      have HROWB := hide (InL.row1 (HB.out.grow HG6.out))
      have hbb := boolsO (w6.alloc (.cells (cells1 cb) 27)) true
      simp only [World.size_alloc] at hbb
      have HBB := hide hbb
      have hg := ((Grow.refl w6).alloc (.cells (cells1 cb) 27)).alloc (.cells #[.bool true] 4)
      have HKB6 := hide (HKM.out _ _ _ 1 _ (HT.out.grow (HG6.out.trans hg)) (HROWB.out.grow ((Grow.refl _).alloc _)) HBB.out)
      clear hbb
      go_wp2_with fail
      refine HKB6.out.mono ?_
      rintro e w7 ⟨bv, AV, cv, rfl, hbv, hrv, hg2⟩
      dsimp only at hrv ⊢
      have HRV7 := hide hrv
      replace hg := hg.trans hg2
      clear hrv hbv hg2 HKB6 HROWB HBB HKM
      have HG7 := hide (HG6.out.trans hg)
      have HA7 := hide (HA6.out.grow hg)
      have HB7 := hide (HB6.out.grow hg)
      have HRX7 := hide (HRX6.out.grow hg)
      have HRY7 := hide (HRY6.out.grow hg)
      have HRU7 := hide (HRU6.out.grow hg)
      have hca7 := HA7.out.cell
      have hcb7 := HB7.out.cell
      have hla7 := HA7.out.lt
      have hlb7 := HB7.out.lt
      clear hg
      try clear hca6 hcb6 hla6 hlb6
      have HK7 := hide (kback_someO xb a AX cx w7 (HT.out.grow HG7.out) (row_inO HRX7.out rfl) (by omega) (row_capO HRX7.out) HBK.out)
      go_wp2_with fail
      refine HK7.out.mono ?_
      rintro e w8 ⟨cw, rfl, hin, hg2⟩
      have HW8 := hide (Blk.new w8 27 cw.cells)
      have hga := (Grow.refl w8).alloc (.cells cw.cells 27)
      have HIN8 := hide (hin.grow hga)
      have hg := hg2.trans hga
      clear hin hg2 hga HK7
      have HG8 := hide (HG7.out.trans hg)
      have HA8 := hide (HA7.out.grow hg)
      have HB8 := hide (HB7.out.grow hg)
      have HRX8 := hide (HRX7.out.grow hg)
      have HRY8 := hide (HRY7.out.grow hg)
      have HRU8 := hide (HRU7.out.grow hg)
      have HRV8 := hide (HRV7.out.grow hg)
      have hca8 := HA8.out.cell
      have hcb8 := HB8.out.cell
      have hla8 := HA8.out.lt
      have hlb8 := HB8.out.lt
      clear hg
      try clear hca7 hcb7 hla7 hlb7
      have hb8 := boolsO (w8.alloc (.cells cw.cells 27)) true
      simp only [World.size_alloc] at hb8
      have HB8 := hide hb8
      have hgb := (Grow.refl (w8.alloc (.cells cw.cells 27))).alloc (.cells #[.bool true] 4)
      have HP8 := hide (kparts_oneO u true a AU _ cu 1 _ (HT.out.grow (HG8.out.trans hgb)) ((row_inO HRU8.out rfl).grow hgb) HB8.out (by omega) (row_capO HRU8.out) HPK.out)
      clear hb8
      go_wp2_with fail
      refine HP8.out.mono ?_
      rintro e w9 ⟨AP, cp, rfl, hinl, hg2⟩
      have HINL9 := hide hinl
      have hg := hgb.trans hg2
      clear hinl hg2 hgb HP8 HB8
      have hg9 := hg
      have HG9 := hide (HG8.out.trans hg)
      have HA9 := hide (HA8.out.grow hg)
      have HB9 := hide (HB8.out.grow hg)
      have HRX9 := hide (HRX8.out.grow hg)
      have HRY9 := hide (HRY8.out.grow hg)
      have HRU9 := hide (HRU8.out.grow hg)
      have HRV9 := hide (HRV8.out.grow hg)
      have hca9 := HA9.out.cell
      have hcb9 := HB9.out.cell
      have hla9 := HA9.out.lt
      have hlb9 := HB9.out.lt
      clear hg
      try clear hca8 hcb8 hla8 hlb8
      have HW9 := hide (HW8.out.grow hg9)
      have HIN9 := hide (HIN8.out.grow hg9)
      obtain ⟨bp, op, xp, hap, hbp, e0, e1, e2, e3, e4, hxp⟩ := In.elemL HINL9.out 0 (by simp)
      simp only [Nat.zero_mul, Nat.add_zero, List.getElem_cons_zero] at e0 e1 e2 e3 e4 hxp
      dsimp only [lcv] at hap
      subst hap
      have HXP := hide hxp
      have hw9 := HW9.out.cell
      have hlw9 := HW9.out.lt
      clear hxp
      have hzz : IntKind.i64.wrap (-z) = -z := neg_wrap HZV.out
      have hk9 := kcmp_any u v AU AV cu cv
      rw [HKF.out] at hk9
      have HK9 := hide (fun W (hg : Grow w9 W) => (hk9 W ((row_inO HRU9.out rfl).grow hg) ((row_inO HRV9.out rfl).grow hg)).mono fun e w' h => (⟨h.1, h.2.symm⟩ : e = .returned (.int .i64 (-z)) ∧ W = w'))
      have HS1 := hide (fun W (hg : Grow w9 W) => same_any a a W cw ca (HIN9.out.grow hg) (HA.out.grow (HG9.out.trans hg)))
      have HS2 := hide (fun W (hg : Grow w9 W) => same_any a a W xp ca (HXP.out.grow hg) (HA.out.grow (HG9.out.trans hg)))
      rw [sameB_self] at HS1 HS2
      clear hk9
      go_wp2_with fail
      go_region_held3 (fun w' => ∀ b o, b < w9.heap.size → w'.cell? ⟨b, o, none⟩ = w9.cell? ⟨b, o, none⟩) (first | exact fun _ _ _ => rfl | exact fun b o h => hgx.below.cell (p := ⟨b, o, none⟩) h | exact fun b o h => hgy.below.cell (p := ⟨b, o, none⟩) h)
        (first | (go_at_call 48; refine (HK9.out _ (Grow.refl w9).drew).mono ?_; rintro e w' ⟨rfl, rfl⟩) | ((with_reducible refine (HS1.out _ (Grow.refl w9).drew).mono ?_); rintro e wx ⟨rfl, hgx1⟩; have hgx : Grow w9 wx := (Grow.refl w9).drew.trans hgx1) | ((with_reducible refine (HS2.out _ hgx).mono ?_); rintro e wy ⟨rfl, hgy1⟩; have hgy : Grow w9 wy := hgx.trans hgy1))
      have HGY := hide (HG9.out.trans hgy)
      have HGY9 := hide hgy
      have HZ0 := hide (fun (h : z ≠ 0) => (show begB xb yb = false ∧ begB yb xb = false from ⟨begB_noO (HNB.out h).2, begB_noO (HNB.out h).1⟩))
      clear hgx hgy hgx1 hgy1
      by_cases hz0 : z = 0
      · subst hz0
        go_wp2_with fail
        go_ret
        exact ⟨rfl, HGY.out⟩
      · have hzq : (z == 0) = false := by simpa using hz0
        have hbg := HZ0.out hz0
        have HG1 := hide (fun W (hg : Grow w9 W) => begins_any xb yb AX AY cx cy W ((row_inO HRX9.out rfl).grow hg) ((row_inO HRY9.out rfl).grow hg) (row_capO HRX9.out) (by omega) (by omega))
        have HG2' := hide (fun W (hg : Grow w9 W) => begins_any yb xb AY AX cy cx W ((row_inO HRY9.out rfl).grow hg) ((row_inO HRX9.out rfl).grow hg) (row_capO HRY9.out) (by omega) (by omega))
        rw [hbg.1] at HG1
        rw [hbg.2] at HG2'
        clear hbg hz0
        go_wp2_with fail
        refine (HG1.out _ HGY9.out).mono ?_
        rintro e wa ⟨rfl, hga⟩
        have HGA := hide (HGY9.out.trans hga)
        clear hga
        go_wp2_with fail
        refine (HG2'.out _ HGA.out).mono ?_
        rintro e wb ⟨rfl, hgb⟩
        have HGB := hide (HG9.out.trans (HGA.out.trans hgb))
        clear hgb
        go_wp2_with fail
        go_ret
        exact ⟨rfl, HGB.out⟩
    · have hyk : yb = [] := by
        have := HYE.out
        unfold ofK at this
        split at this
        · injection this with e _; exact e.symm
        · split at this
          · injection this with e _; exact e.symm
          · injection this with _ e; exact absurd e.symm h2
      subst hyk
      have hq : (ey != 0) = true := by simpa using h2
      have hq2 : (ey == 0) = false := by simpa using h2
      clear h2
      go_wp2_with fail
      go_ret
      exact ⟨rfl, HG4.out⟩
  · have hxk : xb = [] := by
      have := HXE.out
      unfold ofK at this
      split at this
      · injection this with e _; exact e.symm
      · split at this
        · injection this with e _; exact e.symm
        · injection this with _ e; exact absurd e.symm h1
    subst hxk
    have hq : (ex != 0) = true := by simpa using h1
    have hq1 : (ex == 0) = false := by simpa using h1
    clear h1
    by_cases h2 : ey = 0
    · subst h2
      go_wp2_with fail
      go_ret
      exact ⟨rfl, HG4.out⟩
    · have hyk : yb = [] := by
        have := HYE.out
        unfold ofK at this
        split at this
        · injection this with e _; exact e.symm
        · split at this
          · injection this with e _; exact e.symm
          · injection this with _ e; exact absurd e.symm h2
      subst hyk
      have hq2 : (ey == 0) = false := by simpa using h2
      clear h2
      go_wp2_with fail
      go_ret
      exact ⟨rfl, HG4.out⟩
end Go.Proofs.YtpjhhkndfmcaoaaDoor
