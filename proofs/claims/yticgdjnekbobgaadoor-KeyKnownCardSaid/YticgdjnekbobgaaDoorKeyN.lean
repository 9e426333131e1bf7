/- Walks: the reader of keys: numbers. -/
import Derived.Test.YticgdjnekbobgaaDoorKeyR
set_option linter.unusedVariables false
set_option linter.unusedSimpArgs false
namespace Go.Proofs.YticgdjnekbobgaaDoor
open Go.RowKit Go.Shelf Go.WideShapes

/-- A value that is its two numbers alone. -/
abbrev flatC (v : V) : Cv := ⟨v.k, (v.n : Int), none, 0, 0, none, 0, 0, none, 0, 0⟩
/-- What the reader of numbers tells. -/
def KNum (w : World) (pb : Nat) (t : Bool) (got : KGot) (r : Ending) (w' : World) : Prop :=
  match got with
  | some (v, rest) => r = .returned (flatC v).agg ∧ Kr w' pb t rest ∧ GB w w' pb
  | none => KP w pb r w'
theorem KNum.some_ {w w' : World} {pb : Nat} {t : Bool} {got : KGot} {v : V} {rest : List UInt8} (h : got = some (v, rest)) (hk : Kr w' pb t rest) (hg : GB w w' pb) : KNum w pb t got (.returned (flatC v).agg) w' := by
  subst h; exact ⟨rfl, hk, hg⟩
theorem KNum.none_ {w w' : World} {pb : Nat} {t : Bool} {got : KGot} {r : Ending} (h : got = none) (hk : KP w pb r w') : KNum w pb t got r w' := by
  subst h; exact hk
theorem num_res {F : Func} {W : World} {vb : Nat} {tmps : Array Value} (hF : F.results = #[ResultVar.cell 2 27]) (h2 : tmps.getD 2 undef = .pointer (some ⟨vb, 0, none⟩)) (c : Cv) (hv : Blk W vb 27 c.cells) :
    (results F tmps).run Tryd.prog W = .ok c.agg W := by
  have hl := run_loadVar_row (P := Tryd.prog) W vb 27 27 c.cells (0, 0) _ hv Tryd.underlying27 rfl info_val
  have h2' : tmps[2]?.getD undef = .pointer (some ⟨vb, 0, none⟩) := by simpa using h2
  simp [results, hF, h2', asAddr, hl]
set_option maxRecDepth 100000 in
set_option maxHeartbeats 3200000 in
theorem knum_nil (pb : Nat) (t : Bool) (w : World) (h : Kr w pb t []) : Calls Tryd.prog 147 #[.pointer (some ⟨pb, 0, none⟩)] w (KNum w pb t (kdN [])) := by
  have H := hide (h.grow ((Grow.refl w).alloc (.cells Cv.zero.cells 27)))
  have HG := hide ((GB.refl w pb).grow ((Grow.refl w).alloc (.cells Cv.zero.cells 27)))
  clear h
  go_enter Tryd.func147, Tryd.ntmps147
  go_wp2_with fail
  refine (kbyte_no pb t _ H.out).mono ?_
  rintro e w2 ⟨rfl, rfl⟩
  go_wp2_with fail
  exact ⟨rfl, KNum.none_ rfl ⟨rfl, HG.out⟩⟩
set_option maxRecDepth 100000 in
set_option maxHeartbeats 6400000 in
theorem knum_nan (pb : Nat) (t : Bool) (y : UInt8) (bs : List UInt8) (hy : y = 0) (w : World) (h : Kr w pb t (y :: bs)) : Calls Tryd.prog 147 #[.pointer (some ⟨pb, 0, none⟩)] w (KNum w pb t (kdN (y :: bs))) := by
  have hlt := h.lt
  have HB := hide (Blk.new w 27 Cv.zero.cells)
  have H := hide (h.grow ((Grow.refl w).alloc (.cells Cv.zero.cells 27)))
  have HG := hide ((GB.refl w pb).grow ((Grow.refl w).alloc (.cells Cv.zero.cells 27)))
  clear h
  subst hy
  go_enter Tryd.func147, Tryd.ntmps147
  go_wp2_with fail
  refine (kbyte_yes pb t 0 bs _ H.out).mono ?_
  rintro e w2 ⟨rfl, hk2, hg2, hz2⟩
  have HK2 := hide hk2
  have HB2 := hide (HB.out.own hg2 (fun k e => by injection e with e; omega))
  have HG2 := hide (HG.out.trans hg2)
  clear hk2 hg2 hz2
  by_cases hl : 8 ≤ bs.length
  · go_wp2_with fail
    refine (kword_yes pb t 8 bs _ HK2.out (by omega) hl).mono ?_
    rintro e w3 ⟨rfl, hk3, hg3, hz3⟩
    obtain ⟨n, hn⟩ : ∃ n, ofBe (bs.take 8) = n := ⟨_, rfl⟩
    rw [hn]
    have HN := hide hn
    have HB3 := hide (HB2.out.own hg3 (fun k e => by injection e with e; omega))
    have HK3 := hide hk3
    have HG3 := hide (HG2.out.trans hg3)
    clear hk3 hg3 hz3 hn
    have hB := HB3.out
    have hltB := hB.lt
    have hcell := hB.cell
    have hfr := hB.frozen
    clear hB
    go_wp2_with fail
    refine bodyPost_ret (num_res rfl rfl ⟨4, n, none, 0, 0, none, 0, 0, none, 0, 0⟩ (set5_from (c := ⟨4, n, none, 0, 0, none, 0, 0, none, 0, 0⟩) HB3.out)) rfl ?_
    exact KNum.some_ (v := V.mk 4 n [] [] []) (by rw [kdN, if_pos rfl, if_pos hl, HN.out]) (HK3.out.kept (set5_grown w3 w.heap.size ⟨4, n, none, 0, 0, none, 0, 0, none, 0, 0⟩) hlt) (set5_gb HG3.out (Nat.le_refl _) ⟨4, n, none, 0, 0, none, 0, 0, none, 0, 0⟩)
  · go_wp2_with fail
    refine (kword_no pb t 8 bs _ HK2.out (by omega) (by omega)).mono ?_
    rintro e w3 ⟨rfl, hg3⟩
    have HG3 := hide (HG2.out.trans hg3)
    clear hg3
    go_wp2_with fail
    exact ⟨rfl, KNum.none_ (by rw [kdN, if_pos rfl, if_neg hl]) ⟨rfl, HG3.out⟩⟩
set_option maxRecDepth 100000 in
set_option maxHeartbeats 6400000 in
theorem knum_num (pb : Nat) (t : Bool) (y : UInt8) (bs : List UInt8) (hy : y ≠ 0) (w : World) (h : Kr w pb t (y :: bs)) : Calls Tryd.prog 147 #[.pointer (some ⟨pb, 0, none⟩)] w (KNum w pb t (kdN (y :: bs))) := by
  have hlt := h.lt
  have HB := hide (Blk.new w 27 Cv.zero.cells)
  have H := hide (h.grow ((Grow.refl w).alloc (.cells Cv.zero.cells 27)))
  have HG := hide ((GB.refl w pb).grow ((Grow.refl w).alloc (.cells Cv.zero.cells 27)))
  clear h
  have hyl := y.toNat_lt
  have hyn : ((y.toNat : Int) == 0) = false := by
    have : y.toNat ≠ 0 := fun e => hy (UInt8.toNat_inj.1 e)
    simp; omega
  have HY := hide hy
  have hbf := run_from
  clear hy
  go_enter Tryd.func147, Tryd.ntmps147
  go_wp2_with fail
  refine (kbyte_yes pb t y bs _ H.out).mono ?_
  rintro e w2 ⟨rfl, hk2, hg2, hz2⟩
  have HK2 := hide hk2
  have HB2 := hide (HB.out.own hg2 (fun k e => by injection e with e; omega))
  have HG2 := hide (HG.out.trans hg2)
  clear hk2 hg2 hz2
  by_cases hl8 : 8 ≤ bs.length
  · go_wp2_with fail
    refine (kword_yes pb t 8 bs _ HK2.out (by omega) hl8).mono ?_
    rintro e w3 ⟨rfl, hk3, hg3, hz3⟩
    obtain ⟨n, hn⟩ : ∃ n, ofBe (bs.take 8) = n := ⟨_, rfl⟩
    rw [hn]
    have HN := hide hn
    have HB3 := hide (HB2.out.own hg3 (fun k e => by injection e with e; omega))
    have HK3 := hide hk3
    have HG3 := hide (HG2.out.trans hg3)
    clear hk3 hg3 hz3 hn
    have hn64 : n < 18446744073709551616 := by rw [← HN.out]; exact ofBe8 bs hl8
    go_wp2_with fail
    refine (kback n _ hn64).mono ?_
    rintro e w' ⟨rfl, rfl⟩
    obtain ⟨m, hm⟩ : ∃ m, backN n = m := ⟨_, rfl⟩
    have hm64 : m < 18446744073709551616 := by rw [← hm]; exact backN_lt n hn64
    rw [hm]
    have HM := hide hm
    clear hm
    obtain ⟨bs8, hb8⟩ : ∃ l, bs.drop 8 = l := ⟨_, rfl⟩
    have hl88 : bs8.length = bs.length - 8 := by rw [← hb8, List.length_drop]
    have hl8a : bs8.length + 8 ≤ bs.length := by omega
    have hl8b : bs.length ≤ bs8.length + 8 := by omega
    clear hl88
    rw [hb8] at HK3
    have HB8 := hide hb8
    clear hb8
    by_cases hl10 : 2 ≤ bs8.length
    · go_wp2_with fail
      refine (kword_yes pb t 2 bs8 _ HK3.out (by omega) hl10).mono ?_
      rintro e w4 ⟨rfl, hk4, hg4, hz4⟩
      obtain ⟨rs, hrs⟩ : ∃ n, ofBe (bs8.take 2) = n := ⟨_, rfl⟩
      rw [hrs]
      have HRS := hide hrs
      have HB4 := hide (HB3.out.own hg4 (fun k e => by injection e with e; omega))
      have HK4 := hide hk4
      have HG4 := hide (HG3.out.trans hg4)
      clear hk4 hg4 hz4 hrs
      have hrs : rs < 65536 := by rw [← HRS.out]; have := ofBe_lt (bs8.take 2); rw [List.length_take, Nat.min_eq_left hl10] at this; exact this
      cases hb10 : bs8.drop 2 with
      | nil =>
        rw [hb10] at HK4
        have hlen : bs.length = 10 := by have := congrArg List.length hb10; rw [List.length_drop, List.length_nil] at this; omega
        clear hb10
        go_wp2_with fail
        refine (kbyte_no pb t _ HK4.out).mono ?_
        rintro e w5 ⟨rfl, rfl⟩
        go_wp2_with fail
        exact ⟨rfl, KNum.none_ (by rw [kdN, if_neg HY.out, if_neg (by omega)]) ⟨rfl, HG4.out⟩⟩
      | cons z r =>
        rw [hb10] at HK4
        have hl11 : 11 ≤ bs.length := by have := congrArg List.length hb10; rw [List.length_drop, List.length_cons] at this; omega
        have h10 : bs[10]? = some z := by
          have : (bs.drop 10)[0]? = some z := by rw [show bs.drop 10 = bs8.drop 2 by rw [← HB8.out, List.drop_drop], hb10]; rfl
          rwa [List.getElem?_drop] at this
        have h11 : bs.drop 11 = r := by
          rw [show bs.drop 11 = (bs8.drop 2).drop 1 by rw [← HB8.out, List.drop_drop, List.drop_drop], hb10]; rfl
        have H10 := hide h10
        have H11 := hide h11
        clear hb10 h10 h11
        have hzl := z.toNat_lt
        go_wp2_with fail
        refine (kbyte_yes pb t z r _ HK4.out).mono ?_
        rintro e w5 ⟨rfl, hk5, hg5, hz5⟩
        have HK5 := hide hk5
        have HB5 := hide (HB4.out.own hg5 (fun k e => by injection e with e; omega))
        have HG5 := hide (HG4.out.trans hg5)
        clear hk5 hg5 hz5
        have hkd : kdN (y :: bs) = if z = 1 then some (V.mk 4 m [] [] [], r)
             else if (Ieee.double.order m 14114281232179134464 = some .gt ∨ Ieee.double.order m 14114281232179134464 = some .eq) ∧ Ieee.double.order m 4890909195324358656 = some .lt then
              (match floatToIntVal .f64 m .i64 with
               | some n => some (V.mk 3 ((n + (rs : Int)) % 18446744073709551616).toNat [] [] [], r)
               | none => none)
             else none := by
          rw [kdN, if_neg HY.out, if_pos hl11, H10.out, HN.out, HM.out, HB8.out, HRS.out, H11.out]
          simp only [Option.some.injEq]
          try rfl
        have HKD := hide hkd
        clear hkd
        by_cases hz1 : z = 1
        · subst hz1
          have hB := HB5.out
          have hltB := hB.lt
          have hcell := hB.cell
          have hfr := hB.frozen
          clear hB
          go_wp2_with fail
          refine bodyPost_ret (num_res rfl rfl ⟨4, m, none, 0, 0, none, 0, 0, none, 0, 0⟩ (set5_from (c := ⟨4, m, none, 0, 0, none, 0, 0, none, 0, 0⟩) HB5.out)) rfl ?_
          exact KNum.some_ (v := V.mk 4 m [] [] []) (by rw [HKD.out]; exact if_pos trivial) (HK5.out.kept (set5_grown w5 w.heap.size ⟨4, m, none, 0, 0, none, 0, 0, none, 0, 0⟩) hlt) (set5_gb HG5.out (Nat.le_refl _) ⟨4, m, none, 0, 0, none, 0, 0, none, 0, 0⟩)
        · have hz1n : ((z.toNat : Int) == 1) = false := by
            have : z.toNat ≠ 1 := fun e => hz1 (UInt8.toNat_inj.1 e)
            simp; omega
          have HZ1 := hide hz1
          clear hz1
          by_cases hin : (Ieee.double.order m 14114281232179134464 = some .gt ∨ Ieee.double.order m 14114281232179134464 = some .eq) ∧ Ieee.double.order m 4890909195324358656 = some .lt
          · obtain ⟨q, hq, hq1, hq2⟩ := whole_some hin.1 hin.2
            have hcv := conv_fi m q hq
            have ho1 : (FloatKind.f64.format.order m 14114281232179134464 == some Ordering.gt || FloatKind.f64.format.order m 14114281232179134464 == some Ordering.eq) = true := by
              show (Ieee.double.order m 14114281232179134464 == some Ordering.gt || Ieee.double.order m 14114281232179134464 == some Ordering.eq) = true
              rcases hin.1 with h | h <;> rw [h] <;> rfl
            have ho2 : FloatKind.f64.format.order m 4890909195324358656 = some Ordering.lt := hin.2
            have HIN := hide hin
            have HQ := hide hq
            have hsum : IntKind.u64.wrap (IntKind.u64.wrap q + (rs : Int)) = (((q + (rs : Int)) % 18446744073709551616).toNat : Int) := by rw [IntKind.wrap_u64, IntKind.wrap_u64]; omega
            obtain ⟨res, hres⟩ : ∃ x, ((q + (rs : Int)) % 18446744073709551616).toNat = x := ⟨_, rfl⟩
            rw [hres] at hsum
            have HRES := hide hres
            have hB := HB5.out
            have hltB := hB.lt
            have hcell := hB.cell
            have hfr := hB.frozen
            clear hin hq hres hB
            go_wp2_with (go_at_call 145; refine (kmust_yes _).mono ?_; rintro e w' ⟨rfl, rfl⟩)
            refine bodyPost_ret (num_res rfl rfl ⟨3, res, none, 0, 0, none, 0, 0, none, 0, 0⟩ (set5_from (c := ⟨3, res, none, 0, 0, none, 0, 0, none, 0, 0⟩) HB5.out)) rfl ?_
            exact KNum.some_ (v := V.mk 3 res [] [] []) (by rw [HKD.out, if_neg HZ1.out, if_pos HIN.out, HQ.out]; simp only [HRES.out]) (HK5.out.kept (set5_grown w5 w.heap.size ⟨3, res, none, 0, 0, none, 0, 0, none, 0, 0⟩) hlt) (set5_gb HG5.out (Nat.le_refl _) ⟨3, res, none, 0, 0, none, 0, 0, none, 0, 0⟩)
          · have HIN := hide hin
            have HEND := hide (KNum.none_ (got := kdN (y :: bs)) (w := w) (w' := w5) (pb := pb) (t := t) (by rw [HKD.out, if_neg HZ1.out, if_neg HIN.out]) (r := .panicked (thrown 14)) ⟨rfl, HG5.out⟩)
            by_cases ho1 : (FloatKind.f64.format.order m 14114281232179134464 == some Ordering.gt || FloatKind.f64.format.order m 14114281232179134464 == some Ordering.eq) = true
            · have ho2 : (FloatKind.f64.format.order m 4890909195324358656 == some Ordering.lt) = false := by
                cases hx : (FloatKind.f64.format.order m 4890909195324358656 == some Ordering.lt) with
                | false => rfl
                | true =>
                  refine absurd ⟨?_, ?_⟩ hin
                  · rcases (Bool.or_eq_true_iff.1 ho1) with h | h
                    · exact .inl (eq_of_beq h)
                    · exact .inr (eq_of_beq h)
                  · exact eq_of_beq hx
              clear hin
              go_wp2_with (go_at_call 145; refine (kmust_no _).mono ?_; rintro e w' ⟨rfl, rfl⟩)
              exact ⟨rfl, HEND.out⟩
            · have ho1' : (FloatKind.f64.format.order m 14114281232179134464 == some Ordering.gt || FloatKind.f64.format.order m 14114281232179134464 == some Ordering.eq) = false := by simpa using ho1
              clear hin ho1
              go_wp2_with (go_at_call 145; refine (kmust_no _).mono ?_; rintro e w' ⟨rfl, rfl⟩)
              exact ⟨rfl, HEND.out⟩
    · go_wp2_with fail
      refine (kword_no pb t 2 bs8 _ HK3.out (by omega) (by omega)).mono ?_
      rintro e w4 ⟨rfl, hg4⟩
      have HG4 := hide (HG3.out.trans hg4)
      clear hg4
      go_wp2_with fail
      exact ⟨rfl, KNum.none_ (by rw [kdN, if_neg HY.out, if_neg (by omega)]) ⟨rfl, HG4.out⟩⟩
  · go_wp2_with fail
    refine (kword_no pb t 8 bs _ HK2.out (by omega) (by omega)).mono ?_
    rintro e w3 ⟨rfl, hg3⟩
    have HG3 := hide (HG2.out.trans hg3)
    clear hg3
    go_wp2_with fail
    exact ⟨rfl, KNum.none_ (by rw [kdN, if_neg HY.out, if_neg (by omega)]) ⟨rfl, HG3.out⟩⟩
theorem knum_any (pb : Nat) (t : Bool) (bs : List UInt8) (w : World) (h : Kr w pb t bs) : Calls Tryd.prog 147 #[.pointer (some ⟨pb, 0, none⟩)] w (KNum w pb t (kdN bs)) := by
  cases bs with
  | nil => exact knum_nil pb t w h
  | cons y bs =>
    by_cases hy : y = 0
    · exact knum_nan pb t y bs hy w h
    · exact knum_num pb t y bs hy w h
end Go.Proofs.YticgdjnekbobgaaDoor
