/- Walk of the document's answer: the key of a value and the error, where 'of' is given. · Walk of the document's answer: the keys of values one behind the other, where 'of' is given. · Walk of the document's answer: the value of a key, where 'back' and 'Of' are given. -/
import Derived.Test.YtpjhhkndfmcaoaaDoorKeyIJ
import Derived.Test.YtpjhhkndfmcaoaaDoorKeyOA
import Derived.Test.YtpjhhkndfmcaoaaDoorGoodR
import Derived.Test.YtpjhhkndfmcaoaaDoorKeyTH
set_option linter.unusedVariables false
set_option linter.unusedSimpArgs false
namespace Go.Proofs.YtpjhhkndfmcaoaaDoor
open Go.RowKit Go.Shelf Go.WideShapes

theorem OfC.ofB {w w1 w' : World} {b : List UInt8} {A : Option Addr} {n c : Nat} (h1 : w.heap.size ≤ w1.heap.size) (hn : n = b.length) (hr : Row w' w1.heap.size (.slice A n c) n b) (hg : Grow w w') : OfC w (b, 0) (.returned (.tuple #[.slice A n c, .int .i64 0])) w' := by
  subst hn
  exact ⟨w1.heap.size, A, c, rfl, h1, hr, hg⟩
set_option maxRecDepth 100000 in
set_option maxHeartbeats 6400000 in
theorem refOf_any (v : V) (c : Cv) (w : World) (hd : v.depth ≤ 1099511627776) (hsz : v.formed = true → v.bytes.length ≤ 140737488355328) (hof : v.good = 0 → ∀ W, In W v c → Calls Tryd.prog 58 #[c.agg] W (BytK W v.key)) (hv : In w v c) : Calls Tryd.prog 18 #[c.agg] w (OfC w (ofK v)) := by
  have HG0 := hide ((Grow.refl w).alloc (.cells c.cells 27))
  have HB0 := hide (Blk.new w 27 c.cells)
  have hcell := (Blk.new w 27 c.cells).cell
  have HGOOD := hide (refGood_anyM v _ c hd hsz (hv.grow HG0.out))
  have HV := hide hv
  have HOF := hide hof
  have hge : v.good = 0 ∨ v.good ≠ 0 := by omega
  obtain ⟨g, hg⟩ : ∃ g, v.good = g := ⟨_, rfl⟩
  rw [hg] at HGOOD hge
  have HGD := hide hg
  clear hv hof hg hsz
  go_enter Tryd.func18, Tryd.ntmps18
  go_wp2_with fail
  refine HGOOD.out.mono ?_
  rintro e w1 ⟨rfl, hg1⟩
  have hB1 := HB0.out.grow hg1
  have HG1 := hide (HG0.out.trans hg1)
  have HB1 := hide hB1
  have hc1 := hB1.cell
  have hlt1 := hB1.lt
  have hs1 := HG1.out.size
  clear hg1 hB1 hcell
  by_cases h0 : g = 0
  · subst h0
    have HC := hide (HOF.out HGD.out w1 (HV.out.grow HG1.out))
    go_wp2_with fail
    refine HC.out.mono ?_
    rintro e w2 ⟨A2, c2, rfl, hr2, hg2⟩
    have HR2 := hide hr2
    have HG2 := hide (HG1.out.trans hg2)
    obtain ⟨KB, hKB⟩ : ∃ K, v.key = K := ⟨_, rfl⟩
    rw [hKB] at HR2
    clear hr2 hg2
    have HKB := hide hKB
    rw [hKB]
    by_cases hlen : 96 < KB.length
    · have hof : ofK v = ([], 14) := by unfold ofK; rw [if_neg (by rw [HGD.out]; simp), HKB.out, if_pos hlen]
      have HO := hide hof
      clear hof hKB
      go_wp2_with fail
      go_ret2
      rw [HO.out]
      exact OfC.bad HG2.out
    · have hof : ofK v = (KB, 0) := by unfold ofK; rw [if_neg (by rw [HGD.out]; simp), HKB.out, if_neg hlen]
      have HO := hide hof
      clear hof hKB
      go_wp2_with fail
      go_ret2
      rw [HO.out]
      exact OfC.ofB hs1 rfl HR2.out HG2.out
  · have hgb : (g == 0) = false := by simpa using h0
    have hof : ofK v = ([], g) := by unfold ofK; rw [if_pos (by rw [HGD.out]; exact h0), HGD.out]
    have HO := hide hof
    clear hof
    go_wp2_with fail
    go_ret2
    rw [HO.out]
    exact OfC.bad HG1.out
end Go.Proofs.YtpjhhkndfmcaoaaDoor

set_option linter.unusedVariables false
set_option linter.unusedSimpArgs false
namespace Go.Proofs.YtpjhhkndfmcaoaaDoor
open Go.RowKit Go.Shelf Go.WideShapes

theorem Row.inB {w : World} {base c : Nat} {A : Option Addr} {b : List UInt8} (h : Row w base (.slice A b.length c) b.length b) : InB w A b :=
  Reads.mono (fun p u hp => ⟨hp.1, Nat.zero_le _, hp.2.2⟩) h.reads.1

set_option maxRecDepth 100000 in
set_option maxHeartbeats 6400000 in
theorem refAll_any (l : List V) (ts : List Bool) (A F : Option Addr) (cap fc : Nat) (w : World) (hOf : ∀ v ∈ l, ∀ W c, In W v c → Calls Tryd.prog 18 #[c.agg] W (OfC W (ofK v))) (hv : InL w A cap l) (hf : InBo w F ts) (hts : ts.length ≤ 140737488355328) (hsm : 96 * l.length ≤ 140737488355328) :
    Calls Tryd.prog 25 #[.slice A l.length cap, .slice F ts.length fc] w (OfC w (allK l ts)) := by
  have hll : l.length ≤ 140737488355328 := by omega
  have HV := hide hv
  have HF := hide hf
  have HOFS := hide hOf
  clear hv hf hOf
  by_cases hlen : l.length = ts.length
  · have heq : ((l.length : Int) != (ts.length : Int)) = false := by simp [hlen]
    have HLEN := hide hlen
    clear hlen
    go_enter Tryd.func25, Tryd.ntmps25
    go_wp2_with fail
    go_loopg [6, 7] (l.length + 1) (fun gk o i wr => ∃ (j : Nat) (xs : List UInt8) (A' : Option Addr) (c' : Nat), j ≤ l.length ∧ gk + j = l.length + 1 ∧ i = .int .i64 j ∧ o = .slice A' xs.length c' ∧ Row wr w.heap.size (.slice A' xs.length c') xs.length xs ∧
      xs = allB (l.take j) (ts.take j) ∧ xs.length ≤ 96 * j ∧ (∀ i (hi : i < l.length), i < j → (ofK l[i]).2 = 0) ∧ Grow w wr)
    case atStart => exact ⟨0, [], none, 0, Nat.zero_le _, rfl, rfl, rfl, World.ownsRow_nil _ _ _ _, by simp [allB], by simp, fun _ _ h => absurd h (by omega), Grow.refl w⟩
    case round =>
      obtain ⟨j, xs, A', c', hj, hg, rfl, rfl, hr, hacc, hxl, hz, hgr⟩ := hrel
      obtain ⟨gk', rfl⟩ : ∃ g, gk = g + 1 := ⟨gk - 1, by omega⟩
      have HR := hide hr
      have HACC := hide hacc
      have HZ := hide hz
      have HG := hide hgr
      have hvr := In.grow HV.out hgr
      clear hr hacc hz hgr
      by_cases hlt : j < l.length
      · obtain ⟨bk, o, x, ha, hbk, e0, e1, e2, e3, e4, hx⟩ := hvr.elemL j hlt
        dsimp only [lcv] at ha
        subst ha
        have HX := hide hx
        have hlt2 : j < ts.length := by have := HLEN.out; omega
        have HOF := hide (HOFS.out l[j] (List.getElem_mem hlt) wr x hx)
        obtain ⟨KB, ke, hke⟩ : ∃ kb ke, ofK l[j] = (kb, ke) := ⟨_, _, rfl⟩
        rw [hke] at HOF
        have HKE := hide hke
        clear hx hvr hke
        go_wp2_with fail
        refine HOF.out.mono ?_
        rintro e w2 ⟨base2, B, bc, rfl, hb2, hr2, hg2⟩
        dsimp only at hr2 ⊢
        have hb2' := hb2
        have HR2 := hide hr2
        have HG2 := hide (HG.out.trans hg2)
        have HG12 := hide hg2
        clear hr2 hg2 hb2 e0 e1 e2 e3 e4
        by_cases hk0 : ke = 0
        · subst hk0
          have hof := ofK_zero (show (ofK l[j]).2 = 0 by rw [HKE.out])
          have hkb : l[j].key = KB := by have := HKE.out; rw [hof] at this; exact (Prod.ext_iff.1 this).1
          have hk96 : KB.length ≤ 96 := by rw [← hkb]; exact (ofK_good (show (ofK l[j]).2 = 0 by rw [HKE.out])).2
          have HKB := hide hkb
          have HTK := hide (allB_take l ts j hlt hlt2)
          have HZ' := hide (show ∀ i (hi : i < l.length), i < j + 1 → (ofK l[i]).2 = 0 from fun i hi hij => by
            rcases Nat.lt_succ_iff_lt_or_eq.1 hij with h | rfl
            · exact HZ.out i hi h
            · rw [HKE.out])
          obtain ⟨fb, fo, rfl, hfc⟩ := HF.out.2 (by omega)
          have hcf := ((HG2.out.below.cell (hfc j (.bool ts[j]) (by simp [hlt2])).2.2).trans (hfc j (.bool ts[j]) (by simp [hlt2])).1)
          have hfl2 : fb < w2.heap.size := Nat.lt_of_lt_of_le (hfc j (.bool ts[j]) (by simp [hlt2])).2.2 HG2.out.size
          have HRx := hide (HR.out.grow HG12.out)
          clear hof hkb hfc
          cases htj : ts[j] with
          | false =>
            rw [htj] at hcf HTK
            rw [show flip false l[j].key = KB by rw [HKB.out]; rfl] at HTK
            clear htj
            go_wp2_with (at_builtin; refine app_src (ys := KB) rfl (.tmp 38) (.tmp 39) _ rfl rfl HRx.out _ rfl (Src.ofReads under_u8s HR2.out.reads.1 (u8s_one _)) (by omega) HG2.out.size ?_; intro A3 c3 w3 hr3 hg3; have HR3 := hide hr3; have HG3 := hide (Grew.below hg3 HRx.out HG2.out.size); clear hr3 hg3)
            go_roundg gk'
            case measure => omega
            case rel =>
              have hn : (xs ++ KB).length = xs.length + KB.length := List.length_append
              exact ⟨j + 1, xs ++ KB, A3, c3, by omega, by omega, by go_num, by rw [hn], by rw [hn]; exact HR3.out, by rw [HTK.out, ← HACC.out], by omega, HZ'.out, Below.trans HG2.out HG3.out⟩
          | true =>
            rw [htj] at hcf HTK
            rw [show flip true l[j].key = KB.map flip1 by rw [HKB.out]; rfl] at HTK
            clear htj
            have HFA := hide (rfallen_any KB B bc w2 HR2.out.inB (by omega))
            go_wp2_with fail
            refine HFA.out.mono ?_
            rintro e w4 ⟨A5, c5, rfl, hr5, hg5⟩
            have hm : (KB.map flip1).length = KB.length := List.length_map ..
            have HR5 := hide hr5
            have HG5 := hide (HG2.out.trans hg5)
            have HRy := hide (HRx.out.grow hg5)
            have hz5 := HG5.out.size
            clear hr5 hg5
            obtain ⟨FB, hFB⟩ : ∃ z, KB.map flip1 = z := ⟨_, rfl⟩
            rw [hFB] at HR5 HTK hm
            rw [hFB]
            have hmle : FB.length ≤ 96 := by omega
            clear hFB hm
            go_wp2_with (at_builtin; refine app_src (ys := FB) rfl (.tmp 38) (.tmp 39) _ rfl rfl HRy.out _ rfl (Src.ofReads under_u8s HR5.out.reads.1 (u8s_one _)) (by omega) hz5 ?_; intro A3 c3 w3 hr3 hg3; have HR3 := hide hr3; have HG3 := hide (Grew.below hg3 HRy.out hz5); clear hr3 hg3)
            go_roundg gk'
            case measure => omega
            case rel =>
              have hn : (xs ++ FB).length = xs.length + FB.length := List.length_append
              exact ⟨j + 1, xs ++ FB, A3, c3, by omega, by omega, by go_num, by rw [hn], by rw [hn]; exact HR3.out, by rw [HTK.out, ← HACC.out], by omega, HZ'.out, Below.trans HG5.out HG3.out⟩
        · have hkb : (ke == 0) = false := by simpa using hk0
          have HA := hide (allK_err HLEN.out hk0 j hlt HZ.out (by rw [HKE.out]))
          go_wp2_with fail
          go_ret2
          rw [HA.out]
          exact OfC.bad HG2.out
      · have hjl : j = l.length := by omega
        have hz' : ∀ i (hi : i < l.length), (ofK l[i]).2 = 0 := fun i hi => HZ.out i hi (by omega)
        have hxs : xs = allB l ts := by rw [HACC.out, hjl, List.take_length, HLEN.out, List.take_length]
        by_cases h96 : 96 < xs.length
        · have HA := hide (allK_big HLEN.out hz' (by rw [← hxs]; exact h96))
          clear hxs hz'
          go_wp2_with fail
          go_ret2
          rw [HA.out]
          exact OfC.bad HG.out
        · have HA := hide (allK_good HLEN.out hz' (by rw [← hxs]; omega))
          have HXS := hide hxs
          clear hxs hz'
          go_wp2_with fail
          go_ret2
          rw [HA.out, ← HXS.out]
          exact OfC.ofB (Nat.le_refl _) rfl HR.out HG.out
  · have heq : ((l.length : Int) != (ts.length : Int)) = true := by simp [bne_iff_ne]; omega
    have HA := hide (allK_len hlen)
    clear hlen
    go_enter Tryd.func25, Tryd.ntmps25
    go_wp2_with fail
    go_ret2
    rw [HA.out]
    exact OfC.bad (Grow.refl w)
end Go.Proofs.YtpjhhkndfmcaoaaDoor

set_option linter.unusedVariables false
set_option linter.unusedSimpArgs false
namespace Go.Proofs.YtpjhhkndfmcaoaaDoor
open Go.RowKit Go.Shelf Go.WideShapes

/-- What back tells of a place. -/
def BkC (w : World) (b : List UInt8) (g : KGot) (e : Ending) (w' : World) : Prop :=
  (∀ v r, g = some (v, r) → ∃ c : Cv, r.length ≤ b.length ∧ e = .returned (.tuple #[c.agg, .int .i64 ((b.length - r.length : Nat) : Int), .bool true]) ∧ IsV (AtW w' w.heap.size w'.heap.size) v c ∧ Grow w w') ∧
  (g = none → ∃ (c : Cv) (z : Int), e = .returned (.tuple #[c.agg, .int .i64 z, .bool false]) ∧ Grow w w')
/-- What Back tells. -/
def BackC (w : World) (g : Option V) (e : Ending) (w' : World) : Prop :=
  Grow w w' ∧ (∀ v, g = some v → ∃ c : Cv, e = .returned (.tuple #[c.agg, .bool true]) ∧ In w' v c) ∧ (g = none → e = .returned (.tuple #[Cv.zero.agg, .bool false]))
theorem BackC.no {w w' : World} {g : Option V} (h : g = none) (hg : Grow w w') : BackC w g (.returned (.tuple #[Cv.zero.agg, .bool false])) w' :=
  ⟨hg, fun v e => by (rw [h] at e; cases e), fun _ => rfl⟩
theorem BackC.yes {w w' : World} {g : Option V} {v : V} {c : Cv} (h : g = some v) (hg : Grow w w') (hv : In w' v c) : BackC w g (.returned (.tuple #[c.agg, .bool true])) w' :=
  ⟨hg, fun u e => by (rw [h] at e; cases e; exact ⟨c, rfl, hv⟩), fun e => by (rw [h] at e; cases e)⟩


set_option maxRecDepth 100000 in
set_option maxHeartbeats 6400000 in
theorem refBack_any (g : Nat) (b : List UInt8) (B : Option Addr) (bc : Nat) (w : World) (hb : InB w B b) (hl : b.length ≤ 140737488355328)
    (hback : ∀ W, InB W B b → Calls Tryd.prog 59 #[.slice B b.length bc, .int .i64 0] W (BkC W b (kd true g b)))
    (hOf : ∀ v r, kd true g b = some (v, r) → ∀ W c, In W v c → Calls Tryd.prog 18 #[c.agg] W (OfC W (ofK v))) :
    Calls Tryd.prog 19 #[.slice B b.length bc] w (BackC w (backK (kd true g) b)) := by
  have HG0 := hide ((Grow.refl w).alloc (.cells Cv.zero.cells 27))
  have HB0 := hide (Blk.new w 27 Cv.zero.cells)
  have HBK := hide (hback _ (hb.grow HG0.out))
  have HB := hide hb
  have HOF := hide hOf
  clear hb hback hOf
  go_enter Tryd.func19, Tryd.ntmps19
  go_wp2_with fail
  refine HBK.out.mono ?_
  rintro e w1 hbk
  cases hk : kd true g b with
  | none =>
    obtain ⟨c, z, rfl, hg1⟩ := hbk.2 hk
    have hno : backK (kd true g) b = none := by unfold backK; rw [hk]
    have HNO := hide hno
    have HG1 := hide (HG0.out.trans hg1)
    have HB1 := hide (HB0.out.grow hg1)
    have hc1 := (HB0.out.grow hg1).cell
    have hlt1 := (HB0.out.grow hg1).lt
    have hz1 := (HB0.out.grow hg1).frozen
    clear hbk hk hno hg1
    go_wp2_with fail
    exact bodyPost_ret (back_res rfl rfl rfl Cv.zero ((set5_blk (c := Cv.zero) HB1.out).alloc _)) rfl (BackC.no HNO.out ((HG1.out.set5v (Nat.le_refl _) Cv.zero).alloc _))
  | some p =>
    obtain ⟨v, r⟩ := p
    obtain ⟨c, hrl, rfl, hv1, hg1⟩ := hbk.1 v r hk
    have HG1 := hide (HG0.out.trans hg1)
    have HB1 := hide (HB0.out.grow hg1)
    have hc1 := (HB0.out.grow hg1).cell
    have hlt1 := (HB0.out.grow hg1).lt
    have hz1 := (HB0.out.grow hg1).frozen
    have HV1 := hide hv1
    have HK := hide hk
    obtain ⟨q, hq⟩ : ∃ q, b.length - r.length = q := ⟨_, rfl⟩
    rw [hq]
    clear hbk hk hg1 hv1
    by_cases hr : r = []
    · subst hr
      have hqb : q = b.length := by simp at hq; omega
      subst hqb
      have HO := hide (HOF.out v [] HK.out _ c ((isv_in HV1.out).grow ((Grow.refl w1).alloc (.cells c.cells 27))))
      obtain ⟨KB, ke, hke⟩ : ∃ kb ke, ofK v = (kb, ke) := ⟨_, _, rfl⟩
      rw [hke] at HO
      have HKE := hide hke
      clear hke
      clear hq hrl
      go_wp2_with fail
      refine HO.out.mono ?_
      rintro e w2 ⟨base2, A2, c2, rfl, hb2, hr2, hg2⟩
      dsimp only at hr2 ⊢
      have HG12 := hide (((Grow.refl w1).alloc (.cells c.cells 27)).trans hg2)
      have HG2 := hide (HG1.out.trans HG12.out)
      have HB2 := hide (HB1.out.grow HG12.out)
      have HC2 := hide ((Blk.new w1 27 c.cells).grow hg2)
      have hcc := HC2.out.cell
      have hcl := HC2.out.lt
      have hd1 := HB2.out.cell
      have hd2 := HB2.out.lt
      have hd3 := HB2.out.frozen
      have hs1 := conv_str c2 hr2.reads.1
      have hs2 := conv_str bc (HB.out.grow HG2.out)
      have HV2 := hide (isv_grow HV1.out HG12.out)
      clear hr2 hg2 hb2 hc1 hlt1 hz1
      by_cases hk0 : ke = 0
      · subst hk0
        by_cases hkb : KB = b
        · subst hkb
          have hyes : backK (kd true g) KB = some v := by unfold backK; rw [HK.out]; simp [HKE.out]
          have HYES := hide hyes
          clear hyes
          go_wp2_with fail
          exact bodyPost_ret (back_res rfl rfl rfl c (set5_from (c := c) HB2.out)) rfl (BackC.yes HYES.out (HG2.out.set5v (Nat.le_refl _) c) (isv_in (isv_set5 HV2.out (by simp) c)))
        · have hbq : (KB == b) = false := by simpa using hkb
          have hno : backK (kd true g) b = none := by unfold backK; rw [HK.out]; simp [HKE.out, hkb]
          have HNO := hide hno
          clear hno
          go_wp2_with fail
          exact bodyPost_ret (back_res rfl rfl rfl Cv.zero (set5_blk (c := Cv.zero) HB2.out)) rfl (BackC.no HNO.out (HG2.out.set5v (Nat.le_refl _) Cv.zero))
      · have hkq : (ke == 0) = false := by simpa using hk0
        have hno : backK (kd true g) b = none := by unfold backK; rw [HK.out]; simp [HKE.out, hk0]
        have HNO := hide hno
        clear hno
        go_wp2_with fail
        exact bodyPost_ret (back_res rfl rfl rfl Cv.zero (set5_blk (c := Cv.zero) HB2.out)) rfl (BackC.no HNO.out (HG2.out.set5v (Nat.le_refl _) Cv.zero))
    · have hrp : 0 < r.length := List.length_pos_iff.2 hr
      have hne : ((q : Int) != (b.length : Int)) = true := by simp [bne_iff_ne]; omega
      have hno : backK (kd true g) b = none := by unfold backK; rw [HK.out]; simp [hr]
      have HNO := hide hno
      clear hno hq hrl hrp hr
      go_wp2_with fail
      exact bodyPost_ret (back_res rfl rfl rfl Cv.zero ((set5_blk (c := Cv.zero) HB1.out).alloc _)) rfl (BackC.no HNO.out ((HG1.out.set5v (Nat.le_refl _) Cv.zero).alloc _))
end Go.Proofs.YtpjhhkndfmcaoaaDoor
