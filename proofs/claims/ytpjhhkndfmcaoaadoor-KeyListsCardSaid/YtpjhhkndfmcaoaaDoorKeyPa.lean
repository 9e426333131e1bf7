/- Walk of key.Parts: values' keys read one behind the other. -/
import Derived.Test.YtpjhhkndfmcaoaaDoorKeyCR
import Derived.Test.YtpjhhkndfmcaoaaDoorKeyTH
import Derived.Test.YtpjhhkndfmcaoaaDoorRead5
import Derived.Test.YtpjhhkndfmcaoaaDoorKeyCC
import Derived.Test.YtpjhhkndfmcaoaaDoorKeyAP
set_option linter.unusedVariables false
set_option linter.unusedSimpArgs false
namespace Go.Proofs.YtpjhhkndfmcaoaaDoor
open Go.RowKit Go.Shelf Go.WideShapes

/-- What has been read of keys in a row. -/
def PSo (ts : List Bool) (b : List UInt8) (j : Nat) (r : List UInt8) (es : List VE) : Prop :=
  partsRd (kd false 17) ts b = (partsRd (kd false 17) (ts.drop j) r).map fun p => (es.map VE.v ++ p.1, p.2)
theorem PSo.start (ts : List Bool) (b : List UInt8) : PSo ts b 0 b [] := by
  unfold PSo
  rw [List.drop_zero]
  cases partsRd (kd false 17) ts b <;> rfl
theorem PSo.fail {ts : List Bool} {b : List UInt8} {j : Nat} {r : List UInt8} {es : List VE} (h : PSo ts b j r es) (hj : j < ts.length) (hf : kd false 17 (flip ts[j] r) = none) : partsRd (kd false 17) ts b = none := by
  rw [h, List.drop_eq_getElem_cons hj, partsRd, hf]; rfl
theorem PSo.step {ts : List Bool} {b : List UInt8} {j : Nat} {r r' : List UInt8} {es : List VE} {x : VE} (h : PSo ts b j r es) (hj : j < ts.length) (hf : kd false 17 (flip ts[j] r) = some (x.v, r')) : PSo ts b (j + 1) (flip ts[j] r') (es ++ [x]) := by
  unfold PSo
  rw [h, List.drop_eq_getElem_cons hj, partsRd, hf]
  simp only
  cases partsRd (kd false 17) (ts.drop (j + 1)) (flip ts[j] r') <;> simp
theorem PSo.done {ts : List Bool} {b : List UInt8} {r : List UInt8} {es : List VE} (h : PSo ts b ts.length r es) : partsRd (kd false 17) ts b = some (es.map VE.v, r) := by
  rw [h, List.drop_length]; simp [partsRd]
theorem partsK_none {ts : List Bool} {b : List UInt8} (h : partsRd (kd false 17) ts b = none) : partsK (kd false 17) ts b = none := by unfold partsK; rw [h]
theorem partsK_other {ts : List Bool} {b : List UInt8} {l : List V} {r : List UInt8} (h : partsRd (kd false 17) ts b = some (l, r)) (hk : allK l ts ≠ (b, 0)) : partsK (kd false 17) ts b = none := by
  unfold partsK; rw [h]; simp [hk]
theorem partsK_yes {ts : List Bool} {b : List UInt8} {l : List V} {r : List UInt8} (h : partsRd (kd false 17) ts b = some (l, r)) (hk : allK l ts = (b, 0)) : partsK (kd false 17) ts b = some l := by
  have h2 := partsK_of h hk false 16 (by omega)
  unfold partsK; rw [h2]; simp [hk]

theorem make_valsN (S : Nat) (hS : S ≤ 1000000000) : ∃ cur : Array Value, cur.size = S * 5 ∧ ∀ w : World, (Instr.makeSlice 24 (.int .i64 0) (.int .i64 (S : Int))).run Tryd.prog w = .ok (.slice (some ⟨w.heap.size, 0, none⟩) 0 S) (w.alloc (.cells cur 27)) := by
  obtain ⟨i0, hi0, hz0, hz1, hz2⟩ := info_parts info_val3
  refine ⟨madeCells (Value.agg #[.int .i64 0, .int .u64 0, .slice none 0 0, .slice none 0 0, .slice none 0 0]).cells (S * i0.size), ?_, fun w => ?_⟩
  · rw [hz1]; simp [madeCells]
  · have h := run_make (P := Tryd.prog) (w := w) 24 27 i0 _ under_vals hi0 hz0 .i64 .i64 0 (S : Int) (by omega) (by omega) (by rw [hz2]; omega) (by omega)
    exact h
theorem Src.oneV2 {w : World} {o : Obj} (c : Cv) (e : TypeId) : Src Tryd.prog 5 24 (.slice (some ⟨w.heap.size + 1, 0, none⟩) 1 1) 1 c.cells.toList ((w.alloc o).alloc (.cells c.cells e)) := by
  have h := Src.oneV (w := w.alloc o) c e
  rwa [show (w.alloc o).heap.size = w.heap.size + 1 by simp] at h

set_option maxRecDepth 100000 in
set_option maxHeartbeats 1600000 in
theorem beq_any (a b : List UInt8) (A B : Option Addr) (c d : Nat) (w : World) (h : InB w A a) (g : InB w B b) :
    Calls Tryd.prog 63 #[.slice A a.length c, .slice B b.length d] w fun e w' => e = .returned (.bool (a == b)) ∧ w' = w := by
  have hs1 := conv_str c h
  have hs2 := conv_str d g
  clear h g
  go_enter Tryd.func63, Tryd.ntmps63
  go_wp2_with fail
  go_ret
  exact ⟨rfl, rfl⟩

theorem src_vals {w : World} {base n c : Nat} {A : Option Addr} {es : List VE} (h : w.ownsRow base 27 5 (.slice A n c) n (cellsOf noHead es)) : Src Tryd.prog 5 24 (.slice A n c) n (cellsOf noHead es) w := by
  refine Src.ofReads (lo := 0) (hi := w.heap.size) under_vals ⟨h.1, fun hn => ?_⟩ ?_
  · obtain ⟨g, cap, hv, hb, hlt⟩ := World.ownsRow.form h (by omega)
    have hA : A = some ⟨g, 0, none⟩ := by injection hv
    subst hA
    refine ⟨g, 0, rfl, fun j u hu => ⟨?_, Nat.zero_le _, hlt⟩⟩
    have := World.ownsRow.cells h (g := g) rfl j u hu
    rwa [add_lit] at this
  · intro u hu
    unfold cellsOf at hu
    obtain ⟨l, hl, hu⟩ := List.mem_flatten.1 hu
    obtain ⟨x, _, rfl⟩ := List.mem_map.1 hl
    simp only [List.nil_append] at hu
    simp only [List.mem_cons, List.not_mem_nil, or_false] at hu
    rcases hu with rfl | rfl | rfl | rfl | rfl <;> rfl
theorem VRow.list {W : World} {lo base n cap : Nat} {A : Option Addr} {es : List VE} (h : VRow W 27 noHead 5 lo 0 base (.slice A n cap) es) (hn : n = es.length) (h1 : lo ≤ base) (h2 : 0 < base) (h64 : n ≤ 140737488355328) :
    IsV (AtW W lo W.heap.size) (.mk 7 0 [] (es.map VE.v) []) (lcv A (es.map VE.v).length cap) := by
  have := IsV.mono (C' := AtW W lo W.heap.size) (fun _ _ h => ⟨h.1.1.1, h.2.1, h.2.2⟩) _ _ ((h.isLK hn h1 h2 h64).isV _ _ _)
  rw [List.length_map, ← hn]
  exact this
theorem VRow.moved {W W' : World} {lo base base' n cap cap' : Nat} {A A' : Option Addr} {es : List VE} (h : VRow W 27 noHead 5 lo 0 base (.slice A n cap) es) (hs : W.heap.size ≤ W'.heap.size) (hb : ∀ k, k < W.heap.size → W'.heap[k]? = W.heap[k]?) (hbase : W.heap.size ≤ base')
    (ho : W'.ownsRow base' 27 5 (.slice A' n cap') es.length (cellsOf noHead es)) : VRow W' 27 noHead 5 lo 0 base' (.slice A' n cap') es := by
  refine ⟨ho, fun x hx => ?_, h.apart⟩
  obtain ⟨p1, p2, p3, p4⟩ := h.part x hx
  exact ⟨p1, p2, fun g e => by have := (World.ownsRow.lt ho g e).1; have := p4.1; omega, p4.blocks hs (fun k _ hk => hb k (Nat.lt_of_lt_of_le hk p4.1))⟩

theorem KPartsC.no {w w' : World} {g : Option (List V)} (h : g = none) (hg : Grow w w') : KPartsC w g (.returned (.tuple #[.slice none 0 0, .int .i64 14])) w' :=
  ⟨hg, fun v e => (by rw [h] at e; cases e), fun _ => rfl⟩

set_option maxRecDepth 100000 in
set_option maxHeartbeats 6400000 in
theorem kparts_any (b : List UInt8) (ts : List Bool) (B F : Option Addr) (bc fc : Nat) (w : World) (hT : Tabs w) (hb : InB w B b) (hf : InBo w F ts) (hl : b.length ≤ 1000000000) (hcap : b.length ≤ bc) (hts : ts.length ≤ 1000000000) :
    Calls Tryd.prog 24 #[.slice B b.length bc, .slice F ts.length fc] w (KPartsC w (partsK (kd false 17) ts b)) := by
  have hw0 : 0 < w.heap.size := by have := hT.lt; omega
  have HT := hide hT
  have HB := hide hb
  have HF := hide hf
  obtain ⟨cur, hcur, hmk⟩ := make_valsN (min ts.length b.length) (by omega)
  have hmin : ((min ts.length b.length : Nat) : Int) = min (ts.length : Int) (b.length : Int) := by omega
  rw [hmin] at hmk
  obtain ⟨S, hS⟩ : ∃ S, min ts.length b.length = S := ⟨_, rfl⟩
  rw [hS] at hcur hmk
  have hown0 : (w.alloc (.cells cur 27)).ownsRow w.heap.size 27 5 (.slice (some ⟨w.heap.size, 0, none⟩) 0 S) 0 (cellsOf noHead []) := World.ownsRow_made w cur S (Nat.le_refl _) (by simp only [maxLen]; omega) (by omega)
  have HV0 := hide (show VRow (w.alloc (.cells cur 27)) 27 noHead 5 w.heap.size 0 w.heap.size (.slice (some ⟨w.heap.size, 0, none⟩) 0 S) [] from ⟨hown0, fun x hx => by simp at hx, fun i j hi => by simp at hi⟩)
  have HG0 := hide ((Grow.refl w).alloc (.cells cur 27))
  obtain ⟨i0, hi0, hz0', hz1, hz2⟩ := info_parts info_val3
  have Hi0 := hide hi0
  have Hz0 := hide hz0'
  have Hz1 := hide hz1
  have Hz2 := hide hz2
  clear hi0 hz0' hz1 hz2 hown0 hmin hS hcur
  clear hT hb hf
  go_enter Tryd.func24, Tryd.ntmps24
  go_wp2_with fail
  go_loopg [6, 7, 24] (ts.length + 1) (fun gk out rest i wr => ∃ (j : Nat) (es : List VE) (A : Option Addr) (cap : Nat) (r : List UInt8) (R : Option Addr) (rc : Nat), j ≤ ts.length ∧ gk + j = ts.length + 1 ∧ i = .int .i64 j ∧ out = .slice A es.length cap ∧ rest = .slice R r.length rc ∧ es.length = j ∧ r.length ≤ rc ∧ Reads (AtW wr 0 w.heap.size) 1 R r.length (u8s r) ∧ r.length ≤ b.length ∧ PSo ts b j r es ∧ (∀ x ∈ es, x.v.mild) ∧ VRow wr 27 noHead 5 w.heap.size 0 w.heap.size (.slice A es.length cap) es ∧ Grow w wr)
  case atStart => exact ⟨0, [], _, _, b, B, bc, Nat.zero_le _, by omega, rfl, rfl, rfl, rfl, hcap, Reads.mono (AtW.below HG0.out.below (Nat.le_refl _) (Nat.le_refl _) (Nat.le_refl _)) HB.out, Nat.le_refl _, PSo.start _ _, fun x hx => by simp at hx, HV0.out, HG0.out⟩
  case round =>
    obtain ⟨j, es, A, cap, r, R, rc, hj, hgk, rfl, rfl, rfl, hej, hrc, hr, hrb, hps, hcnt, hv, hg⟩ := hrel
    obtain ⟨gk', rfl⟩ : ∃ g, gk = g + 1 := ⟨gk - 1, by omega⟩
    have HR := hide hr
    have HPS := hide hps
    have HCN := hide hcnt
    have HV := hide hv
    have HG := hide hg
    have HEJ := hide hej
    clear hr hps hcnt hv hg hej HV0 HG0 hmk
    by_cases hlt : j < ts.length
    · obtain ⟨hfl, hfc0⟩ := HF.out.grow HG.out
      obtain ⟨bk, o, rfl, hcf⟩ := hfc0 (by omega)
      have hfj := (hcf j (.bool ts[j]) (by simp [hlt])).1
      have hrd := kread_any (flip ts[j] r) ts[j] R rc wr w.heap.size HG.out.size (by rw [flip_flip, flip_length]; exact HR.out) (by rw [flip_length]; omega) (by rw [flip_length]; omega) (fun v r' hk W c hv => copy_any v (kd_sml _ _ _ _ _ (by rw [flip_length]; omega) hk).2 W c hv)
      rw [flip_length] at hrd
      obtain ⟨t, ht⟩ : ∃ t, ts[j] = t := ⟨_, rfl⟩
      rw [ht] at hrd hfj
      have HTJ := hide ht
      clear hcf hfl ht
      cases hkd : kd false 17 (flip t r) with
      | none =>
        rw [hkd] at hrd
        have HRD := hide hrd
        have HN := hide (partsK_none (HPS.out.fail hlt (by rw [HTJ.out]; exact hkd)))
        clear hrd hkd
        go_wp2_with fail
        refine HRD.out.mono ?_
        rintro e w2 ⟨hg2, hn2, -⟩
        obtain rfl := hn2 rfl
        have HG2 := hide (HG.out.trans hg2)
        clear hn2 hg2
        go_wp2_with fail
        go_ret2
        exact KPartsC.no HN.out (HG2.out.alloc _)
      | some xr =>
        obtain ⟨xv, r'⟩ := xr
        rw [hkd] at hrd
        have HRD := hide hrd
        have HKD := hide hkd
        clear hrd hkd
        go_wp2_with fail
        refine HRD.out.mono ?_
        rintro e w2 ⟨hg2, -, hy2⟩
        obtain ⟨c2, A2, cap2, rfl, hin2, hc2, hr2⟩ := hy2 _ _ rfl
        have hg2' := hg2
        have hrl : r'.length ≤ r.length := by
          obtain ⟨⟨p, e, _⟩, _⟩ := kd_tail _ _ _ _ _ HKD.out
          have := congrArg List.length e
          rw [List.length_append, flip_length] at this; omega
        have hx20 : xv.mild := kd_mild HKD.out (by decide) (by rw [flip_length]; omega)
        have hel : es.length ≤ 1000000000 := by have := HEJ.out; omega
        have hwz := HG.out.size
        have hv2 := HV.out.grow hg2
        have hown2 := hv2.own
        have hz2 := hg2.size
        have hd := (Blk.new w2 27 c2.cells).cell
        have HIN := hide hin2
        have HR2 := hide hr2
        have HV2 := hide hv2
        have HG2 := hide (HG.out.trans hg2)
        clear hy2 hin2 hr2 hv2 hg2 hg2' hfj
        go_wp2_with (first | (at_builtin; refine wpList_append_src rfl (.tmp 38) (.tmp 40) 24 24 rfl w.heap.size 27 i0 _ 5 88 under_vals Hi0.out Hz0.out Hz1.out Hz2.out rfl (.slice A es.length cap) es.length (cellsOf noHead es) rfl ((hown2.alloc _).alloc _) _ 1 c2.cells.toList rfl (Src.oneV2 c2 _) (by omega) (by simp only [maxLen]; omega) (by simp; omega) ?_; intro A3 c3 w3 hown3 hgr3 hat3) | fail)
        have HV4 := hide (VRow.add (s := ⟨#[]⟩) (m0 := wr.heap.size) (HV2.out.grow ((Grow.refl w2).alloc (.cells c2.cells 27))) (fun k hk => (HV.out.own_lt hk).2) (by omega) hwz (fun y hy => (HV.out.part y hy).2.2.2.1) ((HIN.out.grow ((Grow.refl w2).alloc (.cells c2.cells 27))).wider (Nat.le_refl _) (by simp) (Nat.le_refl _)) hown3 hgr3 hat3)
        have HG4 := hide (((HG2.out.alloc _).alloc _).grown hgr3 (fun k hk => (HV2.out.own_lt hk).1))
        clear hown2 hown3 hgr3 hat3 hd
        go_roundg gk'
        case measure => omega
        case rel =>
          have hn : (es ++ [(⟨⟨#[]⟩, xv, c2, wr.heap.size, (w2.alloc (.cells c2.cells 27)).heap.size⟩ : VE)]).length = es.length + 1 := by simp
          exact ⟨j + 1, es ++ [⟨⟨#[]⟩, xv, c2, wr.heap.size, (w2.alloc (.cells c2.cells 27)).heap.size⟩], A3, c3, flip t r', A2, cap2, by omega, by omega, by go_num, by rw [hn], by rw [flip_length], by rw [hn, HEJ.out], by rw [flip_length]; exact hc2, by rw [flip_length]; exact Reads.mono (fun p u h => ⟨(HG4.out.below.cell h.2.2).trans ((HG2.out.below.cell h.2.2).symm.trans h.1), h.2⟩) HR2.out, by rw [flip_length]; omega, by
            have h := HPS.out.step (x := ⟨⟨#[]⟩, xv, c2, wr.heap.size, (w2.alloc (.cells c2.cells 27)).heap.size⟩) hlt (by rw [HTJ.out]; exact HKD.out)
            rwa [HTJ.out] at h, fun x hx => by
              rcases List.mem_append.1 hx with hx | hx
              · exact HCN.out x hx
              · rw [List.mem_singleton] at hx; subst hx; exact hx20, by rw [hn]; exact HV4.out, HG4.out⟩
    · obtain rfl : j = ts.length := by omega
      have hPD := HPS.out.done
      have HPD := hide hPD
      have hel : es.length ≤ 1000000000 := by have := HEJ.out; omega
      have hwz := HG.out.size
      have hL := HV.out.list rfl (Nat.le_refl _) hw0 (by omega)
      have HALL := hide (all_anyM (es.map VE.v) ts A F cap fc wr (fun v hv => by obtain ⟨x, hx, rfl⟩ := List.mem_map.1 hv; exact HCN.out x hx) (HT.out.grow HG.out) (IsV.mono (fun _ _ h => ⟨h.1, Nat.zero_le _, h.2.2⟩) _ _ hL) (HF.out.grow HG.out) (by omega))
      rw [List.length_map] at HALL
      obtain ⟨KB, ke, hke⟩ : ∃ kb ke, allK (es.map VE.v) ts = (kb, ke) := ⟨_, _, rfl⟩
      rw [hke] at HALL
      have HKE := hide hke
      clear hPD hL hke
      go_wp2_with fail
      refine HALL.out.mono ?_
      rintro e w2 ⟨base2, A2, c2, rfl, hb2, hr2, hg2⟩
      dsimp only at hr2 ⊢
      have HG2 := hide (HG.out.trans hg2)
      have HR2 := hide hr2.reads.1
      have HGA := hide hg2
      clear hr2 hb2
      by_cases hk0 : ke = 0
      · subst hk0
        have HBQ := hide (beq_any KB b A2 B c2 bc w2 HR2.out (HB.out.grow HG2.out))
        cases hkb : (KB == b) with
        | false =>
          rw [hkb] at HBQ
          have HN := hide (partsK_other HPD.out (by rw [HKE.out]; intro e; injection e with e; rw [e] at hkb; simp at hkb))
          go_wp2_with fail
          refine HBQ.out.mono ?_
          rintro e w3 ⟨rfl, rfl⟩
          go_wp2_with fail
          go_ret2
          exact KPartsC.no HN.out HG2.out
        | true =>
          rw [hkb] at HBQ
          have HY := hide (partsK_yes HPD.out (by rw [HKE.out]; simp at hkb; rw [hkb]))
          obtain ⟨cur2, hcur2, hmk2⟩ := make_valsN es.length (by omega)
          have hv2 := HV.out.grow HGA.out
          have HV2 := hide hv2
          have hmade : (w2.alloc (.cells cur2 27)).ownsRow w2.heap.size 27 5 (.slice (some ⟨w2.heap.size, 0, none⟩) 0 es.length) 0 (cellsOf noHead []) := World.ownsRow_made w2 cur2 es.length (Nat.le_refl _) (by simp only [maxLen]; omega) (by omega)
          have HM := hide hmade
          have HSRC := hide (src_vals (hv2.own.alloc (.cells cur2 27)))
          clear hv2 hmade hcur2
          go_wp2_with fail
          refine HBQ.out.mono ?_
          rintro e w3 ⟨rfl, rfl⟩
          go_wp2_with (first | (at_builtin; refine wpList_append_src rfl (.tmp 60) (.tmp 61) 24 24 rfl w3.heap.size 27 i0 _ 5 88 under_vals Hi0.out Hz0.out Hz1.out Hz2.out rfl (.slice (some ⟨w3.heap.size, 0, none⟩) 0 es.length) 0 (cellsOf noHead []) rfl HM.out _ es.length (cellsOf noHead es) rfl HSRC.out (by omega) (by simp only [maxLen]; omega) (by simp) ?_; intro A5 c5 w5 hown5 hgr5 hat5) | fail)
          rw [Nat.zero_add] at hown5 hat5
          have hz3 := HG2.out.size
          have hv5 := HV2.out.moved (W' := w5) (base' := w3.heap.size) (A' := A5) (n := es.length) (cap' := c5) (by have := hgr5.size; simp at this; omega) (fun k hk => (hgr5.block k (by simp; omega) (fun e => by have e2 : k = w3.heap.size := Option.some.inj e; omega)).trans (((Grow.refl w3).alloc _).below.block k hk)) (Nat.le_refl _) hown5
          have HGF := hide ((HG2.out.alloc (.cells cur2 27)).grown hgr5 (fun k e => by have e2 : w3.heap.size = k := Option.some.inj e; omega))
          have HL5 := hide (hv5.list rfl hz3 (by omega) (by omega))
          clear hv5 hown5 hgr5 hat5
          go_ret2
          refine ⟨HGF.out, fun l e => ?_, fun e => by rw [HY.out] at e; cases e⟩
          rw [HY.out] at e
          injection e with e
          subst e
          exact ⟨A5, c5, by rw [List.length_map]; rfl, HL5.out⟩
      · have hkq : (ke != 0) = true := by simpa using hk0
        have HN := hide (partsK_other HPD.out (by rw [HKE.out]; intro e; injection e with e1 e2; exact hk0 e2))
        go_wp2_with fail
        go_ret2
        exact KPartsC.no HN.out HG2.out
end Go.Proofs.YtpjhhkndfmcaoaaDoor
