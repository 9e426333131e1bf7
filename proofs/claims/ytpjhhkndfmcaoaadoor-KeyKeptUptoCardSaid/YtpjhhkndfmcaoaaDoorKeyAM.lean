/- The contracts of the keys of both sides, with nothing left open. · Walk of munimentref4.Parts: any bytes as the keys of so many values. -/
import Derived.Test.YtpjhhkndfmcaoaaDoorKeyBk
import Derived.Test.YtpjhhkndfmcaoaaDoorKeyBB
import Derived.Test.YtpjhhkndfmcaoaaDoorKeyOf
set_option linter.unusedVariables false
set_option linter.unusedSimpArgs false
namespace Go.Proofs.YtpjhhkndfmcaoaaDoor
open Go.RowKit Go.Shelf Go.WideShapes

/-- The document's key of any value. -/
theorem rOf_closed (v : V) (c : Cv) (w : World) (hd : v.depth ≤ 1099511627776) (hsz : v.formed = true → v.bytes.length ≤ 140737488355328) (hv : In w v c) : Calls Tryd.prog 18 #[c.agg] w (OfC w (ofK v)) :=
  refOf_any v c w hd hsz (fun hg => rof_good v c hg) hv
theorem backK_st (g : Nat) (hg : 16 ≤ g) (b : List UInt8) : backK (kd false 17) b = backK (kd true (g + 1)) b := by
  have h := partsK_same g hg [false] b
  rw [partsK_one, partsK_one] at h
  have inj : ∀ o o' : Option V, o.map (fun v => [v]) = o'.map (fun v => [v]) → o = o' := by intro o o' h; cases o <;> cases o' <;> simp_all
  exact inj _ _ h
/-- The document's value of any bytes. -/
theorem rBack_closed (b : List UInt8) (B : Option Addr) (bc : Nat) (w : World) (hb : InB w B b) (hl : b.length ≤ 1000000000) (hcap : b.length ≤ bc) : Calls Tryd.prog 19 #[.slice B b.length bc] w (BackC w (backK (kd false 17) b)) := by
  rw [backK_st (b.length + 16) (by omega) b]
  refine refBack_any (b.length + 16 + 1) b B bc w hb (by omega) (fun W hW => (rback_any b B bc hl hcap _ (by omega) W hW).mono (fun e w' h => h.bkc)) (fun v r hk W c hv => ?_)
  obtain ⟨h1, h2⟩ := kd_fit _ _ _ _ _ hk
  exact rOf_closed v c W (by omega) (fun _ => by omega) hv
/-- The program's value of any bytes. -/
theorem kBack_closed (b : List UInt8) (B : Option Addr) (bc : Nat) (w : World) (hT : Tabs w) (hb : InB w B b) (hl : b.length ≤ 1000000000) (hcap : b.length ≤ bc) : Calls Tryd.prog 17 #[.slice B b.length bc] w (KBackC w (backK (kd false 17) b)) :=
  kback_any b B bc w hb (fun W F fc hg hb' hf => kparts_any b [false] B F bc fc W (hT.grow hg) hb' hf hl hcap (by decide))
/-- The document's keys one behind the other. -/
theorem rAll_closed (l : List V) (ts : List Bool) (A F : Option Addr) (cap fc : Nat) (w : World) (hd : ∀ v ∈ l, v.depth ≤ 1099511627776 ∧ (v.formed = true → v.bytes.length ≤ 140737488355328)) (hv : InL w A cap l) (hf : InBo w F ts) (hts : ts.length ≤ 140737488355328) (hsm : 96 * l.length ≤ 140737488355328) :
    Calls Tryd.prog 25 #[.slice A l.length cap, .slice F ts.length fc] w (OfC w (allK l ts)) :=
  refAll_any l ts A F cap fc w (fun v hx W c hv' => rOf_closed v c W (hd v hx).1 (hd v hx).2 hv') hv hf hts hsm
theorem InL.oneK {w : World} {v : V} {c : Cv} (h : In w v c) : InL (w.alloc (.cells c.cells 27)) (some ⟨w.heap.size, 0, none⟩) 1 [v] := by
  have hg := (Grow.refl w).alloc (.cells c.cells 27)
  have hB := Blk.new w 27 c.cells
  have h' := h.grow hg
  unfold InL In
  rw [IsV]
  refine ⟨rfl, rfl, rfl, rfl, rfl, by decide, by decide, by decide, by simp, by simp, by simp, by simp, by simp, by simp, ⟨rfl, fun h => by simp at h⟩, fun i hi => ?_, fun i hi => by simp at hi⟩
  obtain rfl : i = 0 := by simpa using hi
  refine ⟨w.heap.size, 0, c, rfl, ?_, h'⟩
  have hlt := hB.lt
  refine ⟨⟨hB.cell 0, Nat.zero_le _, hlt⟩, ⟨hB.cell 1, Nat.zero_le _, hlt⟩, ⟨hB.cell 2, Nat.zero_le _, hlt⟩, ⟨hB.cell 3, Nat.zero_le _, hlt⟩, ⟨hB.cell 4, Nat.zero_le _, hlt⟩⟩
end Go.Proofs.YtpjhhkndfmcaoaaDoor

set_option linter.unusedVariables false
set_option linter.unusedSimpArgs false
namespace Go.Proofs.YtpjhhkndfmcaoaaDoor
open Go.RowKit Go.Shelf Go.WideShapes

/-- What munimentref4.Parts tells. -/
def RPartsC (w : World) (g : Option (List V)) (e : Ending) (w' : World) : Prop :=
  Grow w w' ∧ (∀ l, g = some l → ∃ A cap, e = .returned (.tuple #[.slice A l.length cap, .bool true]) ∧ InL w' A cap l) ∧ (g = none → e = .returned (.tuple #[.slice none 0 0, .bool false]))
theorem RPartsC.no {w w' : World} {g : Option (List V)} (h : g = none) (hg : Grow w w') : RPartsC w g (.returned (.tuple #[.slice none 0 0, .bool false])) w' :=
  ⟨hg, fun l e => by (rw [h] at e; cases e), fun _ => rfl⟩
theorem RPartsC.yes {w w' : World} {g : Option (List V)} {l : List V} {A : Option Addr} {n cap : Nat} (h : g = some l) (hn : n = l.length) (hg : Grow w w') (hv : InL w' A cap l) : RPartsC w g (.returned (.tuple #[.slice A n cap, .bool true])) w' := by
  subst hn
  exact ⟨hg, fun u e => by (rw [h] at e; cases e; exact ⟨A, cap, rfl, hv⟩), fun e => by (rw [h] at e; cases e)⟩
/-- So far j values have been read; r is what is left. -/
def PGo (K : List UInt8 → KGot) (ts : List Bool) (b : List UInt8) (j : Nat) (r : List UInt8) (es : List VE) : Prop :=
  partsRd K ts b = (partsRd K (ts.drop j) r).map fun p => (es.map VE.v ++ p.1, p.2)
section
variable {K : List UInt8 → KGot} {ts : List Bool} {b : List UInt8}
theorem PGo.start (K : List UInt8 → KGot) (ts : List Bool) (b : List UInt8) : PGo K ts b 0 b [] := by
  unfold PGo
  rw [List.drop_zero]
  cases partsRd K ts b <;> rfl
theorem PGo.fail {j : Nat} {r : List UInt8} {es : List VE} (h : PGo K ts b j r es) (hj : j < ts.length) (hf : K (flip ts[j] r) = none) : partsK K ts b = none := by
  have : partsRd K ts b = none := by rw [h, List.drop_eq_getElem_cons hj, partsRd, hf]; rfl
  unfold partsK; rw [this]
theorem PGo.step {j : Nat} {r r' : List UInt8} {es : List VE} {x : VE} (h : PGo K ts b j r es) (hj : j < ts.length) (hf : K (flip ts[j] r) = some (x.v, r')) : PGo K ts b (j + 1) (flip ts[j] r') (es ++ [x]) := by
  unfold PGo
  rw [h, List.drop_eq_getElem_cons hj, partsRd, hf]
  simp only
  cases partsRd K (ts.drop (j + 1)) (flip ts[j] r') <;> simp
theorem PGo.done {r : List UInt8} {es : List VE} (h : PGo K ts b ts.length r es) : partsRd K ts b = some (es.map VE.v, r) := by
  rw [h, List.drop_length]; simp [partsRd]
theorem partsG_other {l : List V} {r : List UInt8} (h : partsRd K ts b = some (l, r)) (hk : ¬ (r = [] ∧ allK l ts = (b, 0))) : partsK K ts b = none := by
  unfold partsK; rw [h]; exact if_neg hk
theorem partsG_yes {l : List V} {r : List UInt8} (h : partsRd K ts b = some (l, r)) (hr : r = []) (hk : allK l ts = (b, 0)) : partsK K ts b = some l := by
  unfold partsK; rw [h]; exact if_pos ⟨hr, hk⟩
end
theorem allK_96 {l : List V} {ts : List Bool} {b : List UInt8} (h : allK l ts = (b, 0)) : b.length ≤ 96 := by
  unfold allK at h
  split at h
  · injection h with _ h; exact absurd h (by decide)
  · split at h
    · rename_i h0; injection h with _ h; exact absurd h h0
    · split at h
      · injection h with _ h; exact absurd h (by decide)
      · injection h with h; subst h; omega
theorem partsG_long {K : List UInt8 → KGot} {ts : List Bool} {b : List UInt8} (h : 96 < b.length) : partsK K ts b = none := by
  unfold partsK
  split
  · rfl
  · exact if_neg (fun hh => by have := allK_96 hh.2; omega)
theorem row_cap {W : World} {base n c : Nat} {A : Option Addr} {xs : List UInt8} (h : Row W base (.slice A n c) n xs) : n ≤ c := by
  rcases h.2 with ⟨hv, h0⟩ | ⟨g, cap', cur, hv, _, _, hc, _⟩
  · omega
  · injection hv with _ _ e; omega
theorem flip_drop (t : Bool) (b : List UInt8) (k : Nat) : flip t ((flip t b).drop k) = b.drop k := by
  have h := congrArg (List.drop k) (flip_flip t b)
  rw [← h]
  unfold flip
  split
  · rw [List.map_drop]
  · rfl

theorem flip_false (b : List UInt8) : flip false b = b := rfl
theorem inb_drop {w : World} {bk o : Nat} {b : List UInt8} (h : InB w (some ⟨bk, o, none⟩) b) (k : Nat) : InB w (some ⟨bk, o + k, none⟩) (b.drop k) := by
  have := h.midK k (b.length - k)
  rwa [List.take_of_length_le (by rw [List.length_drop]; omega)] at this

set_option maxRecDepth 100000 in
set_option maxHeartbeats 6400000 in
theorem rparts_any (b : List UInt8) (ts : List Bool) (B F : Option Addr) (bc fc : Nat) (w : World) (hw0 : 0 < w.heap.size) (hb : InB w B b) (hf : InBo w F ts) (hcap : b.length ≤ bc) (hts : ts.length ≤ 1000000000) :
    Calls Tryd.prog 26 #[.slice B b.length bc, .slice F ts.length fc] w (RPartsC w (partsK (kd true (b.length + 17)) ts b)) := by
  have HB := hide hb
  have HF := hide hf
  obtain ⟨i0, hi0, hz0', hz1, hz2⟩ := info_parts info_val3
  have Hi0 := hide hi0
  have Hz0 := hide hz0'
  have Hz1 := hide hz1
  have Hz2 := hide hz2
  clear hi0 hz0' hz1 hz2 hb hf
  by_cases h96 : 96 < b.length
  · have HN := hide (partsG_long (K := kd true (b.length + 17)) (ts := ts) h96)
    go_enter Tryd.func26, Tryd.ntmps26
    go_wp2_with fail
    go_ret2
    exact RPartsC.no HN.out (Grow.refl w)
  obtain ⟨G, hG⟩ : ∃ G, b.length + 17 = G := ⟨_, rfl⟩
  rw [hG]
  have hGb : b.length < G := by omega
  have hGt : G ≤ 200 := by omega
  clear hG
  go_enter Tryd.func26, Tryd.ntmps26
  go_wp2_with fail
  go_loopg [6, 7, 8] (ts.length + 1) (fun gk rest out i wr => ∃ (j : Nat) (es : List VE) (A : Option Addr) (cap : Nat) (r : List UInt8) (R : Option Addr) (rc : Nat), j ≤ ts.length ∧ gk + j = ts.length + 1 ∧ i = .int .i64 j ∧ out = .slice A es.length cap ∧ rest = .slice R r.length rc ∧ es.length = j ∧ r.length + j ≤ b.length ∧ r.length ≤ rc ∧ InB w R r ∧ PGo (kd true G) ts b j r es ∧
    (∀ x ∈ es, x.v.depth ≤ 1099511627776 ∧ (x.v.formed = true → x.v.bytes.length ≤ 140737488355328)) ∧ VRow wr 27 noHead 5 w.heap.size 0 w.heap.size (.slice A es.length cap) es ∧ Grow w wr)
  case atStart => exact ⟨0, [], none, 0, b, B, bc, Nat.zero_le _, by omega, rfl, rfl, rfl, rfl, by omega, hcap, HB.out, PGo.start _ _ _, fun x hx => by simp at hx, ⟨World.ownsRow_nil _ _ _ _, fun x hx => by simp at hx, fun i j hi => by simp at hi⟩, Grow.refl w⟩
  case round =>
    obtain ⟨j, es, A, cap, r, R, rc, hj, hgk, rfl, rfl, rfl, hej, hrj, hrc, hr, hps, hsz, hv, hg⟩ := hrel
    obtain ⟨gk', rfl⟩ : ∃ g, gk = g + 1 := ⟨gk - 1, by omega⟩
    have HR := hide hr
    have HPS := hide hps
    have HSZ := hide hsz
    have HV := hide hv
    have HG := hide hg
    have HEJ := hide hej
    clear hr hps hsz hv hg hej
    by_cases hlt : j < ts.length
    · obtain ⟨hfl, hfc0⟩ := HF.out.grow HG.out
      obtain ⟨fbk, fo, rfl, hcf⟩ := hfc0 (by omega)
      have hfj := (hcf j (.bool ts[j]) (by simp [hlt])).1
      obtain ⟨t, ht⟩ : ∃ t, ts[j] = t := ⟨_, rfl⟩
      rw [ht] at hfj
      have HTJ := hide ht
      clear hcf hfl ht hfc0
      cases t with
      | false =>
        have HBK := hide (rback_any (flip false r) R rc (by rw [flip_length]; omega) (by rw [flip_length]; exact hrc) G (by rw [flip_length]; omega) wr (by rw [flip_false]; exact HR.out.grow HG.out))
        rw [flip_length] at HBK
        cases hkd : kd true G (flip false r) with
        | none =>
          have HKD := hide hkd
          have HN := hide (HPS.out.fail hlt (by rw [HTJ.out]; exact hkd))
          clear hkd
          go_wp2_with fail
          refine HBK.out.mono ?_
          rintro e w3 hb3
          obtain ⟨c, z, rfl, hg3⟩ := hb3.2 HKD.out
          have HG3 := hide (HG.out.trans hg3)
          clear hb3 hg3
          go_wp2_with fail
          go_ret2
          exact RPartsC.no HN.out (HG3.out.alloc _)
        | some xr =>
          obtain ⟨xv, r'⟩ := xr
          have hrl : ∃ p : List UInt8, flip false r = p ++ r' ∧ 1 ≤ p.length := by
            obtain ⟨⟨p, e, h1⟩, _⟩ := kd_tail _ _ _ _ _ hkd
            exact ⟨p, e, by omega⟩
          obtain ⟨p, hp, hp1⟩ := hrl
          have hpl : p.length + r'.length = r.length := by
            have := congrArg List.length hp
            rw [List.length_append, flip_length] at this; omega
          have hrd : flip false r' = r.drop p.length := by
            have : r' = (flip false r).drop p.length := by rw [hp, List.drop_left]
            rw [this, flip_drop]
          have HKD := hide hkd
          have hxs : xv.depth ≤ 1099511627776 ∧ (xv.formed = true → xv.bytes.length ≤ 140737488355328) := by
            obtain ⟨h1, h2⟩ := kd_fit _ _ _ _ _ hkd
            rw [flip_length] at h1
            exact ⟨by omega, fun _ => by omega⟩
          have HXS := hide hxs
          obtain ⟨k, hk⟩ : ∃ k, p.length = k := ⟨_, rfl⟩
          rw [hk] at hpl hrd hp1
          obtain ⟨rbk, ro, rfl, _⟩ := HR.out.2 (by omega)
          have hkr : r.length - r'.length = k := by omega
          clear hkd hp hk hxs
          go_wp2_with fail
          refine HBK.out.mono ?_
          rintro e w3 hb3
          obtain ⟨c, -, rfl, hx3, hg3⟩ := hb3.1 _ _ HKD.out
          rw [flip_length, hkr]
          have hel : es.length ≤ 1000000000 := by have := HEJ.out; omega
          have hwz := HG.out.size
          have hv3 := HV.out.grow hg3
          have hown3 := hv3.own
          have hz3 := hg3.size
          have hd := (Blk.new w3 27 c.cells).cell
          have HX3 := hide hx3
          have HV3 := hide hv3
          have HG3 := hide (HG.out.trans hg3)
          have HKR := hide hkr
          have hkl : k ≤ r.length := by omega
          have hkl2 : r'.length = r.length - k := by omega
          have HKL := hide hkl2
          have hrj2 : r.length - k + (j + 1) ≤ b.length := by omega
          have hkrc : k ≤ rc := by omega
          clear hb3 hx3 hv3 hg3 hfj hkr hpl hkl2
          have HRD := hide hrd
          clear hrd
          by_cases hrk : rc = k
          · have hr0 : r.drop k = [] := List.drop_eq_nil_of_le (by omega)
            rw [hr0] at HRD
            subst hrk
            clear hr0
            go_wp2_with (first | (at_builtin; refine wpList_append_src rfl (.tmp 40) (.tmp 42) 24 24 rfl w.heap.size 27 i0 _ 5 88 under_vals Hi0.out Hz0.out Hz1.out Hz2.out rfl (.slice A es.length cap) es.length (cellsOf noHead es) rfl ((hown3.alloc _).alloc _) _ 1 c.cells.toList rfl (Src.oneV2 c _) (by omega) (by simp only [maxLen]; omega) (by simp; omega) ?_; intro A4 c4 w4 hown4 hgr4 hat4) | fail)
            have HV4 := hide (VRow.add (s := ⟨#[]⟩) (m0 := wr.heap.size) (HV3.out.grow ((Grow.refl w3).alloc (.cells c.cells 27))) (fun k hk => (HV.out.own_lt hk).2) (by omega) hwz (fun y hy => (HV.out.part y hy).2.2.2.1) ((HX3.out.grow ((Grow.refl w3).alloc (.cells c.cells 27))).wider (Nat.le_refl _) (by simp) (Nat.le_refl _)) hown4 hgr4 hat4)
            have HG4 := hide (((HG3.out.alloc _).alloc _).grown hgr4 (fun k hk => (HV3.out.own_lt hk).1))
            clear hown3 hown4 hgr4 hat4 hd
            go_roundg gk'
            case measure => omega
            case rel =>
              have hn : (es ++ [(⟨⟨#[]⟩, xv, c, wr.heap.size, (w3.alloc (.cells c.cells 27)).heap.size⟩ : VE)]).length = es.length + 1 := by simp
              have hst := HPS.out.step (x := ⟨⟨#[]⟩, xv, c, wr.heap.size, (w3.alloc (.cells c.cells 27)).heap.size⟩) hlt (by rw [HTJ.out]; exact HKD.out)
              rw [HTJ.out, HRD.out] at hst
              exact ⟨j + 1, es ++ [⟨⟨#[]⟩, xv, c, wr.heap.size, (w3.alloc (.cells c.cells 27)).heap.size⟩], A4, c4, [], some ⟨rbk, ro, none⟩, 0, by omega, by omega, by go_num, by rw [hn], rfl, by rw [hn, HEJ.out], by simp only [List.length_nil]; omega, Nat.le_refl _, ⟨rfl, fun h => absurd h (by simp)⟩, hst, fun x hx => by
                rcases List.mem_append.1 hx with hx | hx
                · exact HSZ.out x hx
                · rw [List.mem_singleton] at hx; subst hx; exact HXS.out, by rw [hn]; exact HV4.out, HG4.out⟩
          have hrk2 : k < rc := by omega
          go_wp2_with (first | (at_builtin; refine wpList_append_src rfl (.tmp 40) (.tmp 42) 24 24 rfl w.heap.size 27 i0 _ 5 88 under_vals Hi0.out Hz0.out Hz1.out Hz2.out rfl (.slice A es.length cap) es.length (cellsOf noHead es) rfl ((hown3.alloc _).alloc _) _ 1 c.cells.toList rfl (Src.oneV2 c _) (by omega) (by simp only [maxLen]; omega) (by simp; omega) ?_; intro A4 c4 w4 hown4 hgr4 hat4) | fail)
          have HV4 := hide (VRow.add (s := ⟨#[]⟩) (m0 := wr.heap.size) (HV3.out.grow ((Grow.refl w3).alloc (.cells c.cells 27))) (fun k hk => (HV.out.own_lt hk).2) (by omega) hwz (fun y hy => (HV.out.part y hy).2.2.2.1) ((HX3.out.grow ((Grow.refl w3).alloc (.cells c.cells 27))).wider (Nat.le_refl _) (by simp) (Nat.le_refl _)) hown4 hgr4 hat4)
          have HG4 := hide (((HG3.out.alloc _).alloc _).grown hgr4 (fun k hk => (HV3.out.own_lt hk).1))
          clear hown3 hown4 hgr4 hat4 hd
          go_roundg gk'
          case measure => omega
          case rel =>
            have hn : (es ++ [(⟨⟨#[]⟩, xv, c, wr.heap.size, (w3.alloc (.cells c.cells 27)).heap.size⟩ : VE)]).length = es.length + 1 := by simp
            have hst := HPS.out.step (x := ⟨⟨#[]⟩, xv, c, wr.heap.size, (w3.alloc (.cells c.cells 27)).heap.size⟩) hlt (by rw [HTJ.out]; exact HKD.out)
            rw [HTJ.out, HRD.out] at hst
            have hdl : (r.drop k).length = r.length - k := List.length_drop
            exact ⟨j + 1, es ++ [⟨⟨#[]⟩, xv, c, wr.heap.size, (w3.alloc (.cells c.cells 27)).heap.size⟩], A4, c4, r.drop k, some ⟨rbk, ro + k, none⟩, rc - k, by omega, by omega, by go_num, by rw [hn], by rw [hdl], by rw [hn, HEJ.out], by rw [hdl]; exact hrj2, by rw [hdl]; omega, inb_drop HR.out k, hst, fun x hx => by
              rcases List.mem_append.1 hx with hx | hx
              · exact HSZ.out x hx
              · rw [List.mem_singleton] at hx; subst hx; exact HXS.out, by rw [hn]; exact HV4.out, HG4.out⟩
      | true =>
        have HFC := hide (rfallen_any r R rc wr (HR.out.grow HG.out) (by omega))
        go_wp2_with fail
        refine HFC.out.mono ?_
        rintro e w2 ⟨X, xc, rfl, hrow, hg2⟩
        rw [List.length_map] at hrow ⊢
        have hxc := row_cap hrow
        have HX := hide (show InB w2 X (flip true r) from hrow.reads.1)
        have HG2 := hide (HG.out.trans hg2)
        have HV2 := hide (HV.out.grow hg2)
        clear hrow hg2
        have HBK := hide (rback_any (flip true r) X xc (by rw [flip_length]; omega) (by rw [flip_length]; exact hxc) G (by rw [flip_length]; omega) w2 HX.out)
        rw [flip_length] at HBK
        cases hkd : kd true G (flip true r) with
        | none =>
          have HKD := hide hkd
          have HN := hide (HPS.out.fail hlt (by rw [HTJ.out]; exact hkd))
          clear hkd
          go_wp2_with fail
          refine HBK.out.mono ?_
          rintro e w3 hb3
          obtain ⟨c, z, rfl, hg3⟩ := hb3.2 HKD.out
          have HG3 := hide (HG2.out.trans hg3)
          clear hb3 hg3
          go_wp2_with fail
          go_ret2
          exact RPartsC.no HN.out (HG3.out.alloc _)
        | some xr =>
          obtain ⟨xv, r'⟩ := xr
          have hrl : ∃ p : List UInt8, flip true r = p ++ r' ∧ 1 ≤ p.length := by
            obtain ⟨⟨p, e, h1⟩, _⟩ := kd_tail _ _ _ _ _ hkd
            exact ⟨p, e, by omega⟩
          obtain ⟨p, hp, hp1⟩ := hrl
          have hpl : p.length + r'.length = r.length := by
            have := congrArg List.length hp
            rw [List.length_append, flip_length] at this; omega
          have hrd : flip true r' = r.drop p.length := by
            have : r' = (flip true r).drop p.length := by rw [hp, List.drop_left]
            rw [this, flip_drop]
          have HKD := hide hkd
          have hxs : xv.depth ≤ 1099511627776 ∧ (xv.formed = true → xv.bytes.length ≤ 140737488355328) := by
            obtain ⟨h1, h2⟩ := kd_fit _ _ _ _ _ hkd
            rw [flip_length] at h1
            exact ⟨by omega, fun _ => by omega⟩
          have HXS := hide hxs
          obtain ⟨k, hk⟩ : ∃ k, p.length = k := ⟨_, rfl⟩
          rw [hk] at hpl hrd hp1
          obtain ⟨rbk, ro, rfl, _⟩ := HR.out.2 (by omega)
          have hkr : r.length - r'.length = k := by omega
          clear hkd hp hk hxs
          go_wp2_with fail
          refine HBK.out.mono ?_
          rintro e w3 hb3
          obtain ⟨c, -, rfl, hx3, hg3⟩ := hb3.1 _ _ HKD.out
          rw [flip_length, hkr]
          have hel : es.length ≤ 1000000000 := by have := HEJ.out; omega
          have hwz := HG2.out.size
          have hv3 := HV2.out.grow hg3
          have hown3 := hv3.own
          have hz3 := hg3.size
          have hd := (Blk.new w3 27 c.cells).cell
          have HX3 := hide hx3
          have HV3 := hide hv3
          have HG3 := hide (HG2.out.trans hg3)
          have HKR := hide hkr
          have hkl : k ≤ r.length := by omega
          have hkl2 : r'.length = r.length - k := by omega
          have HKL := hide hkl2
          have hrj2 : r.length - k + (j + 1) ≤ b.length := by omega
          have hkrc : k ≤ rc := by omega
          clear hb3 hx3 hv3 hg3 hfj hkr hpl hkl2
          have HRD := hide hrd
          clear hrd
          by_cases hrk : rc = k
          · have hr0 : r.drop k = [] := List.drop_eq_nil_of_le (by omega)
            rw [hr0] at HRD
            subst hrk
            clear hr0
            go_wp2_with (first | (at_builtin; refine wpList_append_src rfl (.tmp 40) (.tmp 42) 24 24 rfl w.heap.size 27 i0 _ 5 88 under_vals Hi0.out Hz0.out Hz1.out Hz2.out rfl (.slice A es.length cap) es.length (cellsOf noHead es) rfl ((hown3.alloc _).alloc _) _ 1 c.cells.toList rfl (Src.oneV2 c _) (by omega) (by simp only [maxLen]; omega) (by simp; omega) ?_; intro A4 c4 w4 hown4 hgr4 hat4) | fail)
            have HV4 := hide (VRow.add (s := ⟨#[]⟩) (m0 := w2.heap.size) (HV3.out.grow ((Grow.refl w3).alloc (.cells c.cells 27))) (fun k hk => (HV2.out.own_lt hk).2) (by omega) hwz (fun y hy => (HV2.out.part y hy).2.2.2.1) ((HX3.out.grow ((Grow.refl w3).alloc (.cells c.cells 27))).wider (Nat.le_refl _) (by simp) (Nat.le_refl _)) hown4 hgr4 hat4)
            have HG4 := hide (((HG3.out.alloc _).alloc _).grown hgr4 (fun k hk => (HV3.out.own_lt hk).1))
            clear hown3 hown4 hgr4 hat4 hd
            go_roundg gk'
            case measure => omega
            case rel =>
              have hn : (es ++ [(⟨⟨#[]⟩, xv, c, w2.heap.size, (w3.alloc (.cells c.cells 27)).heap.size⟩ : VE)]).length = es.length + 1 := by simp
              have hst := HPS.out.step (x := ⟨⟨#[]⟩, xv, c, w2.heap.size, (w3.alloc (.cells c.cells 27)).heap.size⟩) hlt (by rw [HTJ.out]; exact HKD.out)
              rw [HTJ.out, HRD.out] at hst
              exact ⟨j + 1, es ++ [⟨⟨#[]⟩, xv, c, w2.heap.size, (w3.alloc (.cells c.cells 27)).heap.size⟩], A4, c4, [], some ⟨rbk, ro, none⟩, 0, by omega, by omega, by go_num, by rw [hn], rfl, by rw [hn, HEJ.out], by simp only [List.length_nil]; omega, Nat.le_refl _, ⟨rfl, fun h => absurd h (by simp)⟩, hst, fun x hx => by
                rcases List.mem_append.1 hx with hx | hx
                · exact HSZ.out x hx
                · rw [List.mem_singleton] at hx; subst hx; exact HXS.out, by rw [hn]; exact HV4.out, HG4.out⟩
          have hrk2 : k < rc := by omega
          go_wp2_with (first | (at_builtin; refine wpList_append_src rfl (.tmp 40) (.tmp 42) 24 24 rfl w.heap.size 27 i0 _ 5 88 under_vals Hi0.out Hz0.out Hz1.out Hz2.out rfl (.slice A es.length cap) es.length (cellsOf noHead es) rfl ((hown3.alloc _).alloc _) _ 1 c.cells.toList rfl (Src.oneV2 c _) (by omega) (by simp only [maxLen]; omega) (by simp; omega) ?_; intro A4 c4 w4 hown4 hgr4 hat4) | fail)
          have HV4 := hide (VRow.add (s := ⟨#[]⟩) (m0 := w2.heap.size) (HV3.out.grow ((Grow.refl w3).alloc (.cells c.cells 27))) (fun k hk => (HV2.out.own_lt hk).2) (by omega) hwz (fun y hy => (HV2.out.part y hy).2.2.2.1) ((HX3.out.grow ((Grow.refl w3).alloc (.cells c.cells 27))).wider (Nat.le_refl _) (by simp) (Nat.le_refl _)) hown4 hgr4 hat4)
          have HG4 := hide (((HG3.out.alloc _).alloc _).grown hgr4 (fun k hk => (HV3.out.own_lt hk).1))
          clear hown3 hown4 hgr4 hat4 hd
          go_roundg gk'
          case measure => omega
          case rel =>
            have hn : (es ++ [(⟨⟨#[]⟩, xv, c, w2.heap.size, (w3.alloc (.cells c.cells 27)).heap.size⟩ : VE)]).length = es.length + 1 := by simp
            have hst := HPS.out.step (x := ⟨⟨#[]⟩, xv, c, w2.heap.size, (w3.alloc (.cells c.cells 27)).heap.size⟩) hlt (by rw [HTJ.out]; exact HKD.out)
            rw [HTJ.out, HRD.out] at hst
            have hdl : (r.drop k).length = r.length - k := List.length_drop
            exact ⟨j + 1, es ++ [⟨⟨#[]⟩, xv, c, w2.heap.size, (w3.alloc (.cells c.cells 27)).heap.size⟩], A4, c4, r.drop k, some ⟨rbk, ro + k, none⟩, rc - k, by omega, by omega, by go_num, by rw [hn], by rw [hdl], by rw [hn, HEJ.out], by rw [hdl]; exact hrj2, by rw [hdl]; omega, inb_drop HR.out k, hst, fun x hx => by
              rcases List.mem_append.1 hx with hx | hx
              · exact HSZ.out x hx
              · rw [List.mem_singleton] at hx; subst hx; exact HXS.out, by rw [hn]; exact HV4.out, HG4.out⟩
    · obtain rfl : j = ts.length := by omega
      have HPD := hide (HPS.out.done)
      have hel : es.length ≤ 1000000000 := by have := HEJ.out; omega
      have hL := HV.out.list rfl (Nat.le_refl _) hw0 (by omega)
      have HLL := hide (show InL wr A cap (es.map VE.v) from IsV.mono (fun _ _ h => ⟨h.1, Nat.zero_le _, h.2.2⟩) _ _ hL)
      have HALL := hide (rAll_closed (es.map VE.v) ts A F cap fc wr (fun v hv => by obtain ⟨x, hx, rfl⟩ := List.mem_map.1 hv; exact HSZ.out x hx) HLL.out (HF.out.grow HG.out) (by omega) (by rw [List.length_map]; omega))
      rw [List.length_map] at HALL
      obtain ⟨KB, ke, hke⟩ : ∃ kb ke, allK (es.map VE.v) ts = (kb, ke) := ⟨_, _, rfl⟩
      rw [hke] at HALL
      have HKE := hide hke
      clear hL hke
      go_wp2_with fail
      refine HALL.out.mono ?_
      rintro e w2 ⟨base2, A2, c2, rfl, hb2, hr2, hg2⟩
      dsimp only at hr2 ⊢
      have HG2 := hide (HG.out.trans hg2)
      have hs1 := conv_str c2 hr2.reads.1
      have hs2 := conv_str bc (HB.out.grow HG2.out)
      have HL2 := hide (HLL.out.grow hg2)
      clear hr2 hb2 hg2
      by_cases hr0 : r = []
      · subst hr0
        by_cases hk0 : ke = 0
        · subst hk0
          by_cases hkb : KB = b
          · subst hkb
            have HY := hide (partsG_yes HPD.out rfl HKE.out)
            go_wp2_with fail
            go_ret2
            exact RPartsC.yes HY.out (by rw [List.length_map]) HG2.out HL2.out
          · have hbq : (KB == b) = false := by simpa using hkb
            have HN := hide (partsG_other HPD.out (fun h => by rw [HKE.out] at h; injection h.2 with e; exact hkb e))
            clear hkb
            go_wp2_with fail
            go_ret2
            exact RPartsC.no HN.out HG2.out
        · have hkq : (ke == 0) = false := by simpa using hk0
          have hkq2 : (ke != 0) = true := by simpa using hk0
          have HN := hide (partsG_other HPD.out (fun h => by rw [HKE.out] at h; injection h.2 with e1 e2; exact hk0 e2))
          go_wp2_with fail
          go_ret2
          exact RPartsC.no HN.out HG2.out
      · have hrp : 0 < r.length := List.length_pos_iff.2 hr0
        have HN := hide (partsG_other HPD.out (fun h => hr0 h.1))
        clear hr0
        go_wp2_with fail
        go_ret2
        exact RPartsC.no HN.out HG2.out
end Go.Proofs.YtpjhhkndfmcaoaaDoor
