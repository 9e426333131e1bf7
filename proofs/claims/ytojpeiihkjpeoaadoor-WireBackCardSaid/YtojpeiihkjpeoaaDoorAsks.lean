/- Walk: VastAsks of one request. Written by wip/tools/gen_asks.py. -/
import Derived.Test.YtojpeiihkjpeoaaDoorPutQ
set_option linter.unusedVariables false
set_option linter.unusedSimpArgs false
namespace Go.Proofs.YtojpeiihkjpeoaaDoor
open Go.RowKit Go.Deep Go.WideShapes
section
variable {P : Program} {ops : Array Oper} {a : Act}
theorem yields_load_val {S : World → Prop} {ty t tb : TypeId} {x : Operand} {d : Option Tmp} {p : String} {af : Array Edge} {g o : Nat} {cs : Array Value} {c : Cv} {td : TypeDesc} (hu : P.underlying ty = some td) (hd : td.isRow = true) (hx : a.eval x = .pointer (some ⟨g, o, none⟩)) (hB : ∀ w, S w → Blk w g tb cs) (hi : (P.info? ty).map (·.size) = some 5)
    (hget : ∀ j v, c.cells.toList[j]? = some v → cs[o + j]? = some v) : YieldsIf P ops S ⟨d, .load ty x, t, p, af, none⟩ c.agg a :=
  yieldsIf_load_mid (by simp [Region.wanted]) ty x rfl g o hx c.cells.toList td (fun w hS j v hv => by rw [(hB w hS).cell]; exact hget j v hv) hu hd hi
end
abbrev quad (ck cl ch cx : Cv) : Array Value := #[.int .i64 ck.k, .int .u64 ck.n, .slice ck.aB ck.nB ck.cB, .slice ck.aL ck.nL ck.cL, .slice ck.aF ck.nF ck.cF, .int .i64 cl.k, .int .u64 cl.n, .slice cl.aB cl.nB cl.cB, .slice cl.aL cl.nL cl.cL, .slice cl.aF cl.nF cl.cF, .int .i64 ch.k, .int .u64 ch.n, .slice ch.aB ch.nB ch.cB, .slice ch.aL ch.nL ch.cL, .slice ch.aF ch.nF ch.cF, .int .i64 cx.k, .int .u64 cx.n, .slice cx.aB cx.nB cx.cB, .slice cx.aL cx.nL cx.cL, .slice cx.aF cx.nF cx.cF]
abbrev zero20 : Array Value := #[.int .i64 0, .int .u64 0, .slice none 0 0, .slice none 0 0, .slice none 0 0, .int .i64 0, .int .u64 0, .slice none 0 0, .slice none 0 0, .slice none 0 0, .int .i64 0, .int .u64 0, .slice none 0 0, .slice none 0 0, .slice none 0 0, .int .i64 0, .int .u64 0, .slice none 0 0, .slice none 0 0, .slice none 0 0]
theorem info_4 : (Tryd.prog.info? 110).map (·.size) = some 20 := by kernel_rfl
theorem quad_one (ck cl ch cx : Cv) : (quad ck cl ch cx).all (·.oneCell') = true := by simp [quad, Value.oneCell']
theorem quad_at {w : World} {g : Nat} {t : TypeId} {ck cl ch cx : Cv} {a b c d : V} (h : Blk w g t (quad ck cl ch cx)) (h1 : In w a ck) (h2 : In w b cl) (h3 : In w c ch) (h4 : In w d cx) : InL w (some ⟨g, 0, none⟩) 4 [a, b, c, d] := by
  have hlt := h.lt
  unfold InL In
  rw [IsV]
  refine ⟨rfl, rfl, rfl, rfl, rfl, by decide, by decide, by decide, by simp, by simp, by simp, by simp, by simp, by simp, ⟨rfl, fun h => by simp at h⟩, fun i hi => ?_, fun i hi => by simp at hi⟩
  have hi4 : i < 4 := hi
  have hj3 : i = 0 ∨ i = 1 ∨ i = 2 ∨ i = 3 := by omega
  rcases hj3 with rfl | rfl | rfl | rfl
  · exact ⟨g, 0, ck, rfl, ⟨⟨h.cell 0, Nat.zero_le _, hlt⟩, ⟨h.cell 1, Nat.zero_le _, hlt⟩, ⟨h.cell 2, Nat.zero_le _, hlt⟩, ⟨h.cell 3, Nat.zero_le _, hlt⟩, ⟨h.cell 4, Nat.zero_le _, hlt⟩⟩, h1⟩
  · exact ⟨g, 0, cl, rfl, ⟨⟨h.cell 5, Nat.zero_le _, hlt⟩, ⟨h.cell 6, Nat.zero_le _, hlt⟩, ⟨h.cell 7, Nat.zero_le _, hlt⟩, ⟨h.cell 8, Nat.zero_le _, hlt⟩, ⟨h.cell 9, Nat.zero_le _, hlt⟩⟩, h2⟩
  · exact ⟨g, 0, ch, rfl, ⟨⟨h.cell 10, Nat.zero_le _, hlt⟩, ⟨h.cell 11, Nat.zero_le _, hlt⟩, ⟨h.cell 12, Nat.zero_le _, hlt⟩, ⟨h.cell 13, Nat.zero_le _, hlt⟩, ⟨h.cell 14, Nat.zero_le _, hlt⟩⟩, h3⟩
  · exact ⟨g, 0, cx, rfl, ⟨⟨h.cell 15, Nat.zero_le _, hlt⟩, ⟨h.cell 16, Nat.zero_le _, hlt⟩, ⟨h.cell 17, Nat.zero_le _, hlt⟩, ⟨h.cell 18, Nat.zero_le _, hlt⟩, ⟨h.cell 19, Nat.zero_le _, hlt⟩⟩, h4⟩

set_option maxRecDepth 100000 in
set_option maxHeartbeats 3200000 in
theorem vastAsks_any (q : Rq) (ck cl ch cx : Cv) (g : Nat) (T0 : TypeId) (w : World) (hB : Blk w g T0 (rqCells q.do_ q.coll q.index q.path q.unique ck cl ch cx q.n)) (h1 : In w q.key ck) (h2 : In w q.low cl) (h3 : In w q.high ch) (h4 : In w q.doc cx) :
    Calls Tryd.prog 24 #[.slice (some ⟨g, 0, none⟩) 1 1] w fun e w' => e = .returned (.bool (decide (20000 ≤ (q.vals.map V.count).sum))) ∧ Grow w w' := by
  have HB := hide hB
  have H1 := hide h1
  have H2 := hide h2
  have H3 := hide h3
  have H4 := hide h4
  clear hB h1 h2 h3 h4
  obtain ⟨d, hd⟩ : ∃ d, q.do_ = d := ⟨_, rfl⟩
  obtain ⟨N, hN⟩ : ∃ d, q.n = d := ⟨_, rfl⟩
  obtain ⟨tc, htc⟩ : ∃ d, q.coll = d := ⟨_, rfl⟩
  obtain ⟨ti, hti⟩ : ∃ d, q.index = d := ⟨_, rfl⟩
  obtain ⟨tp, htp⟩ : ∃ d, q.path = d := ⟨_, rfl⟩
  obtain ⟨ub, hub⟩ : ∃ d, q.unique = d := ⟨_, rfl⟩
  rw [hd, hN, htc, hti, htp, hub] at HB
  clear hd hN htc hti htp hub
  go_enter Tryd.func24, Tryd.ntmps24
  go_wp2_with fail
  go_loopg [3, 4] 2 (fun gk t i wr => (gk = 2 ∧ t = .int .i64 20000 ∧ i = .int .i64 0 ∧ w = wr) ∨ (gk = 1 ∧ i = .int .i64 1 ∧ (∃ T : Int, t = .int .i64 T) ∧ (q.vals.map V.count).sum < 20000 ∧ Grow w wr))
  case atStart => exact Or.inl ⟨rfl, rfl, rfl, rfl⟩
  case round =>
    rcases hrel with ⟨rfl, rfl, rfl, rfl⟩ | ⟨rfl, rfl, ⟨T, rfl⟩, hlt, hw⟩
    · go_wp2_with fail
      refine wp_region_noPanic ?_
      refine wp_region_held_drew (S := fun W => Blk W g T0 (rqCells d tc ti tp ub ck cl ch cx N)) (by kernel_rfl) (HB.out.drew) (fun hHeld => ?_)
      refine wpAnyH_take (i := 0) (v := ?_) (by simp only [List.getElem?_toArray, List.getElem?_cons_succ, List.getElem?_cons_zero]; rfl) (by kernel_rfl) (by kernel_rfl) (by kernel_rfl) (fun _ _ _ h => h) (Or.inl ⟨by rfl, ?_⟩) (by assumption) ?_
      rotate_left 1
      · (intro w hSw; (try dsimp only at hSw); go_simp; try with_reducible rfl)
      try simp only [Act.put, List.setIfInBounds_toArray, List.set_cons_zero, List.set_cons_succ]
      refine wpAnyH_take (i := 1) (v := ?_) (by simp only [List.getElem?_toArray, List.getElem?_cons_succ, List.getElem?_cons_zero]; rfl) (by kernel_rfl) (by kernel_rfl) (by kernel_rfl) (fun _ _ _ h => h) (Or.inl ⟨by rfl, ?_⟩) (by assumption) ?_
      rotate_left 1
      · (intro w hSw; (try dsimp only at hSw); go_simp; try with_reducible rfl)
      try simp only [Act.put, List.setIfInBounds_toArray, List.set_cons_zero, List.set_cons_succ]
      refine wpAnyH_take (i := 2) (v := ?_) (by simp only [List.getElem?_toArray, List.getElem?_cons_succ, List.getElem?_cons_zero]; rfl) (by kernel_rfl) (by kernel_rfl) (by kernel_rfl) (fun _ _ _ h => h) (Or.inl ⟨by rfl, ?_⟩) (by assumption) ?_
      rotate_left 1
      · (intro w hSw; (try dsimp only at hSw); go_simp; try with_reducible rfl)
      try simp only [Act.put, List.setIfInBounds_toArray, List.set_cons_zero, List.set_cons_succ]
      refine wpAnyH_take (i := 3) (v := ?_) (by simp only [List.getElem?_toArray, List.getElem?_cons_succ, List.getElem?_cons_zero]; rfl) (by kernel_rfl) (by kernel_rfl) (by kernel_rfl) (fun _ _ _ h => h) (Or.inl ⟨by rfl, ?_⟩) (by assumption) ?_
      rotate_left 1
      · (intro w hSw; (try dsimp only at hSw); go_simp; try with_reducible rfl)
      try simp only [Act.put, List.setIfInBounds_toArray, List.set_cons_zero, List.set_cons_succ]
      refine wpAnyH_take (i := 4) (v := ck.agg) (by simp only [List.getElem?_toArray, List.getElem?_cons_succ, List.getElem?_cons_zero]; rfl) (by kernel_rfl) (by kernel_rfl) (by kernel_rfl) (fun _ _ _ h => h) (yields_load_val (g := g) (o := 5) (c := ck) Tryd.underlying47 rfl rfl (fun _ h => h) info_val (rq_key _ _ _ _ _ _ _ _ _ _)) (by assumption) ?_
      try simp only [Act.put, List.setIfInBounds_toArray, List.set_cons_zero, List.set_cons_succ]
      refine wpAnyH_take (i := 5) (v := ?_) (by simp only [List.getElem?_toArray, List.getElem?_cons_succ, List.getElem?_cons_zero]; rfl) (by kernel_rfl) (by kernel_rfl) (by kernel_rfl) (fun _ _ _ h => h) (Or.inl ⟨by rfl, ?_⟩) (by assumption) ?_
      rotate_left 1
      · (intro w hSw; (try dsimp only at hSw); go_simp; try with_reducible rfl)
      try simp only [Act.put, List.setIfInBounds_toArray, List.set_cons_zero, List.set_cons_succ]
      refine wpAnyH_take (i := 6) (v := ?_) (by simp only [List.getElem?_toArray, List.getElem?_cons_succ, List.getElem?_cons_zero]; rfl) (by kernel_rfl) (by kernel_rfl) (by kernel_rfl) (fun _ _ _ h => h) (Or.inl ⟨by rfl, ?_⟩) (by assumption) ?_
      rotate_left 1
      · (intro w hSw; (try dsimp only at hSw); go_simp; try with_reducible rfl)
      try simp only [Act.put, List.setIfInBounds_toArray, List.set_cons_zero, List.set_cons_succ]
      refine wpAnyH_take (i := 7) (v := ?_) (by simp only [List.getElem?_toArray, List.getElem?_cons_succ, List.getElem?_cons_zero]; rfl) (by kernel_rfl) (by kernel_rfl) (by kernel_rfl) (fun _ _ _ h => h) (Or.inl ⟨by rfl, ?_⟩) (by assumption) ?_
      rotate_left 1
      · (intro w hSw; (try dsimp only at hSw); go_simp; try with_reducible rfl)
      try simp only [Act.put, List.setIfInBounds_toArray, List.set_cons_zero, List.set_cons_succ]
      refine wpAnyH_take (i := 8) (v := ?_) (by simp only [List.getElem?_toArray, List.getElem?_cons_succ, List.getElem?_cons_zero]; rfl) (by kernel_rfl) (by kernel_rfl) (by kernel_rfl) (fun _ _ _ h => h) (Or.inl ⟨by rfl, ?_⟩) (by assumption) ?_
      rotate_left 1
      · (intro w hSw; (try dsimp only at hSw); go_simp; try with_reducible rfl)
      try simp only [Act.put, List.setIfInBounds_toArray, List.set_cons_zero, List.set_cons_succ]
      refine wpAnyH_take (i := 9) (v := cl.agg) (by simp only [List.getElem?_toArray, List.getElem?_cons_succ, List.getElem?_cons_zero]; rfl) (by kernel_rfl) (by kernel_rfl) (by kernel_rfl) (fun _ _ _ h => h) (yields_load_val (g := g) (o := 10) (c := cl) Tryd.underlying47 rfl rfl (fun _ h => h) info_val (rq_low _ _ _ _ _ _ _ _ _ _)) (by assumption) ?_
      try simp only [Act.put, List.setIfInBounds_toArray, List.set_cons_zero, List.set_cons_succ]
      refine wpAnyH_take (i := 10) (v := ?_) (by simp only [List.getElem?_toArray, List.getElem?_cons_succ, List.getElem?_cons_zero]; rfl) (by kernel_rfl) (by kernel_rfl) (by kernel_rfl) (fun _ _ _ h => h) (Or.inl ⟨by rfl, ?_⟩) (by assumption) ?_
      rotate_left 1
      · (intro w hSw; (try dsimp only at hSw); go_simp; try with_reducible rfl)
      try simp only [Act.put, List.setIfInBounds_toArray, List.set_cons_zero, List.set_cons_succ]
      refine wpAnyH_take (i := 11) (v := ?_) (by simp only [List.getElem?_toArray, List.getElem?_cons_succ, List.getElem?_cons_zero]; rfl) (by kernel_rfl) (by kernel_rfl) (by kernel_rfl) (fun _ _ _ h => h) (Or.inl ⟨by rfl, ?_⟩) (by assumption) ?_
      rotate_left 1
      · (intro w hSw; (try dsimp only at hSw); go_simp; try with_reducible rfl)
      try simp only [Act.put, List.setIfInBounds_toArray, List.set_cons_zero, List.set_cons_succ]
      refine wpAnyH_take (i := 12) (v := ?_) (by simp only [List.getElem?_toArray, List.getElem?_cons_succ, List.getElem?_cons_zero]; rfl) (by kernel_rfl) (by kernel_rfl) (by kernel_rfl) (fun _ _ _ h => h) (Or.inl ⟨by rfl, ?_⟩) (by assumption) ?_
      rotate_left 1
      · (intro w hSw; (try dsimp only at hSw); go_simp; try with_reducible rfl)
      try simp only [Act.put, List.setIfInBounds_toArray, List.set_cons_zero, List.set_cons_succ]
      refine wpAnyH_take (i := 13) (v := ?_) (by simp only [List.getElem?_toArray, List.getElem?_cons_succ, List.getElem?_cons_zero]; rfl) (by kernel_rfl) (by kernel_rfl) (by kernel_rfl) (fun _ _ _ h => h) (Or.inl ⟨by rfl, ?_⟩) (by assumption) ?_
      rotate_left 1
      · (intro w hSw; (try dsimp only at hSw); go_simp; try with_reducible rfl)
      try simp only [Act.put, List.setIfInBounds_toArray, List.set_cons_zero, List.set_cons_succ]
      refine wpAnyH_take (i := 14) (v := ch.agg) (by simp only [List.getElem?_toArray, List.getElem?_cons_succ, List.getElem?_cons_zero]; rfl) (by kernel_rfl) (by kernel_rfl) (by kernel_rfl) (fun _ _ _ h => h) (yields_load_val (g := g) (o := 15) (c := ch) Tryd.underlying47 rfl rfl (fun _ h => h) info_val (rq_high _ _ _ _ _ _ _ _ _ _)) (by assumption) ?_
      try simp only [Act.put, List.setIfInBounds_toArray, List.set_cons_zero, List.set_cons_succ]
      refine wpAnyH_take (i := 15) (v := ?_) (by simp only [List.getElem?_toArray, List.getElem?_cons_succ, List.getElem?_cons_zero]; rfl) (by kernel_rfl) (by kernel_rfl) (by kernel_rfl) (fun _ _ _ h => h) (Or.inl ⟨by rfl, ?_⟩) (by assumption) ?_
      rotate_left 1
      · (intro w hSw; (try dsimp only at hSw); go_simp; try with_reducible rfl)
      try simp only [Act.put, List.setIfInBounds_toArray, List.set_cons_zero, List.set_cons_succ]
      refine wpAnyH_take (i := 16) (v := ?_) (by simp only [List.getElem?_toArray, List.getElem?_cons_succ, List.getElem?_cons_zero]; rfl) (by kernel_rfl) (by kernel_rfl) (by kernel_rfl) (fun _ _ _ h => h) (Or.inl ⟨by rfl, ?_⟩) (by assumption) ?_
      rotate_left 1
      · (intro w hSw; (try dsimp only at hSw); go_simp; try with_reducible rfl)
      try simp only [Act.put, List.setIfInBounds_toArray, List.set_cons_zero, List.set_cons_succ]
      refine wpAnyH_take (i := 17) (v := ?_) (by simp only [List.getElem?_toArray, List.getElem?_cons_succ, List.getElem?_cons_zero]; rfl) (by kernel_rfl) (by kernel_rfl) (by kernel_rfl) (fun _ _ _ h => h) (Or.inl ⟨by rfl, ?_⟩) (by assumption) ?_
      rotate_left 1
      · (intro w hSw; (try dsimp only at hSw); go_simp; try with_reducible rfl)
      try simp only [Act.put, List.setIfInBounds_toArray, List.set_cons_zero, List.set_cons_succ]
      refine wpAnyH_take (i := 18) (v := ?_) (by simp only [List.getElem?_toArray, List.getElem?_cons_succ, List.getElem?_cons_zero]; rfl) (by kernel_rfl) (by kernel_rfl) (by kernel_rfl) (fun _ _ _ h => h) (Or.inl ⟨by rfl, ?_⟩) (by assumption) ?_
      rotate_left 1
      · (intro w hSw; (try dsimp only at hSw); go_simp; try with_reducible rfl)
      try simp only [Act.put, List.setIfInBounds_toArray, List.set_cons_zero, List.set_cons_succ]
      refine wpAnyH_take (i := 19) (v := cx.agg) (by simp only [List.getElem?_toArray, List.getElem?_cons_succ, List.getElem?_cons_zero]; rfl) (by kernel_rfl) (by kernel_rfl) (by kernel_rfl) (fun _ _ _ h => h) (yields_load_val (g := g) (o := 20) (c := cx) Tryd.underlying47 rfl rfl (fun _ h => h) info_val (rq_doc _ _ _ _ _ _ _ _ _ _)) (by assumption) ?_
      try simp only [Act.put, List.setIfInBounds_toArray, List.set_cons_zero, List.set_cons_succ]
      refine wpAnyH_take (i := 20) (v := ?_) (by simp only [List.getElem?_toArray, List.getElem?_cons_succ, List.getElem?_cons_zero]; rfl) (by kernel_rfl) (by kernel_rfl) (by kernel_rfl) (fun _ _ _ h => h) (Or.inl ⟨by rfl, ?_⟩) (by assumption) ?_
      rotate_left 1
      · (intro w hSw; (try dsimp only at hSw); go_simp; try with_reducible rfl)
      try simp only [Act.put, List.setIfInBounds_toArray, List.set_cons_zero, List.set_cons_succ]
      refine wpAnyH_ready (rs := [21]) (by kernel_rfl) (by simp) ?_
      refine AllReadyH.cons (by simp only [List.getElem?_toArray, List.getElem?_cons_succ, List.getElem?_cons_zero]; rfl) (fun K hK => ?_) AllReadyH.nil
      replace hK := hide hK
      go_simp
      have HB2 := hide ((HB.out.alloc (.cells zero20 110)).drew)
      have HG2 := hide (((Grow.refl w).alloc (.cells zero20 110)).drew)
      have HS2 := hide (show Blk (w.alloc (.cells zero20 110)).drew w.heap.size 110 zero20 from Blk.new w _ _)
      have hgl := HB.out.lt
      generalize (w.alloc (.cells zero20 110)).drew = w2 at HB2 HG2 HS2 ⊢
      refine hK.out _ _ (HB2.out) (fun hHeld => ?_)
      clear hK K
      try simp only [Act.put, List.setIfInBounds_toArray, List.set_cons_zero, List.set_cons_succ]
      refine wpAnyH_ready (rs := [22]) (by kernel_rfl) (by simp) ?_
      refine AllReadyH.cons (by simp only [List.getElem?_toArray, List.getElem?_cons_succ, List.getElem?_cons_zero]; rfl) (fun K hK => ?_) AllReadyH.nil
      replace hK := hide hK
      refine step_store_blk (g := w.heap.size) (n := 20) (cells := quad ck cl ch cx) rfl rfl HS2.out info_4 rfl rfl (quad_one _ _ _ _) (fun w3 hB3 hg3 hz3 => ?_)
      have HB3 := hide (HB2.out.own hg3 (fun k e => by injection e with e; omega))
      have HG3 := hide (HG2.out.grown hg3 (fun k e => by injection e with e; omega))
      have HL := hide (show InL w3 (some ⟨w.heap.size, 0, none⟩) 4 q.vals from quad_at hB3 (H1.out.grow HG3.out) (H2.out.grow HG3.out) (H3.out.grow HG3.out) (H4.out.grow HG3.out))
      refine hK.out _ _ (HB3.out) (fun hHeld => ?_)
      clear hK K hB3 hg3 hz3 HB2 HG2 HS2
      try simp only [Act.put, List.setIfInBounds_toArray, List.set_cons_zero, List.set_cons_succ]
      refine wpAnyH_done (by kernel_rfl) ?_ _
      refine NoPanic.normal ?_
      go_wp2_with fail
      go_loopg [3, 6] 5 (fun gk t i w4 => ∃ (j : Nat) (T : Int), j ≤ 4 ∧ gk + j = 5 ∧ i = .int .i64 j ∧ t = .int .i64 T ∧ 1 ≤ T ∧ T ≤ 20000 ∧ T + ((((q.vals.take j).map V.count).sum : Nat) : Int) = 20000 ∧ Grow w3 w4)
      case atStart => exact ⟨0, 20000, by omega, by omega, rfl, rfl, by omega, by omega, by simp, Grow.refl w3⟩
      case round =>
        obtain ⟨j, T, hj, hg, rfl, rfl, hT0, hT1, hT2, hw⟩ := hrel
        have HW := hide hw
        have HT2 := hide hT2
        clear hT2
        by_cases hlt : j < 4
        · obtain ⟨gk', rfl⟩ : ∃ g, gk = g + 1 := ⟨gk - 1, by omega⟩
          have hlt' : j < q.vals.length := hlt
          obtain ⟨v, hv⟩ : ∃ v, q.vals[j] = v := ⟨_, rfl⟩
          obtain ⟨bk, o, x, ha, hbk, e0, e1, e2, e3, e4, hx⟩ := In.elemL (HL.out.grow hw) j hlt'
          obtain ⟨rfl, rfl⟩ : w.heap.size = bk ∧ 0 = o := by simpa using ha
          simp only [Nat.zero_add] at e0 e1 e2 e3 e4
          rw [hv] at hx
          have hs := sum_take V.count q.vals j hlt'
          rw [hv] at hs
          have HS := hide hs
          have hle := sum_take_le V.count q.vals (j + 1)
          rw [hs] at hle
          have HLE := hide hle
          have hcp := V.count_pos v
          have HC := hide (walked_any v T wr x (by omega) (by omega) hx)
          clear hw hx hs hle ha hbk hv hlt'
          go_wp2_with fail
          refine HC.out.mono ?_
          rintro e w5 ⟨r, rfl, hr, hb2⟩
          have HGR := hide hb2
          clear hb2
          by_cases hlt2 : ((v.count : Nat) : Int) < T
          · have hd : decide (((v.count : Nat) : Int) < T) = true := decide_eq_true hlt2
            have HR := hide (hr hlt2)
            clear hr
            go_wp2_with fail
            go_roundg gk'
            case measure => omega
            case rel =>
              have h1 := HR.out
              have h2 := HT2.out
              have h3 := HS.out
              exact ⟨j + 1, r, by omega, by omega, by go_num, rfl, by omega, by omega, by rw [h3]; push_cast; omega, HW.out.trans HGR.out⟩
          · have hd : decide (((v.count : Nat) : Int) < T) = false := decide_eq_false hlt2
            clear hr
            go_wp2_with fail
            go_ret
            have h2 := HT2.out
            have h3 := HLE.out
            exact ⟨ret_bool (decide_eq_true (by omega)).symm, HG3.out.trans (HW.out.trans HGR.out)⟩
        · obtain rfl : j = 4 := by omega
          have h2 := HT2.out
          rw [show q.vals.take 4 = q.vals from rfl] at h2
          have H2' := hide h2
          clear hw h2
          go_wp2_with fail
          go_roundg 1
          case measure => omega
          case rel =>
            have h2 := H2'.out
            exact Or.inr ⟨rfl, rfl, ⟨T, rfl⟩, by omega, HG3.out.trans HW.out⟩
    · have HW := hide hw
      clear hw
      go_wp2_with fail
      go_ret
      exact ⟨ret_bool (decide_eq_false (by omega)).symm, HW.out⟩
end Go.Proofs.YtojpeiihkjpeoaaDoor
