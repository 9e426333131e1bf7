/- Walks: the law ValDeep, kind by kind. Written by wip/tools/gen_deep.py. -/
import Derived.Test.YtkgjfkpabdlgbaaDoorDeepW
import Derived.Test.YtkgjfkpabdlgbaaDoorRead4
import Derived.Deep.RegionLaw
set_option linter.unusedVariables false
set_option linter.unusedSimpArgs false
namespace Go.Proofs.YtkgjfkpabdlgbaaDoor
open Go.RowKit Go.Shelf

theorem I_one (w : World) : Calls Tryd.prog 24 #[.int .i64 1] w fun e w' => e = .returned (.agg #[.int .i64 3, .int .u64 1, .slice none 0 0, .slice none 0 0, .slice none 0 0]) ∧ Grow w w' := I_any 1 (by omega) w
theorem name_pos (k : Nat) : PosC (nameV k) := by
  intro w c hv hm
  refine bytes_doc_ w c _ (fun x hx => ?_) hv ?_
  · have : x.2 = one := by simp at hx; rw [hx]
    rw [this]; exact bytes_any one (int_formed 1)
  · rw [nameV, V.bytes_doc] at hm; simp only [List.length_cons] at hm; exact (by omega)
theorem make_zeros (q : Nat) (hq : q ≤ 140737488355328) (e : Int) (he : (q : Int) = e) : ∃ cur : Array Value, cur.toList = List.replicate q (.int .u8 0) ∧ ∀ w : World, (Instr.makeSlice 22 (.int .i64 e) (.int .i64 e)).run Tryd.prog w = .ok (.slice (some ⟨w.heap.size, 0, none⟩) q q) (w.alloc (.cells cur 5)) := by
  subst he
  obtain ⟨i0, hi0, hz0, hz1, hz2⟩ := info_parts info_u8
  refine ⟨madeCells (Value.int .u8 0).cells (q * i0.size), ?_, fun w => ?_⟩
  · rw [hz1, Nat.mul_one]; exact toList_madeCells_one _ q
  · exact run_make (P := Tryd.prog) (w := w) 22 5 i0 (.int .u8 0) under_u8s hi0 hz0 .i64 .i64 (q : Int) (q : Int) (by omega) (by omega) (by rw [hz2]; omega) (by omega)
/-- So many noughts. -/
theorem InF.raw {w : World} {lo g : Nat} (k : Nat) {cur : Array Value} (hk : k ≤ 127) (hc : cur.toList = List.replicate (4029 + k) (.int .u8 0)) (hlo : lo ≤ g) (hB : Blk w g 5 cur) : InF w lo (rawV k) ⟨6, 0, some ⟨g, 0, none⟩, 4029 + k, 4029 + k, none, 0, 0, none, 0, 0⟩ := by
  have hlt := hB.lt
  unfold InF rawV
  rw [IsV]
  refine ⟨rfl, rfl, by simp, rfl, rfl, by decide, by decide, by decide, by simp, by simp; omega, by simp, by simp, by simp, by simp, ⟨by simp [u8s], fun _ => ⟨g, 0, rfl, fun j u hu => ⟨?_, hlo, hlt⟩⟩⟩, fun i hi => by simp at hi, fun i hi => by simp at hi⟩
  rw [Nat.zero_add, hB.cell, ← Array.getElem?_toList, hc, ← hu]
  simp [u8s]
abbrev intCv (i : Nat) : Cv := ⟨3, (i : Int), none, 0, 0, none, 0, 0, none, 0, 0⟩
def intsE (k : Nat) : List VE := (List.range k).map fun i => ⟨⟨#[]⟩, .mk 3 i [] [] [], intCv i, 0, 0⟩
theorem intsE_len (k : Nat) : (intsE k).length = k := by simp [intsE]
theorem intsE_succ (k : Nat) : cellsOf noHead (intsE (k + 1)) = cellsOf noHead (intsE k) ++ (intCv k).cells.toList := by
  unfold intsE
  rw [List.range_succ, List.map_append, List.map_cons, List.map_nil, cellsOf_snoc]
  rfl
/-- A row of numbers is a list. -/
theorem InF.wide {w : World} {lo base k cap : Nat} {A : Option Addr} (hk : k ≤ 127) (hlo : lo ≤ base) (h : w.ownsRow base 27 5 (.slice A k cap) k (cellsOf noHead (intsE k))) : InF w lo (wideV k) ⟨7, 0, none, 0, 0, A, k, cap, none, 0, 0⟩ := by
  have hcap : k ≤ cap := by
    rcases h.2 with ⟨hv, h0⟩ | ⟨g, cap', cur, hv, _, _, hc, _⟩
    · omega
    · injection hv with _ _ e; omega
  unfold InF wideV
  rw [IsV]
  refine ⟨rfl, rfl, rfl, by simp, rfl, by decide, by decide, by decide, by simp, by simp, by show (List.map _ _).length ≤ cap; simpa using hcap, by simp; omega, by simp, by simp, ⟨rfl, fun h => by simp at h⟩, fun i hi => ?_, fun i hi => by simp at hi⟩
  have hik : i < k := by simpa using hi
  obtain ⟨g, cap', hv, hb, hlt⟩ := World.ownsRow.form h (by omega)
  have hA : A = some ⟨g, 0, none⟩ := by injection hv
  subst hA
  have hcell : ∀ t u, t < 5 → (intCv i).cells.toList[t]? = some u → AtW w lo w.heap.size ⟨g, 0 + i * 5 + t, none⟩ u := fun t u ht hu => by
    refine ⟨?_, by show lo ≤ g; omega, hlt⟩
    have he : (intsE k)[i]'(by rw [intsE_len]; exact hik) = ⟨⟨#[]⟩, .mk 3 i [] [] [], intCv i, 0, 0⟩ := by simp [intsE]
    have := World.ownsRow.cells h (g := g) rfl (i * 5 + t) u (by rw [cellsOf_get (k := 0) (fun _ => rfl) rfl (intsE k) i t (by rw [intsE_len]; exact hik) ht, he]; exact hu)
    rw [add_lit] at this
    rw [← this]
    congr 2
    omega
  refine ⟨g, 0, intCv i, rfl, ⟨hcell 0 _ (by omega) rfl, hcell 1 _ (by omega) rfl, hcell 2 _ (by omega) rfl, hcell 3 _ (by omega) rfl, hcell 4 _ (by omega) rfl⟩, ?_⟩
  rw [List.getElem_map, List.getElem_range]
  exact InF.num w lo 3 i (by decide) (by decide) (by omega)

set_option maxRecDepth 100000 in
set_option maxHeartbeats 1600000 in
theorem deep_0 (n kind : Int) (k : Nat) (hk : k ≤ 127) (hn : bits .and .i64 n 127 = (k : Int)) (hkind : bits .and .i64 kind 3 = 0) (w : World) (hT : Tabs w) :
    Calls Tryd.prog 6 #[.int .i64 n, .int .i64 kind] w fun e w' => e = .returned (.bool true) ∧ Grow w w' := by
  have HT := hide hT
  clear hT
  go_enter Tryd.func6, Tryd.ntmps6
  go_wp2_with fail
  refine (awake_any _ HT.out).mono ?_
  rintro e w1 ⟨rfl, hg1⟩
  have HG1 := hide hg1
  clear hg1
  go_wp2_with fail
  refine (I_one _).mono ?_
  rintro e w2 ⟨rfl, hg2⟩
  have hB2 := Blk.new w2 27 (Cv.cells ⟨3, (1 : Nat), none, 0, 0, none, 0, 0, none, 0, 0⟩)
  have hc2 := hB2.cell
  have hf2 := hB2.frozen
  have HB2 := hide hB2
  have HI2 := hide (InF.num (w2.alloc (.cells (Cv.cells ⟨3, (1 : Nat), none, 0, 0, none, 0, 0, none, 0, 0⟩) 27)) (w2.heap.size + 1) 3 1 (by decide) (by decide) (by decide))
  have HGo := hide (HG1.out.trans hg2)
  have HG2 := hide ((HG1.out.trans hg2).alloc (.cells (Cv.cells ⟨3, (1 : Nat), none, 0, 0, none, 0, 0, none, 0, 0⟩) 27))
  have hz2 := HGo.out.size
  clear hg2 hB2
  go_wp2_with fail
  go_loopg [8] (k + 1) (fun gk i wr => ∃ (j : Nat) (c : Cv), j ≤ k ∧ gk + j = k + 1 ∧ i = .int .i64 j ∧ Blk wr w2.heap.size 27 c.cells ∧ InF wr (w2.heap.size + 1) (deepV j) c ∧ Grow w wr)
  case atStart => exact ⟨0, _, by omega, by omega, rfl, HB2.out, HI2.out, HG2.out⟩
  case round =>
    obtain ⟨j, c, hj, hg, rfl, hB, hI, hG⟩ := hrel
    obtain ⟨gk', rfl⟩ : ∃ g, gk = g + 1 := ⟨gk - 1, by omega⟩
    have hc := hB.cell
    have hl := hB.lt
    have HB := hide hB
    have HIF := hide hI
    have HG := hide hG
    clear hB hI hG
    by_cases hlt : j < k
    · go_wp2_with fail
      refine (L_any _ 1 1 _).mono ?_
      rintro e w3 ⟨rfl, hg3⟩
      have hB3 := (HB.out.alloc (.cells c.cells 27)).grow hg3
      have hc3 := hB3.cell
      have hf3 := hB3.frozen
      have hz3 := hg3.size
      simp only [World.size_alloc] at hz3
      have HB3 := hide hB3
      have HI3 := hide ((HIF.out.one hl).grow hg3)
      have HG3 := hide ((HG.out.alloc (.cells c.cells 27)).trans hg3)
      clear hg3 hB3 hc
      go_wp2_with fail
      go_roundg gk'
      case measure => omega
      case rel => exact ⟨j + 1, ⟨7, 0, none, 0, 0, some ⟨wr.heap.size, 0, none⟩, 1, 1, none, 0, 0⟩, by omega, by omega, by go_num, blk_set5 HB3.out, HI3.out.set5 (o := 0) (Nat.lt_succ_self _) _ _ _ _ _, HG3.out.set5 (o := 0) hz2 _ _ _ _ _⟩
    · obtain rfl : j = k := by omega
      have HI := hide HIF.out.in_
      clear hlt hg
      have hgood := deep_good j hk
      by_cases hbig : 16 < j
      · rw [if_pos hbig] at hgood
        go_wp2_with fail
        refine (good_any (deepV j) _ c (by rw [deep_count]; omega) (HT.out.grow HG.out) HI.out).mono ?_
        rintro e w4 ⟨rfl, hg4⟩
        rw [hgood]
        have hB4 := HB.out.grow hg4
        have hc4 := hB4.cell
        have hl4 := hB4.lt
        have HB4 := hide hB4
        have HI4 := hide (HI.out.grow hg4)
        have HG4 := hide (HG.out.trans hg4)
        clear hg4 hB4
        try clear hc
        go_wp2_with fail
        refine (put_bad (deepV j) _ c (by rw [deep_count]; omega) (HT.out.grow HG4.out) HI4.out (by rw [hgood]; decide)).mono ?_
        rintro e w5 ⟨rfl, hg5⟩
        rw [hgood]
        have hB5 := HB4.out.grow hg5
        have hc5 := hB5.cell
        have hl5 := hB5.lt
        have HB5 := hide hB5
        have HI5 := hide (HI4.out.grow hg5)
        have HG5 := hide (HG4.out.trans hg5)
        clear hg5 hB5 hc4 hl4
        go_wp2_with fail
        refine (refPutV_any (deepV j) (bytes_any _ (deep_formed j)) _ c HI5.out (by rw [deep_len]; omega)).mono ?_
        rintro e w6 ⟨base, A6, c6, rfl, hb6, hr6, hg6⟩
        have HR6 := hide hr6
        have HG6 := hide (HG5.out.trans hg6)
        clear hr6 hg6 hc5 hl5
        go_wp2_with fail
        have hread := deep_read j hk hbig
        refine (get_any ((deepV j)).bytes A6 c6 _ (HT.out.grow HG6.out) HR6.out.reads.1 (by rw [deep_len]; omega) HR6.out.cap).mono ?_
        intro e w7 h7
        rw [hread] at h7
        obtain ⟨rfl, hg7⟩ := h7
        have HG7 := hide ((HG6.out.trans hg7).alloc (.cells Cv.zero.cells 27))
        clear hg7 hread
        go_wp2_with fail
        go_ret
        exact ⟨rfl, HG7.out⟩
      · rw [if_neg hbig] at hgood
        go_wp2_with fail
        refine (good_any (deepV j) _ c (by rw [deep_count]; omega) (HT.out.grow HG.out) HI.out).mono ?_
        rintro e w4 ⟨rfl, hg4⟩
        rw [hgood]
        have hB4 := HB.out.grow hg4
        have hc4 := hB4.cell
        have hl4 := hB4.lt
        have HB4 := hide hB4
        have HI4 := hide (HI.out.grow hg4)
        have HG4 := hide (HG.out.trans hg4)
        clear hg4 hB4
        try clear hc
        go_wp2_with fail
        refine (put_good (deepV j) _ c (by rw [deep_count]; omega) (HT.out.grow HG4.out) HI4.out (hgood)).mono ?_
        rintro e w5 ⟨base, A5, c5, rfl, hb5, hr5, hg5⟩
        have HR5 := hide hr5
        have HB5 := hide (HB4.out.grow hg5)
        have HI5 := hide (HI4.out.grow hg5)
        have HG5 := hide (HG4.out.trans hg5)
        clear hr5 hg5 hc4 hl4
        go_wp2_with fail
        refine (get_any ((deepV j)).bytes A5 c5 _ (HT.out.grow HG5.out) HR5.out.reads.1 (by rw [deep_len]; omega) HR5.out.cap).mono ?_
        intro e w6 h6
        rw [rdAll_good (good_fit HI5.out) (hgood)] at h6
        obtain ⟨c', rfl, hin6, hg6⟩ := h6
        have hX6 := Blk.new w6 27 c'.cells
        have hcx := hX6.cell
        have hlx := hX6.lt
        have hB6 := (HB5.out.grow hg6).alloc (.cells c'.cells 27)
        have hcv := hB6.cell
        have hlv := hB6.lt
        have HJ6 := hide (hin6.in_.grow ((Grow.refl w6).alloc (.cells c'.cells 27)))
        have HI6 := hide ((HI5.out.grow hg6).grow ((Grow.refl w6).alloc (.cells c'.cells 27)))
        have HG6 := hide ((HG5.out.trans hg6).alloc (.cells c'.cells 27))
        clear hin6 hg6 hX6 hB6
        go_wp2_with fail
        refine (lawSame_any (deepV j) (deepV j) _ c' c HJ6.out HI6.out).mono ?_
        rintro e w7 ⟨rfl, hg7⟩
        rw [sameB_self]
        have HG7 := hide (HG6.out.trans hg7)
        clear hg7 hcx hlx hcv hlv
        go_wp2_with fail
        go_ret
        exact ⟨rfl, HG7.out⟩

set_option maxRecDepth 100000 in
set_option maxHeartbeats 1600000 in
theorem deep_1 (n kind : Int) (k : Nat) (hk : k ≤ 127) (hn : bits .and .i64 n 127 = (k : Int)) (hkind : bits .and .i64 kind 3 = 1) (w : World) (hT : Tabs w) :
    Calls Tryd.prog 6 #[.int .i64 n, .int .i64 kind] w fun e w' => e = .returned (.bool true) ∧ Grow w w' := by
  have HT := hide hT
  clear hT
  go_enter Tryd.func6, Tryd.ntmps6
  go_wp2_with fail
  refine (awake_any _ HT.out).mono ?_
  rintro e w1 ⟨rfl, hg1⟩
  have HG1 := hide hg1
  clear hg1
  go_wp2_with fail
  refine (I_one _).mono ?_
  rintro e w2 ⟨rfl, hg2⟩
  have hB2 := Blk.new w2 27 (Cv.cells ⟨3, (1 : Nat), none, 0, 0, none, 0, 0, none, 0, 0⟩)
  have hc2 := hB2.cell
  have hf2 := hB2.frozen
  have HB2 := hide hB2
  have HI2 := hide (InF.num (w2.alloc (.cells (Cv.cells ⟨3, (1 : Nat), none, 0, 0, none, 0, 0, none, 0, 0⟩) 27)) (w2.heap.size + 1) 3 1 (by decide) (by decide) (by decide))
  have HGo := hide (HG1.out.trans hg2)
  have HG2 := hide ((HG1.out.trans hg2).alloc (.cells (Cv.cells ⟨3, (1 : Nat), none, 0, 0, none, 0, 0, none, 0, 0⟩) 27))
  have hz2 := HGo.out.size
  clear hg2 hB2
  obtain ⟨i0, hi0, hz0, hz1, hzb⟩ := info_parts info_val3
  have Hi0 := hide hi0
  have Hz0 := hide hz0
  have Hz1 := hide hz1
  have Hz2 := hide hzb
  clear hi0 hz0 hz1 hzb
  go_wp2_with fail
  go_loopg [9] (k + 1) (fun gk i wr => ∃ (j : Nat) (A' : Option Addr) (cap' : Nat), j ≤ k ∧ gk + j = k + 1 ∧ i = .int .i64 j ∧ Blk wr w2.heap.size 27 (Cv.cells ⟨7, 0, none, 0, 0, A', j, cap', none, 0, 0⟩) ∧
    wr.ownsRow (w2.heap.size + 1) 27 5 (.slice A' j cap') j (cellsOf noHead (intsE j)) ∧ Grow w wr)
  case atStart => exact ⟨0, none, 0, by omega, by omega, rfl, Blk.new _ _ _, World.ownsRow_nil _ _ _ _, HGo.out.alloc _⟩
  case round =>
    obtain ⟨j, A', cap', hj, hg, rfl, hB, hown, hG⟩ := hrel
    obtain ⟨gk', rfl⟩ : ∃ g, gk = g + 1 := ⟨gk - 1, by omega⟩
    have hc := hB.cell
    have hfr := hB.frozen
    have hl := hB.lt
    have HB := hide hB
    have HOW := hide hown
    have HG := hide hG
    clear hB hown hG
    by_cases hlt : j < k
    · go_wp2_with fail
      go_region_law ((first | (refine step_append_src (by rfl) (.tmp 44) (.tmp 47) 24 24 (by rfl) (w2.heap.size + 1) 27 i0 _ 5 88 under_vals Hi0.out Hz0.out Hz1.out Hz2.out (by rfl) (.slice A' j cap') j (cellsOf noHead (intsE j)) (by rfl) (hown3.alloc _) _ 1 (intCv j).cells.toList (by rfl) (Src.oneV (intCv j) _) (by omega) (by simp only [maxLen]; omega) (by simp; omega) ?_; intro A3 c3 w4 hown4 hgr4 hat4; have hB4 := Blk.own (hB3.alloc _) hgr4 (fun k hk => by have := (World.ownsRow.lt hown3 k hk).1; omega); have hc4 := hB4.cell; have hf4 := hB4.frozen) | (go_simp; go_at_call 24; refine (I_any j (by omega) _).mono ?_; rintro e w3 ⟨rfl, hg3⟩; have hB3 := HB.out.drew.grow hg3; have hc3 := hB3.cell; have hc3a := (hB3.alloc (.cells (intCv j).cells 27)).cell; have hz3 : wr.heap.size ≤ w3.heap.size := hg3.size; have hown3 := World.ownsRow.kept HOW.out (row := none) ⟨hg3.os, hg3.tape, hg3.output, hg3.size, fun k hk _ => hg3.below.block k hk⟩ (by cases (Value.slice A' j cap').ownBlock <;> simp))))
      all_goals
        have HB5 : Hid (Blk (w4.setCell ⟨w2.heap.size, 3, none⟩ (.slice A3 (j + 1) c3)) w2.heap.size 27 (Cv.cells ⟨7, 0, none, 0, 0, A3, j + 1, c3, none, 0, 0⟩)) := hB4.set_ 3 (.slice A3 (j + 1) c3)
        have HOW5 := hide (World.ownsRow.kept hown4 (grown_set w4 w2.heap.size 3 (.slice A3 (j + 1) c3)) (by
          cases hv : (Value.slice A3 (j + 1) c3).ownBlock with
          | none => exact .inl rfl
          | some q => right; intro e; injection e with e; have := (World.ownsRow.lt hown4 q hv).1; omega))
        have HG5 := hide (Below.setCell (Below.grown ((HG.out.drew.trans hg3).alloc (.cells (intCv j).cells 27)) hgr4 (by simp; omega) (fun q e => by have := (World.ownsRow.lt hown3 q e).1; omega)) (p := ⟨w2.heap.size, 3, none⟩) hz2 (.slice A3 (j + 1) c3))
        clear hB3 hB4 hc3 hc3a hc4 hf4 hown3 hown4 hgr4 hat4 hg3 hc hfr
        go_wp2_with fail
        go_roundg gk'
        case measure => omega
        case rel => exact ⟨j + 1, A3, c3, by omega, by omega, by go_num, HB5.out, by rw [intsE_succ]; exact HOW5.out, HG5.out⟩
    · obtain rfl : j = k := by omega
      have HI := hide (InF.wide hk (Nat.le_refl _) HOW.out).in_
      obtain ⟨c, hcv⟩ : ∃ c : Cv, c = ⟨7, 0, none, 0, 0, A', j, cap', none, 0, 0⟩ := ⟨_, rfl⟩
      rw [← hcv] at HB HI
      clear hc hlt hg hfr hcv
      have hc := HB.out.cell
      have hgood := wide_good j hk
      by_cases hbig : 64 < j
      · rw [if_pos hbig] at hgood
        go_wp2_with fail
        refine (good_any (wideV j) _ c (by rw [wide_count]; omega) (HT.out.grow HG.out) HI.out).mono ?_
        rintro e w4 ⟨rfl, hg4⟩
        rw [hgood]
        have hB4 := HB.out.grow hg4
        have hc4 := hB4.cell
        have hl4 := hB4.lt
        have HB4 := hide hB4
        have HI4 := hide (HI.out.grow hg4)
        have HG4 := hide (HG.out.trans hg4)
        clear hg4 hB4
        try clear hc
        go_wp2_with fail
        refine (put_bad (wideV j) _ c (by rw [wide_count]; omega) (HT.out.grow HG4.out) HI4.out (by rw [hgood]; decide)).mono ?_
        rintro e w5 ⟨rfl, hg5⟩
        rw [hgood]
        have hB5 := HB4.out.grow hg5
        have hc5 := hB5.cell
        have hl5 := hB5.lt
        have HB5 := hide hB5
        have HI5 := hide (HI4.out.grow hg5)
        have HG5 := hide (HG4.out.trans hg5)
        clear hg5 hB5 hc4 hl4
        go_wp2_with fail
        refine (refPutV_any (wideV j) (bytes_any _ (wide_formed j)) _ c HI5.out (by rw [wide_len]; omega)).mono ?_
        rintro e w6 ⟨base, A6, c6, rfl, hb6, hr6, hg6⟩
        have HR6 := hide hr6
        have HG6 := hide (HG5.out.trans hg6)
        clear hr6 hg6 hc5 hl5
        go_wp2_with fail
        have hread := wide_read j hk hbig
        refine (get_any ((wideV j)).bytes A6 c6 _ (HT.out.grow HG6.out) HR6.out.reads.1 (by rw [wide_len]; omega) HR6.out.cap).mono ?_
        intro e w7 h7
        rw [hread] at h7
        obtain ⟨rfl, hg7⟩ := h7
        have HG7 := hide ((HG6.out.trans hg7).alloc (.cells Cv.zero.cells 27))
        clear hg7 hread
        go_wp2_with fail
        go_ret
        exact ⟨rfl, HG7.out⟩
      · rw [if_neg hbig] at hgood
        go_wp2_with fail
        refine (good_any (wideV j) _ c (by rw [wide_count]; omega) (HT.out.grow HG.out) HI.out).mono ?_
        rintro e w4 ⟨rfl, hg4⟩
        rw [hgood]
        have hB4 := HB.out.grow hg4
        have hc4 := hB4.cell
        have hl4 := hB4.lt
        have HB4 := hide hB4
        have HI4 := hide (HI.out.grow hg4)
        have HG4 := hide (HG.out.trans hg4)
        clear hg4 hB4
        try clear hc
        go_wp2_with fail
        refine (put_good (wideV j) _ c (by rw [wide_count]; omega) (HT.out.grow HG4.out) HI4.out (hgood)).mono ?_
        rintro e w5 ⟨base, A5, c5, rfl, hb5, hr5, hg5⟩
        have HR5 := hide hr5
        have HB5 := hide (HB4.out.grow hg5)
        have HI5 := hide (HI4.out.grow hg5)
        have HG5 := hide (HG4.out.trans hg5)
        clear hr5 hg5 hc4 hl4
        go_wp2_with fail
        refine (get_any ((wideV j)).bytes A5 c5 _ (HT.out.grow HG5.out) HR5.out.reads.1 (by rw [wide_len]; omega) HR5.out.cap).mono ?_
        intro e w6 h6
        rw [rdAll_good (good_fit HI5.out) (hgood)] at h6
        obtain ⟨c', rfl, hin6, hg6⟩ := h6
        have hX6 := Blk.new w6 27 c'.cells
        have hcx := hX6.cell
        have hlx := hX6.lt
        have hB6 := (HB5.out.grow hg6).alloc (.cells c'.cells 27)
        have hcv := hB6.cell
        have hlv := hB6.lt
        have HJ6 := hide (hin6.in_.grow ((Grow.refl w6).alloc (.cells c'.cells 27)))
        have HI6 := hide ((HI5.out.grow hg6).grow ((Grow.refl w6).alloc (.cells c'.cells 27)))
        have HG6 := hide ((HG5.out.trans hg6).alloc (.cells c'.cells 27))
        clear hin6 hg6 hX6 hB6
        go_wp2_with fail
        refine (lawSame_any (wideV j) (wideV j) _ c' c HJ6.out HI6.out).mono ?_
        rintro e w7 ⟨rfl, hg7⟩
        rw [sameB_self]
        have HG7 := hide (HG6.out.trans hg7)
        clear hg7 hcx hlx hcv hlv
        go_wp2_with fail
        go_ret
        exact ⟨rfl, HG7.out⟩

set_option maxRecDepth 100000 in
set_option maxHeartbeats 1600000 in
theorem deep_2 (n kind : Int) (k : Nat) (hk : k ≤ 127) (hn : bits .and .i64 n 127 = (k : Int)) (hkind : bits .and .i64 kind 3 = 2) (w : World) (hT : Tabs w) :
    Calls Tryd.prog 6 #[.int .i64 n, .int .i64 kind] w fun e w' => e = .returned (.bool true) ∧ Grow w w' := by
  have HT := hide hT
  clear hT
  go_enter Tryd.func6, Tryd.ntmps6
  go_wp2_with fail
  refine (awake_any _ HT.out).mono ?_
  rintro e w1 ⟨rfl, hg1⟩
  have HG1 := hide hg1
  clear hg1
  go_wp2_with fail
  refine (I_one _).mono ?_
  rintro e w2 ⟨rfl, hg2⟩
  have hB2 := Blk.new w2 27 (Cv.cells ⟨3, (1 : Nat), none, 0, 0, none, 0, 0, none, 0, 0⟩)
  have hc2 := hB2.cell
  have hf2 := hB2.frozen
  have HB2 := hide hB2
  have HI2 := hide (InF.num (w2.alloc (.cells (Cv.cells ⟨3, (1 : Nat), none, 0, 0, none, 0, 0, none, 0, 0⟩) 27)) (w2.heap.size + 1) 3 1 (by decide) (by decide) (by decide))
  have HGo := hide (HG1.out.trans hg2)
  have HG2 := hide ((HG1.out.trans hg2).alloc (.cells (Cv.cells ⟨3, (1 : Nat), none, 0, 0, none, 0, 0, none, 0, 0⟩) 27))
  have hz2 := HGo.out.size
  clear hg2 hB2
  obtain ⟨cur, hcur, hmk⟩ := make_zeros (4029 + k) (by omega) (4029 + (k : Int)) (by omega)
  have HMC := hide hcur
  clear hcur
  have hgood := raw_good k hk
  by_cases hbig : 64 < k
  · rw [if_pos hbig] at hgood
    go_wp2_with fail
    obtain ⟨W, hW⟩ : ∃ W, W = (w2.alloc (Obj.cells (Cv.cells ⟨6, 0, some ⟨w2.heap.size + 1, 0, none⟩, 4029 + k, 4029 + k, none, 0, 0, none, 0, 0⟩) 27)).alloc (Obj.cells cur 5) := ⟨_, rfl⟩
    have HB : Hid (Blk W w2.heap.size 27 (Cv.cells ⟨6, 0, some ⟨w2.heap.size + 1, 0, none⟩, 4029 + k, 4029 + k, none, 0, 0, none, 0, 0⟩)) := by rw [hW]; exact (Blk.new _ _ _).alloc _
    have HI : Hid (In W (rawV k) ⟨6, 0, some ⟨w2.heap.size + 1, 0, none⟩, 4029 + k, 4029 + k, none, 0, 0, none, 0, 0⟩) := by rw [hW]; exact (InF.raw (lo := 0) k hk HMC.out (Nat.zero_le _) (Blk.new' (by simp) _ _)).in_
    have HG : Hid (Grow w W) := by rw [hW]; exact (HGo.out.alloc _).alloc _
    rw [← hW]
    clear hW hmk hc2 hf2
    refine (good_any (rawV k) _ ⟨6, 0, some ⟨w2.heap.size + 1, 0, none⟩, 4029 + k, 4029 + k, none, 0, 0, none, 0, 0⟩ (by rw [raw_count]; omega) (HT.out.grow HG.out) HI.out).mono ?_
    rintro e w4 ⟨rfl, hg4⟩
    rw [hgood]
    have hB4 := HB.out.grow hg4
    have hc4 := hB4.cell
    have hl4 := hB4.lt
    have HB4 := hide hB4
    have HI4 := hide (HI.out.grow hg4)
    have HG4 := hide (HG.out.trans hg4)
    clear hg4 hB4
    try clear hc
    go_wp2_with fail
    refine (put_bad (rawV k) _ ⟨6, 0, some ⟨w2.heap.size + 1, 0, none⟩, 4029 + k, 4029 + k, none, 0, 0, none, 0, 0⟩ (by rw [raw_count]; omega) (HT.out.grow HG4.out) HI4.out (by rw [hgood]; decide)).mono ?_
    rintro e w5 ⟨rfl, hg5⟩
    rw [hgood]
    have hB5 := HB4.out.grow hg5
    have hc5 := hB5.cell
    have hl5 := hB5.lt
    have HB5 := hide hB5
    have HI5 := hide (HI4.out.grow hg5)
    have HG5 := hide (HG4.out.trans hg5)
    clear hg5 hB5 hc4 hl4
    go_wp2_with fail
    refine (refPutV_any (rawV k) (bytes_any _ (raw_formed k)) _ ⟨6, 0, some ⟨w2.heap.size + 1, 0, none⟩, 4029 + k, 4029 + k, none, 0, 0, none, 0, 0⟩ HI5.out (by rw [raw_len]; omega)).mono ?_
    rintro e w6 ⟨base, A6, c6, rfl, hb6, hr6, hg6⟩
    have HR6 := hide hr6
    have HG6 := hide (HG5.out.trans hg6)
    clear hr6 hg6 hc5 hl5
    go_wp2_with fail
    have hread := raw_read k hbig
    refine (get_any ((rawV k)).bytes A6 c6 _ (HT.out.grow HG6.out) HR6.out.reads.1 (by rw [raw_len]; omega) HR6.out.cap).mono ?_
    intro e w7 h7
    rw [hread] at h7
    obtain ⟨rfl, hg7⟩ := h7
    have HG7 := hide ((HG6.out.trans hg7).alloc (.cells Cv.zero.cells 27))
    clear hg7 hread
    go_wp2_with fail
    go_ret
    exact ⟨rfl, HG7.out⟩
  · rw [if_neg hbig] at hgood
    go_wp2_with fail
    obtain ⟨W, hW⟩ : ∃ W, W = (w2.alloc (Obj.cells (Cv.cells ⟨6, 0, some ⟨w2.heap.size + 1, 0, none⟩, 4029 + k, 4029 + k, none, 0, 0, none, 0, 0⟩) 27)).alloc (Obj.cells cur 5) := ⟨_, rfl⟩
    have HB : Hid (Blk W w2.heap.size 27 (Cv.cells ⟨6, 0, some ⟨w2.heap.size + 1, 0, none⟩, 4029 + k, 4029 + k, none, 0, 0, none, 0, 0⟩)) := by rw [hW]; exact (Blk.new _ _ _).alloc _
    have HI : Hid (In W (rawV k) ⟨6, 0, some ⟨w2.heap.size + 1, 0, none⟩, 4029 + k, 4029 + k, none, 0, 0, none, 0, 0⟩) := by rw [hW]; exact (InF.raw (lo := 0) k hk HMC.out (Nat.zero_le _) (Blk.new' (by simp) _ _)).in_
    have HG : Hid (Grow w W) := by rw [hW]; exact (HGo.out.alloc _).alloc _
    rw [← hW]
    clear hW hmk hc2 hf2
    refine (good_any (rawV k) _ ⟨6, 0, some ⟨w2.heap.size + 1, 0, none⟩, 4029 + k, 4029 + k, none, 0, 0, none, 0, 0⟩ (by rw [raw_count]; omega) (HT.out.grow HG.out) HI.out).mono ?_
    rintro e w4 ⟨rfl, hg4⟩
    rw [hgood]
    have hB4 := HB.out.grow hg4
    have hc4 := hB4.cell
    have hl4 := hB4.lt
    have HB4 := hide hB4
    have HI4 := hide (HI.out.grow hg4)
    have HG4 := hide (HG.out.trans hg4)
    clear hg4 hB4
    try clear hc
    go_wp2_with fail
    refine (put_good (rawV k) _ ⟨6, 0, some ⟨w2.heap.size + 1, 0, none⟩, 4029 + k, 4029 + k, none, 0, 0, none, 0, 0⟩ (by rw [raw_count]; omega) (HT.out.grow HG4.out) HI4.out (hgood)).mono ?_
    rintro e w5 ⟨base, A5, c5, rfl, hb5, hr5, hg5⟩
    have HR5 := hide hr5
    have HB5 := hide (HB4.out.grow hg5)
    have HI5 := hide (HI4.out.grow hg5)
    have HG5 := hide (HG4.out.trans hg5)
    clear hr5 hg5 hc4 hl4
    go_wp2_with fail
    refine (get_any ((rawV k)).bytes A5 c5 _ (HT.out.grow HG5.out) HR5.out.reads.1 (by rw [raw_len]; omega) HR5.out.cap).mono ?_
    intro e w6 h6
    rw [rdAll_good (good_fit HI5.out) (hgood)] at h6
    obtain ⟨c', rfl, hin6, hg6⟩ := h6
    have hX6 := Blk.new w6 27 c'.cells
    have hcx := hX6.cell
    have hlx := hX6.lt
    have hB6 := (HB5.out.grow hg6).alloc (.cells c'.cells 27)
    have hcv := hB6.cell
    have hlv := hB6.lt
    have HJ6 := hide (hin6.in_.grow ((Grow.refl w6).alloc (.cells c'.cells 27)))
    have HI6 := hide ((HI5.out.grow hg6).grow ((Grow.refl w6).alloc (.cells c'.cells 27)))
    have HG6 := hide ((HG5.out.trans hg6).alloc (.cells c'.cells 27))
    clear hin6 hg6 hX6 hB6
    go_wp2_with fail
    refine (lawSame_any (rawV k) (rawV k) _ c' ⟨6, 0, some ⟨w2.heap.size + 1, 0, none⟩, 4029 + k, 4029 + k, none, 0, 0, none, 0, 0⟩ HJ6.out HI6.out).mono ?_
    rintro e w7 ⟨rfl, hg7⟩
    rw [sameB_self]
    have HG7 := hide (HG6.out.trans hg7)
    clear hg7 hcx hlx hcv hlv
    go_wp2_with fail
    go_ret
    exact ⟨rfl, HG7.out⟩

set_option maxRecDepth 100000 in
set_option maxHeartbeats 1600000 in
theorem deep_3 (n kind : Int) (k : Nat) (hk : k ≤ 127) (hn : bits .and .i64 n 127 = (k : Int)) (hkind : bits .and .i64 kind 3 = 3) (w : World) (hT : Tabs w) :
    Calls Tryd.prog 6 #[.int .i64 n, .int .i64 kind] w fun e w' => e = .returned (.bool true) ∧ Grow w w' := by
  have HT := hide hT
  clear hT
  go_enter Tryd.func6, Tryd.ntmps6
  go_wp2_with fail
  refine (awake_any _ HT.out).mono ?_
  rintro e w1 ⟨rfl, hg1⟩
  have HG1 := hide hg1
  clear hg1
  go_wp2_with fail
  refine (I_one _).mono ?_
  rintro e w2 ⟨rfl, hg2⟩
  have hB2 := Blk.new w2 27 (Cv.cells ⟨3, (1 : Nat), none, 0, 0, none, 0, 0, none, 0, 0⟩)
  have hc2 := hB2.cell
  have hf2 := hB2.frozen
  have HB2 := hide hB2
  have HI2 := hide (InF.num (w2.alloc (.cells (Cv.cells ⟨3, (1 : Nat), none, 0, 0, none, 0, 0, none, 0, 0⟩) 27)) (w2.heap.size + 1) 3 1 (by decide) (by decide) (by decide))
  have HGo := hide (HG1.out.trans hg2)
  have HG2 := hide ((HG1.out.trans hg2).alloc (.cells (Cv.cells ⟨3, (1 : Nat), none, 0, 0, none, 0, 0, none, 0, 0⟩) 27))
  have hz2 := HGo.out.size
  clear hg2 hB2
  have hgood := name_good k hk
  obtain ⟨cur, _, hmk⟩ := make_zeros 0 (by omega) 0 rfl
  have hcv : ∀ (A : Option Addr) (w : World), (convert 22 9 (.slice A 0 0)).run Tryd.prog w = .ok (.string ⟨#[]⟩) w := fun A w => conv_bstr (b := []) (lo := 0) (hi := 0) rfl ⟨rfl, fun h => by simp at h⟩
  have hem : (⟨#[]⟩ : ByteArray) ++ longS k = longS k := by apply ByteArray.ext; simp [ByteArray.data_append]
  have hsz := long_size k
  have hnk : ¬ 9223372036854775807 < k := by omega
  have hnk1 : ¬ 9223372036854775807 < 0 + k := by omega
  have hnk2 : (9223372036854775807 < k) = False := by simp; omega
  go_wp2_with fail
  obtain ⟨W0, hW0⟩ : ∃ W, W = w2.alloc (.cells #[.int .i64 3, .int .u64 1, .slice none 0 0, .slice none 0 0, .slice none 0 0] 27) := ⟨_, rfl⟩
  have hS0 : Grow w W0.drew ∧ ∃ cv : Cv, Blk W0.drew w2.heap.size 27 cv.cells := by rw [hW0]; exact ⟨HG2.out.drew, _, HB2.out.drew⟩
  have hS1 : ∀ o : Obj, Grow w (W0.alloc o).drew ∧ ∃ cv : Cv, Blk (W0.alloc o).drew w2.heap.size 27 cv.cells := by rw [hW0]; exact fun o => ⟨(HG2.out.alloc o).drew, _, (HB2.out.alloc o).drew⟩
  rw [← hW0]
  clear hW0 hc2 hf2
  go_region_held3 (fun w' => Grow w w' ∧ ∃ cv : Cv, Blk w' w2.heap.size 27 cv.cells)
    (first
      | (with_reducible exact hS0)
      | (with_reducible exact hS1 _)
      | (with_reducible exact ⟨hGG, _, hB5⟩)
      | (with_reducible assumption)
      | (have hh := ‹Grow w _ ∧ ∃ cv : Cv, _›; with_reducible exact ⟨hh.1.alloc _, hh.2.imp fun _ h => h.alloc _⟩)
      | (have hh := ‹Grow w _ ∧ ∃ cv : Cv, _›; with_reducible exact ⟨hh.1.trans hgI, hh.2.imp fun _ h => h.grow hgI⟩)
      | (have hh := ‹Grow w _ ∧ ∃ cv : Cv, _›; with_reducible exact ⟨hh.1.trans hgL, hh.2.imp fun _ h => h.grow hgL⟩)
      | (exact (show Grow w (set5c w5 w2.heap.size 0 _ _ _ _ _) ∧ ∃ cv : Cv, Blk (set5c w5 w2.heap.size 0 _ _ _ _ _) _ _ cv.cells from ⟨hGG.set5 (o := 0) hz2 _ _ _ _ _, ⟨8, 0, none, 0, 0, none, 0, 0, AD, 1, 1⟩, blk_set5 hB5⟩)))
    (first
      | (go_at_call 27; refine (long_any k hk _).mono ?_; rintro e w3 ⟨rfl, hgL⟩)
      | (go_at_call 24; refine (I_one _).mono ?_; rintro e w4 ⟨rfl, hgI⟩)
      | (go_at_call 26; obtain ⟨hh1, cv, hh2⟩ := ‹Grow w _ ∧ ∃ cv : Cv, _›; refine (D_any (longS k) one ⟨3, (1 : Nat), none, 0, 0, none, 0, 0, none, 0, 0⟩ (w2.heap.size + 1) _ (by rw [long_size]; omega) hh2.lt (InF.num _ _ 3 1 (by decide) (by decide) (by decide))).mono ?_; rintro e w5 ⟨AD, rfl, hin5, hg5⟩; have hB5 := hh2.grow hg5; have hc5 := hB5.cell; have hf5 := hB5.frozen; have hGG := hh1.trans hg5))
  all_goals
    obtain ⟨W, hW⟩ : ∃ W, W = set5c w5 w2.heap.size 0 (.int .i64 8) (.int .u64 0) (.slice none 0 0) (.slice none 0 0) (.slice AD 1 1) := ⟨_, rfl⟩
    have HB : Hid (Blk W w2.heap.size 27 (Cv.cells ⟨8, 0, none, 0, 0, none, 0, 0, AD, 1, 1⟩)) := by rw [hW]; exact blk_set5 hB5
    have HI : Hid (In W (nameV k) ⟨8, 0, none, 0, 0, none, 0, 0, AD, 1, 1⟩) := by rw [hW]; exact (hin5.set5 (o := 0) (Nat.lt_succ_self _) _ _ _ _ _).in_
    have HG : Hid (Grow w W) := by rw [hW]; exact hGG.set5 (o := 0) hz2 _ _ _ _ _
    rw [show ((((w5.setCell ⟨w2.heap.size, 0, none⟩ (.int .i64 8)).setCell ⟨w2.heap.size, 1, none⟩ (.int .u64 0)).setCell ⟨w2.heap.size, 2, none⟩ (.slice none 0 0)).setCell ⟨w2.heap.size, 3, none⟩ (.slice none 0 0)).setCell ⟨w2.heap.size, 4, none⟩ (.slice AD 1 1) = W from hW.symm]
    clear hW hmk hB5 hc5 hf5 hGG hin5 hg5 hh1 hh2 hS0 hS1 hcv hem hsz
    have hc := HB.out.cell
    have hl := HB.out.lt
    by_cases hk0 : k < 1
    · rw [if_neg (by omega)] at hgood
      go_wp2_with fail
      refine (good_any (nameV k) _ ⟨8, 0, none, 0, 0, none, 0, 0, AD, 1, 1⟩ (by rw [name_count]; omega) (HT.out.grow HG.out) HI.out).mono ?_
      rintro e w4 ⟨rfl, hg4⟩
      rw [hgood]
      have hB4 := HB.out.grow hg4
      have hc4 := hB4.cell
      have hl4 := hB4.lt
      have HB4 := hide hB4
      have HI4 := hide (HI.out.grow hg4)
      have HG4 := hide (HG.out.trans hg4)
      clear hg4 hB4
      try clear hc
      go_wp2_with fail
      refine (put_bad (nameV k) _ ⟨8, 0, none, 0, 0, none, 0, 0, AD, 1, 1⟩ (by rw [name_count]; omega) (HT.out.grow HG4.out) HI4.out (by rw [hgood]; decide)).mono ?_
      rintro e w5 ⟨rfl, hg5⟩
      rw [hgood]
      have hB5 := HB4.out.grow hg5
      have hc5 := hB5.cell
      have hl5 := hB5.lt
      have HB5 := hide hB5
      have HI5 := hide (HI4.out.grow hg5)
      have HG5 := hide (HG4.out.trans hg5)
      clear hg5 hB5 hc4 hl4
      go_wp2_with fail
      refine (refPutV_any (nameV k) (name_pos k) _ ⟨8, 0, none, 0, 0, none, 0, 0, AD, 1, 1⟩ HI5.out (by rw [name_len]; omega)).mono ?_
      rintro e w6 ⟨base, A6, c6, rfl, hb6, hr6, hg6⟩
      have HR6 := hide hr6
      have HG6 := hide (HG5.out.trans hg6)
      clear hr6 hg6 hc5 hl5
      go_wp2_with fail
      have hread := name_read k hk (by omega)
      refine (get_any ((nameV k)).bytes A6 c6 _ (HT.out.grow HG6.out) HR6.out.reads.1 (by rw [name_len]; omega) HR6.out.cap).mono ?_
      intro e w7 h7
      rw [hread] at h7
      obtain ⟨rfl, hg7⟩ := h7
      have HG7 := hide ((HG6.out.trans hg7).alloc (.cells Cv.zero.cells 27))
      clear hg7 hread
      go_wp2_with fail
      go_ret
      exact ⟨rfl, HG7.out⟩
    by_cases hk1 : 32 < k
    · rw [if_neg (by omega)] at hgood
      go_wp2_with fail
      refine (good_any (nameV k) _ ⟨8, 0, none, 0, 0, none, 0, 0, AD, 1, 1⟩ (by rw [name_count]; omega) (HT.out.grow HG.out) HI.out).mono ?_
      rintro e w4 ⟨rfl, hg4⟩
      rw [hgood]
      have hB4 := HB.out.grow hg4
      have hc4 := hB4.cell
      have hl4 := hB4.lt
      have HB4 := hide hB4
      have HI4 := hide (HI.out.grow hg4)
      have HG4 := hide (HG.out.trans hg4)
      clear hg4 hB4
      try clear hc
      go_wp2_with fail
      refine (put_bad (nameV k) _ ⟨8, 0, none, 0, 0, none, 0, 0, AD, 1, 1⟩ (by rw [name_count]; omega) (HT.out.grow HG4.out) HI4.out (by rw [hgood]; decide)).mono ?_
      rintro e w5 ⟨rfl, hg5⟩
      rw [hgood]
      have hB5 := HB4.out.grow hg5
      have hc5 := hB5.cell
      have hl5 := hB5.lt
      have HB5 := hide hB5
      have HI5 := hide (HI4.out.grow hg5)
      have HG5 := hide (HG4.out.trans hg5)
      clear hg5 hB5 hc4 hl4
      go_wp2_with fail
      refine (refPutV_any (nameV k) (name_pos k) _ ⟨8, 0, none, 0, 0, none, 0, 0, AD, 1, 1⟩ HI5.out (by rw [name_len]; omega)).mono ?_
      rintro e w6 ⟨base, A6, c6, rfl, hb6, hr6, hg6⟩
      have HR6 := hide hr6
      have HG6 := hide (HG5.out.trans hg6)
      clear hr6 hg6 hc5 hl5
      go_wp2_with fail
      have hread := name_read k hk (by omega)
      refine (get_any ((nameV k)).bytes A6 c6 _ (HT.out.grow HG6.out) HR6.out.reads.1 (by rw [name_len]; omega) HR6.out.cap).mono ?_
      intro e w7 h7
      rw [hread] at h7
      obtain ⟨rfl, hg7⟩ := h7
      have HG7 := hide ((HG6.out.trans hg7).alloc (.cells Cv.zero.cells 27))
      clear hg7 hread
      go_wp2_with fail
      go_ret
      exact ⟨rfl, HG7.out⟩
    · rw [if_pos (by omega)] at hgood
      go_wp2_with fail
      refine (good_any (nameV k) _ ⟨8, 0, none, 0, 0, none, 0, 0, AD, 1, 1⟩ (by rw [name_count]; omega) (HT.out.grow HG.out) HI.out).mono ?_
      rintro e w4 ⟨rfl, hg4⟩
      rw [hgood]
      have hB4 := HB.out.grow hg4
      have hc4 := hB4.cell
      have hl4 := hB4.lt
      have HB4 := hide hB4
      have HI4 := hide (HI.out.grow hg4)
      have HG4 := hide (HG.out.trans hg4)
      clear hg4 hB4
      try clear hc
      go_wp2_with fail
      refine (put_good (nameV k) _ ⟨8, 0, none, 0, 0, none, 0, 0, AD, 1, 1⟩ (by rw [name_count]; omega) (HT.out.grow HG4.out) HI4.out (hgood)).mono ?_
      rintro e w5 ⟨base, A5, c5, rfl, hb5, hr5, hg5⟩
      have HR5 := hide hr5
      have HB5 := hide (HB4.out.grow hg5)
      have HI5 := hide (HI4.out.grow hg5)
      have HG5 := hide (HG4.out.trans hg5)
      clear hr5 hg5 hc4 hl4
      go_wp2_with fail
      refine (get_any ((nameV k)).bytes A5 c5 _ (HT.out.grow HG5.out) HR5.out.reads.1 (by rw [name_len]; omega) HR5.out.cap).mono ?_
      intro e w6 h6
      rw [rdAll_good (good_fit HI5.out) (hgood)] at h6
      obtain ⟨c', rfl, hin6, hg6⟩ := h6
      have hX6 := Blk.new w6 27 c'.cells
      have hcx := hX6.cell
      have hlx := hX6.lt
      have hB6 := (HB5.out.grow hg6).alloc (.cells c'.cells 27)
      have hcv := hB6.cell
      have hlv := hB6.lt
      have HJ6 := hide (hin6.in_.grow ((Grow.refl w6).alloc (.cells c'.cells 27)))
      have HI6 := hide ((HI5.out.grow hg6).grow ((Grow.refl w6).alloc (.cells c'.cells 27)))
      have HG6 := hide ((HG5.out.trans hg6).alloc (.cells c'.cells 27))
      clear hin6 hg6 hX6 hB6
      go_wp2_with fail
      refine (lawSame_any (nameV k) (nameV k) _ c' ⟨8, 0, none, 0, 0, none, 0, 0, AD, 1, 1⟩ HJ6.out HI6.out).mono ?_
      rintro e w7 ⟨rfl, hg7⟩
      rw [sameB_self]
      have HG7 := hide (HG6.out.trans hg7)
      clear hg7 hcx hlx hcv hlv
      go_wp2_with fail
      go_ret
      exact ⟨rfl, HG7.out⟩

theorem deep_any (n kind : Int) (w : World) (hT : Tabs w) : Calls Tryd.prog 6 #[.int .i64 n, .int .i64 kind] w fun e w' => e = .returned (.bool true) ∧ Grow w w' := by
  have h1 : bits .and .i64 n 127 = (((n % 128).toNat : Nat) : Int) := by rw [i64_and127]; omega
  have h2 := i64_and3 kind
  have h3 : kind % 4 = 0 ∨ kind % 4 = 1 ∨ kind % 4 = 2 ∨ kind % 4 = 3 := by omega
  rcases h3 with h | h | h | h <;> rw [h] at h2
  · exact deep_0 n kind _ (by omega) h1 h2 w hT
  · exact deep_1 n kind _ (by omega) h1 h2 w hT
  · exact deep_2 n kind _ (by omega) h1 h2 w hT
  · exact deep_3 n kind _ (by omega) h1 h2 w hT
end Go.Proofs.YtkgjfkpabdlgbaaDoor
