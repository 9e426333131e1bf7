/- Walks: what chapter 2's examples call: makers of values, refused bytes, two values in order. -/
import Derived.Test.YtcdbchifigonpaaDoorVKnP
import Derived.Test.YtcdbchifigonpaaDoorAwake
import Derived.Test.YtcdbchifigonpaaDoorRowsV
import Derived.Test.YtcdbchifigonpaaDoorWithW
import Derived.IntWalk
set_option linter.unusedVariables false
set_option linter.unusedSimpArgs false
namespace Go.Proofs.YtcdbchifigonpaaDoor
open Go.RowKit Go.Shelf

abbrev cN (k n : Int) : Cv := ⟨k, n, none, 0, 0, none, 0, 0, none, 0, 0⟩
theorem cellresN {F : Func} {W : World} {vb : Nat} {tmps : Array Value} (i : Nat) (hF : F.results = #[ResultVar.cell i 37]) (h2 : tmps.getD i undef = .pointer (some ⟨vb, 0, none⟩)) (c : Cv) (hv : Blk W vb 37 c.cells) :
    (results F tmps).run Tryd.prog W = .ok c.agg W := by
  have hvc := hv.cell
  have h2' : tmps[i]?.getD undef = .pointer (some ⟨vb, 0, none⟩) := by simpa using h2
  simp [results, hF, go_sem, h2', hvc]
set_option maxHeartbeats 400000 in
theorem I_val (n : Nat) (k : Int) (hn : n ≤ 9223372036854775807) (hk : k = n) (w : World) : Calls Tryd.prog 23 #[.int .i64 k] w fun e w' => e = .returned (cN 3 n).agg ∧ Grow w w' := by
  subst hk
  have hwr : IntKind.u64.wrap (n : Int) = (n : Int) := IntWalk.u64_in _ (by omega)
  have HW := hide hwr
  clear hwr
  go_enter Tryd.func23, Tryd.ntmps23
  go_wp2_with fail
  exact bodyPost_ret (cellres rfl rfl (cN 3 n) (Blk.new w _ _)) rfl ⟨rfl, (Grow.refl w).alloc _⟩
set_option maxHeartbeats 400000 in
theorem F_val (n : Nat) (k : Int) (hk : k = n) (w : World) : Calls Tryd.prog 24 #[.int .u64 k] w fun e w' => e = .returned (cN 4 n).agg ∧ Grow w w' := by
  subst hk
  go_enter Tryd.func24, Tryd.ntmps24
  go_wp2_with fail
  exact bodyPost_ret (cellres rfl rfl (cN 4 n) (Blk.new w _ _)) rfl ⟨rfl, (Grow.refl w).alloc _⟩
theorem L_val (l : List V) (A : Option Addr) (n cap : Nat) (w : World) (hn : n = l.length) (h : InL w A cap l) : Calls Tryd.prog 25 #[.slice A n cap] w fun e w' => e = .returned (lcv A n cap).agg ∧ In w' (vL l) (lcv A n cap) ∧ Grow w w' := by
  subst hn
  have HL := hide h
  clear h
  go_enter Tryd.func25, Tryd.ntmps25
  go_wp2_with fail
  exact bodyPost_ret (cellres rfl rfl (lcv A l.length cap) (Blk.new w _ _)) rfl ⟨rfl, HL.out.grow ((Grow.refl w).alloc _), (Grow.refl w).alloc _⟩
theorem InL.one_ {w : World} {v : V} {c : Cv} (h : In w v c) : InL (w.alloc (.cells c.cells 37)) (some ⟨w.heap.size, 0, none⟩) 1 [v] := by
  have hg := (Grow.refl w).alloc (.cells c.cells 37)
  have hB := Blk.new w 37 c.cells
  have h' := h.grow hg
  have hlt := hB.lt
  unfold InL In
  rw [IsV]
  refine ⟨rfl, rfl, rfl, rfl, rfl, by decide, by decide, by decide, by simp, by simp, by simp, by simp, by simp, by simp, ⟨rfl, fun h => by simp at h⟩, fun i hi => ?_, fun i hi => by simp at hi⟩
  obtain rfl : i = 0 := by simp at hi; omega
  exact ⟨w.heap.size, 0, c, rfl, ⟨⟨hB.cell 0, Nat.zero_le _, hlt⟩, ⟨hB.cell 1, Nat.zero_le _, hlt⟩, ⟨hB.cell 2, Nat.zero_le _, hlt⟩, ⟨hB.cell 3, Nat.zero_le _, hlt⟩, ⟨hB.cell 4, Nat.zero_le _, hlt⟩⟩, h'⟩
/-- Fields in a block of their own. -/
theorem In.doc_ {w : World} {g : Nat} {s : ByteArray} {v : V} {c : Cv} (hs : s.size ≤ 140737488355328) (hB : Blk w g 52 (c.fcells s)) (h : In w v c) : In w (vD s v) ⟨8, 0, none, 0, 0, none, 0, 0, some ⟨g, 0, none⟩, 1, 1⟩ := by
  have hlt := hB.lt
  unfold In vD
  rw [IsV]
  refine ⟨rfl, rfl, rfl, rfl, rfl, by decide, by decide, by decide, by simp, by simp, by simp, by simp, by simp, by simp, ⟨rfl, fun h => by simp at h⟩, fun i hi => by simp at hi, fun i hi => ?_⟩
  obtain rfl : i = 0 := by simp at hi; omega
  exact ⟨g, 0, c, rfl, ⟨hB.cell 0, Nat.zero_le _, hlt⟩, hs, ⟨⟨hB.cell 1, Nat.zero_le _, hlt⟩, ⟨hB.cell 2, Nat.zero_le _, hlt⟩, ⟨hB.cell 3, Nat.zero_le _, hlt⟩, ⟨hB.cell 4, Nat.zero_le _, hlt⟩, ⟨hB.cell 5, Nat.zero_le _, hlt⟩⟩, h⟩
set_option maxHeartbeats 400000 in
theorem D_val (s : ByteArray) (v : V) (c : Cv) (w : World) (hs : s.size ≤ 140737488355328) (hv : In w v c) :
    Calls Tryd.prog 20 #[.string s, c.agg] w fun e w' => ∃ A, e = .returned (Cv.agg ⟨8, 0, none, 0, 0, none, 0, 0, A, 1, 1⟩) ∧ In w' (vD s v) ⟨8, 0, none, 0, 0, none, 0, 0, A, 1, 1⟩ ∧ Grow w w' := by
  have HV := hide hv
  clear hv
  go_enter Tryd.func20, Tryd.ntmps20
  go_wp2_with fail
  obtain ⟨W, hW⟩ : ∃ W, W = (w.alloc (Obj.cells c.cells 37)).alloc (Obj.cells (Cv.cells ⟨8, 0, none, 0, 0, none, 0, 0, some ⟨w.heap.size + 1 + 1, 0, none⟩, 1, 1⟩) 37) := ⟨_, rfl⟩
  have hgW : Grow w W := by rw [hW]; exact ((Grow.refl w).alloc _).alloc _
  have hzW : W.heap.size = w.heap.size + 1 + 1 := by rw [hW]; simp
  have hbW : Blk W (w.heap.size + 1) 37 (Cv.cells ⟨8, 0, none, 0, 0, none, 0, 0, some ⟨w.heap.size + 1 + 1, 0, none⟩, 1, 1⟩) := by rw [hW]; exact Blk.new' (by simp) _ _
  rw [← hW]
  exact bodyPost_ret (cellresN 4 rfl rfl ⟨8, 0, none, 0, 0, none, 0, 0, some ⟨w.heap.size + 1 + 1, 0, none⟩, 1, 1⟩ (hbW.alloc _)) rfl ⟨_, rfl, In.doc_ hs (Blk.new' hzW.symm _ _) (HV.out.grow (hgW.alloc _)), hgW.alloc _⟩
/-- Bytes that are refused. -/
theorem fails_any (code : Int) (bs : List UInt8) (A : Option Addr) (cap : Nat) (w : World) (hT : Tabs w) (hb : InB w A bs) (hl : bs.length ≤ 140737488355328) (hcap : bs.length ≤ cap) (hr : rdAll bs = .error code) :
    Calls Tryd.prog 21 #[.int .i64 code, .slice A bs.length cap] w fun e w' => e = .returned (.bool true) ∧ Grow w w' := by
  have HC := hide (get_any bs A cap w hT hb hl hcap)
  rw [hr] at HC
  clear hT hb hr
  go_enter Tryd.func21, Tryd.ntmps21
  go_wp2_with fail
  refine HC.out.mono ?_
  rintro e w1 ⟨rfl, hg1⟩
  have HG1 := hide (hg1.alloc (.cells Cv.zero.cells 37))
  have hcc : (code == code) = true := by simp
  clear hg1
  go_wp2_with fail
  refine (zero_any V.zero _ Cv.zero (In.zero_ _)).mono ?_
  rintro e w2 ⟨rfl, hg2⟩
  rw [sameB_self]
  have HG2 := hide (HG1.out.trans hg2)
  clear hg2
  go_wp2_with fail
  go_ret
  exact ⟨rfl, HG2.out⟩
theorem V.mild_good {v : V} (h : v.good = 0) : v.mild := by
  have h1 := good_small h
  have h2 := V.good_formed h
  exact ⟨V.depth_le40 (by omega), fun _ => by omega⟩
theorem cmpV_of {u v : V} {k : Int} (hu : u.good = 0) (hv : v.good = 0) (h : V.cmp u v = k) : cmpV u v = (k, 0) := by
  unfold cmpV
  rw [hu, hv, h]
  rfl
/-- One below the other. -/
theorem less_any (u v : V) (c d : Cv) (w : World) (hT : Tabs w) (gu : u.good = 0) (gv : v.good = 0) (h : V.cmp u v = -1 ∧ V.cmp v u = 1) (hu : In w u c) (hv : In w v d) :
    Calls Tryd.prog 22 #[c.agg, d.agg] w fun e w' => e = .returned (.bool true) ∧ Grow w w' := by
  have HG0 := hide (((Grow.refl w).alloc (.cells c.cells 37)).alloc (.cells d.cells 37))
  have HB0 := hide ((Blk.new w 37 c.cells).alloc (.cells d.cells 37))
  have HD0 := hide (Blk.new' (w := w.alloc (.cells c.cells 37)) (g := w.heap.size + 1) (by simp) 37 d.cells)
  have HC1 := hide (fun w2 (hg : Grow w w2) => kvcompare_any u v c d w2 (V.mild_good gu) (V.mild_good gv) (hT.grow hg) (hu.grow hg) (hv.grow hg))
  have HC2 := hide (fun w2 (hg : Grow w w2) => kvcompare_any v u d c w2 (V.mild_good gv) (V.mild_good gu) (hT.grow hg) (hv.grow hg) (hu.grow hg))
  rw [cmpV_of gu gv h.1] at HC1
  rw [cmpV_of gv gu h.2] at HC2
  clear hT gu gv h hu hv
  go_enter Tryd.func22, Tryd.ntmps22
  go_wp2_with fail
  refine (HC1.out _ HG0.out).mono ?_
  rintro e w1 ⟨rfl, hg1⟩
  have HG1 := hide (HG0.out.trans hg1)
  have HB1 := hide (HB0.out.grow hg1)
  have HD1 := hide (HD0.out.grow hg1)
  have hc1 := HB1.out.cell
  have hd1 := HD1.out.cell
  have hl1 := HB1.out.lt
  have hm1 := HD1.out.lt
  clear hg1
  go_wp2_with fail
  refine (HC2.out _ HG1.out).mono ?_
  rintro e w2 ⟨rfl, hg2⟩
  have HG2 := hide (HG1.out.trans hg2)
  clear hg2
  go_wp2_with fail
  go_ret
  exact ⟨rfl, HG2.out⟩
end Go.Proofs.YtcdbchifigonpaaDoor
