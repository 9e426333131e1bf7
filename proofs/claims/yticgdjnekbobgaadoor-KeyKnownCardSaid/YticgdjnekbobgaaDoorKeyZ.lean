/- Walks: the writer of keys: texts, lists, documents, any value. -/
import Derived.Test.YticgdjnekbobgaaDoorKeyY
import Derived.Test.YticgdjnekbobgaaDoorTxt
set_option linter.unusedVariables false
set_option linter.unusedSimpArgs false
namespace Go.Proofs.YticgdjnekbobgaaDoor
open Go.RowKit Go.Shelf

set_option maxRecDepth 100000 in
set_option maxHeartbeats 1600000 in
theorem kw_text (pb : Nat) (A : Option Addr) (c : Nat) (bs : List UInt8) (b : List UInt8) (aB aL aF : Option Addr) (cB nL cL nF cF : Nat) (w : World) (h : Wr w pb A c bs) (hb : Reads (AtW w 0 pb) 1 aB b.length (u8s b)) (hl : bs.length + 2 * b.length + 3 ≤ 140737488355328) :
    Calls Tryd.prog 96 #[.pointer (some ⟨pb, 0, none⟩), Cv.agg ⟨5, (0 : Nat), aB, b.length, cB, aL, nL, cL, aF, nF, cF⟩] w (WrC w pb A bs.length c (bs ++ 64 :: esc b)) := by
  have hz : (w.alloc (.cells (Cv.cells ⟨5, (0 : Nat), aB, b.length, cB, aL, nL, cL, aF, nF, cF⟩) 27)).heap.size = w.heap.size + 1 := by simp
  have HGW := hide (WG.of_grow pb (.slice A bs.length c) ((Grow.refl w).alloc (.cells (Cv.cells ⟨5, (0 : Nat), aB, b.length, cB, aL, nL, cL, aF, nF, cF⟩) 27)))
  have HB0 := hide (Blk.new w 27 (Cv.cells ⟨5, (0 : Nat), aB, b.length, cB, aL, nL, cL, aF, nF, cF⟩))
  have hne : w.heap.size ≠ pb := by have := h.1.lt; omega
  have hno : Value.ownBlock (.slice A bs.length c) ≠ some w.heap.size := fun e => by have := h.own e; omega
  have HNO := hide (fun q : w.heap.size = pb ∨ Value.ownBlock (.slice A bs.length c) = some w.heap.size => q.elim hne hno)
  have HWA := hide (h.al (.cells (Cv.cells ⟨5, (0 : Nat), aB, b.length, cB, aL, nL, cL, aF, nF, cF⟩) 27))
  have HRB := hide (Reads.mono (AtW.below (Below.alloc (Below.refl pb w) (Nat.le_of_lt h.1.lt) (.cells (Cv.cells ⟨5, (0 : Nat), aB, b.length, cB, aL, nL, cL, aF, nF, cF⟩) 27)) (Nat.le_refl _) (Nat.le_refl _) (Nat.le_refl _)) hb)
  have HC := hide (kw_lay_new pb A c bs [64] #[.int .u8 64] 1 (w.alloc (.cells (Cv.cells ⟨5, (0 : Nat), aB, b.length, cB, aL, nL, cL, aF, nF, cF⟩) 27)) HWA.out rfl rfl (by simp only [List.length_cons, List.length_nil]; omega))
  rw [hz] at HC
  clear h hz hne hno hb
  go_enter Tryd.func96, Tryd.ntmps96
  go_wp2_with fail
  refine HC.out.mono ?_
  rintro e w2 ⟨A2, c2, rfl, h1, h2⟩
  have hB2 := h2.kept.blk HB0.out HNO.out
  have hc2 := hB2.cell 2
  have hlt2 := hB2.lt
  have HG2 := hide h2
  have hn2 : (bs ++ [(64 : UInt8)]).length = bs.length + 1 := by simp
  have HC2 := hide (kw_string pb A2 c2 _ b aB cB w2 h1 (Reads.mono (fun p u (hp : AtW _ 0 pb p u) => ⟨(AtW.below (h2.below HWA.out) (Nat.le_refl _) (Nat.le_refl _) (Nat.le_refl _) p u hp).1, by have := h1.1.lt; have := hp.2.2; omega, by have := hp.2.2; omega, fun e => by have := (h1.own e).1; have := hp.2.2; omega⟩) HRB.out) (by omega))
  clear h1 h2 HC hB2 hn2
  go_wp2_with fail
  refine HC2.out.mono ?_
  rintro e w3 ⟨A3, c3, rfl, h1, h2⟩
  have e0 : bs ++ [(64 : UInt8)] ++ esc b = bs ++ 64 :: esc b := by simp
  rw [e0] at h1 h2
  have HW3 := hide h1
  have HG3 := hide (HG2.out.trans h2)
  clear h1 h2 HC2 e0
  go_wp2_with fail
  go_end0
  exact ⟨A3, c3, rfl, HW3.out, HGW.out.trans HG3.out⟩
set_option maxRecDepth 100000 in
set_option maxHeartbeats 1600000 in
theorem kw_bytes (pb : Nat) (A : Option Addr) (c : Nat) (bs : List UInt8) (b : List UInt8) (aB aL aF : Option Addr) (cB nL cL nF cF : Nat) (w : World) (h : Wr w pb A c bs) (hb : Reads (AtW w 0 pb) 1 aB b.length (u8s b)) (hl : bs.length + 2 * b.length + 3 ≤ 140737488355328) :
    Calls Tryd.prog 97 #[.pointer (some ⟨pb, 0, none⟩), Cv.agg ⟨6, (0 : Nat), aB, b.length, cB, aL, nL, cL, aF, nF, cF⟩] w (WrC w pb A bs.length c (bs ++ 80 :: esc b)) := by
  have hz : (w.alloc (.cells (Cv.cells ⟨6, (0 : Nat), aB, b.length, cB, aL, nL, cL, aF, nF, cF⟩) 27)).heap.size = w.heap.size + 1 := by simp
  have HGW := hide (WG.of_grow pb (.slice A bs.length c) ((Grow.refl w).alloc (.cells (Cv.cells ⟨6, (0 : Nat), aB, b.length, cB, aL, nL, cL, aF, nF, cF⟩) 27)))
  have HB0 := hide (Blk.new w 27 (Cv.cells ⟨6, (0 : Nat), aB, b.length, cB, aL, nL, cL, aF, nF, cF⟩))
  have hne : w.heap.size ≠ pb := by have := h.1.lt; omega
  have hno : Value.ownBlock (.slice A bs.length c) ≠ some w.heap.size := fun e => by have := h.own e; omega
  have HNO := hide (fun q : w.heap.size = pb ∨ Value.ownBlock (.slice A bs.length c) = some w.heap.size => q.elim hne hno)
  have HWA := hide (h.al (.cells (Cv.cells ⟨6, (0 : Nat), aB, b.length, cB, aL, nL, cL, aF, nF, cF⟩) 27))
  have HRB := hide (Reads.mono (AtW.below (Below.alloc (Below.refl pb w) (Nat.le_of_lt h.1.lt) (.cells (Cv.cells ⟨6, (0 : Nat), aB, b.length, cB, aL, nL, cL, aF, nF, cF⟩) 27)) (Nat.le_refl _) (Nat.le_refl _) (Nat.le_refl _)) hb)
  have HC := hide (kw_lay_new pb A c bs [80] #[.int .u8 80] 1 (w.alloc (.cells (Cv.cells ⟨6, (0 : Nat), aB, b.length, cB, aL, nL, cL, aF, nF, cF⟩) 27)) HWA.out rfl rfl (by simp only [List.length_cons, List.length_nil]; omega))
  rw [hz] at HC
  clear h hz hne hno hb
  go_enter Tryd.func97, Tryd.ntmps97
  go_wp2_with fail
  refine HC.out.mono ?_
  rintro e w2 ⟨A2, c2, rfl, h1, h2⟩
  have hB2 := h2.kept.blk HB0.out HNO.out
  have hc2 := hB2.cell 2
  have hlt2 := hB2.lt
  have HG2 := hide h2
  have hn2 : (bs ++ [(80 : UInt8)]).length = bs.length + 1 := by simp
  have HC2 := hide (kw_string pb A2 c2 _ b aB cB w2 h1 (Reads.mono (fun p u (hp : AtW _ 0 pb p u) => ⟨(AtW.below (h2.below HWA.out) (Nat.le_refl _) (Nat.le_refl _) (Nat.le_refl _) p u hp).1, by have := h1.1.lt; have := hp.2.2; omega, by have := hp.2.2; omega, fun e => by have := (h1.own e).1; have := hp.2.2; omega⟩) HRB.out) (by omega))
  clear h1 h2 HC hB2 hn2
  go_wp2_with fail
  refine HC2.out.mono ?_
  rintro e w3 ⟨A3, c3, rfl, h1, h2⟩
  have e0 : bs ++ [(80 : UInt8)] ++ esc b = bs ++ 80 :: esc b := by simp
  rw [e0] at h1 h2
  have HW3 := hide h1
  have HG3 := hide (HG2.out.trans h2)
  clear h1 h2 HC2 e0
  go_wp2_with fail
  go_end0
  exact ⟨A3, c3, rfl, HW3.out, HGW.out.trans HG3.out⟩

/-- What is asked of the writer at a value. -/
def KeyC (x : V) : Prop := ∀ (pb : Nat) (A : Option Addr) (c : Nat) (bs : List UInt8) (cv : Cv) (w : World), Wr w pb A c bs → InU w pb x cv → bs.length + 2 * x.key.length ≤ 140737488350000 →
  Calls Tryd.prog 57 #[.pointer (some ⟨pb, 0, none⟩), cv.agg] w (WrC w pb A bs.length c (bs ++ x.key))
theorem InU.wg {w w' : World} {pb : Nat} {A : Option Addr} {c : Nat} {bs : List UInt8} {v' : Value} {x : V} {cv : Cv} (h : InU w pb x cv) (hg : WG w pb (.slice A bs.length c) w' v') (hw : Wr w pb A c bs) : InU w' pb x cv :=
  h.below (hg.below hw) (Nat.le_refl _) (Nat.le_refl _)
set_option maxRecDepth 100000 in
set_option maxHeartbeats 3200000 in
theorem kw_list (pb : Nat) (A : Option Addr) (c : Nat) (bs : List UInt8) (l : List V) (aB aL aF : Option Addr) (nB cB cL nF cF : Nat) (w : World) (h : Wr w pb A c bs) (hk : ∀ x ∈ l, KeyC x)
    (hv : InU w pb (V.mk 7 0 [] l []) ⟨7, (0 : Nat), aB, nB, cB, aL, l.length, cL, aF, nF, cF⟩) (hl : bs.length + 2 * (l.map V.keyL).flatten.length + 2 ≤ 140737488350000) :
    Calls Tryd.prog 98 #[.pointer (some ⟨pb, 0, none⟩), Cv.agg ⟨7, (0 : Nat), aB, nB, cB, aL, l.length, cL, aF, nF, cF⟩] w (WrC w pb A bs.length c (bs ++ 96 :: ((l.map V.keyL).flatten ++ [0]))) := by
  have HK := hide hk
  have hll := keyL_len l
  have hz : (w.alloc (.cells (Cv.cells ⟨7, (0 : Nat), aB, nB, cB, aL, l.length, cL, aF, nF, cF⟩) 27)).heap.size = w.heap.size + 1 := by simp
  have HGW := hide (WG.of_grow pb (.slice A bs.length c) ((Grow.refl w).alloc (.cells (Cv.cells ⟨7, (0 : Nat), aB, nB, cB, aL, l.length, cL, aF, nF, cF⟩) 27)))
  have HB0 := hide (Blk.new w 27 (Cv.cells ⟨7, (0 : Nat), aB, nB, cB, aL, l.length, cL, aF, nF, cF⟩))
  have hne : w.heap.size ≠ pb := by have := h.1.lt; omega
  have hno : Value.ownBlock (.slice A bs.length c) ≠ some w.heap.size := fun e => by have := h.own e; omega
  have HNO := hide (fun q : w.heap.size = pb ∨ Value.ownBlock (.slice A bs.length c) = some w.heap.size => q.elim hne hno)
  have HWA := hide (h.al (.cells (Cv.cells ⟨7, (0 : Nat), aB, nB, cB, aL, l.length, cL, aF, nF, cF⟩) 27))
  have HV := hide (hv.below (Below.alloc (Below.refl pb w) (Nat.le_of_lt h.1.lt) (.cells (Cv.cells ⟨7, (0 : Nat), aB, nB, cB, aL, l.length, cL, aF, nF, cF⟩) 27)) (Nat.le_refl _) (Nat.le_refl _))
  have HC := hide (kw_lay_new pb A c bs [96] #[.int .u8 96] 1 (w.alloc (.cells (Cv.cells ⟨7, (0 : Nat), aB, nB, cB, aL, l.length, cL, aF, nF, cF⟩) 27)) HWA.out rfl rfl (by simp only [List.length_cons, List.length_nil]; omega))
  rw [hz] at HC
  clear h hz hne hno hv hk
  go_enter Tryd.func98, Tryd.ntmps98
  go_wp2_with fail
  refine HC.out.mono ?_
  rintro e w2 ⟨A2, c2, rfl, h1, h2⟩
  have hB2 := h2.kept.blk HB0.out HNO.out
  have hc3 := hB2.cell 3
  have hlt2 := hB2.lt
  have HW2 := hide h1
  have HG2 := hide h2
  clear h1 h2 HC hB2
  go_wp2_with fail
  go_loopg [5, 12] (l.length + 1) (fun gk _ i wr => ∃ (j : Nat) (A' : Option Addr) (c' : Nat), j ≤ l.length ∧ gk + j = l.length + 1 ∧ i = .int .i64 j ∧ Wr wr pb A' c' (bs ++ 96 :: ((l.take j).map V.keyL).flatten) ∧
    WG (w.alloc (.cells (Cv.cells ⟨7, (0 : Nat), aB, nB, cB, aL, l.length, cL, aF, nF, cF⟩) 27)) pb (.slice A bs.length c) wr (.slice A' (bs ++ 96 :: ((l.take j).map V.keyL).flatten).length c'))
  case atStart => exact ⟨0, A2, c2, Nat.zero_le _, rfl, rfl, HW2.out, HG2.out⟩
  case round =>
    obtain ⟨j, A', c', hj, hg, rfl, hw, hgr⟩ := hrel
    obtain ⟨gk', rfl⟩ : ∃ g, gk = g + 1 := ⟨gk - 1, by omega⟩
    have HWr := hide hw
    have HGr := hide hgr
    have hvr := HV.out.wg hgr HWA.out
    clear hw hgr
    by_cases hlt : j < l.length
    · obtain ⟨bk, o, x, ha, hbk, e0, e1, e2, e3, e4, hx⟩ := hvr.elemL j hlt
      dsimp only at ha
      subst ha
      have hltb := Nat.lt_trans hbk HWr.out.1.lt
      have hm1 := flat_take V.keyL l j hlt
      have hm2 := congrArg List.length hm1
      rw [List.length_append] at hm2
      have hle := flat_le V.keyL l (j + 1)
      rw [hm2] at hle
      have hkl : (V.keyL l[j]).length = 1 + l[j].key.length := by simp [V.keyL]; omega
      have hbl : (bs ++ 96 :: ((l.take j).map V.keyL).flatten).length = bs.length + 1 + ((l.take j).map V.keyL).flatten.length := by simp; omega
      have HX := hide hx
      have HM1 := hide hm1
      obtain ⟨X, hX⟩ : ∃ X, X = bs ++ 96 :: ((l.take j).map V.keyL).flatten := ⟨_, rfl⟩
      rw [← hX] at HWr HGr hbl
      have HXE := hide hX
      have hbx := x.cells
      have hzz : (wr.alloc (.cells x.cells 27)).heap.size = wr.heap.size + 1 := by simp
      have HBx := hide (Blk.new wr 27 x.cells)
      have hnex : ¬ (wr.heap.size = pb ∨ Value.ownBlock (.slice A' X.length c') = some wr.heap.size) := fun q => q.elim (fun e => by have := HWr.out.1.lt; omega) (fun e => by have := HWr.out.own e; omega)
      have HNX := hide hnex
      have HWx := hide (HWr.out.al (.cells x.cells 27))
      have HGx := hide (HGr.out.alloc (.cells x.cells 27))
      have HC1 := hide (kw_lay_new pb A' c' X [1] #[.int .u8 1] 1 (wr.alloc (.cells x.cells 27)) HWx.out rfl rfl (by simp only [List.length_cons, List.length_nil]; omega))
      rw [hzz] at HC1
      clear hx hvr hm1 hm2 hX hbx hzz hnex
      go_wp2_with fail
      refine HC1.out.mono ?_
      rintro e w3 ⟨A3, c3_, rfl, h1, h2⟩
      have hB3 := h2.kept.blk HBx.out HNX.out
      have hcx := hB3.cell
      have hltx := hB3.lt
      have HG3 := hide (HGx.out.trans h2)
      have hXl : (X ++ [(1 : UInt8)]).length = X.length + 1 := by simp
      have HC2 := hide (HK.out _ (List.getElem_mem hlt) pb A3 c3_ _ x w3 h1 ((HX.out.below (Below.alloc (Below.refl pb wr) (Nat.le_of_lt HWr.out.1.lt) (.cells x.cells 27)) (Nat.le_refl _) (Nat.le_refl _)).wg h2 HWx.out) (by omega))
      clear h1 h2 HC1 hB3 hXl
      go_wp2_with fail
      refine HC2.out.mono ?_
      rintro e w4 ⟨A4, c4_, rfl, h1, h2⟩
      have e0 : X ++ [(1 : UInt8)] ++ l[j].key = bs ++ 96 :: ((l.take (j + 1)).map V.keyL).flatten := by rw [HXE.out, HM1.out]; simp [V.keyL]
      rw [e0] at h1 h2
      have HW4 := hide h1
      have HG4 := hide (HG3.out.trans h2)
      clear h1 h2 HC2 e0 hcx e1 e2 e3 e4 hkl hbl
      go_wp2_with fail
      go_roundg gk'
      case measure => omega
      case rel => exact ⟨j + 1, A4, c4_, by omega, by omega, by go_num, HW4.out, HG4.out⟩
    · obtain rfl : j = l.length := by omega
      rw [List.take_length] at HWr HGr
      have hbl : (bs ++ 96 :: (l.map V.keyL).flatten).length = bs.length + 1 + (l.map V.keyL).flatten.length := by simp; omega
      have HC1 := hide (kw_lay_new pb A' c' _ [0] #[.int .u8 0] 1 wr HWr.out rfl rfl (by simp only [List.length_cons, List.length_nil]; omega))
      clear hg hbl hvr
      go_wp2_with fail
      refine HC1.out.mono ?_
      rintro e w3 ⟨A3, c3_, rfl, h1, h2⟩
      have e0 : bs ++ 96 :: (l.map V.keyL).flatten ++ [0] = bs ++ 96 :: ((l.map V.keyL).flatten ++ [0]) := by simp
      rw [e0] at h1 h2
      have HW4 := hide h1
      have HG4 := hide (HGr.out.trans h2)
      clear h1 h2 HC1 e0
      go_wp2_with fail
      go_end0
      exact ⟨A3, c3_, rfl, HW4.out, HGW.out.trans HG4.out⟩
set_option maxRecDepth 100000 in
set_option maxHeartbeats 6400000 in
theorem kw_doc (pb : Nat) (A : Option Addr) (c : Nat) (bs : List UInt8) (f : List (ByteArray × V)) (aB aL aF : Option Addr) (nB cB cL nL cF : Nat) (w : World) (h : Wr w pb A c bs) (hk : ∀ x ∈ f, KeyC x.2)
    (hv : InU w pb (V.mk 8 0 [] [] f) ⟨8, (0 : Nat), aB, nB, cB, aL, nL, cL, aF, f.length, cF⟩) (hl : bs.length + 2 * (f.map V.keyFd).flatten.length + 2 ≤ 140737488350000) (hs : ∀ x ∈ f, x.1.size ≤ 32) :
    Calls Tryd.prog 99 #[.pointer (some ⟨pb, 0, none⟩), Cv.agg ⟨8, (0 : Nat), aB, nB, cB, aL, nL, cL, aF, f.length, cF⟩] w (WrC w pb A bs.length c (bs ++ 112 :: ((f.map V.keyFd).flatten ++ [0]))) := by
  have HK := hide hk
  have HS := hide hs
  have hll := keyFd_len f
  have hz : (w.alloc (.cells (Cv.cells ⟨8, (0 : Nat), aB, nB, cB, aL, nL, cL, aF, f.length, cF⟩) 27)).heap.size = w.heap.size + 1 := by simp
  have HGW := hide (WG.of_grow pb (.slice A bs.length c) ((Grow.refl w).alloc (.cells (Cv.cells ⟨8, (0 : Nat), aB, nB, cB, aL, nL, cL, aF, f.length, cF⟩) 27)))
  have HB0 := hide (Blk.new w 27 (Cv.cells ⟨8, (0 : Nat), aB, nB, cB, aL, nL, cL, aF, f.length, cF⟩))
  have hne : w.heap.size ≠ pb := by have := h.1.lt; omega
  have hno : Value.ownBlock (.slice A bs.length c) ≠ some w.heap.size := fun e => by have := h.own e; omega
  have HNO := hide (fun q : w.heap.size = pb ∨ Value.ownBlock (.slice A bs.length c) = some w.heap.size => q.elim hne hno)
  have HWA := hide (h.al (.cells (Cv.cells ⟨8, (0 : Nat), aB, nB, cB, aL, nL, cL, aF, f.length, cF⟩) 27))
  have HV := hide (hv.below (Below.alloc (Below.refl pb w) (Nat.le_of_lt h.1.lt) (.cells (Cv.cells ⟨8, (0 : Nat), aB, nB, cB, aL, nL, cL, aF, f.length, cF⟩) 27)) (Nat.le_refl _) (Nat.le_refl _))
  have HC := hide (kw_lay_new pb A c bs [112] #[.int .u8 112] 1 (w.alloc (.cells (Cv.cells ⟨8, (0 : Nat), aB, nB, cB, aL, nL, cL, aF, f.length, cF⟩) 27)) HWA.out rfl rfl (by simp only [List.length_cons, List.length_nil]; omega))
  rw [hz] at HC
  clear h hz hne hno hv hk hs
  go_enter Tryd.func99, Tryd.ntmps99
  go_wp2_with fail
  refine HC.out.mono ?_
  rintro e w2 ⟨A2, c2, rfl, h1, h2⟩
  have hB2 := h2.kept.blk HB0.out HNO.out
  have hc4 := hB2.cell 4
  have hlt2 := hB2.lt
  have HW2 := hide h1
  have HG2 := hide h2
  clear h1 h2 HC hB2
  go_wp2_with fail
  go_loopg [5, 12] (f.length + 1) (fun gk _ i wr => ∃ (j : Nat) (A' : Option Addr) (c' : Nat), j ≤ f.length ∧ gk + j = f.length + 1 ∧ i = .int .i64 j ∧ Wr wr pb A' c' (bs ++ 112 :: ((f.take j).map V.keyFd).flatten) ∧
    WG (w.alloc (.cells (Cv.cells ⟨8, (0 : Nat), aB, nB, cB, aL, nL, cL, aF, f.length, cF⟩) 27)) pb (.slice A bs.length c) wr (.slice A' (bs ++ 112 :: ((f.take j).map V.keyFd).flatten).length c'))
  case atStart => exact ⟨0, A2, c2, Nat.zero_le _, rfl, rfl, HW2.out, HG2.out⟩
  case round =>
    obtain ⟨j, A', c', hj, hg, rfl, hw, hgr⟩ := hrel
    obtain ⟨gk', rfl⟩ : ∃ g, gk = g + 1 := ⟨gk - 1, by omega⟩
    have HWr := hide hw
    have HGr := hide hgr
    have hvr := HV.out.wg hgr HWA.out
    clear hw hgr
    by_cases hlt : j < f.length
    · obtain ⟨bk, o, x, ha, hbk, es, hsz, e0_, e1, e2, e3, e4, hx⟩ := hvr.elemF j hlt
      dsimp only at ha
      subst ha
      have hltb := Nat.lt_trans hbk HWr.out.1.lt
      have hm1 := flat_take V.keyFd f j hlt
      have hm2 := congrArg List.length hm1
      rw [List.length_append] at hm2
      have hle := flat_le V.keyFd f (j + 1)
      rw [hm2] at hle
      have hkl : (V.keyFd f[j]).length = 1 + ((esc f[j].1.data.toList).length + f[j].2.key.length) := by simp [V.keyFd]; omega
      have hbl : (bs ++ 112 :: ((f.take j).map V.keyFd).flatten).length = bs.length + 1 + ((f.take j).map V.keyFd).flatten.length := by simp; omega
      have hs32 := HS.out _ (List.getElem_mem hlt)
      have HX := hide hx
      have HM1 := hide hm1
      have HKJ := hide (HK.out _ (List.getElem_mem hlt))
      have HEF := hide (show V.keyFd f[j] = 1 :: (esc f[j].1.data.toList ++ f[j].2.key) from rfl)
      obtain ⟨X, hX⟩ : ∃ X, X = bs ++ 112 :: ((f.take j).map V.keyFd).flatten := ⟨_, rfl⟩
      rw [← hX] at HWr HGr hbl
      have HXE := hide hX
      obtain ⟨s, hsn⟩ : ∃ s, f[j].1 = s := ⟨_, rfl⟩
      obtain ⟨y, hy⟩ : ∃ y, f[j].2 = y := ⟨_, rfl⟩
      rw [hsn] at es hs32 hkl HEF hsz
      rw [hy] at HX HKJ HEF hkl
      have hsl : s.data.toList.length = s.size := by simp
      have hel : (esc s.data.toList).length ≤ 2 * s.size + 2 := by have := (escB_length s.data.toList).2; unfold esc; rw [List.length_append, ← hsl]; simpa using this
      have hzz : (wr.alloc (.cells (x.fcells s) 58)).heap.size = wr.heap.size + 1 := by simp
      have HBx := hide (Blk.new wr 58 (x.fcells s))
      have hnex : ¬ (wr.heap.size = pb ∨ Value.ownBlock (.slice A' X.length c') = some wr.heap.size) := fun q => q.elim (fun e => by have := HWr.out.1.lt; omega) (fun e => by have := HWr.out.own e; omega)
      have HNX := hide hnex
      have HWx := hide (HWr.out.al (.cells (x.fcells s) 58))
      have HGx := hide (HGr.out.alloc (.cells (x.fcells s) 58))
      have HC1 := hide (kw_lay_new pb A' c' X [1] #[.int .u8 1] 1 (wr.alloc (.cells (x.fcells s) 58)) HWx.out rfl rfl (by simp only [List.length_cons, List.length_nil]; omega))
      rw [hzz] at HC1
      clear hx hvr hm1 hm2 hX hzz hnex hsn hy
      go_wp2_with fail
      refine HC1.out.mono ?_
      rintro e w3 ⟨A3, c3_, rfl, h1, h2⟩
      have hB3 := h2.kept.blk HBx.out HNX.out
      have hcx0 := hB3.cell 0
      have hltx := hB3.lt
      have HB3 := hide hB3
      have HW3 := hide h1
      have HG3 := hide (HGx.out.trans h2)
      have HV3 := hide ((HX.out.below (Below.alloc (Below.refl pb wr) (Nat.le_of_lt HWr.out.1.lt) (.cells (x.fcells s) 58)) (Nat.le_refl _) (Nat.le_refl _)).wg h2 HWx.out)
      have hne3 : ¬ (wr.heap.size = pb ∨ Value.ownBlock (.slice A3 (X ++ [(1 : UInt8)]).length c3_) = some wr.heap.size) := fun q => q.elim (fun e => HNX.out (.inl e)) (h2.ne (by simp) (fun e => HNX.out (.inr e)))
      have HN3 := hide hne3
      have hXl : (X ++ [(1 : UInt8)]).length = X.length + 1 := by simp
      obtain ⟨cw, W4, hrun, hcw, hgw, hin⟩ := conv_bytes2 w3 s
      have HGW4 := hide hgw
      have HW4 := hide (h1.grow hgw)
      have HB4 := hide (hB3.grow hgw)
      have hap : Reads (Apart W4 pb A3 (X ++ [(1 : UInt8)]).length c3_) 1 (some ⟨w3.heap.size, 0, none⟩) s.data.toList.length (u8s s.data.toList) := by
        refine ⟨hin.1, fun hn => ?_⟩
        obtain ⟨bq, oq, eq, hcl⟩ := hin.2 hn
        refine ⟨bq, oq, eq, fun j u hu => ?_⟩
        injection eq with eq
        injection eq with eq1 eq2
        have := hcl j u hu
        exact ⟨this.1, this.2.2, by have := h1.1.lt; dsimp only; omega, fun e => by have := h1.own e; dsimp only at this; omega⟩
      have HC2 := hide (kw_string pb A3 c3_ _ s.data.toList (some ⟨w3.heap.size, 0, none⟩) cw W4 HW4.out hap (by rw [hsl]; omega))
      rw [hsl] at HC2
      clear h1 h2 HC1 hB3 hgw hin hap hne3
      go_wp2_with fail
      refine HC2.out.mono ?_
      rintro e w5 ⟨A5, c5_, rfl, h1, h2⟩
      have hB5 := h2.kept.blk HB4.out HN3.out
      have hcx := hB5.cell
      have hlt5 := hB5.lt
      have HG5 := hide ((HG3.out.trans (WG.of_grow pb _ HGW4.out)).trans h2)
      have hXl5 : (X ++ [(1 : UInt8)] ++ esc s.data.toList).length = X.length + 1 + (esc s.data.toList).length := by simp; omega
      have HC3 := hide (HKJ.out pb A5 c5_ _ x w5 h1 ((HV3.out.below (Below.mono HGW4.out.below (Nat.le_of_lt HW3.out.1.lt)) (Nat.le_refl _) (Nat.le_refl _)).wg h2 HW4.out) (by omega))
      clear h1 h2 HC2 hB5 hXl5
      go_wp2_with fail
      refine HC3.out.mono ?_
      rintro e w6 ⟨A6, c6_, rfl, h1, h2⟩
      have e0 : X ++ [(1 : UInt8)] ++ esc s.data.toList ++ y.key = bs ++ 112 :: ((f.take (j + 1)).map V.keyFd).flatten := by rw [HXE.out, HM1.out, HEF.out]; simp
      rw [e0] at h1 h2
      have HW6 := hide h1
      have HG6 := hide (HG5.out.trans h2)
      clear h1 h2 HC3 e0 hcx hcx0 es e0_ e1 e2 e3 e4 hkl hbl hel hXl hrun
      go_wp2_with fail
      go_roundg gk'
      case measure => omega
      case rel => exact ⟨j + 1, A6, c6_, by omega, by omega, by go_num, HW6.out, HG6.out⟩
    · obtain rfl : j = f.length := by omega
      rw [List.take_length] at HWr HGr
      have hbl : (bs ++ 112 :: (f.map V.keyFd).flatten).length = bs.length + 1 + (f.map V.keyFd).flatten.length := by simp; omega
      have HC1 := hide (kw_lay_new pb A' c' _ [0] #[.int .u8 0] 1 wr HWr.out rfl rfl (by simp only [List.length_cons, List.length_nil]; omega))
      clear hg hbl hvr
      go_wp2_with fail
      refine HC1.out.mono ?_
      rintro e w3 ⟨A3, c3_, rfl, h1, h2⟩
      have e0 : bs ++ 112 :: (f.map V.keyFd).flatten ++ [0] = bs ++ 112 :: ((f.map V.keyFd).flatten ++ [0]) := by simp
      rw [e0] at h1 h2
      have HW4 := hide h1
      have HG4 := hide (HGr.out.trans h2)
      clear h1 h2 HC1 e0
      go_wp2_with fail
      go_end0
      exact ⟨A3, c3_, rfl, HW4.out, HGW.out.trans HG4.out⟩
end Go.Proofs.YticgdjnekbobgaaDoor
