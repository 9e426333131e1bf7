/- Walks: spoil: writes into all that a value in memory of its own holds. -/
import Derived.Test.YtkgjfkpabdlgbaaDoorKept
import Derived.Test.YtkgjfkpabdlgbaaDoorLib1
import Derived.Deep.RegionHeld3
import Derived.IntWalk
set_option linter.unusedVariables false
set_option linter.unusedSimpArgs false
namespace Go.Proofs.YtkgjfkpabdlgbaaDoor
open Go.RowKit

def SpoilC (x : V) : Prop := ∀ (w : World) (c : Cv) (S : Nat → Prop), (∀ q, S q → q < w.heap.size) → IsS (CF w) x c S →
  Calls Tryd.prog 22 #[c.agg] w fun e w' => e = .returned (.tuple #[]) ∧ Kept S w w'

set_option maxRecDepth 100000 in
set_option maxHeartbeats 800000 in
theorem spoil_flat (k : Int) (n : Nat) (b : List UInt8) : SpoilC (.mk k n b [] []) := by
  intro w c S hS hv
  obtain ⟨aB, aL, aF, cB, cL, cF, rfl, h1, h2, h3, h4, h5, hb⟩ := IsS.openB hv
  have HS := hide hS
  have HB := hide hb
  clear hS hb hv
  go_enter Tryd.func22, Tryd.ntmps22
  go_wp2_with fail
  go_loopg [2] (b.length + 1) (fun gk i wr => ∃ j : Nat, j ≤ b.length ∧ gk + j = b.length + 1 ∧ i = .int .i64 j ∧ Kept S w wr ∧
    Blk wr w.heap.size 27 (Cv.cells ⟨k, (n : Int), aB, b.length, cB, aL, 0, cL, aF, 0, cF⟩) ∧ ∀ bk o, aB = some ⟨bk, o, none⟩ → ∀ t, j ≤ t → t < b.length → ∃ u, CF wr ⟨bk, o + t, none⟩ u)
  case atStart =>
    refine ⟨0, by omega, by omega, rfl, (Kept.refl S w).alloc _, Blk.new _ _ _, fun bk o e t _ ht => ?_⟩
    obtain ⟨bk', o', e', hcell⟩ := HB.out.2 (by omega)
    rw [e] at e'
    injection e' with e'
    injection e' with q1 q2
    subst q1 q2
    exact ⟨_, ((hcell t _ (u8s_get b t ht)).1).block (((Grow.refl w).alloc _).below.block _ (hcell t _ (u8s_get b t ht)).1.lt)⟩
  case round =>
    obtain ⟨j, hj, hg, rfl, hK, hB, hC⟩ := hrel
    obtain ⟨gk', rfl⟩ : ∃ g, gk = g + 1 := ⟨gk - 1, by omega⟩
    have hc := hB.cell
    by_cases hlt : j < b.length
    · obtain ⟨bk, o, rfl, hcell⟩ := HB.out.2 (by omega)
      obtain ⟨u, hu, hfu⟩ := hC bk o rfl j (Nat.le_refl _) hlt
      have hsb := (hcell j _ (u8s_get b j hlt)).2
      have hlb := HS.out _ hsb
      dsimp only at hsb hlb
      have HK := hide hK
      have HBk := hide hB
      have HC := hide hC
      clear hK hB hC
      go_wp2_with fail
      go_roundg gk'
      case measure => omega
      case rel =>
        refine ⟨j + 1, by omega, by omega, by go_num, HK.out.set hsb _, HBk.out.far (by show w.heap.size ≠ bk; omega) _, fun bk' o' e t ht1 ht2 => ?_⟩
        injection e with e
        injection e with q1 q2
        subst q1 q2
        obtain ⟨u', h'⟩ := HC.out bk o rfl t (by omega) ht2
        exact ⟨u', h'.set_far (fun e => by injection e; omega)⟩
    · obtain rfl : j = b.length := by omega
      have HK := hide hK
      clear hK hB hC hlt hg
      go_wp2_with fail
      refine wp_loop_once ?_
      go_wp2_with fail
      refine wp_loop_once ?_
      go_wp2_with fail
      go_end0
      exact ⟨rfl, HK.out⟩

theorem At5.set_far {w : World} {bk o : Nat} {c : Cv} (h : At5 (CF w) bk o c) {bk' o' : Nat} (hd : bk ≠ bk' ∨ o' < o ∨ o + 5 ≤ o') (u : Value) : At5 (CF (w.setCell ⟨bk', o', none⟩ u)) bk o c := by
  obtain ⟨h0, h1, h2, h3, h4⟩ := h
  refine ⟨h0.set_far ?_, h1.set_far ?_, h2.set_far ?_, h3.set_far ?_, h4.set_far ?_⟩ <;> (intro e; injection e; omega)
theorem At5.grow {w w' : World} {bk o : Nat} {c : Cv} (h : At5 (CF w) bk o c) (hg : Grow w w') : At5 (CF w') bk o c := h.mono' (fun p u h e => h.block (hg.below.block _ h.lt))
theorem IsS.set_far {T : Nat → Prop} {w : World} {v : V} {c : Cv} (h : IsS (CF w) v c T) {p : Addr} (hd : ¬ T p.block) (u : Value) : IsS (CF (w.setCell p u)) v c T :=
  h.kept (S := fun q => q = p.block) (Kept.set (S := fun q => q = p.block) (Kept.refl _ w) (p := p) rfl u) (fun q hq e => hd (e ▸ hq))

/-- I(97): an Int. -/
theorem cellres {F : Func} {W : World} {vb : Nat} {tmps : Array Value} (hF : F.results = #[ResultVar.cell 2 27]) (h2 : tmps.getD 2 undef = .pointer (some ⟨vb, 0, none⟩)) (c : Cv) (hv : Blk W vb 27 c.cells) :
    (results F tmps).run Tryd.prog W = .ok c.agg W := by
  have hvc := hv.cell
  have h2' : tmps[2]?.getD undef = .pointer (some ⟨vb, 0, none⟩) := by simpa using h2
  simp [results, hF, go_sem, h2', hvc]
set_option maxHeartbeats 400000 in
theorem I_any (n : Nat) (hn : n ≤ 9223372036854775807) (w : World) : Calls Tryd.prog 24 #[.int .i64 n] w fun e w' => e = .returned (Cv.agg ⟨3, (n : Int), none, 0, 0, none, 0, 0, none, 0, 0⟩) ∧ Grow w w' := by
  have hwr : IntKind.u64.wrap (n : Int) = (n : Int) := IntWalk.u64_in _ (by omega)
  have HW := hide hwr
  clear hwr
  go_enter Tryd.func24, Tryd.ntmps24
  go_wp2_with fail
  exact bodyPost_ret (cellres rfl rfl ⟨3, (n : Int), none, 0, 0, none, 0, 0, none, 0, 0⟩ (Blk.new w _ _)) rfl ⟨rfl, (Grow.refl w).alloc _⟩
theorem I_97 (w : World) : Calls Tryd.prog 24 #[.int .i64 97] w fun e w' => e = .returned (.agg #[.int .i64 3, .int .u64 97, .slice none 0 0, .slice none 0 0, .slice none 0 0]) ∧ Grow w w' := I_any 97 (by omega) w

/-- Five cells stored. -/
def set5c (W : World) (bk o : Nat) (u0 u1 u2 u3 u4 : Value) : World :=
  ((((W.setCell ⟨bk, o, none⟩ u0).setCell ⟨bk, o + 1, none⟩ u1).setCell ⟨bk, o + 2, none⟩ u2).setCell ⟨bk, o + 3, none⟩ u3).setCell ⟨bk, o + 4, none⟩ u4
theorem set5_cell {W : World} {bk o b' o' : Nat} {u0 u1 u2 u3 u4 : Value} (h : b' ≠ bk) : (set5c W bk o u0 u1 u2 u3 u4).cell? ⟨b', o', none⟩ = W.cell? ⟨b', o', none⟩ := by
  unfold set5c
  rw [World.cell?_setCell_other, World.cell?_setCell_other, World.cell?_setCell_other, World.cell?_setCell_other, World.cell?_setCell_other] <;> (intro e; injection e; omega)
theorem Kept.set5 {S : Nat → Prop} {a W : World} {bk o : Nat} {u0 u1 u2 u3 u4 : Value} (h : Kept S a W) (hs : S bk) : Kept S a (set5c W bk o u0 u1 u2 u3 u4) :=
  ((((h.set (p := ⟨bk, o, none⟩) hs u0).set (p := ⟨bk, o + 1, none⟩) hs u1).set (p := ⟨bk, o + 2, none⟩) hs u2).set (p := ⟨bk, o + 3, none⟩) hs u3).set (p := ⟨bk, o + 4, none⟩) hs u4
theorem Blk.set5 {W : World} {g bk o : Nat} {t : TypeId} {cs : Array Value} {u0 u1 u2 u3 u4 : Value} (h : Blk W g t cs) (hne : g ≠ bk) : Blk (set5c W bk o u0 u1 u2 u3 u4) g t cs :=
  ((((h.far (p := ⟨bk, o, none⟩) hne u0).far (p := ⟨bk, o + 1, none⟩) hne u1).far (p := ⟨bk, o + 2, none⟩) hne u2).far (p := ⟨bk, o + 3, none⟩) hne u3).far (p := ⟨bk, o + 4, none⟩) hne u4
theorem At5.set5 {W : World} {bk o o' : Nat} {c : Cv} {u0 u1 u2 u3 u4 : Value} (h : At5 (CF W) bk o' c) (hd : o + 5 ≤ o') : At5 (CF (set5c W bk o u0 u1 u2 u3 u4)) bk o' c :=
  ((((h.set_far (.inr (.inl (by omega))) u0).set_far (.inr (.inl (by omega))) u1).set_far (.inr (.inl (by omega))) u2).set_far (.inr (.inl (by omega))) u3).set_far (.inr (.inl (by omega))) u4
theorem IsS.set5 {T : Nat → Prop} {W : World} {v : V} {c : Cv} {bk o : Nat} {u0 u1 u2 u3 u4 : Value} (h : IsS (CF W) v c T) (hd : ¬ T bk) : IsS (CF (set5c W bk o u0 u1 u2 u3 u4)) v c T :=
  ((((h.set_far (p := ⟨bk, o, none⟩) hd u0).set_far (p := ⟨bk, o + 1, none⟩) hd u1).set_far (p := ⟨bk, o + 2, none⟩) hd u2).set_far (p := ⟨bk, o + 3, none⟩) hd u3).set_far (p := ⟨bk, o + 4, none⟩) hd u4

/-- The parts of a list from part j on: each in memory of its own. -/
def PartsL (w : World) (l : List V) (T : Nat → Nat → Prop) (bk o j : Nat) : Prop := ∀ i (h : i < l.length), j ≤ i → ∃ x, At5 (CF w) bk (o + i * 5) x ∧ IsS (CF w) l[i] x (T i)

set_option maxRecDepth 100000 in
set_option maxHeartbeats 800000 in
theorem spoil_list (l : List V) (hl : ∀ x ∈ l, SpoilC x) : SpoilC (.mk 7 0 [] l []) := by
  intro w c S hS hv
  obtain ⟨aB, aL, aF, cB, cL, cF, T, bk, o, rfl, h1, h2, ha, hp, hd⟩ := IsS.openL hv
  have HS := hide hS
  have HA := hide ha
  have HP := hide hp
  have HD := hide hd
  have Hl := hide hl
  clear hS hv ha hp hd hl
  go_enter Tryd.func22, Tryd.ntmps22
  go_wp2_with fail
  refine wp_loop_once ?_
  go_wp2_with fail
  go_loopg [3] (l.length + 1) (fun gk i wr => ∃ j : Nat, j ≤ l.length ∧ gk + j = l.length + 1 ∧ i = .int .i64 j ∧ Kept S w wr ∧
    Blk wr w.heap.size 27 (Cv.cells ⟨7, 0, aB, 0, cB, aL, l.length, cL, aF, 0, cF⟩) ∧ PartsL wr l T bk o j)
  case atStart =>
    refine ⟨0, by omega, by omega, rfl, (Kept.refl S w).alloc _, Blk.new _ _ _, fun i hi _ => ?_⟩
    obtain ⟨_, hts, x, h5, hx⟩ := HP.out i hi
    exact ⟨x, h5.grow ((Grow.refl w).alloc _), hx.kept (Kept.grow (S := fun _ => False) ((Grow.refl w).alloc _)) (fun _ _ h => h)⟩
  case round =>
    obtain ⟨j, hj, hg, rfl, hK, hB, hC⟩ := hrel
    obtain ⟨gk', rfl⟩ : ∃ g, gk = g + 1 := ⟨gk - 1, by omega⟩
    have hc := hB.cell
    by_cases hlt : j < l.length
    · obtain ⟨rfl, hsb⟩ := HA.out (by omega)
      obtain ⟨ht, hts, _⟩ := HP.out j hlt
      obtain ⟨x, h5, hx⟩ := hC j hlt (Nat.le_refl _)
      obtain ⟨⟨e0, f0⟩, ⟨e1, f1⟩, ⟨e2, f2⟩, ⟨e3, f3⟩, ⟨e4, f4⟩⟩ := h5
      have hlb := HS.out _ hsb
      have HK := hide hK
      have HBk := hide hB
      have HC := hide hC
      have HX := hide hx
      clear hK hB hC hx
      go_wp2_with fail
      refine (Hl.out _ (List.getElem_mem hlt) _ x (T j) (fun q hq => by have := HS.out q (hts q hq); have := HK.out.size; omega) HX.out).mono ?_
      rintro e w2 ⟨rfl, hK2⟩
      have HK2 := hide hK2
      have hnb : w.heap.size ≠ bk := by omega
      have hB2 := HK2.out.blk HBk.out (fun hq => by have := HS.out _ (hts _ hq); omega)
      have hc2 : w2.drew.cell? ⟨w.heap.size, 3, none⟩ = some (.slice (some ⟨bk, o, none⟩) l.length cL) := hB2.drew.cell 3
      have HB2 := hide hB2
      obtain ⟨x', h5', hx'⟩ := HC.out j hlt (Nat.le_refl _)
      have h52 : At5 (CF w2) bk (o + j * 5) x' := h5'.mono' (fun p u h e => h.kept HK2.out (e ▸ ht))
      have H52 := hide h52
      clear hK2 e0 e1 e2 e3 e4 f0 f1 f2 f3 f4 hc hB2 h52
      go_wp2_with fail
      go_region_held3 (fun w' => w'.cell? ⟨w.heap.size, 3, none⟩ = some (.slice (some ⟨bk, o, none⟩) l.length cL)) (first | with_reducible exact hc2 | with_reducible exact hc3 | (refine (set5_cell hnb).trans ?_; with_reducible exact hc3))
        (first | (go_at_call 24; refine (I_97 _).mono ?_; rintro e w3 ⟨rfl, hg3⟩; have hc3 : w3.cell? ⟨w.heap.size, 3, none⟩ = some (.slice (some ⟨bk, o, none⟩) l.length cL) := (HB2.out.drew.grow hg3).cell 3; obtain ⟨⟨e0, f0⟩, ⟨e1, f1⟩, ⟨e2, f2⟩, ⟨e3, f3⟩, ⟨e4, f4⟩⟩ := At5.grow H52.out ((Grow.refl w2).drew.trans hg3)))
      have HK3 := hide ((HK.out.trans (HK2.out.mono hts)).trans (Kept.grow ((Grow.refl w2).drew.trans hg3)))
      have HB3 := hide (HB2.out.drew.grow hg3)
      have HG3 := hide ((Grow.refl w2).drew.trans hg3)
      clear hc2 hc3 e0 e1 e2 e3 e4 f0 f1 f2 f3 f4 hg3
      obtain ⟨W5, hW5⟩ : ∃ W, W = set5c w3 bk (o + j * 5) (.int .i64 3) (.int .u64 97) (.slice none 0 0) (.slice none 0 0) (.slice none 0 0) := ⟨_, rfl⟩
      have HK5 : Hid (Kept S w W5) := by rw [hW5]; exact HK3.out.set5 hsb
      have HB5 : Hid (Blk W5 w.heap.size 27 (Cv.cells ⟨7, 0, aB, 0, cB, some ⟨bk, o, none⟩, l.length, cL, aF, 0, cF⟩)) := by rw [hW5]; exact HB3.out.set5 hnb
      have HC5 : Hid (PartsL W5 l T bk o (j + 1)) := by
        intro i hi hji
        obtain ⟨y, hy5, hy⟩ := HC.out i hi (by omega)
        have hti := HP.out i hi
        refine ⟨y, ?_, ?_⟩
        · rw [hW5]
          exact At5.set5 ((hy5.mono' (fun p u h e => h.kept HK2.out (e ▸ ht))).grow HG3.out) (by omega)
        · rw [hW5]
          refine IsS.set5 (IsS.kept (hy.kept HK2.out (fun q hq hq' => HD.out j i (by omega) hi q hq' hq)) (Kept.grow (S := fun _ => False) HG3.out) (fun _ _ h => h)) hti.1
      have hW5' := hW5
      unfold set5c at hW5'
      rw [← hW5']
      clear hW5 hW5' HK3 HB3 HG3
      go_wp2_with fail
      go_roundg gk'
      case measure => omega
      case rel => exact ⟨j + 1, by omega, by omega, by go_num, HK5.out, HB5.out, HC5.out⟩
    · obtain rfl : j = l.length := by omega
      have HK := hide hK
      clear hK hB hC hlt hg
      go_wp2_with fail
      refine wp_loop_once ?_
      go_wp2_with fail
      go_end0
      exact ⟨rfl, HK.out⟩

/-- Six cells stored. -/
def set6c (W : World) (bk o : Nat) (u u0 u1 u2 u3 u4 : Value) : World := set5c (W.setCell ⟨bk, o, none⟩ u) bk (o + 1) u0 u1 u2 u3 u4
/-- The parts of a document from part j on. -/
def PartsF (w : World) (f : List (ByteArray × V)) (T : Nat → Nat → Prop) (bk o j : Nat) : Prop := ∀ i (h : i < f.length), j ≤ i → (∃ u, CF w ⟨bk, o + i * 6, none⟩ u) ∧ ∃ x, At5 (CF w) bk (o + i * 6 + 1) x ∧ IsS (CF w) f[i].2 x (T i)

set_option maxRecDepth 100000 in
set_option maxHeartbeats 800000 in
theorem spoil_doc (f : List (ByteArray × V)) (hf : ∀ x ∈ f, SpoilC x.2) : SpoilC (.mk 8 0 [] [] f) := by
  intro w c S hS hv
  obtain ⟨aB, aL, aF, cB, cL, cF, T, bk, o, rfl, h1, h2, ha, hp, hd⟩ := IsS.openF hv
  have HS := hide hS
  have HA := hide ha
  have HP := hide hp
  have HD := hide hd
  have Hf := hide hf
  clear hS hv ha hp hd hf
  go_enter Tryd.func22, Tryd.ntmps22
  go_wp2_with fail
  refine wp_loop_once ?_
  go_wp2_with fail
  refine wp_loop_once ?_
  go_wp2_with fail
  go_loopg [4] (f.length + 1) (fun gk i wr => ∃ j : Nat, j ≤ f.length ∧ gk + j = f.length + 1 ∧ i = .int .i64 j ∧ Kept S w wr ∧
    Blk wr w.heap.size 27 (Cv.cells ⟨8, 0, aB, 0, cB, aL, 0, cL, aF, f.length, cF⟩) ∧ PartsF wr f T bk o j)
  case atStart =>
    refine ⟨0, by omega, by omega, rfl, (Kept.refl S w).alloc _, Blk.new _ _ _, fun i hi _ => ?_⟩
    obtain ⟨_, hts, hs, x, h5, hx⟩ := HP.out i hi
    exact ⟨⟨_, hs.block ((Grow.below ((Grow.refl w).alloc _)).block _ hs.lt)⟩, x, h5.grow ((Grow.refl w).alloc _), hx.kept (Kept.grow (S := fun _ => False) ((Grow.refl w).alloc _)) (fun _ _ h => h)⟩
  case round =>
    obtain ⟨j, hj, hg, rfl, hK, hB, hC⟩ := hrel
    obtain ⟨gk', rfl⟩ : ∃ g, gk = g + 1 := ⟨gk - 1, by omega⟩
    have hc := hB.cell
    by_cases hlt : j < f.length
    · obtain ⟨rfl, hsb⟩ := HA.out (by omega)
      obtain ⟨ht, hts, _⟩ := HP.out j hlt
      obtain ⟨⟨us, es, fs⟩, x, h5, hx⟩ := hC j hlt (Nat.le_refl _)
      obtain ⟨⟨e0, f0⟩, ⟨e1, f1⟩, ⟨e2, f2⟩, ⟨e3, f3⟩, ⟨e4, f4⟩⟩ := h5
      have hlb := HS.out _ hsb
      have HK := hide hK
      have HBk := hide hB
      have HC := hide hC
      have HX := hide hx
      clear hK hB hC hx es fs
      go_wp2_with fail
      refine (Hf.out _ (List.getElem_mem hlt) _ x (T j) (fun q hq => by have := HS.out q (hts q hq); have := HK.out.size; omega) HX.out).mono ?_
      rintro e w2 ⟨rfl, hK2⟩
      have HK2 := hide hK2
      have hnb : w.heap.size ≠ bk := by omega
      have hB2 := HK2.out.blk HBk.out (fun hq => by have := HS.out _ (hts _ hq); omega)
      have hc2 := hB2.cell
      have HB2 := hide hB2
      obtain ⟨⟨us', hs'⟩, x', h5', hx'⟩ := HC.out j hlt (Nat.le_refl _)
      obtain ⟨es, fs⟩ := hs'.kept HK2.out ht
      have h52 : At5 (CF w2) bk (o + j * 6 + 1) x' := h5'.mono' (fun p u h e => h.kept HK2.out (e ▸ ht))
      clear hK2 e0 e1 e2 e3 e4 f0 f1 f2 f3 f4 hc hB2
      obtain ⟨⟨e0, f0⟩, ⟨e1, f1⟩, ⟨e2, f2⟩, ⟨e3, f3⟩, ⟨e4, f4⟩⟩ := h52
      go_wp2_with fail
      have HK3 := hide (HK.out.trans (HK2.out.mono hts))
      have HC5 : Hid (PartsF (set6c w2 bk (o + j * 6) (.string { data := #[113] }) (.int .i64 0) (.int .u64 0) (.slice none 0 0) (.slice none 0 0) (.slice none 0 0)) f T bk o (j + 1)) := by
        intro i hi hji
        obtain ⟨⟨u, hu⟩, y, hy5, hy⟩ := HC.out i hi (by omega)
        have hti := HP.out i hi
        have hu2 := hu.kept HK2.out ht
        refine ⟨⟨u, ?_⟩, y, ?_, ?_⟩
        · exact (((((hu2.set_far (by intro e; injection e; omega)).set_far (by intro e; injection e; omega)).set_far (by intro e; injection e; omega)).set_far (by intro e; injection e; omega)).set_far (by intro e; injection e; omega)).set_far (by intro e; injection e; omega)
        · exact At5.set5 ((hy5.mono' (fun p u h e => h.kept HK2.out (e ▸ ht))).set_far (.inr (.inl (by omega))) _) (by omega)
        · exact IsS.set5 (IsS.set_far (p := ⟨bk, o + j * 6, none⟩) (hy.kept HK2.out (fun q hq hq' => HD.out j i (by omega) hi q hq' hq)) hti.1 _) hti.1
      clear es fs e0 e1 e2 e3 e4 f0 f1 f2 f3 f4 hc2
      go_roundg gk'
      case measure => omega
      case rel =>
        refine ⟨j + 1, by omega, by omega, by go_num, ?_, ?_, HC5.out⟩
        · exact (HK3.out.set (p := ⟨bk, o + j * 6, none⟩) hsb _).set5 (o := o + j * 6 + 1) hsb
        · exact (HB2.out.far (p := ⟨bk, o + j * 6, none⟩) hnb _).set5 (o := o + j * 6 + 1) hnb
    · obtain rfl : j = f.length := by omega
      have HK := hide hK
      clear hK hB hC hlt hg
      go_wp2_with fail
      go_end0
      exact ⟨rfl, HK.out⟩

theorem spoil_any (v : V) : v.formed = true → SpoilC v := by
  induction v using V.ind with
  | h k n b l f hl hf =>
    intro hfm
    rcases V.formed_cases hfm with h | ⟨_, _, h⟩ | ⟨_, h⟩ | ⟨_, h⟩ | ⟨_, _, h⟩ | ⟨_, h⟩ | ⟨l', hl', h⟩ | ⟨f', hf', hnd, h⟩
    case inr.inr.inr.inr.inr.inr.inl => cases h; exact spoil_list _ (fun x hx => hl x hx (hl' x hx))
    case inr.inr.inr.inr.inr.inr.inr => cases h; exact spoil_doc _ (fun x hx => hf x hx (hf' x hx).2)
    all_goals
      cases h
      exact spoil_flat _ _ _
end Go.Proofs.YtkgjfkpabdlgbaaDoor
