/- Part 13 of the proof of pknown_card. -/
import Derived.Test.YtndjopkdbdcmdaaGreatDoorPky4
import Derived.Test.YtndjopkdbdcmdaaGreatDoorPky11
import Derived.Test.YtndjopkdbdcmdaaGreatDoorPky12
set_option linter.unusedVariables false
set_option linter.unusedSimpArgs false
set_option maxRecDepth 100000
set_option maxHeartbeats 12800000
namespace Go.Proofs.YtndjopkdbdcmdaaGreatDoor
section
open Go.RowKit Go.Shelf
def pathL : V → List ByteArray → Option V
 | v, [] => some v
 | v, s :: r => (stepV v s).bind fun u => pathL u r
def dotB : ByteArray := ⟨#[46]⟩
def pathN (s : ByteArray) : List ByteArray := Lib.splitB dotB 0 (Lib.countB s dotB) s
def pathV (v : V) (s : ByteArray) : Option V := if v.good = 0 then (if s.toList = [] then some v else pathL v (pathN s)) else none
def Len1 (w : World) : Prop := ∃ m, w.cell? ⟨2, 0, none⟩ = some (.int .i64 m) ∧ 2 < w.heap.size
theorem Len1.grow {w w' : World} (h : Len1 w) (hg : Grow w w') : Len1 w' := by
 obtain ⟨m, h1, h2⟩ := h;exact ⟨m, (hg.below.cell h2).trans h1, Nat.lt_of_lt_of_le h2 hg.size⟩
theorem pathN_length (s : ByteArray) : (pathN s).length = Lib.countB s dotB + 1 := Lib.splitB_all dotB (by decide) 0 _ s rfl
theorem split_any (s : ByteArray) (w : World) (hM : Len1 w) (hs : s.size < 4294967281) : Calls Tryz.prog 47 #[.string s, .string dotB] w fun e w' =>
 e = .returned (.slice (some ⟨w.heap.size, 0, none⟩) (pathN s).length (pathN s).length) ∧ w' = w.alloc (.cells ((pathN s).map Value.string).toArray 9) := by
 obtain ⟨m, h1, h2⟩ := hM;rw [pathN_length];exact Any.strings_Split (P := Tryz.prog) { Tryz.laysSplit with } Tryz.laysSplit.i9 s dotB m w hs h1 (by decide)
theorem stepV_sml {v u : V} {s : ByteArray} (h : stepV v s = some u) (hs : v.sml) : u.sml := by
 obtain ⟨k, n, b, l, f⟩ := v;rw [V.sml_mk] at hs;obtain ⟨-, -, -, hl, hf⟩ := hs;by_cases hk : k = 7
 ·subst hk;rw [stepV_list] at h;split at h
  ·exact hl _ (List.mem_of_getElem? h)
  cases h
 rw [stepV_doc hk] at h;obtain ⟨x, hx, rfl⟩ := Option.map_eq_some_iff.1 h;exact hf _ (List.mem_of_find?_eq_some hx)
theorem Blk.set5o {W : World} {b vb : Nat} {t : TypeId} {cs : Array Value} (h : Blk W b t cs) (hne : b ≠ vb) (c : Cv) : Blk (set5 W vb c) b t cs :=
 ((((h.far (p := ⟨vb, 0, none⟩) hne _).far (p := ⟨vb, 1, none⟩) hne _).far (p := ⟨vb, 2, none⟩) hne _).far (p := ⟨vb, 3, none⟩) hne _).far (p := ⟨vb, 4, none⟩) hne _
theorem mem_flat_le {α : Type} (g : α → List UInt8) : ∀ (l : List α) (x : α), x ∈ l → (g x).length ≤ ((l.map g).flatten).length
 | y :: r, x, h => by
  rw [List.map_cons, List.flatten_cons, List.length_append];rcases List.mem_cons.1 h with h | h
  ·rw [h]; omega
  have := mem_flat_le g r x h; omega
theorem formed_sml (v : V) : v.formed = true → v.bytes.length ≤ 1000000000 → v.sml := by
 refine V.ind (p := fun v => v.formed = true → v.bytes.length ≤ 1000000000 → v.sml) (fun k n b l f ihl ihf hf hb => ?_) v;have hc := count_le (V.mk k n b l f) hf;rw [V.count_mk] at hc;have h1 : l.length ≤ (l.map V.count).sum := by
  clear ihl hf hb hc
  induction l with
  | nil => simp
  | cons x r ih => have := V.count_pos x; simp only [List.map_cons, List.sum_cons, List.length_cons]; omega
 have h2 : f.length ≤ (f.map fun x => x.2.count).sum := by
  clear ihf hf hb hc
  induction f with
  | nil => simp
  | cons x r ih => have := V.count_pos x.2; simp only [List.map_cons, List.sum_cons, List.length_cons]; omega
 rw [V.formed_mk] at hf;simp only [Bool.and_eq_true, List.all_eq_true, decide_eq_true_eq] at hf;have ho := hf.1.1.1;unfold V.own at ho;simp only [Bool.and_eq_true, decide_eq_true_eq] at ho;rw [V.bytes_mk] at hb hc;rw [V.sml_mk];refine ⟨?_, by omega, by omega, fun x hx => ihl x hx (hf.1.1.2 x hx) ?_, fun x hx => ihf x hx (hf.1.2 x hx).2 ?_⟩
 ·by_cases hk : k = 5 ∨ k = 6
  ·rw [if_neg (by omega), if_neg (by omega), if_pos hk] at hb;simp only [List.length_cons, List.length_append] at hb;omega
  omega
 ·have h7 : k = 7 := by
   rcases ho.1.2 with h | h
   ·exact h
   rw [List.length_eq_zero_iff.1 h] at hx; simp at hx
  subst h7;have hm := mem_flat_le V.bytes l x hx;simp at hb;have hb2 : (l.map V.bytes).flatten.length ≤ 1000000000 := by simp only [List.length_flatten, List.map_map]; omega
  omega
 have h8 : k = 8 := by
  rcases ho.2 with h | h
  ·exact h
  rw [List.length_eq_zero_iff.1 h] at hx; simp at hx
 subst h8;have hm := mem_flat_le (fun x : ByteArray × V => V.item x.1 x.2.bytes) f x hx;have hi : (V.item x.1 x.2.bytes).length = x.1.size + x.2.bytes.length + 1 := by rw [V.item]; simp
 have hb2 : (f.map fun x : ByteArray × V => V.item x.1 x.2.bytes).flatten.length ≤ 1000000000 := by
  rw [if_neg (by decide), if_neg (by decide), if_neg (by decide), if_neg (by decide), if_pos rfl] at hb;simp only [List.length_cons] at hb;omega
 omega
theorem good_sml {v : V} (h : v.good = 0) : v.sml := formed_sml v (V.good_formed h).1 (by have := (V.good_formed h).2; omega)
theorem vpath_bad (v : V) (s : ByteArray) (c : Cv) (w : World) (hT : Tabs w) (hcount : v.count ≤ 20000) (hv : In w v c) (hgd : v.good ≠ 0) :
 Calls Tryz.prog 21 #[c.agg, .string s] w (StepC w (pathV v s)) := by
 have hg0 := ((Grow.refl w).alloc (.cells c.cells 27)).alloc (.cells Cv.zero.cells 27);have HG0 := hide hg0;have HB4 := hide (Blk.new' (w := w.alloc (.cells c.cells 27)) (g := w.heap.size + 1) (by simp) 27 Cv.zero.cells);have HGo := hide (good_any v _ c hcount (hT.grow hg0) (hv.grow hg0));clear hg0 hT hcount hv;rw [pathV];rw [if_neg hgd];obtain ⟨g, hg⟩ : ∃ g, v.good = g := ⟨_, rfl⟩;rw [hg] at hgd HGo;have hgz : (g == 0) = false := by simpa using hgd
 clear hgd hg;go_enter Tryz.func21, Tryz.ntmps21;go_wp2_with fail;refine HGo.out.mono ?_;rintro e w1 ⟨rfl, hg⟩;have HG1 := hide (HG0.out.trans hg);have HB41 := hide (HB4.out.grow hg);have hc4 := HB41.out.cell;have hlt4 := HB41.out.lt;have hz4 := HB41.out.frozen;clear hg;go_wp2_with fail;refine bodyPost_ret (step_res rfl rfl rfl Cv.zero (set5_blk (c := Cv.zero) HB41.out)) rfl (StepC.no rfl (HG1.out.set5v (Nat.le_succ _) Cv.zero))
theorem vpath_good (v : V) (s : ByteArray) (c : Cv) (w : World) (hT : Tabs w) (hM : Len1 w) (hcount : v.count ≤ 20000) (hs : s.size < 4294967281) (hv : In w v c) (hgd : v.good = 0) :
 Calls Tryz.prog 21 #[c.agg, .string s] w (StepC w (pathV v s)) := by
 have hg0 := ((Grow.refl w).alloc (.cells c.cells 27)).alloc (.cells Cv.zero.cells 27);have HG0 := hide hg0;have HB2 := hide ((Blk.new w 27 c.cells).alloc (.cells Cv.zero.cells 27));have HB4 := hide (Blk.new' (w := w.alloc (.cells c.cells 27)) (g := w.heap.size + 1) (by simp) 27 Cv.zero.cells);have HGo := hide (good_any v _ c hcount (hT.grow hg0) (hv.grow hg0));have HCp := hide (copy_any v (good_sml hgd));have HSm := hide (good_sml hgd);have HM := hide (hM.grow hg0);have HV := hide hv;have HS := hide hs;clear hg0 hv hT hM hcount hs;rw [pathV];rw [if_pos hgd];rw [hgd] at HGo;clear hgd;by_cases hse : s.toList = []
 ·rw [if_pos hse];go_enter Tryz.func21, Tryz.ntmps21;go_wp2_with fail;refine HGo.out.mono ?_;rintro e w1 ⟨rfl, hg⟩;have HG1 := hide (HG0.out.trans hg);have HB21 := hide (HB2.out.grow hg);have HB41 := hide (HB4.out.grow hg);have hc2 := HB21.out.cell;have hc4 := HB41.out.cell;have HV1 := hide (HV.out.grow HG1.out);clear hg;go_wp2_with fail;refine (HCp.out _ _ HV1.out).mono ?_;rintro e w2 ⟨x, rfl, hx, hg2⟩;have HX := hide hx;have HG2 := hide (HG1.out.trans hg2);have HL2 := hide (HB41.out.lt);have HB42 := hide (HB41.out.grow hg2);have hc42 := HB42.out.cell;have hlt42 := HB42.out.lt;have hz42 := HB42.out.frozen;clear hx hg2 hc2 hc4;go_wp2_with fail;refine bodyPost_ret (step_res rfl rfl rfl x (set5_from (c := x) HB42.out)) rfl (StepC.yes rfl (HG2.out.set5v (Nat.le_succ _) x) (HG1.out.size) (isv_set5 HX.out.atW HL2.out x))
 rw [if_neg hse];have hse2 : s.toList.isEmpty = false := by simpa using hse
 go_enter Tryz.func21, Tryz.ntmps21;go_wp2_with fail;refine HGo.out.mono ?_;rintro e w1 ⟨rfl, hg⟩;have HG1 := hide (HG0.out.trans hg);have HB21 := hide (HB2.out.grow hg);have HB41 := hide (HB4.out.grow hg);have hc2 := HB21.out.cell;have hc4 := HB41.out.cell;have HSp := hide (split_any s w1 (HM.out.grow hg) HS.out);clear hg;go_wp2_with fail;refine HSp.out.mono ?_;rintro e wS ⟨rfl, hwS⟩;have HLS := hide (show w1.heap.size < wS.heap.size by rw [hwS]; simp);have HGS := hide (HG1.out.trans (show Grow w1 wS by rw [hwS]; exact (Grow.refl w1).alloc _));have HB2S := hide (HB21.out.grow (show Grow w1 wS by rw [hwS]; exact (Grow.refl w1).alloc _));have HB4S := hide (HB41.out.grow (show Grow w1 wS by rw [hwS]; exact (Grow.refl w1).alloc _));have HNS := hide (show Blk wS w1.heap.size 9 ((pathN s).map Value.string).toArray by rw [hwS]; exact Blk.new w1 _ _);have HL1 := hide (HB41.out.lt)
 clear hc2 hc4 hwS;have hnl : (pathN s).length ≤ 4294967282 := by
  have := Lib.countB_le dotB (by decide) s.size s (Nat.le_refl _);have := HS.out;rw [pathN_length];omega
 obtain ⟨ns, hns⟩ : ∃ ns, pathN s = ns := ⟨_, rfl⟩;rw [hns] at HNS hnl ⊢;obtain ⟨nb, hnb⟩ : ∃ nb, w1.heap.size = nb := ⟨_, rfl⟩;rw [hnb] at HNS HLS HL1 ⊢;have HNE := hide hns;clear hns hnb;go_wp2_with fail;go_loopg [7, 8, 20] (ns.length + 1) (fun gk x y i wr => ∃ (j : Nat) (u : V) (cu : Cv), j ≤ ns.length ∧ gk + j = ns.length + 1 ∧ i = .int .i64 j ∧ pathL v ns = pathL u (ns.drop j) ∧ u.sml ∧ In w u cu ∧ Grow w wr ∧
  Blk wr w.heap.size 27 cu.cells ∧ Blk wr (w.heap.size + 1) 27 Cv.zero.cells ∧ Blk wr nb 9 (ns.map Value.string).toArray)
 case atStart => exact ⟨0, v, c, by omega, by omega, rfl, rfl, HSm.out, HV.out, HGS.out, HB2S.out, HB4S.out, HNS.out⟩
 case round =>
  obtain ⟨j, u, cu, hj, hgk, rfl, hp, hus, hu, hw, h2, h4, hN⟩ := hrel;have HP := hide hp;have HUS := hide hus;have HU := hide hu;have HW := hide hw;have H2 := hide h2;have H4 := hide h4;have HN := hide hN;have hc2 := h2.cell;have hc4 := h4.cell;have hcn := hN.cell;obtain ⟨gk', rfl⟩ := gk_ gk (by omega);clear hp hus hu hw h2 h4 hN;by_cases hlt : j < ns.length
  ·have hlt2 := HN.out.lt;go_wp2_with fail;refine (step_any u ns[j] cu w wr HW.out HU.out).mono ?_;rintro e w2 ⟨hg2, x, t, u2, rfl, hx, hh⟩;have HX := hide hx;have HG2 := hide (HW.out.trans hg2);have H22 := hide (H2.out.grow hg2);have H42 := hide (H4.out.grow hg2);have HN2 := hide (HN.out.grow hg2);have hcb := H22.out.cell;have hltb := H22.out.lt;have hzb := H22.out.frozen;clear hg2 hc2 hc4 hcn hx;rcases hh with ⟨hy, rfl⟩ | ⟨hn, rfl, -, -⟩
   ·have HY := hide hy;clear hy;go_wp2_with fail;go_roundg gk'
    case measure => omega
    case rel =>
     refine ⟨j + 1, u2, x, by omega, by omega, by go_num, ?_, stepV_sml HY.out HUS.out, HX.out, HG2.out.set5v (Nat.le_refl _) x, set5_from (c := x) H22.out, H42.out.set5o (by omega) x, HN2.out.set5o (by have := HL1.out; omega) x⟩;rw [HP.out, List.drop_eq_getElem_cons hlt];show (stepV u ns[j]).bind _ = _;rw [HY.out];rfl
   have HY := hide (show pathL v (pathN s) = none by
    rw [HNE.out, HP.out, List.drop_eq_getElem_cons hlt];show (stepV u ns[j]).bind _ = _;rw [hn];rfl)
   clear hn;have H4b := hide (H42.out.set5o (vb := w.heap.size) (by omega) x);have hcd := H42.out.cell;have hltd := H42.out.lt;have hzd := H42.out.frozen;go_wp2_with fail;refine bodyPost_ret (step_res rfl rfl rfl Cv.zero (set5_blk (c := Cv.zero) H4b.out)) rfl (StepC.no HY.out ((HG2.out.set5v (Nat.le_refl _) x).set5v (Nat.le_succ _) Cv.zero))
  obtain rfl : j = ns.length := by omega
  go_wp2_with fail;refine (copy_any u HUS.out _ _ (HU.out.grow HW.out)).mono ?_;rintro e w2 ⟨x, rfl, hx, hg2⟩;have HX := hide hx;have HG2 := hide (HW.out.trans hg2);have HL2 := hide (H4.out.lt);have HB42 := hide (H4.out.grow hg2);have hc42 := HB42.out.cell;have hlt42 := HB42.out.lt;have hz42 := HB42.out.frozen;clear hx hg2 hc2 hc4 hcn;have HY := hide (show pathL v (pathN s) = some u by
   rw [HNE.out, HP.out, List.drop_length];rfl)
  go_wp2_with fail;refine bodyPost_ret (step_res rfl rfl rfl x (set5_from (c := x) HB42.out)) rfl (StepC.yes HY.out (HG2.out.set5v (Nat.le_succ _) x) (HW.out.size) (isv_set5 HX.out.atW HL2.out x))
theorem vpath_any (v : V) (s : ByteArray) (c : Cv) (w : World) (hT : Tabs w) (hM : Len1 w) (hcount : v.count ≤ 20000) (hs : s.size < 4294967281) (hv : In w v c) :
 Calls Tryz.prog 21 #[c.agg, .string s] w (StepC w (pathV v s)) := by
 by_cases hgd : v.good = 0
 ·exact vpath_good v s c w hT hM hcount hs hv hgd
 exact vpath_bad v s c w hT hcount hv hgd
end
section
open Go.RowKit
theorem stepV_count {v u : V} {s : ByteArray} (h : stepV v s = some u) : u.count ≤ v.count := by
 obtain ⟨k, n, b, l, f⟩ := v;rw [V.count_mk];by_cases h7 : k = 7
 ·subst h7;rw [stepV_list] at h;split at h
  ·have hm : u.count ∈ l.map V.count := List.mem_map.2 ⟨u, List.mem_of_getElem? h, rfl⟩;have := mem_le_sum hm;omega
  cases h
 rw [stepV_doc h7, Option.map_eq_some_iff] at h;obtain ⟨⟨t, x⟩, h1, rfl⟩ := h;have hm : x.count ∈ f.map fun x => x.2.count := List.mem_map.2 ⟨(t, x), List.mem_of_find?_eq_some h1, rfl⟩
 have := mem_le_sum hm;show x.count ≤ _;omega
theorem pathL_count : ∀ {l : List ByteArray} {v u : V}, pathL v l = some u → u.count ≤ v.count
 | [], v, u, h => by rw [pathL] at h; injection h with h; rw [h]; exact Nat.le_refl _
 | s :: r, v, u, h => by
  rw [pathL, Option.bind_eq_some_iff] at h;obtain ⟨x, h1, h2⟩ := h;exact Nat.le_trans (pathL_count h2) (stepV_count h1)
theorem pathV_count {v u : V} {s : ByteArray} (h : pathV v s = some u) : u.count ≤ v.count := by
 unfold pathV at h;split at h
 ·split at h
  ·injection h with h; rw [h]; exact Nat.le_refl _
  exact pathL_count h
 cases h
def entryP (path : ByteArray) (v : V) : List UInt8 × Bool × Int :=
 if (keyP v).2 ≠ 0 then ([], false, (keyP v).2) else match pathV v path with
  | none => ([], false, 0)
  | some u => if (allK [u, (idP v).getD V.zero] [false, false]).2 ≠ 0 then ([], false, (allK [u, (idP v).getD V.zero] [false, false]).2)
   else ((allK [u, (idP v).getD V.zero] [false, false]).1, true, 0)
def EntC (w : World) (p : List UInt8 × Bool × Int) (e : Ending) (w' : World) : Prop :=
 ∃ base A c, e = .returned (.tuple #[.slice A p.1.length c, .bool p.2.1, .int .i64 p.2.2]) ∧ w.heap.size ≤ base ∧ Row w' base (.slice A p.1.length c) p.1.length p.1 ∧ Grow w w'
theorem EntC.bad {w w' : World} {e : Int} {t : Bool} (h : Grow w w') : EntC w ([], t, e) (.returned (.tuple #[.slice none 0 0, .bool t, .int .i64 e])) w' :=
 ⟨w.heap.size, none, 0, rfl, Nat.le_refl _, World.ownsRow_nil _ _ _ _, h⟩
theorem keyP_id {v : V} (h : (keyP v).2 = 0) : ∃ i, idP v = some i ∧ v.good = 0 ∧ (ofK i).2 = 0 := by
 unfold keyP at h;split at h
 ·rename_i hg; exact absurd h hg
 rename_i hg;split at h
 ·cases h
 cases hi : idP v with
 | none => rw [hi] at h; cases h
 | some i => rw [hi] at h; exact ⟨i, rfl, by simpa using hg, h⟩
theorem boolsO2 (w : World) (s t : Bool) : InBo (w.alloc (.cells #[.bool s, .bool t] 4)) (some ⟨w.heap.size, 0, none⟩) [s, t] := by
 refine ⟨rfl, fun _ => ⟨w.heap.size, 0, rfl, fun j u hu => ?_⟩⟩;have hn := Blk.new w 4 #[.bool s, .bool t];rcases j with _ | _ | j
 ·cases hu; exact ⟨hn.cell 0, Nat.zero_le _, hn.lt⟩
 ·cases hu; exact ⟨hn.cell 1, Nat.zero_le _, hn.lt⟩
 simp at hu
abbrev Ix.agg (x : Ix) : Value := .agg x.cells
theorem pentry_any (x : Ix) (v : V) (c : Cv) (w : World) (hx : x.path.size < 4294967281) (hcount : v.count ≤ 20000) (hT : Tabs w) (hM : Len1 w) (hv : In w v c) : Calls Tryz.prog 28 #[x.agg, c.agg] w (EntC w (entryP x.path v)) := by
 have HG0 := hide (((Grow.refl w).alloc (.cells x.cells 64)).alloc (.cells c.cells 27));have HX0 := hide ((Blk.new w 64 x.cells).alloc (.cells c.cells 27));have HB0 := hide (Blk.new' (w := w.alloc (.cells x.cells 64)) (g := w.heap.size + 1) (by simp) 27 c.cells);have hcell := HB0.out.cell;have HV := hide hv;have HT := hide hT;have HM := hide hM;have HKEY := hide (pkey_any v c _ hcount (hT.grow HG0.out) (hv.grow HG0.out));obtain ⟨⟨kb, ke⟩, hke⟩ : ∃ r, keyP v = r := ⟨_, rfl⟩;rw [hke] at HKEY;have HKE := hide hke;clear hT hv hM hke;go_enter Tryz.func28, Tryz.ntmps28;go_wp2_with fail;refine HKEY.out.mono ?_;rintro e w1 ⟨base, Ak, ck, rfl, hbk, hrk, hg1⟩;dsimp only at hrk ⊢;have HB1 := hide (HB0.out.grow hg1);have HX1 := hide (HX0.out.grow hg1);have hc1 := HB1.out.cell;have hl1 := HB1.out.lt;have hx1 := HX1.out.cell;have hlx1 := HX1.out.lt;have HG1 := hide (HG0.out.trans hg1)
 clear hg1 hrk hbk hcell HKEY;by_cases h0 : ke = 0
 ·subst h0;have HPATH := hide (vpath_any v x.path c w1 (HT.out.grow HG1.out) (HM.out.grow HG1.out) hcount hx (HV.out.grow HG1.out));go_wp2_with fail;refine HPATH.out.mono ?_;rintro e w2 ⟨hg2, cu, t, u, rfl, hiu, hres⟩;have HG2 := hide (HG1.out.trans hg2);have HB2 := hide (HB1.out.grow hg2);have hc2 := HB2.out.cell;have hl2 := HB2.out.lt;have HIU := hide (show In w2 u cu from IsV.mono (fun p y h => ⟨h.1, Nat.zero_le _, h.2.2⟩) u cu hiu);have HU2 := hide (Blk.new w2 27 cu.cells);clear hiu hc1 hl1 hx1 hlx1 HPATH;have HG2' := hide (HG2.out.alloc (.cells cu.cells 27));have HB2' := hide (HB2.out.alloc (.cells cu.cells 27));have hcb := HB2'.out.cell;have hcu := HU2.out.cell;rcases hres with ⟨hp, rfl⟩ | ⟨hp, rfl, rfl, rfl⟩
  ·have HP := hide hp;obtain ⟨i, hi⟩ : ∃ i, idP v = some i := (keyP_id (v := v) (by rw [HKE.out])).imp fun i h => h.1
   have HI := hide hi;have HID := hide (fun w2 (h : Grow w w2) => id_any v c w w2 h HV.out);rw [hi] at HID;clear hi hp hg2;go_wp2_with fail;refine (HID.out _ HG2'.out).mono ?_;rintro e w3 ⟨hg3, ci, t3, u3, rfl, hi3, hres3⟩;obtain ⟨hu3, rfl⟩ : some i = some u3 ∧ t3 = true := by
    rcases hres3 with h | ⟨h, -⟩
    ·exact h
    cases h
   injection hu3 with hu3;subst hu3;clear hres3 HID;have HG3 := hide (HG2'.out.trans hg3);have HU3 := hide (HU2.out.grow hg3);have hcu3 := HU3.out.cell;have hlu3 := HU3.out.lt;have HIU3 := hide (HIU.out.grow (((Grow.refl w2).alloc (.cells cu.cells 27)).trans hg3));have HI3 := hide (hi3.grow HG3.out);have HGI := hide ((Grow.refl w3).alloc (.cells ci.cells 27));have HI4 := hide (Blk.new w3 27 ci.cells);have hci4 := HI4.out.cell;have HU4 := hide (HU3.out.alloc (.cells ci.cells 27));have hcu4 := HU4.out.cell;clear hcb hcu hg3 hi3 hc2 hl2;have HR := hide (InL.row2 (HIU3.out.grow HGI.out) (HI3.out.grow HGI.out));have hR := HI4.out.lt;have hBo := boolsO2 ((w3.alloc (.cells ci.cells 27)).alloc (.cells (cells2 cu ci) 27)) false false;have hgB := ((Grow.refl ((w3.alloc (.cells ci.cells 27)))).alloc (.cells (cells2 cu ci) 27))
   have hgC := (hgB.trans (Grow.refl _)).alloc (.cells #[.bool false, .bool false] 4);have hmu := V.mild_of (Nat.le_trans (pathV_count HP.out) hcount) HIU3.out;have hmi := V.mild_of (Nat.le_trans (idP_count HI.out) hcount) HI3.out;have hR2 := HR.out.grow ((Grow.refl _).alloc (.cells #[.bool false, .bool false] 4));have hal := all_anyM [u, i] [false, false] _ _ 2 2 _ (fun y hy => by
    rcases List.mem_cons.1 hy with rfl | hy
    ·exact hmu
    rw [List.mem_singleton] at hy; subst hy; exact hmi) (HT.out.grow ((HG3.out.trans HGI.out).trans hgC)) hR2 hBo (by simp)
   simp only [World.size_alloc] at hal;obtain ⟨⟨ab, ae⟩, hae⟩ : ∃ r, allK [u, i] [false, false] = r := ⟨_, rfl⟩;rw [hae] at hal;have HAL := hide hal;have HAE := hide hae;have HG4 := hide ((HG3.out.trans HGI.out).trans hgC);clear hal hae hR2 hBo hgB hgC hmu hmi HR;go_wp2_with fail;refine HAL.out.mono ?_;rintro e w4 ⟨base, A4, c4, rfl, hb4, hr4, hg4⟩;dsimp only at hr4 ⊢;have HG5 := hide (HG4.out.trans hg4);have HB4 := hide (Nat.le_trans HG4.out.size hb4);have HR4 := hide hr4;clear hg4 hb4 hr4;by_cases he : ae = 0
   ·subst he;go_wp2_with fail;go_ret3;rw [show entryP x.path v = (ab, true, 0) by unfold entryP; rw [HKE.out, if_neg (by simp), HP.out]; simp only [HI.out, Option.getD_some, HAE.out]; rfl];exact ⟨base, A4, c4, rfl, HB4.out, HR4.out, HG5.out⟩
   go_wp2_with fail;go_ret3;rw [show entryP x.path v = ([], false, ae) by unfold entryP; rw [HKE.out, if_neg (by simp), HP.out]; simp only [HI.out, Option.getD_some, HAE.out]; rw [if_pos he]];exact EntC.bad HG5.out
  go_wp2_with fail;go_ret3;rw [show entryP x.path v = ([], false, 0) by unfold entryP; rw [HKE.out, if_neg (by simp), hp]];exact EntC.bad HG2'.out
 go_wp2_with fail;go_ret3;rw [show entryP x.path v = ([], false, ke) by unfold entryP; rw [HKE.out, if_pos h0]];exact EntC.bad HG1.out
end
section
open Go.RowKit
def entOf (path : ByteArray) (d : V) : Option (List UInt8 × Int × V) :=
 if (entryP path d).2.1 then some ((entryP path d).1, ((entryP path d).1.length : Int) - ((ofK ((idP d).getD V.zero)).1.length : Int), d) else none
def entsE (path : ByteArray) : List V → Int
 | [] => 0
 | d :: r => if (entryP path d).2.2 ≠ 0 then (entryP path d).2.2 else entsE path r
def entsL (path : ByteArray) (docs : List V) : List (List UInt8 × Int × V) := docs.filterMap (entOf path)
theorem entsE_zero {path : ByteArray} : ∀ {docs : List V}, (∀ j (h : j < docs.length), (entryP path docs[j]).2.2 = 0) → entsE path docs = 0
 | [], h => rfl
 | d :: r, h => by
  rw [entsE, if_neg (by have := h 0 (by simp); simpa using this)];exact entsE_zero fun j hj => by have := h (j + 1) (by simpa using hj); simpa using this
theorem entsE_first {path : ByteArray} : ∀ {docs : List V} {j : Nat} (hj : j < docs.length), (∀ i (h : i < docs.length), i < j → (entryP path docs[i]).2.2 = 0) → (entryP path docs[j]).2.2 ≠ 0 → entsE path docs = (entryP path docs[j]).2.2
 | d :: r, 0, hj, h, he => by rw [entsE, if_pos (by simpa using he)]; rfl
 | d :: r, j + 1, hj, h, he => by
  rw [entsE, if_neg (by have := h 0 (by simp) (by omega); simpa using this)];exact entsE_first (docs := r) (j := j) (by simpa using hj) (fun i hi hij => by have := h (i + 1) (by simpa using hi) (by omega); simpa using this) (by simpa using he)
theorem entsL_snoc {path : ByteArray} {docs : List V} {j : Nat} (hj : j < docs.length) : entsL path (docs.take (j + 1)) = entsL path (docs.take j) ++ (entOf path docs[j]).toList := by
 unfold entsL;rw [List.take_add_one, List.getElem?_eq_getElem hj, List.filterMap_append]
 cases h : entOf path docs[j] <;> simp [h]
end
section
open Go.RowKit
theorem atc_any (c : Cc) (s : ByteArray) (w : World) : Calls Tryz.prog 163 #[.agg c.cells, .string s] w fun e w' => e = .returned (.int .i64 (Lib.compareBytes c.nm.data.toList s.data.toList)) ∧ Grow w w' := by
 have HS := hide (fun w => scmp_any c.nm s w);have HG := hide ((Grow.refl w).alloc (.cells c.cells 48));go_enter Tryz.func163, Tryz.ntmps163;go_wp2_with (go_at_call 97; refine (HS.out _).mono ?_; rintro e w' ⟨rfl, rfl⟩);go_ret;exact ⟨rfl, HG.out⟩
theorem ixc_any (c : Ix) (s : ByteArray) (w : World) : Calls Tryz.prog 171 #[.agg c.cells, .string s] w fun e w' => e = .returned (.int .i64 (Lib.compareBytes c.name.data.toList s.data.toList)) ∧ Grow w w' := by
 have HS := hide (fun w => scmp_any c.name s w);have HG := hide ((Grow.refl w).alloc (.cells c.cells 64));go_enter Tryz.func171, Tryz.ntmps171;go_wp2_with (go_at_call 97; refine (HS.out _).mono ?_; rintro e w' ⟨rfl, rfl⟩);go_ret;exact ⟨rfl, HG.out⟩
theorem docc_any (v : V) (c : Cv) (k : List UInt8) (K : Option Addr) (kc : Nat) (w : World) (hcount : v.count ≤ 20000) (hT : Tabs w) (hv : In w v c) (hk : InB w K k) : Calls Tryz.prog 167 #[c.agg, .slice K k.length kc] w fun e w' => e = .returned (.int .i64 (Lib.compareBytes (keyP v).1 k)) ∧ Grow w w' := by
 have HG0 := hide ((Grow.refl w).alloc (.cells c.cells 27));have hcell := (Blk.new w 27 c.cells).cell;have HKEY := hide (pkey_any v c _ hcount (hT.grow HG0.out) (hv.grow HG0.out));have HK := hide hk;obtain ⟨⟨kb, ke⟩, hke⟩ : ∃ r, keyP v = r := ⟨_, rfl⟩;rw [hke] at HKEY ⊢;clear hT hv hk hke;go_enter Tryz.func167, Tryz.ntmps167;go_wp2_with fail;refine HKEY.out.mono ?_;rintro e w1 ⟨base, A1, c1, rfl, hb1, hr1, hg1⟩;dsimp only at hr1 ⊢;have HG1 := hide (HG0.out.trans hg1);have HC := hide (balg_anyV kb k A1 K c1 kc w1 hr1.reads.1 (HK.out.grow HG1.out));clear hr1 hg1 hb1 hcell;go_wp2_with fail;refine HC.out.mono ?_;rintro e w2 ⟨rfl, rfl⟩;go_wp2_with fail;go_ret;exact ⟨rfl, HG1.out⟩
def nameCf (names : Nat → ByteArray) (s : ByteArray) (j : Nat) : Int := Lib.compareBytes (names j).data.toList s.data.toList
end
section
open Go.RowKit
def docCf (docs : List V) (k : List UInt8) (j : Nat) : Int := Lib.compareBytes (keyP (docs.getD j V.zero)).1 k
theorem InL.rows {w : World} {A : Option Addr} {cap : Nat} {docs : List V} (h : InL w A cap docs) : ∃ el : Nat → Cv, RowR w A 5 docs.length (fun j => (el j).cells) ∧ ∀ j (hj : j < docs.length), In w docs[j] (el j) := by
 have hx : ∀ j, ∃ x : Cv, ∀ hj : j < docs.length, ∃ bk o, A = some ⟨bk, o, none⟩ ∧ bk < w.heap.size ∧ (∀ i v, x.cells[i]? = some v → w.cell? ⟨bk, o + j * 5 + i, none⟩ = some v) ∧ In w docs[j] x := fun j => by
  by_cases hj : j < docs.length
  ·obtain ⟨bk, o, x, ha, hb, e0, e1, e2, e3, e4, hv⟩ := InU.elemL h j hj;refine ⟨x, fun _ => ⟨bk, o, ha, hb, fun i v hi => ?_, hv⟩⟩;rcases i with _ | _ | _ | _ | _ | i
   ·cases hi; exact e0
   ·cases hi; exact e1
   ·cases hi; exact e2
   ·cases hi; exact e3
   ·cases hi; exact e4
   simp at hi
  exact ⟨Cv.zero, fun h => absurd h hj⟩
 refine ⟨fun j => Classical.choose (hx j), fun j hj => ?_, fun j hj => ?_⟩
 ·obtain ⟨bk, o, ha, hb, hc, -⟩ := Classical.choose_spec (hx j) hj;exact ⟨bk, o, ha, hb, hc⟩
 obtain ⟨bk, o, ha, hb, hc, hv⟩ := Classical.choose_spec (hx j) hj;exact hv
theorem doc_any (docs : List V) (pb po cap : Nat) (A : Option Addr) (k : List UInt8) (K : Option Addr) (kc : Nat) (w : World) (hcount : ∀ v ∈ docs, v.count ≤ 20000) (hlen : docs.length ≤ 140737488355328) (hT : Tabs w) (hc : w.cell? ⟨pb, po + 1, none⟩ = some (.slice A docs.length cap)) (hpb : pb < w.heap.size) (hd : InL w A cap docs) (hk : InB w K k) :
 Calls Tryz.prog 120 #[.pointer (some ⟨pb, po, none⟩), .slice K k.length kc] w fun e w' => e = .returned (.tuple #[.int .i64 (bsN (docCf docs k) docs.length : Nat), .bool (bsF (docCf docs k) docs.length)]) ∧ Grow w w' := by
 obtain ⟨el, hrow, hin⟩ := hd.rows;have HBS := hide (bsV_any docs.length (docCf docs k) el A cap (.slice K k.length kc) w hlen hrow (fun j hj w' hg => by
  have h := docc_any docs[j] (el j) k K kc w' (hcount _ (List.getElem_mem hj)) (hT.grow hg) ((hin j hj).grow hg) (hk.grow hg);unfold docCf;rw [List.getD_eq_getElem?_getD, List.getElem?_eq_getElem hj, Option.getD_some];exact h))
 clear hrow hin hd hk hT hcount;go_enter Tryz.func120, Tryz.ntmps120;go_wp2_with fail;refine HBS.out.mono ?_;rintro e w2 ⟨rfl, hg⟩;have HG := hide hg;clear hg;go_wp2_with fail;go_ret2;exact ⟨rfl, HG.out⟩
end
section
open Go.RowKit
structure Co where
 name : ByteArray
 docs : List V
 ixs : List Ix
def plN (names : List ByteArray) (s : ByteArray) : Nat := bsN (nameCf (fun j => names.getD j ⟨#[]⟩) s) names.length
def plF (names : List ByteArray) (s : ByteArray) : Bool := bsF (nameCf (fun j => names.getD j ⟨#[]⟩) s) names.length
def docN (docs : List V) (k : List UInt8) : Nat := bsN (docCf docs k) docs.length
def docF (docs : List V) (k : List UInt8) : Bool := bsF (docCf docs k) docs.length
abbrev EN := List UInt8 × Int × V
def insE (x : EN) : List EN → List EN
 | [] => [x]
 | y :: r => if ltB y.1 x.1 then y :: insE x r else x :: y :: r
def sortE (l : List EN) : List EN := l.foldl (fun a x => insE x a) []
def entP (path : ByteArray) (docs : List V) : List EN := if entsE path docs = 0 then sortE (entsL path docs) else []
def twiceP : List EN → Bool
 | a :: b :: r => decide (a.1.take a.2.1.toNat = b.1.take b.2.1.toNat) || twiceP (b :: r)
 | _ => false
def ixsE (d : V) : List Ix → Int
 | [] => 0
 | x :: r => if (entryP x.path d).2.2 ≠ 0 then (entryP x.path d).2.2 else ixsE d r
def clashP (docs : List V) : List Ix → Bool
 | [] => false
 | x :: r => (x.uniq && twiceP (entP x.path docs)) || clashP docs r
abbrev Res := Except Int (List Co × Int × List V)
abbrev cnm (st : List Co) : List ByteArray := st.map Co.name
abbrev xnm (c : Co) : List ByteArray := c.ixs.map Ix.name
def coAt (st : List Co) (s : ByteArray) : Co := st.getD (plN (cnm st) s) ⟨⟨#[]⟩, [], []⟩
def insAt {α : Type} (l : List α) (i : Nat) (x : α) : List α := l.take i ++ x :: l.drop i
def delAt {α : Type} (l : List α) (i : Nat) : List α := l.take i ++ l.drop (i + 1)
def makeP (st : List Co) (q : Rq) : Res :=
 if V.name q.coll = false then .error 4 else if plF (cnm st) q.coll = true then .error 6 else if 16 ≤ st.length then .error 19 else
 .ok (insAt st (plN (cnm st) q.coll) ⟨q.coll, [], []⟩, 0, [])
def dropP (st : List Co) (q : Rq) : Res :=
 if plF (cnm st) q.coll = false then .error 5 else .ok (delAt st (plN (cnm st) q.coll), 0, [])
def putDocs (docs : List V) (d : V) : List V :=
 if docF docs (keyP d).1 = true then docs.set (docN docs (keyP d).1) d else insAt docs (docN docs (keyP d).1) d
def putP (st : List Co) (q : Rq) : Res :=
 if plF (cnm st) q.coll = false then .error 5 else if (keyP q.doc).2 ≠ 0 then .error (keyP q.doc).2 else
 if ixsE q.doc (coAt st q.coll).ixs ≠ 0 then .error (ixsE q.doc (coAt st q.coll).ixs) else
 if docF (coAt st q.coll).docs (keyP q.doc).1 = true ∧ q.do_ ≠ 3 then .error 6 else
 if clashP (putDocs (coAt st q.coll).docs q.doc) (coAt st q.coll).ixs = true then .error 13 else
 .ok (st.set (plN (cnm st) q.coll) ⟨(coAt st q.coll).name, putDocs (coAt st q.coll).docs q.doc, (coAt st q.coll).ixs⟩,
  if docF (coAt st q.coll).docs (keyP q.doc).1 = true then 1 else 0, [])
def takeP (st : List Co) (q : Rq) : Res :=
 if plF (cnm st) q.coll = false then .error 5 else if (ofK q.key).2 ≠ 0 then .error (ofK q.key).2 else
 if docF (coAt st q.coll).docs (ofK q.key).1 = false then .error 17 else
 .ok (st.set (plN (cnm st) q.coll) ⟨(coAt st q.coll).name, delAt (coAt st q.coll).docs (docN (coAt st q.coll).docs (ofK q.key).1), (coAt st q.coll).ixs⟩,
  0, [(coAt st q.coll).docs.getD (docN (coAt st q.coll).docs (ofK q.key).1) V.zero])
def getP (st : List Co) (q : Rq) : Res :=
 if plF (cnm st) q.coll = false then .error 5 else if (ofK q.key).2 ≠ 0 then .error (ofK q.key).2 else
 if docF (coAt st q.coll).docs (ofK q.key).1 = false then .error 17 else
 .ok (st, 0, [(coAt st q.coll).docs.getD (docN (coAt st q.coll).docs (ofK q.key).1) V.zero])
def addIxP (st : List Co) (q : Rq) : Res :=
 if V.name q.index = false then .error 4 else if 200 < q.path.size then .error 2 else if plF (cnm st) q.coll = false then .error 5 else
 if plF (xnm (coAt st q.coll)) q.index = true then .error 6 else if 8 ≤ (coAt st q.coll).ixs.length then .error 19 else
 if entsE q.path (coAt st q.coll).docs ≠ 0 then .error (entsE q.path (coAt st q.coll).docs) else
 if q.unique = true ∧ twiceP (entP q.path (coAt st q.coll).docs) = true then .error 13 else
 .ok (st.set (plN (cnm st) q.coll) ⟨(coAt st q.coll).name, (coAt st q.coll).docs, insAt (coAt st q.coll).ixs (plN (xnm (coAt st q.coll)) q.index) ⟨q.index, q.path, q.unique⟩⟩, 0, [])
def unIxP (st : List Co) (q : Rq) : Res :=
 if plF (cnm st) q.coll = false then .error 5 else if plF (xnm (coAt st q.coll)) q.index = false then .error 5 else
 .ok (st.set (plN (cnm st) q.coll) ⟨(coAt st q.coll).name, (coAt st q.coll).docs, delAt (coAt st q.coll).ixs (plN (xnm (coAt st q.coll)) q.index)⟩, 0, [])
def countP (st : List Co) (q : Rq) : Res :=
 if plF (cnm st) q.coll = false then .error 5 else .ok (st, (coAt st q.coll).docs.length, [])
def bndE (v : V) : Int := if v.k = 0 then 0 else v.good
def findV (q : Rq) (path : ByteArray) (d : V) : V := if q.index = ⟨#[]⟩ then (idP d).getD V.zero else (pathV d path).getD V.zero
def findX (c : Co) (q : Rq) : ByteArray := (c.ixs.getD (plN (xnm c) q.index) ⟨⟨#[]⟩, ⟨#[]⟩, false⟩).path
def findDocs (c : Co) (q : Rq) : List V := if q.index = ⟨#[]⟩ then c.docs else (entP (findX c q) c.docs).map fun x => x.2.2
noncomputable def findHits (c : Co) (q : Rq) : List V := ((findDocs c q).filter fun d => withinP (findV q (findX c q) d) q.low q.high).take q.n.toNat
noncomputable def findP (st : List Co) (q : Rq) : Res :=
 if plF (cnm st) q.coll = false then .error 5 else if plF (xnm (coAt st q.coll)) q.index = false ∧ q.index ≠ ⟨#[]⟩ then .error 5 else
 if q.n < 1 ∨ 64 < q.n then .error 1 else if bndE q.low ≠ 0 then .error (bndE q.low) else if bndE q.high ≠ 0 then .error (bndE q.high) else
 .ok (st, ((findHits (coAt st q.coll) q).length : Int), findHits (coAt st q.coll) q)
noncomputable def actP (st : List Co) (q : Rq) : Res :=
 if q.do_ = 1 then makeP st q else if q.do_ = 2 then dropP st q else if q.do_ = 3 then putP st q else if q.do_ = 4 then putP st q else if q.do_ = 5 then takeP st q else
 if q.do_ = 6 then getP st q else if q.do_ = 7 then addIxP st q else if q.do_ = 8 then unIxP st q else if q.do_ = 9 then findP st q else if q.do_ = 10 then countP st q else .error 1
noncomputable def doP (st : List Co) (q : Rq) : List Co × Rp :=
 match actP st q with
 | .error e => (st, ⟨e, 0, [], 0⟩)
 | .ok (st', n, docs) => (st', ⟨0, n, docs, 0⟩)
end
section
open Go.RowKit Go.Shelf
theorem cmpB_vals : ∀ (a b : List UInt8), Lib.compareBytes a b = -1 ∨ Lib.compareBytes a b = 0 ∨ Lib.compareBytes a b = 1 := fun a b => by
 fun_induction Lib.compareBytes a b <;> simp_all
theorem cmpB_trans : ∀ (a b c : List UInt8), Lib.compareBytes a b ≤ 0 → Lib.compareBytes b c ≤ 0 → Lib.compareBytes a c ≤ 0 ∧ (Lib.compareBytes a b < 0 → Lib.compareBytes a c < 0)
 | [], [], c, _, h => ⟨h, fun h => by simp [Lib.compareBytes] at h⟩
 | [], _ :: _, [], _, h => by simp [Lib.compareBytes] at h
 | [], _ :: _, _ :: _, _, _ => by simp [Lib.compareBytes]
 | _ :: _, [], _, h, _ => by simp [Lib.compareBytes] at h
 | _ :: _, _ :: _, [], _, h => by simp [Lib.compareBytes] at h
 | x :: a, y :: b, z :: c, h, k => by
  rw [Lib.compareBytes] at h k ⊢;simp only [UInt8.lt_iff_toNat_lt] at h k ⊢;rw [Lib.compareBytes];simp only [UInt8.lt_iff_toNat_lt];by_cases h1 : x.toNat < y.toNat
  ·by_cases k1 : y.toNat < z.toNat
   ·rw [if_pos (show x.toNat < z.toNat by omega)]; exact ⟨by decide, fun _ => by decide⟩
   rw [if_neg k1] at k;by_cases k2 : z.toNat < y.toNat
   ·rw [if_pos k2] at k; exact absurd k (by decide)
   rw [if_pos (show x.toNat < z.toNat by omega)]; exact ⟨by decide, fun _ => by decide⟩
  rw [if_neg h1] at h ⊢;by_cases h2 : y.toNat < x.toNat
  ·rw [if_pos h2] at h; exact absurd h (by decide)
  rw [if_neg h2] at h ⊢;by_cases k1 : y.toNat < z.toNat
  ·rw [if_pos (show x.toNat < z.toNat by omega)]; exact ⟨by decide, fun _ => by decide⟩
  rw [if_neg k1] at k;by_cases k2 : z.toNat < y.toNat
  ·rw [if_pos k2] at k; exact absurd k (by decide)
  rw [if_neg k2] at k;rw [if_neg (show ¬ x.toNat < z.toNat by omega), if_neg (show ¬ z.toNat < x.toNat by omega)];exact cmpB_trans a b c h k
structure Fine (u : V) : Prop where
 formed : u.formed = true
 fit : u.fit
namespace V
theorem cmp_bytes {u v : V} (hu : Fine u) (hv : Fine v) : cmp u v = Lib.compareBytes u.key v.key := by
 rcases key_diff u v hu.formed hu.fit hv.formed hv.fit with ⟨rfl, h⟩ | h
 ·rw [h, cmpB_self]
 exact h.cmp.symm
theorem cmp_eq0 {u v : V} (hu : Fine u) (hv : Fine v) : cmp u v = 0 ↔ u = v := by
 rcases key_diff u v hu.formed hu.fit hv.formed hv.fit with ⟨rfl, h⟩ | h
 ·exact ⟨fun _ => rfl, fun _ => h⟩
 exact ⟨fun e => absurd e h.ne0, fun e => by subst e; exact h.irrefl.elim⟩
theorem cmp_swap {u v : V} (hu : Fine u) (hv : Fine v) : cmp v u = -(cmp u v) := by
 rcases key_diff u v hu.formed hu.fit hv.formed hv.fit with ⟨rfl, h⟩ | h
 ·rw [h]; rfl
 rcases key_diff v u hv.formed hv.fit hu.formed hu.fit with ⟨rfl, h'⟩ | h'
 ·exact h.irrefl.elim
 exact h'.uniq h.swap
end V
namespace V
structure Keyed (v : V) : Prop extends Fine v where
 good : v.good = 0
 short : v.key.length ≤ 96
theorem Keyed.of {v : V} (h : (ofK v).2 = 0) (hf : v.fit) : Keyed v := by
 obtain ⟨h1, h2⟩ := ofK_good h;exact ⟨⟨(good_parts h1).1, hf⟩, h1, h2⟩
theorem Keyed.ofK {v : V} (h : Keyed v) : ofK v = (v.key, 0) := by
 have := h.short;unfold Proofs.YtndjopkdbdcmdaaGreatDoor.ofK; rw [if_neg (by rw [h.good]; simp), if_neg (by omega)]
def sgnC (t : Bool) (c : Int) : Int := if t = true then -c else c
theorem way_diff (t : Bool) {u v : V} (hu : Fine u) (hv : Fine v) : (u = v ∧ cmp u v = 0) ∨ Diff (sgnC t (cmp u v)) (flip t u.key) (flip t v.key) := by
 rcases key_diff u v hu.formed hu.fit hv.formed hv.fit with h | h
 ·exact .inl h
 right;unfold flip sgnC
 cases t
 ·exact h
 exact h.flip
theorem two_cmp (s t : Bool) {a b c d : V} (ha : Fine a) (hb : Fine b) (hc : Fine c) (hd : Fine d) :
 Lib.compareBytes (flip s a.key ++ flip t b.key) (flip s c.key ++ flip t d.key) = orC (sgnC s (cmp a c)) (sgnC t (cmp b d)) := by
 have h0 : ∀ s, sgnC s 0 = 0 := by intro s; cases s <;> rfl
 rcases way_diff s ha hc with ⟨rfl, h⟩ | h
 ·rw [h, h0, orC_0, cmpB_left];rcases way_diff t hb hd with ⟨rfl, h⟩ | h
  ·rw [h, h0, cmpB_self]
  exact h.cmp
 rw [orC_n _ h.ne0];exact (h.right _ _).cmp
end V
end
section
open Go.RowKit
theorem bsG_eq {cf : Nat → Int} {n p : Nat} (h1 : ∀ j, j < p → cf j < 0) (h2 : ∀ j, p ≤ j → j < n → 0 ≤ cf j) : ∀ (g i j : Nat), j - i ≤ g → i ≤ p → p ≤ j → j ≤ n → bsG cf g i j = p
 | 0, i, j, hg, hi, hj, hn => by rw [bsG]; omega
 | g + 1, i, j, hg, hi, hj, hn => by
  rw [bsG];split
  ·rename_i hij;split
   ·rename_i hc;have hp : (i + j) / 2 < p := by
     rcases Nat.lt_or_ge ((i + j) / 2) p with h | h
     ·exact h
     have := h2 _ h (by omega); omega
    exact bsG_eq h1 h2 g _ j (by omega) (by omega) hj hn
   rename_i hc;have hp : p ≤ (i + j) / 2 := by
    rcases Nat.lt_or_ge ((i + j) / 2) p with h | h
    ·exact absurd (h1 _ h) hc
    exact h
   exact bsG_eq h1 h2 g i _ (by omega) hi hp (by omega)
  omega
theorem bsN_eq {cf : Nat → Int} {n p : Nat} (hp : p ≤ n) (h1 : ∀ j, j < p → cf j < 0) (h2 : ∀ j, p ≤ j → j < n → 0 ≤ cf j) : bsN cf n = p := bsG_eq h1 h2 n 0 n (by omega) (Nat.zero_le _) hp (Nat.le_refl _)
theorem bsG_congr {cf cg : Nat → Int} {n : Nat} (h : ∀ j, j < n → cf j = cg j) : ∀ (g i j : Nat), j ≤ n → bsG cf g i j = bsG cg g i j
 | 0, i, j, hj => rfl
 | g + 1, i, j, hj => by
  rw [bsG, bsG];split
  ·rw [h _ (by omega), bsG_congr h g _ j hj, bsG_congr h g i _ (by omega)]
  rfl
theorem bsN_congr {cf cg : Nat → Int} {n : Nat} (h : ∀ j, j < n → cf j = cg j) : bsN cf n = bsN cg n := bsG_congr h n 0 n (Nat.le_refl _)
theorem bsF_congr {cf cg : Nat → Int} {n : Nat} (h : ∀ j, j < n → cf j = cg j) : bsF cf n = bsF cg n := by
 unfold bsF;rw [bsN_congr h];by_cases hn : bsN cg n < n
 ·rw [h _ hn]
 simp [hn]
theorem ltB_asymm {a b : List UInt8} (h : ltB a b = true) : ltB b a = false := by
 rcases Bool.eq_false_or_eq_true (ltB b a) with k | k
 ·have := ltB_trans a b a h k; rw [ltB_irrefl] at this; cases this
 exact k
theorem ltB_neg {a b : List UInt8} : ltB a b = true ↔ Lib.compareBytes a b < 0 := by simp [ltB]
theorem cmpB_zero {a b : List UInt8} : Lib.compareBytes a b = 0 ↔ a = b := by
 constructor
 ·intro h;refine ltB_total a b (by simp [ltB, h]) ?_;rcases Bool.eq_false_or_eq_true (ltB b a) with k | k
  ·rw [ltB_neg] at k;have := (cmpB_trans b a b (by omega) (by omega)).2 k;have h2 := ltB_irrefl b;simp [ltB] at h2; omega
  exact k
 rintro rfl;have h := ltB_irrefl a;rcases cmpB_vals a a with e | e | e
 ·simp [ltB, e] at h
 ·exact e
 exfalso
 induction a with
 | nil => simp [Lib.compareBytes] at e
 | cons x a ih => rw [Lib.compareBytes] at e; simp at e; exact ih (ltB_irrefl a) e
def Rise (l : List (List UInt8)) : Prop := l.Pairwise fun a b => ltB a b = true
def lessN (keys : List (List UInt8)) (k : List UInt8) : Nat := keys.countP fun x => ltB x k
def kN (keys : List (List UInt8)) (k : List UInt8) : Nat := bsN (fun j => Lib.compareBytes (keys.getD j []) k) keys.length
def kF (keys : List (List UInt8)) (k : List UInt8) : Bool := bsF (fun j => Lib.compareBytes (keys.getD j []) k) keys.length
theorem Rise.lt {l : List (List UInt8)} (h : Rise l) {i j : Nat} (hij : i < j) (hj : j < l.length) : ltB (l[i]'(by omega)) l[j] = true := (List.pairwise_iff_getElem.1 h) i j (by omega) hj hij
theorem lessN_le (keys : List (List UInt8)) (k : List UInt8) : lessN keys k ≤ keys.length := List.countP_le_length
theorem less_iff : ∀ {keys : List (List UInt8)} {k : List UInt8}, Rise keys → ∀ {j : Nat} (hj : j < keys.length), j < lessN keys k ↔ ltB keys[j] k = true
 | [], k, h, j, hj => by simp at hj
 | x :: r, k, h, j, hj => by
  have hr : Rise r := (List.pairwise_cons.1 h).2;have hx := (List.pairwise_cons.1 h).1;by_cases hxk : ltB x k = true
  ·have e : lessN (x :: r) k = lessN r k + 1 := by unfold lessN; rw [List.countP_cons_of_pos (by simpa using hxk)]
   rw [e];rcases j with _ | j
   ·simp [hxk]
   have := less_iff (k := k) hr (j := j) (by simpa using hj);simp only [List.getElem_cons_succ];rw [← this]; omega
  have e : lessN (x :: r) k = 0 := by
   unfold lessN;rw [List.countP_eq_zero];intro y hy hyk;rcases List.mem_cons.1 hy with rfl | hy
   ·exact hxk hyk
   exact hxk (ltB_trans x y k (hx y hy) hyk)
  rw [e];constructor
  ·intro h0; omega
  intro h0;exfalso;have : (x :: r)[j] ∈ x :: r := List.getElem_mem _;rcases List.mem_cons.1 this with e1 | e1
  ·rw [e1] at h0; exact hxk h0
  exact hxk (ltB_trans _ _ _ (hx _ e1) h0)
theorem kN_eq {keys : List (List UInt8)} {k : List UInt8} (h : Rise keys) : kN keys k = lessN keys k := by
 refine bsN_eq (lessN_le _ _) (fun j hj => ?_) (fun j hj hn => ?_)
 ·have hl : j < keys.length := Nat.lt_of_lt_of_le hj (lessN_le _ _);rw [List.getD_eq_getElem?_getD, List.getElem?_eq_getElem hl, Option.getD_some];exact ltB_neg.1 ((less_iff h hl).1 hj)
 rw [List.getD_eq_getElem?_getD, List.getElem?_eq_getElem hn, Option.getD_some];have : ¬ ltB keys[j] k = true := fun hc => by have := (less_iff h hn).2 hc; omega
 rw [ltB_neg] at this;omega
theorem kF_iff {keys : List (List UInt8)} {k : List UInt8} (h : Rise keys) : kF keys k = true ↔ k ∈ keys := by
 unfold kF bsF;rw [show bsN (fun j => Lib.compareBytes (keys.getD j []) k) keys.length = lessN keys k from kN_eq h];simp only [Bool.and_eq_true, decide_eq_true_eq, beq_iff_eq];constructor
 ·rintro ⟨h1, h2⟩;rw [List.getD_eq_getElem?_getD, List.getElem?_eq_getElem h1, Option.getD_some, cmpB_zero] at h2;rw [← h2]; exact List.getElem_mem _
 intro hm;obtain ⟨j, hj, e⟩ := List.getElem_of_mem hm;have hle : lessN keys k = j := by
  have h1 : ¬ j < lessN keys k := fun hc => by have := (less_iff h hj).1 hc; rw [e, ltB_irrefl] at this; cases this
  rcases Nat.lt_or_ge (lessN keys k) j with h2 | h2
  ·have h3 : ltB (keys[lessN keys k]'(by omega)) k = true := by have h4 := h.lt h2 hj; rwa [e] at h4
   have := (less_iff h (by omega)).2 h3; omega
  omega
 rw [hle];refine ⟨hj, ?_⟩;rw [List.getD_eq_getElem?_getD, List.getElem?_eq_getElem hj, Option.getD_some, e, cmpB_zero]
theorem kF_at {keys : List (List UInt8)} {k : List UInt8} (h : kF keys k = true) : keys[kN keys k]? = some k := by
 unfold kF bsF at h;simp only [Bool.and_eq_true, decide_eq_true_eq, beq_iff_eq] at h;obtain ⟨h1, h2⟩ := h;unfold kN;rw [List.getD_eq_getElem?_getD, List.getElem?_eq_getElem h1, Option.getD_some, cmpB_zero] at h2;rw [List.getElem?_eq_getElem h1, h2]
abbrev nmB (names : List ByteArray) : List (List UInt8) := names.map fun s => s.data.toList
theorem nmB_getD (names : List ByteArray) (j : Nat) : (names.getD j ⟨#[]⟩).data.toList = (nmB names).getD j [] := by
 rw [List.getD_eq_getElem?_getD, List.getD_eq_getElem?_getD, List.getElem?_map]
 cases names[j]? <;> rfl
theorem plN_k (names : List ByteArray) (s : ByteArray) : plN names s = kN (nmB names) s.data.toList := by
 unfold plN kN nameCf;rw [List.length_map];exact bsN_congr fun j _ => by rw [nmB_getD]
theorem plF_k (names : List ByteArray) (s : ByteArray) : plF names s = kF (nmB names) s.data.toList := by
 unfold plF kF nameCf;rw [List.length_map];exact bsF_congr fun j _ => by rw [nmB_getD]
abbrev dkB (docs : List V) : List (List UInt8) := docs.map fun d => (keyP d).1
theorem dkB_getD (docs : List V) {j : Nat} (h : j < docs.length) : (keyP (docs.getD j V.zero)).1 = (dkB docs).getD j [] := by
 rw [List.getD_eq_getElem?_getD, List.getD_eq_getElem?_getD, List.getElem?_map, List.getElem?_eq_getElem h]; rfl
theorem docN_k (docs : List V) (k : List UInt8) : docN docs k = kN (dkB docs) k := by
 unfold docN kN;rw [List.length_map];exact bsN_congr fun j h => by unfold docCf; rw [dkB_getD docs h]
theorem docF_k (docs : List V) (k : List UInt8) : docF docs k = kF (dkB docs) k := by
 unfold docF kF;rw [List.length_map];exact bsF_congr fun j h => by unfold docCf; rw [dkB_getD docs h]
theorem byteArray_inj {a b : ByteArray} (h : a.data.toList = b.data.toList) : a = b := by
 cases a; cases b; simp only [ByteArray.mk.injEq]; exact Array.toList_inj.1 h
theorem mem_nmB {names : List ByteArray} {s : ByteArray} : s.data.toList ∈ nmB names ↔ s ∈ names := by
 rw [List.mem_map];constructor
 ·rintro ⟨x, hx, e⟩; rw [← byteArray_inj e]; exact hx
 intro h; exact ⟨s, h, rfl⟩
theorem plF_iff {names : List ByteArray} (h : Rise (nmB names)) (s : ByteArray) : plF names s = true ↔ s ∈ names := by rw [plF_k, kF_iff h, mem_nmB]
theorem plF_at {names : List ByteArray} {s : ByteArray} (h : plF names s = true) : names[plN names s]? = some s := by
 rw [plF_k] at h;have := kF_at h;rw [← plN_k, List.getElem?_map] at this
 cases hx : names[plN names s]? with
 | none => rw [hx] at this; cases this
 | some y => rw [hx] at this; injection this with this; rw [byteArray_inj this]
theorem plF_lt {names : List ByteArray} {s : ByteArray} (h : plF names s = true) : plN names s < names.length := (List.getElem?_eq_some_iff.1 (plF_at h)).1
theorem plN_le (names : List ByteArray) (s : ByteArray) : plN names s ≤ names.length := bsN_le _ _
theorem docN_le (docs : List V) (k : List UInt8) : docN docs k ≤ docs.length := bsN_le _ _
theorem docF_lt {docs : List V} {k : List UInt8} (h : docF docs k = true) : docN docs k < docs.length := by
 unfold docF bsF at h;simp only [Bool.and_eq_true, decide_eq_true_eq] at h;exact h.1
theorem Rise.ins {keys : List (List UInt8)} {k : List UInt8} (h : Rise keys) (hk : k ∉ keys) : Rise (insAt keys (kN keys k) k) := by
 rw [kN_eq h, insAt];have hlt : ∀ x ∈ keys.take (lessN keys k), ltB x k = true := fun x hx => by
  obtain ⟨j, hj, e⟩ := List.getElem_of_mem hx;rw [List.length_take] at hj;rw [List.getElem_take] at e;rw [← e]; exact (less_iff h (by omega)).1 (by omega)
 have hgt : ∀ x ∈ keys.drop (lessN keys k), ltB k x = true := fun x hx => by
  obtain ⟨j, hj, e⟩ := List.getElem_of_mem hx;rw [List.length_drop] at hj;rw [List.getElem_drop] at e;have h1 : ltB x k = false := by
   rcases Bool.eq_false_or_eq_true (ltB x k) with h1 | h1
   ·rw [← e] at h1; have := (less_iff h (by omega)).2 h1; omega
   exact h1
  rcases Bool.eq_false_or_eq_true (ltB k x) with h2 | h2
  ·exact h2
  have := ltB_total x k h1 h2; subst this; exact absurd (List.mem_of_mem_drop hx) hk
 refine List.pairwise_append.2 ⟨h.sublist (List.take_sublist _ _), List.pairwise_cons.2 ⟨hgt, h.sublist (List.drop_sublist _ _)⟩, fun a ha b hb => ?_⟩;rcases List.mem_cons.1 hb with rfl | hb
 ·exact hlt a ha
 exact ltB_trans _ _ _ (hlt a ha) (hgt b hb)
theorem Rise.del {keys : List (List UInt8)} (h : Rise keys) (i : Nat) : Rise (delAt keys i) := by
 refine List.pairwise_append.2 ⟨h.sublist (List.take_sublist _ _), h.sublist (List.drop_sublist _ _), fun a ha b hb => ?_⟩;obtain ⟨x, hx, ex⟩ := List.getElem_of_mem ha;obtain ⟨y, hy, ey⟩ := List.getElem_of_mem hb;rw [List.length_take] at hx;rw [List.length_drop] at hy;rw [List.getElem_take] at ex;rw [List.getElem_drop] at ey;rw [← ex, ← ey];exact h.lt (by omega) (by omega)
theorem map_ins {α β : Type} (f : α → β) (l : List α) (i : Nat) (x : α) : (insAt l i x).map f = insAt (l.map f) i (f x) := by simp [insAt, List.map_take, List.map_drop]
theorem map_del {α β : Type} (f : α → β) (l : List α) (i : Nat) : (delAt l i).map f = delAt (l.map f) i := by simp [delAt, List.map_take, List.map_drop]
theorem mem_ins {α : Type} {l : List α} {i : Nat} {x y : α} : y ∈ insAt l i x ↔ y = x ∨ y ∈ l := by
 unfold insAt;rw [List.mem_append, List.mem_cons];constructor
 ·rintro (h | h | h)
  ·exact .inr (List.mem_of_mem_take h)
  ·exact .inl h
  exact .inr (List.mem_of_mem_drop h)
 rintro (h | h)
 ·exact .inr (.inl h)
 rw [← List.take_append_drop i l, List.mem_append] at h;rcases h with h | h
 ·exact .inl h
 exact .inr (.inr h)
theorem mem_del {α : Type} {l : List α} {i : Nat} {y : α} (h : y ∈ delAt l i) : y ∈ l := by
 rcases List.mem_append.1 h with h | h
 ·exact List.mem_of_mem_take h
 exact List.mem_of_mem_drop h
theorem ins_len {α : Type} {l : List α} {i : Nat} {x : α} : (insAt l i x).length = l.length + 1 := by
 unfold insAt; rw [List.length_append, List.length_cons, List.length_take, List.length_drop]; omega
theorem del_len {α : Type} {l : List α} {i : Nat} (h : i < l.length) : (delAt l i).length = l.length - 1 := by
 unfold delAt; rw [List.length_append, List.length_take, List.length_drop]; omega
abbrev enB (l : List EN) : List (List UInt8) := l.map Prod.fst
theorem insE_perm (x : EN) : ∀ l, (insE x l).Perm (x :: l)
 | [] => List.Perm.refl _
 | y :: r => by
  rw [insE];split
  ·exact ((insE_perm x r).cons y).trans (List.Perm.swap x y r)
  exact List.Perm.refl _
theorem sortE_fold_perm : ∀ (l a : List EN), (l.foldl (fun a x => insE x a) a).Perm (l ++ a)
 | [], a => List.Perm.refl _
 | x :: r, a => by
  rw [List.foldl_cons];exact (sortE_fold_perm r _).trans (((List.Perm.refl r).append (insE_perm x a)).trans List.perm_middle)
theorem sortE_perm (l : List EN) : (sortE l).Perm l := by
 have := sortE_fold_perm l [];rwa [List.append_nil] at this
def OrdE (l : List EN) : Prop := l.Pairwise fun a b => ltB b.1 a.1 = false
theorem insE_ord {x : EN} : ∀ {l : List EN}, OrdE l → OrdE (insE x l)
 | [], h => List.pairwise_singleton _ _
 | y :: r, h => by
  rw [insE];have hr := (List.pairwise_cons.1 h).2;have hy := (List.pairwise_cons.1 h).1;split
  ·rename_i hc;refine List.pairwise_cons.2 ⟨fun b hb => ?_, insE_ord hr⟩;rcases List.mem_cons.1 ((insE_perm x r).mem_iff.1 hb) with e | e
   ·rw [e]; exact ltB_asymm hc
   exact hy b e
  rename_i hc;have hc' : ltB y.1 x.1 = false := by rcases Bool.eq_false_or_eq_true (ltB y.1 x.1) with k | k; exact absurd k hc; exact k
  refine List.pairwise_cons.2 ⟨fun b hb => ?_, h⟩;rcases List.mem_cons.1 hb with e | e
  ·rw [e]; exact hc'
  exact ltB_swo.ntrans _ _ _ (hy b e) hc'
theorem sortE_fold_ord : ∀ (l a : List EN), OrdE a → OrdE (l.foldl (fun a x => insE x a) a)
 | [], a, h => h
 | x :: r, a, h => by rw [List.foldl_cons]; exact sortE_fold_ord r _ (insE_ord h)
theorem sortE_ord (l : List EN) : OrdE (sortE l) := sortE_fold_ord l [] List.Pairwise.nil
theorem ord_unique : ∀ {l m : List EN}, l.Perm m → OrdE l → OrdE m → (enB l).Nodup → l = m
 | [], m, hp, _, _, _ => (List.nil_perm.1 hp).symm
 | x :: r, [], hp, _, _, _ => absurd hp.symm (by simp)
 | x :: r, y :: s, hp, hl, hm, hn => by
  have hlx := (List.pairwise_cons.1 hl).1;have hmy := (List.pairwise_cons.1 hm).1;have hxy : x = y := by
   rcases List.mem_cons.1 (hp.mem_iff.1 (List.mem_cons_self)) with e | e
   ·exact e
   rcases List.mem_cons.1 (hp.mem_iff.2 (List.mem_cons_self)) with e' | e'
   ·exact e'.symm
   exfalso;have h1 : ltB x.1 y.1 = false := hmy x e;have h2 : ltB y.1 x.1 = false := hlx y e';have h3 : x.1 = y.1 := ltB_total _ _ h1 h2;have hn' := List.nodup_cons.1 (show (x.1 :: enB r).Nodup from hn);exact hn'.1 (by rw [h3]; exact List.mem_map.2 ⟨y, e', rfl⟩)
  subst hxy;have hn' := List.nodup_cons.1 (show (x.1 :: enB r).Nodup from hn);rw [ord_unique ((List.perm_cons x).1 hp) (List.pairwise_cons.1 hl).2 (List.pairwise_cons.1 hm).2 hn'.2]
theorem sortE_unique {l m : List EN} (hp : m.Perm l) (ho : OrdE m) (hn : (enB l).Nodup) : m = sortE l :=
 ord_unique (hp.trans (sortE_perm l).symm) ho (sortE_ord l) ((hp.map Prod.fst).nodup_iff.2 hn)
end
section
open Go.RowKit Go.Shelf
theorem indexB_one (s : ByteArray) : Lib.indexB s dotB = Lib.indexByte s.data.toList 46 := Lib.index_one _ _
theorem indexByte_none {l : List UInt8} (h : ∀ j (hj : j < l.length), l[j] ≠ 46) : Lib.indexByte l 46 = -1 := by
 induction l with
 | nil => rfl
 | cons b l ih =>
  have h0 : (b == 46) = false := beq_eq_false_iff_ne.2 (h 0 (by simp));rw [Lib.indexByte, h0, ih (fun j hj => h (j + 1) (by simpa using hj))];rfl
theorem pathN_one {s : ByteArray} (h : ∀ j (hj : j < s.data.toList.length), s.data.toList[j] ≠ 46) : pathN s = [s] :=
 Lib.splitB_miss _ _ _ _ ((indexB_one s).trans (indexByte_none h))
theorem stepV_formed {v u : V} {s : ByteArray} (h : stepV v s = some u) (hv : v.formed = true) : u.formed = true := by
 obtain ⟨k, n, b, l, f⟩ := v;rw [V.formed_mk] at hv;simp only [Bool.and_eq_true, List.all_eq_true] at hv;by_cases hk : k = 7
 ·subst hk;rw [stepV_list] at h;split at h
  ·exact hv.1.1.2 _ (List.mem_of_getElem? h)
  cases h
 rw [stepV_doc hk] at h;obtain ⟨x, hx, rfl⟩ := Option.map_eq_some_iff.1 h;exact (hv.1.2 _ (List.mem_of_find?_eq_some hx)).2
end
section
open Go.RowKit
theorem fit_l {k : Int} {n : Nat} {b : List UInt8} {l : List V} {f : List (ByteArray × V)} (h : (V.mk k n b l f).fit) : ∀ x ∈ l, x.fit := by rw [V.fit] at h; exact h.2.1
theorem fit_f {k : Int} {n : Nat} {b : List UInt8} {l : List V} {f : List (ByteArray × V)} (h : (V.mk k n b l f).fit) : ∀ x ∈ f, x.2.fit := by rw [V.fit] at h; exact h.2.2
theorem stepV_fit {v u : V} {s : ByteArray} (h : stepV v s = some u) (hf : v.fit) : u.fit := by
 obtain ⟨k, n, b, l, f⟩ := v;by_cases hk : k = 7
 ·subst hk;rw [stepV_list] at h;split at h
  ·exact fit_l hf u (List.mem_of_getElem? h)
  cases h
 rw [stepV_doc hk, Option.map_eq_some_iff] at h;obtain ⟨x, h1, rfl⟩ := h;exact fit_f hf x (List.mem_of_find?_eq_some h1)
theorem pathL_fit : ∀ {l : List ByteArray} {v u : V}, pathL v l = some u → v.fit → u.fit
 | [], v, u, h, hf => by rw [pathL] at h; injection h with h; rw [← h]; exact hf
 | s :: r, v, u, h, hf => by
  rw [pathL, Option.bind_eq_some_iff] at h;obtain ⟨x, h1, h2⟩ := h;exact pathL_fit h2 (stepV_fit h1 hf)
theorem pathL_formed : ∀ {l : List ByteArray} {v u : V}, pathL v l = some u → v.formed = true → u.formed = true
 | [], v, u, h, hf => by rw [pathL] at h; injection h with h; rw [← h]; exact hf
 | s :: r, v, u, h, hf => by
  rw [pathL, Option.bind_eq_some_iff] at h;obtain ⟨x, h1, h2⟩ := h;exact pathL_formed h2 (stepV_formed h1 hf)
theorem pathV_fine {v u : V} {s : ByteArray} (h : pathV v s = some u) (hf : v.fit) : Fine u := by
 unfold pathV at h;split at h
 ·rename_i hg;have hfm := (V.good_formed hg).1;split at h
  ·injection h with h; rw [← h]; exact ⟨hfm, hf⟩
  exact ⟨pathL_formed h hfm, pathL_fit h hf⟩
 cases h
structure DocOk (d : V) : Prop where
 key : (keyP d).2 = 0
 fit : d.fit
 count : d.count ≤ 20000
theorem DocOk.id {d : V} (h : DocOk d) : ∃ i, idP d = some i ∧ V.Keyed i ∧ keyP d = (i.key, 0) ∧ d.good = 0 ∧ d.k = 8 := by
 have hk := h.key;unfold keyP at hk ⊢;by_cases h0 : d.good = 0
 ·rw [if_neg (by simpa using h0)] at hk ⊢;by_cases h8 : d.k = 8
  ·rw [if_neg (by simpa using h8)] at hk ⊢
   cases hi : idP d with
   | none => rw [hi] at hk; simp at hk
   | some i =>
    rw [hi] at hk;dsimp only at hk ⊢;obtain ⟨s, hs⟩ := idP_mem hi;have hfi : i.fit := by
     obtain ⟨k, n, b, l, f⟩ := d;exact fit_f h.fit (s, i) hs
    have hK := V.Keyed.of hk hfi;exact ⟨i, rfl, hK, hK.ofK, h0, h8⟩
  rw [if_pos h8] at hk; simp at hk
 rw [if_pos h0] at hk; exact absurd hk h0
theorem ent_none {path : ByteArray} {d : V} (h : DocOk d) (hp : pathV d path = none) : entryP path d = ([], false, 0) ∧ entOf path d = none := by
 have e : entryP path d = ([], false, 0) := by unfold entryP; rw [if_neg (by simpa using h.key), hp]
 exact ⟨e, by unfold entOf; rw [e]; rfl⟩
theorem ent_some {path : ByteArray} {d u : V} (h : DocOk d) (hp : pathV d path = some u) (he : (entryP path d).2.2 = 0) :
 ∃ i, idP d = some i ∧ Fine u ∧ V.Keyed i ∧ keyP d = (i.key, 0) ∧ entryP path d = (u.key ++ i.key, true, 0) ∧ entOf path d = some (u.key ++ i.key, (u.key.length : Int), d) := by
 obtain ⟨i, hi, hK, hkey, -, -⟩ := h.id;have hu := pathV_fine hp h.fit;have e : entryP path d = (u.key ++ i.key, true, 0) := by
  unfold entryP at he ⊢;rw [if_neg (by simpa using h.key), hp] at he ⊢;dsimp only at he ⊢;rw [hi, Option.getD_some] at he ⊢;by_cases h0 : (allK [u, i] [false, false]).2 = 0
  ·rw [if_neg (by simpa using h0)];have := allK_ok (b := (allK [u, i] [false, false]).1) (by rw [← h0]);have h3 := this.2.2.1;rw [← h3];simp [allB, flip]
  rw [if_pos h0] at he; exact absurd he h0
 refine ⟨i, hi, hu, hK, hkey, e, ?_⟩;unfold entOf;rw [e, hi, Option.getD_some, hK.ofK];simp only [if_true, List.length_append];congr 3;omega
theorem ent_cmp {u v i j : V} (hu : Fine u) (hv : Fine v) (hi : Fine i) (hj : Fine j) : Lib.compareBytes (u.key ++ i.key) (v.key ++ j.key) = orC (V.cmp u v) (V.cmp i j) := by
 have := V.two_cmp false false hu hi hv hj;simpa [flip, V.sgnC] using this
theorem key_inj {u v : V} (hu : Fine u) (hv : Fine v) (h : u.key = v.key) : u = v := by
 rw [← V.cmp_eq0 hu hv, V.cmp_bytes hu hv, h, cmpB_zero]
def UniqV (path : ByteArray) (docs : List V) : Prop := docs.Pairwise fun a b => ∀ u, pathV a path = some u → pathV b path ≠ some u
structure EnOk (path : ByteArray) (docs : List V) (e : EN) (u i : V) : Prop where
 mem : e.2.2 ∈ docs
 path : pathV e.2.2 path = some u
 id : idP e.2.2 = some i
 fu : Fine u
 fi : Fine i
 b : e.1 = u.key ++ i.key
 sz : e.2.1 = (u.key.length : Int)
 key : (keyP e.2.2).1 = i.key
theorem EnOk.part {path : ByteArray} {docs : List V} {e : EN} {u i : V} (h : EnOk path docs e u i) : e.1.take e.2.1.toNat = u.key := by
 rw [h.b, h.sz]; simp
theorem entsE_all {path : ByteArray} : ∀ {docs : List V}, entsE path docs = 0 ↔ ∀ d ∈ docs, (entryP path d).2.2 = 0
 | [] => by simp [entsE]
 | d :: r => by
  rw [entsE, List.forall_mem_cons];split
  ·rename_i h; constructor
   ·intro h'; exact absurd h' h
   rintro ⟨h', -⟩; exact absurd h' h
  rename_i h;rw [entsE_all (docs := r)];exact ⟨fun h' => ⟨by simpa using h, h'⟩, fun h' => h'.2⟩
theorem entsL_ok {path : ByteArray} {docs : List V} (hd : ∀ d ∈ docs, DocOk d) (he : entsE path docs = 0) : ∀ e ∈ entsL path docs, ∃ u i, EnOk path docs e u i := by
 intro e hm;unfold entsL at hm;rw [List.mem_filterMap] at hm;obtain ⟨d, hdm, hx⟩ := hm;have hz := entsE_all.1 he d hdm
 cases hp : pathV d path with
 | none => rw [(ent_none (hd d hdm) hp).2] at hx; cases hx
 | some u =>
  obtain ⟨i, hi, hu, hK, hkey, -, hent⟩ := ent_some (hd d hdm) hp hz;rw [hent] at hx;injection hx with hx;subst hx;exact ⟨u, i, hdm, hp, hi, hu, hK.toFine, rfl, rfl, by dsimp only; rw [hkey]⟩
theorem entsL_nodup {path : ByteArray} : ∀ {docs : List V}, (∀ d ∈ docs, DocOk d) → entsE path docs = 0 → Rise (dkB docs) → (enB (entsL path docs)).Nodup
 | [], _, _, _ => by simp [entsL]
 | d :: r, hd, he, hr => by
  have hdr : ∀ x ∈ r, DocOk x := fun x hx => hd x (List.mem_cons_of_mem _ hx)
  have her : entsE path r = 0 := entsE_all.2 fun x hx => entsE_all.1 he x (List.mem_cons_of_mem _ hx)
  have ih := entsL_nodup (path := path) hdr her (List.pairwise_cons.1 hr).2;have hx := (List.pairwise_cons.1 hr).1;unfold entsL at ih ⊢;rw [List.filterMap_cons]
  cases hp : pathV d path with
  | none => rw [(ent_none (hd d List.mem_cons_self) hp).2]; exact ih
  | some u =>
   obtain ⟨i, hi, hu, hK, hkey, -, hent⟩ := ent_some (hd d List.mem_cons_self) hp (entsE_all.1 he d List.mem_cons_self);rw [hent];dsimp only;refine List.nodup_cons.2 ⟨fun hm => ?_, ih⟩;obtain ⟨e, hme, heq⟩ := List.mem_map.1 hm;obtain ⟨v, j, hok⟩ := entsL_ok hdr her e hme;have h0 : Lib.compareBytes (u.key ++ i.key) (v.key ++ j.key) = 0 := by rw [cmpB_zero, ← hok.b]; exact heq.symm
   rw [ent_cmp hu hok.fu hK.toFine hok.fi] at h0;have hij : V.cmp i j = 0 := (orC_zero h0).2;have e2 : i = j := (V.cmp_eq0 hK.toFine hok.fi).1 hij;have := hx (keyP e.2.2).1 (List.mem_map.2 ⟨e.2.2, hok.mem, rfl⟩);dsimp only at this;rw [hkey, hok.key, e2, ltB_irrefl] at this
   cases this
theorem twice_ne {path : ByteArray} {docs : List V} : ∀ {l : List EN}, (∀ e ∈ l, ∃ u i, EnOk path docs e u i) → OrdE l → (twiceP l = false ↔ l.Pairwise fun a b => a.1.take a.2.1.toNat ≠ b.1.take b.2.1.toNat)
 | [], _, _ => by simp [twiceP]
 | [a], _, _ => by simp [twiceP]
 | a :: b :: r, hok, ho => by
  have ih := twice_ne (l := b :: r) (fun e he => hok e (List.mem_cons_of_mem _ he)) (List.pairwise_cons.1 ho).2;rw [twiceP, Bool.or_eq_false_iff, decide_eq_false_iff_not, ih, List.pairwise_cons (a := a)];constructor
  ·rintro ⟨h1, h2⟩;refine ⟨fun c hc => ?_, h2⟩;rcases List.mem_cons.1 hc with rfl | hc
   ·exact h1
   intro heq;obtain ⟨ua, ia, ha⟩ := hok a (by simp);obtain ⟨ub, ib, hb⟩ := hok b (by simp);obtain ⟨uc, ic, hcc⟩ := hok c (by simp [hc]);rw [ha.part, hcc.part] at heq;rw [ha.part, hb.part] at h1;have huc : ua = uc := key_inj ha.fu hcc.fu heq;subst huc;have hne : V.cmp ua ub ≠ 0 := fun h0 => h1 (by rw [(V.cmp_eq0 ha.fu hb.fu).1 h0])
   have o1 : ltB b.1 a.1 = false := (List.pairwise_cons.1 ho).1 b (by simp);have o2 : ltB c.1 b.1 = false := (List.pairwise_cons.1 (List.pairwise_cons.1 ho).2).1 c hc;rw [ha.b, hb.b] at o1;rw [hcc.b, hb.b] at o2;have e1 : Lib.compareBytes (ub.key ++ ib.key) (ua.key ++ ia.key) = V.cmp ub ua := by
    rw [ent_cmp hb.fu ha.fu hb.fi ha.fi, orC, if_neg (by rw [V.cmp_swap ha.fu hb.fu]; omega)]
   have e2 : Lib.compareBytes (ua.key ++ ic.key) (ub.key ++ ib.key) = V.cmp ua ub := by
    rw [ent_cmp ha.fu hb.fu hcc.fi hb.fi, orC, if_neg hne]
   simp only [ltB, e1, e2, decide_eq_false_iff_not, V.cmp_swap ha.fu hb.fu] at o1 o2;omega
  rintro ⟨h1, h2⟩;exact ⟨h1 b (by simp), h2⟩
theorem entsL_pair {path : ByteArray} : ∀ {docs : List V}, (∀ d ∈ docs, DocOk d) → entsE path docs = 0 → ((entsL path docs).Pairwise (fun a b => a.1.take a.2.1.toNat ≠ b.1.take b.2.1.toNat) ↔ UniqV path docs)
 | [], _, _ => by simp [entsL, UniqV]
 | d :: r, hd, he => by
  have hdr : ∀ x ∈ r, DocOk x := fun x hx => hd x (List.mem_cons_of_mem _ hx)
  have hz : ∀ x ∈ d :: r, (entryP path x).2.2 = 0 := entsE_all.1 he;have her : entsE path r = 0 := entsE_all.2 fun x hx => hz x (List.mem_cons_of_mem _ hx)
  have ih := entsL_pair (path := path) hdr her;unfold UniqV at ih ⊢;rw [List.pairwise_cons, ← ih];have hlist : entsL path (d :: r) = (entOf path d).toList ++ entsL path r := by
   unfold entsL; rw [List.filterMap_cons]; cases entOf path d <;> rfl
  rw [hlist]
  cases hp : pathV d path with
  | none =>
   rw [(ent_none (hd d List.mem_cons_self) hp).2];simp
  | some u =>
   obtain ⟨i, hi, hu, hK, hkey, -, hent⟩ := ent_some (hd d List.mem_cons_self) hp (hz d List.mem_cons_self);rw [hent];simp only [Option.toList_some, List.singleton_append, List.pairwise_cons];refine and_congr_left fun _ => ⟨fun h b hb v hv hbv => ?_, fun h e hm => ?_⟩
   ·injection hv with hv;subst hv;obtain ⟨j, hj, hv', hK', hkey', -, hent'⟩ := ent_some (hdr b hb) hbv (hz b (List.mem_cons_of_mem _ hb));have := h _ (show (u.key ++ j.key, (u.key.length : Int), b) ∈ entsL path r from List.mem_filterMap.2 ⟨b, hb, hent'⟩);simp at this
   obtain ⟨v, j, hok⟩ := entsL_ok hdr her e hm;rw [hok.part];simp only [Int.toNat_natCast, List.take_left'];intro heq;have e2 : u = v := key_inj hu hok.fu heq;exact h _ hok.mem u rfl (e2 ▸ hok.path)
theorem pairwise_symm_perm {α : Type} {R : α → α → Prop} (hs : ∀ a b, R a b → R b a) {l m : List α} (hp : l.Perm m) (h : l.Pairwise R) : m.Pairwise R := (hp.pairwise_iff (fun {a b} => hs a b)).1 h
theorem twice_iff {path : ByteArray} {docs : List V} (hd : ∀ d ∈ docs, DocOk d) (he : entsE path docs = 0) : twiceP (entP path docs) = false ↔ UniqV path docs := by
 unfold entP;rw [if_pos he, twice_ne (fun e hm => entsL_ok hd he e ((sortE_perm _).mem_iff.1 hm)) (sortE_ord _), ← entsL_pair hd he];exact ⟨pairwise_symm_perm (fun a b h e => h e.symm) (sortE_perm _), pairwise_symm_perm (fun a b h e => h e.symm) (sortE_perm _).symm⟩
structure CoOk (N : Nat) (c : Co) : Prop where
 nm : V.name c.name = true
 keys : Rise (dkB c.docs)
 docs : ∀ d ∈ c.docs, DocOk d
 nd : c.docs.length ≤ N
 ixs : Rise (nmB (xnm c))
 nx : c.ixs.length ≤ 8
 path : ∀ x ∈ c.ixs, x.path.size ≤ 200
 noerr : ∀ x ∈ c.ixs, entsE x.path c.docs = 0
 uniq : ∀ x ∈ c.ixs, x.uniq = true → UniqV x.path c.docs
 xnm : ∀ x ∈ c.ixs, V.name x.name = true
structure StOk (N : Nat) (st : List Co) : Prop where
 nms : Rise (nmB (cnm st))
 n : st.length ≤ 16
 co : ∀ c ∈ st, CoOk N c
theorem StOk.nil : StOk 0 [] := ⟨List.Pairwise.nil, Nat.zero_le _, fun c h => by simp at h⟩
theorem CoOk.mono {N M : Nat} {c : Co} (h : CoOk N c) (hm : N ≤ M) : CoOk M c := { h with nd := Nat.le_trans h.nd hm }
theorem StOk.mono {N M : Nat} {st : List Co} (h : StOk N st) (hm : N ≤ M) : StOk M st := ⟨h.nms, h.n, fun c hc => (h.co c hc).mono hm⟩
theorem coAt_mem {st : List Co} {s : ByteArray} (h : plF (cnm st) s = true) : st[plN (cnm st) s]? = some (coAt st s) ∧ coAt st s ∈ st ∧ (coAt st s).name = s ∧ plN (cnm st) s < st.length := by
 have h1 := plF_at h;have hl : plN (cnm st) s < st.length := by have := plF_lt h; rwa [List.length_map] at this
 have e : st[plN (cnm st) s]? = some (coAt st s) := by
  unfold coAt; rw [List.getD_eq_getElem?_getD, List.getElem?_eq_getElem hl, Option.getD_some]
 refine ⟨e, List.mem_of_getElem? e, ?_, hl⟩;rw [List.getElem?_map, e] at h1;injection h1
theorem StOk.set {N : Nat} {st : List Co} (h : StOk N st) {s : ByteArray} (hf : plF (cnm st) s = true) {c : Co} (hc : CoOk (N + 1) c) (hn : c.name = (coAt st s).name) : StOk (N + 1) (st.set (plN (cnm st) s) c) := by
 obtain ⟨h1, h2, h3, h4⟩ := coAt_mem hf;refine ⟨?_, by rw [List.length_set]; exact h.n, fun x hx => ?_⟩
 ·have e : cnm (st.set (plN (cnm st) s) c) = cnm st := by
   rw [cnm, List.map_set, hn];have hg : (st.map Co.name)[plN (cnm st) s]? = some (coAt st s).name := by rw [List.getElem?_map, h1]; rfl
   rw [List.getElem?_eq_some_iff] at hg;obtain ⟨hg1, hg2⟩ := hg;rw [← hg2, List.set_getElem_self]
  rw [e]; exact h.nms
 rcases List.mem_or_eq_of_mem_set hx with hx | hx
 ·exact (h.co x hx).mono (Nat.le_succ _)
 rw [hx]; exact hc
theorem UniqV.sub {path : ByteArray} {l m : List V} (h : UniqV path m) (hs : List.Sublist l m) : UniqV path l := List.Pairwise.sublist hs h
theorem delAt_sub {α : Type} (l : List α) (i : Nat) : List.Sublist (delAt l i) l := by
 unfold delAt
 conv => rhs; rw [← List.take_append_drop i l]
 refine List.Sublist.append_left ?_ _;rw [← List.drop_drop];exact List.drop_sublist _ _
theorem ixsE_all {d : V} : ∀ {ixs : List Ix}, ixsE d ixs = 0 ↔ ∀ x ∈ ixs, (entryP x.path d).2.2 = 0
 | [] => by simp [ixsE]
 | x :: r => by
  rw [ixsE, List.forall_mem_cons];split
  ·rename_i h; constructor
   ·intro h'; exact absurd h' h
   rintro ⟨h', -⟩; exact absurd h' h
  rename_i h;rw [ixsE_all (ixs := r)];exact ⟨fun h' => ⟨by simpa using h, h'⟩, fun h' => h'.2⟩
theorem clashP_all {docs : List V} : ∀ {ixs : List Ix}, clashP docs ixs = false ↔ ∀ x ∈ ixs, x.uniq = true → twiceP (entP x.path docs) = false
 | [] => by simp [clashP]
 | x :: r => by
  rw [clashP, Bool.or_eq_false_iff, clashP_all (ixs := r), List.forall_mem_cons];refine and_congr_left fun _ => ?_
  cases x.uniq <;> simp
theorem putDocs_mem {docs : List V} {d x : V} (h : x ∈ putDocs docs d) : x = d ∨ x ∈ docs := by
 unfold putDocs at h;split at h
 ·rcases List.mem_or_eq_of_mem_set h with h | h
  ·exact .inr h
  exact .inl h
 exact mem_ins.1 h
theorem putDocs_keys {docs : List V} {d : V} (h : Rise (dkB docs)) : Rise (dkB (putDocs docs d)) := by
 unfold putDocs;split
 ·rename_i hf;rw [docF_k] at hf;have h1 := kF_at hf;rw [← docN_k] at h1;rw [dkB, List.map_set];obtain ⟨hg1, hg2⟩ := List.getElem?_eq_some_iff.1 h1;obtain ⟨m, hm⟩ : ∃ m, docN docs (keyP d).1 = m := ⟨_, rfl⟩;simp only [hm] at hg1 hg2 ⊢;rw [← hg2];show Rise ((dkB docs).set m (dkB docs)[m]);rw [List.set_getElem_self];exact h
 rename_i hf;rw [dkB, map_ins, docN_k];refine Rise.ins h fun hm => hf ?_
 rw [docF_k]; exact (kF_iff h).2 hm
theorem putDocs_len (docs : List V) (d : V) : (putDocs docs d).length ≤ docs.length + 1 := by
 unfold putDocs;split
 ·rw [List.length_set]; omega
 rw [ins_len]; omega
theorem actP_ok {N : Nat} {st : List Co} {q : Rq} (h : StOk N st) (hf : q.doc.fit) (hc : q.doc.count ≤ 20000) {st' : List Co} {n : Int} {docs : List V} (he : actP st q = .ok (st', n, docs)) : StOk (N + 1) st' := by
 unfold actP at he;split at he
 ·unfold makeP at he;split at he; · cases he
  rename_i h1;split at he; · cases he
  rename_i h2;split at he; · cases he
  rename_i h3;injection he with he;injection he with he _;subst he;have hname : V.name q.coll = true := by simpa using h1
  refine ⟨?_, by rw [ins_len]; omega, fun c hc => ?_⟩
  ·rw [cnm, nmB, List.map_map, map_ins];have e1 : st.map ((fun s : ByteArray => s.data.toList) ∘ Co.name) = nmB (cnm st) := by rw [nmB, cnm, List.map_map]
   rw [e1, plN_k];refine Rise.ins h.nms fun hm => h2 ?_
   rw [plF_iff h.nms]; exact mem_nmB.1 hm
  rcases mem_ins.1 hc with rfl | hc
  ·exact ⟨hname, List.Pairwise.nil, fun d hd => by simp at hd, Nat.zero_le _, List.Pairwise.nil, Nat.zero_le _, fun x hx => by simp at hx, fun x hx => by simp at hx, fun x hx => by simp at hx, fun x hx => by simp at hx⟩
  exact (h.co c hc).mono (Nat.le_succ _)
 split at he
 ·unfold dropP at he;split at he; · cases he
  injection he with he;injection he with he _;subst he;refine ⟨?_, Nat.le_trans (delAt_sub _ _).length_le h.n, fun c hc => (h.co c (mem_del hc)).mono (Nat.le_succ _)⟩;rw [cnm, nmB, List.map_map, map_del];have e1 : st.map ((fun s : ByteArray => s.data.toList) ∘ Co.name) = nmB (cnm st) := by rw [nmB, cnm, List.map_map]
  rw [e1];exact h.nms.del _
 have hput : putP st q = .ok (st', n, docs) → StOk (N + 1) st' := fun he => by
  unfold putP at he;split at he; · cases he
  rename_i h1;split at he; · cases he
  rename_i h2;split at he; · cases he
  rename_i h3;split at he; · cases he
  rename_i h4;split at he; · cases he
  rename_i h5;injection he with he;injection he with he _;subst he;have hF : plF (cnm st) q.coll = true := by simpa using h1
  have hco := h.co _ (coAt_mem hF).2.1;have hd : DocOk q.doc := ⟨by simpa using h2, hf, hc⟩;have hdocs : ∀ d ∈ putDocs (coAt st q.coll).docs q.doc, DocOk d := fun d hm => by
   rcases putDocs_mem hm with rfl | hm
   ·exact hd
   exact hco.docs d hm
  have hne : ∀ x ∈ (coAt st q.coll).ixs, entsE x.path (putDocs (coAt st q.coll).docs q.doc) = 0 := fun x hx => by
   refine entsE_all.2 fun d hm => ?_
   rcases putDocs_mem hm with rfl | hm
   ·exact ixsE_all.1 (by simpa using h3) x hx
   exact entsE_all.1 (hco.noerr x hx) d hm
  refine h.set hF (c := ⟨_, _, _⟩) ⟨hco.nm, putDocs_keys hco.keys, hdocs, ?_, hco.ixs, hco.nx, hco.path, hne, fun x hx hu => ?_, hco.xnm⟩ rfl
  ·have := putDocs_len (coAt st q.coll).docs q.doc; have := hco.nd; dsimp only; omega
  exact (twice_iff hdocs (hne x hx)).1 (clashP_all.1 (by simpa using h5) x hx hu)
 split at he; · exact hput he
 split at he; · exact hput he
 split at he
 ·unfold takeP at he;split at he; · cases he
  rename_i h1;split at he; · cases he
  split at he; · cases he
  injection he with he;injection he with he _;subst he;have hF : plF (cnm st) q.coll = true := by simpa using h1
  have hco := h.co _ (coAt_mem hF).2.1;refine h.set hF (c := ⟨_, _, _⟩) ⟨hco.nm, ?_, fun d hm => hco.docs d (mem_del hm), ?_, hco.ixs, hco.nx, hco.path, fun x hx => ?_, fun x hx hu => (hco.uniq x hx hu).sub (delAt_sub _ _), hco.xnm⟩ rfl
  ·rw [dkB, map_del]; exact hco.keys.del _
  ·exact Nat.le_trans (delAt_sub _ _).length_le (Nat.le_succ_of_le hco.nd)
  exact entsE_all.2 fun d hm => entsE_all.1 (hco.noerr x hx) d (mem_del hm)
 split at he
 ·unfold getP at he;split at he; · cases he
  split at he; · cases he
  split at he; · cases he
  injection he with he;injection he with he _;subst he;exact h.mono (Nat.le_succ _)
 split at he
 ·unfold addIxP at he;split at he; · cases he
  rename_i h1;split at he; · cases he
  rename_i h2;split at he; · cases he
  rename_i h3;split at he; · cases he
  rename_i h4;split at he; · cases he
  rename_i h5;split at he; · cases he
  rename_i h6;split at he; · cases he
  rename_i h7;injection he with he;injection he with he _;subst he;have hF : plF (cnm st) q.coll = true := by simpa using h3
  have hco := h.co _ (coAt_mem hF).2.1;have h6' : entsE q.path (coAt st q.coll).docs = 0 := by simpa using h6
  refine h.set hF (c := ⟨_, _, _⟩) ⟨hco.nm, hco.keys, hco.docs, Nat.le_succ_of_le hco.nd, ?_, ?_, fun x hx => ?_, fun x hx => ?_, fun x hx hu => ?_, fun x hx => ?_⟩ rfl
  ·rw [xnm, nmB, List.map_map, map_ins];have e1 : (coAt st q.coll).ixs.map ((fun s : ByteArray => s.data.toList) ∘ Ix.name) = nmB (xnm (coAt st q.coll)) := by rw [nmB, xnm, List.map_map]
   rw [e1, plN_k];refine Rise.ins hco.ixs fun hm => h4 ?_
   rw [plF_iff hco.ixs]; exact mem_nmB.1 hm
  ·dsimp only; rw [ins_len]; omega
  ·rcases mem_ins.1 hx with rfl | hx
   ·dsimp only; omega
   exact hco.path x hx
  ·rcases mem_ins.1 hx with rfl | hx
   ·exact h6'
   exact hco.noerr x hx
  ·rcases mem_ins.1 hx with rfl | hx
   ·refine (twice_iff hco.docs h6').1 ?_;rcases Bool.eq_false_or_eq_true (twiceP (entP q.path (coAt st q.coll).docs)) with k | k
    ·exact absurd ⟨hu, k⟩ h7
    exact k
   exact hco.uniq x hx hu
  rcases mem_ins.1 hx with rfl | hx
  ·simpa using h1
  exact hco.xnm x hx
 split at he
 ·unfold unIxP at he;split at he; · cases he
  rename_i h1;split at he; · cases he
  injection he with he;injection he with he _;subst he;have hF : plF (cnm st) q.coll = true := by simpa using h1
  have hco := h.co _ (coAt_mem hF).2.1;refine h.set hF (c := ⟨_, _, _⟩) ⟨hco.nm, hco.keys, hco.docs, Nat.le_succ_of_le hco.nd, ?_, Nat.le_trans (delAt_sub _ _).length_le hco.nx, fun x hx => hco.path x (mem_del hx), fun x hx => hco.noerr x (mem_del hx), fun x hx => hco.uniq x (mem_del hx), fun x hx => hco.xnm x (mem_del hx)⟩ rfl;rw [xnm, nmB, List.map_map, map_del];have e1 : (coAt st q.coll).ixs.map ((fun s : ByteArray => s.data.toList) ∘ Ix.name) = nmB (xnm (coAt st q.coll)) := by rw [nmB, xnm, List.map_map]
  rw [e1];exact hco.ixs.del _
 split at he
 ·unfold findP at he;split at he; · cases he
  split at he; · cases he
  split at he; · cases he
  split at he; · cases he
  split at he; · cases he
  injection he with he;injection he with he _;subst he;exact h.mono (Nat.le_succ _)
 split at he
 ·unfold countP at he;split at he; · cases he
  injection he with he;injection he with he _;subst he;exact h.mono (Nat.le_succ _)
 cases he
theorem doP_ok {N : Nat} {st : List Co} {q : Rq} (h : StOk N st) (hf : q.doc.fit) (hc : q.doc.count ≤ 20000) : StOk (N + 1) (doP st q).1 := by
 unfold doP;split
 ·exact h.mono (Nat.le_succ _)
 rename_i he; exact actP_ok h hf hc he
end
section
open Go.RowKit
section
variable {α : Type} (f : α → List Value) (z : Nat) (hz : ∀ x, (f x).length = z)
include hz
theorem fz_len : ∀ (l : List α), ((l.map f).flatten).length = l.length * z
 | [] => by simp
 | x :: r => by rw [List.map_cons, List.flatten_cons, List.length_append, hz, fz_len r, List.length_cons, Nat.add_mul, Nat.one_mul, Nat.add_comm]
theorem fz_drop : ∀ (l : List α) (j : Nat), ((l.map f).flatten).drop (j * z) = ((l.drop j).map f).flatten
 | l, 0 => by simp
 | [], j + 1 => by simp
 | x :: r, j + 1 => by
  rw [List.map_cons, List.flatten_cons, List.drop_succ_cons, ← fz_drop r j, Nat.add_mul, Nat.one_mul, Nat.add_comm, ← List.drop_drop, List.drop_left' (hz x)]
theorem fz_take : ∀ (l : List α) (j : Nat), ((l.map f).flatten).take (j * z) = ((l.take j).map f).flatten
 | l, 0 => by simp
 | [], j + 1 => by simp
 | x :: r, j + 1 => by
  have e : (j + 1) * z = (f x).length + j * z := by rw [hz, Nat.add_mul, Nat.one_mul, Nat.add_comm]
  rw [List.map_cons, List.flatten_cons, List.take_succ_cons, List.map_cons, List.flatten_cons, ← fz_take r j, e, List.take_length_add_append]
theorem fz_get (l : List α) (j i : Nat) (hi : i < z) (x : α) (hj : l[j]? = some x) : ((l.map f).flatten)[j * z + i]? = (f x)[i]? := by
 have hjl : j < l.length := (List.getElem?_eq_some_iff.1 hj).1;have he : l[j] = x := (List.getElem?_eq_some_iff.1 hj).2;rw [← List.getElem?_drop, fz_drop f z hz, List.drop_eq_getElem_cons hjl, List.map_cons, List.flatten_cons, List.getElem?_append_left (by rw [hz]; exact hi), he]
theorem fz_del (l : List α) (i : Nat) : ((l.map f).flatten).take (i * z) ++ ((l.map f).flatten).drop ((i + 1) * z) = ((delAt l i).map f).flatten := by
 rw [fz_take f z hz, fz_drop f z hz, delAt, List.map_append, List.flatten_append]
theorem fz_ins (l : List α) (i : Nat) (x : α) : ((l.map f).flatten).take (i * z) ++ f x ++ ((l.map f).flatten).drop (i * z) = ((insAt l i x).map f).flatten := by
 rw [fz_take f z hz, fz_drop f z hz, insAt, List.map_append, List.flatten_append, List.map_cons, List.flatten_cons, List.append_assoc]
theorem fz_set (l : List α) (i : Nat) (x : α) (h : i < l.length) : ((l.map f).flatten).take (i * z) ++ f x ++ ((l.map f).flatten).drop ((i + 1) * z) = ((l.set i x).map f).flatten := by
 rw [fz_take f z hz, fz_drop f z hz, List.set_eq_take_append_cons_drop, if_pos h, List.map_append, List.flatten_append, List.map_cons, List.flatten_cons, List.append_assoc]
end
def Two {α β : Type} (R : α → β → Prop) (l : List α) (m : List β) : Prop := l.length = m.length ∧ ∀ (j : Nat) a b, l[j]? = some a → m[j]? = some b → R a b
namespace Two
variable {α β : Type} {R : α → β → Prop} {l : List α} {m : List β}
theorem mono {R' : α → β → Prop} (h : Two R l m) (hR : ∀ a b, R a b → R' a b) : Two R' l m := ⟨h.1, fun j a b ha hb => hR a b (h.2 j a b ha hb)⟩
theorem nil : Two R [] [] := ⟨rfl, fun j a b ha => by simp at ha⟩
theorem take (h : Two R l m) (i : Nat) : Two R (l.take i) (m.take i) := ⟨by rw [List.length_take, List.length_take, h.1], fun j a b ha hb => by
 rw [List.getElem?_take] at ha hb;split at ha
 ·rw [if_pos ‹_›] at hb; exact h.2 j a b ha hb
 cases ha⟩
theorem drop (h : Two R l m) (i : Nat) : Two R (l.drop i) (m.drop i) := ⟨by rw [List.length_drop, List.length_drop, h.1], fun j a b ha hb => by
 rw [List.getElem?_drop] at ha hb; exact h.2 _ a b ha hb⟩
theorem append {l' : List α} {m' : List β} (h : Two R l m) (k : Two R l' m') : Two R (l ++ l') (m ++ m') := ⟨by rw [List.length_append, List.length_append, h.1, k.1], fun j a b ha hb => by
 by_cases hj : j < l.length
 ·rw [List.getElem?_append_left hj] at ha; rw [List.getElem?_append_left (by rw [← h.1]; exact hj)] at hb; exact h.2 j a b ha hb
 rw [List.getElem?_append_right (by omega)] at ha; rw [List.getElem?_append_right (by rw [← h.1]; omega), ← h.1] at hb; exact k.2 _ a b ha hb⟩
theorem cons {a : α} {b : β} (h : R a b) (k : Two R l m) : Two R (a :: l) (b :: m) := ⟨by rw [List.length_cons, List.length_cons, k.1], fun j x y ha hb => by
 rcases j with _ | j
 ·simp at ha hb; rw [← ha, ← hb]; exact h
 exact k.2 j x y (by simpa using ha) (by simpa using hb)⟩
theorem one {a : α} {b : β} (h : R a b) : Two R [a] [b] := cons h nil
theorem del (h : Two R l m) (i : Nat) : Two R (delAt l i) (delAt m i) := (h.take i).append (h.drop (i + 1))
theorem ins (h : Two R l m) (i : Nat) {a : α} {b : β} (k : R a b) : Two R (insAt l i a) (insAt m i b) := (h.take i).append (cons k (h.drop i))
theorem set (h : Two R l m) (i : Nat) {a : α} {b : β} (k : R a b) : Two R (l.set i a) (m.set i b) := ⟨by rw [List.length_set, List.length_set, h.1], fun j x y ha hb => by
 rw [List.getElem?_set] at ha hb;split at ha
 ·rename_i hij;rw [if_pos hij] at hb;split at ha
  ·split at hb
   ·cases ha; cases hb; exact k
   cases hb
  cases ha
 rw [if_neg ‹_›] at hb; exact h.2 j x y ha hb⟩
theorem set' (hl : l.length = m.length) (i : Nat) {a : α} {b : β} (h : ∀ (j : Nat) x y, j ≠ i → l[j]? = some x → m[j]? = some y → R x y) (k : R a b) : Two R (l.set i a) (m.set i b) := ⟨by rw [List.length_set, List.length_set, hl], fun j x y ha hb => by
 rw [List.getElem?_set] at ha hb;split at ha
 ·rename_i hij;rw [if_pos hij] at hb;split at ha
  ·split at hb
   ·cases ha; cases hb; exact k
   cases hb
  cases ha
 rename_i hij;rw [if_neg hij] at hb; exact h j x y (fun e => hij e.symm) ha hb⟩
theorem at_ (h : Two R l m) {j : Nat} (hj : j < l.length) (hj' : j < m.length) : R l[j] m[j] := h.2 j _ _ (List.getElem?_eq_getElem hj) (List.getElem?_eq_getElem hj')
end Two
abbrev Cc.zero : Cc := ⟨⟨#[]⟩, none, 0, 0, none, 0, 0⟩
def cellsC (es : List Cc) : List Value := (es.map fun e => e.cells.toList).flatten
def cellsX (xs : List Ix) : List Value := (xs.map fun x => x.cells.toList).flatten
def cellsV (cs : List Cv) : List Value := (cs.map fun c => c.cells.toList).flatten
theorem cellsC_len (es : List Cc) : (cellsC es).length = es.length * 3 := fz_len _ 3 (fun _ => rfl) es
theorem cellsX_len (es : List Ix) : (cellsX es).length = es.length * 3 := fz_len _ 3 (fun _ => rfl) es
theorem cellsV_len (es : List Cv) : (cellsV es).length = es.length * 5 := fz_len _ 5 (fun _ => rfl) es
theorem cellsC_one (es : List Cc) : ∀ v ∈ cellsC es, v.oneCell' = true := by
 intro v hv;simp only [cellsC, List.mem_flatten, List.mem_map] at hv;obtain ⟨_, ⟨e, _, rfl⟩, h⟩ := hv;simp at h;rcases h with rfl | rfl | rfl <;> rfl
theorem cellsX_one (es : List Ix) : ∀ v ∈ cellsX es, v.oneCell' = true := by
 intro v hv;simp only [cellsX, List.mem_flatten, List.mem_map] at hv;obtain ⟨_, ⟨e, _, rfl⟩, h⟩ := hv;simp at h;rcases h with rfl | rfl | rfl <;> rfl
theorem cellsV_one (es : List Cv) : ∀ v ∈ cellsV es, v.oneCell' = true := by
 intro v hv;simp only [cellsV, List.mem_flatten, List.mem_map] at hv;obtain ⟨_, ⟨e, _, rfl⟩, h⟩ := hv;simp at h;rcases h with rfl | rfl | rfl | rfl | rfl <;> rfl
def AtX (w : World) (S : Nat → Prop) (p : Addr) (u : Value) : Prop := w.cell? p = some u ∧ p.block < w.heap.size ∧ ¬ S p.block
theorem AtX.kept {S T : Nat → Prop} {w w' : World} (hk : Kept T w w') (hs : ∀ q, T q → S q) (p : Addr) (u : Value) (h : AtX w S p u) : AtX w' S p u :=
 ⟨(World.cell?_of_block (hk.block p.block h.2.1 (fun ht => h.2.2 (hs _ ht)))).trans h.1, Nat.lt_of_lt_of_le h.2.1 hk.size, h.2.2⟩
theorem AtX.atW {S : Nat → Prop} {w : World} (p : Addr) (u : Value) (h : AtX w S p u) : AtW w 0 w.heap.size p u := ⟨h.1, Nat.zero_le _, h.2.1⟩
theorem AtX.sub {S T : Nat → Prop} {w : World} (hs : ∀ q, T q → S q) (p : Addr) (u : Value) (h : AtX w S p u) : AtX w T p u := ⟨h.1, h.2.1, fun ht => h.2.2 (hs _ ht)⟩
theorem AtX.ofW {S : Nat → Prop} {w : World} {lo hi : Nat} (hh : hi ≤ w.heap.size) (hs : ∀ q, S q → q < lo ∨ hi ≤ q) (p : Addr) (u : Value) (h : AtW w lo hi p u) : AtX w S p u :=
 ⟨h.1, Nat.lt_of_lt_of_le h.2.2 hh, fun hq => by have h1 := h.2.1; have h2 := h.2.2; rcases hs _ hq with e | e <;> omega⟩
structure CoR (C : Addr → Value → Prop) (e : Cc) (c : Co) : Prop where
 nm : e.nm = c.name
 dn : e.dn = c.docs.length
 xn : e.xn = c.ixs.length
 xc : c.ixs.length ≤ e.xc
 docs : IsV C (.mk 7 0 [] c.docs []) (lcv e.dA c.docs.length e.dc)
 ixs : Reads C 3 e.xA c.ixs.length (cellsX c.ixs)
theorem CoR.mono {C C' : Addr → Value → Prop} (h : ∀ p u, C p u → C' p u) {e : Cc} {c : Co} (k : CoR C e c) : CoR C' e c := ⟨k.nm, k.dn, k.xn, k.xc, k.docs.mono h, k.ixs.mono h⟩
abbrev CoIn (w : World) (e : Cc) (c : Co) : Prop := CoR (AtW w 0 w.heap.size) e c
def StIn (w : World) (A : Option Addr) (cap : Nat) (st : List Co) : Prop :=
 st.length ≤ cap ∧ ∃ es, Two (CoIn w) es st ∧ Reads (AtW w 0 w.heap.size) 3 A st.length (cellsC es)
theorem StIn.grow {w w' : World} {A : Option Addr} {cap : Nat} {st : List Co} (h : StIn w A cap st) (hg : Grow w w') : StIn w' A cap st := by
 obtain ⟨hc, es, h1, h2⟩ := h;have hm := AtW.below hg.below (Nat.le_refl 0) (Nat.le_refl _) hg.size;exact ⟨hc, es, h1.mono fun a b k => k.mono hm, h2.mono hm⟩
theorem StIn.nil (w : World) : StIn w none 0 [] := ⟨Nat.le_refl _, [], Two.nil, ⟨rfl, fun h => by simp at h⟩⟩
abbrev ablk (A : Option Addr) : Option Nat := A.map (·.block)
structure OwnCo (w : World) (B : Nat) (e : Cc) (c : Co) : Prop where
 nm : e.nm = c.name
 dn : e.dn = c.docs.length
 xn : e.xn = c.ixs.length
 docs : ∃ cs : List Cv, w.ownsRow B 27 5 (.slice e.dA c.docs.length e.dc) c.docs.length (cellsV cs) ∧ Two (fun v c => InU w B v c) c.docs cs
 ixs : w.ownsRow B 64 3 (.slice e.xA c.ixs.length e.xc) c.ixs.length (cellsX c.ixs)
structure Own (w : World) (B : Nat) (A : Option Addr) (cap : Nat) (es : List Cc) (st : List Co) : Prop where
 row : w.ownsRow B 48 3 (.slice A st.length cap) st.length (cellsC es)
 two : Two (OwnCo w B) es st
 distD : ∀ (i j : Nat) (a b : Cc), es[i]? = some a → es[j]? = some b → i ≠ j → ∀ g, ablk a.dA = some g → ablk b.dA ≠ some g
 distX : ∀ (i j : Nat) (a b : Cc), es[i]? = some a → es[j]? = some b → i ≠ j → ∀ g, ablk a.xA = some g → ablk b.xA ≠ some g
theorem ownBlock_slice (A : Option Addr) (n c : Nat) : Value.ownBlock (.slice A n c) = ablk A := by cases A <;> rfl
theorem own_kept {S : Nat → Prop} {w w' : World} {B : Nat} {T : TypeId} {z n c : Nat} {A : Option Addr} {xs : List Value} (h : w.ownsRow B T z (.slice A n c) n xs) (hk : Kept S w w') (hs : ∀ g, ablk A = some g → ¬ S g) : w'.ownsRow B T z (.slice A n c) n xs := by
 refine ⟨h.1, ?_⟩;rcases h.2 with hn | ⟨g, cap, cur, e, hb, hgg, rest⟩
 ·exact .inl hn
 refine .inr ⟨g, cap, cur, e, hb, ?_, rest⟩;injection e with e1 e2 e3;rw [hk.block g (Array.getElem?_eq_some_iff.1 hgg).1 (hs g (by rw [e1]; rfl))];exact hgg
theorem ownG {w w' : World} {B : Nat} {T : TypeId} {z n c : Nat} {A : Option Addr} {xs : List Value} (h : w.ownsRow B T z (.slice A n c) n xs) (hg : Grow w w') : w'.ownsRow B T z (.slice A n c) n xs :=
 own_kept h (Kept.grow (S := fun _ => False) hg) (fun _ _ h => h)
theorem own_reads {S : Nat → Prop} {w : World} {B : Nat} {T : TypeId} {z n c : Nat} {A : Option Addr} {xs : List Value} (h : w.ownsRow B T z (.slice A n c) n xs) (hs : ∀ g, ablk A = some g → ¬ S g) : Reads (AtX w S) z A n xs := by
 refine ⟨h.1, fun hn => ?_⟩;obtain ⟨g, cur, e, hb, hg, -, -, -, ht, -⟩ := own_open h hn;exact ⟨g, 0, e, fun j u hu => by rw [Nat.zero_add]; exact ⟨own_cell hg ht j u hu, (Array.getElem?_eq_some_iff.1 hg).1, hs g (by rw [e]; rfl)⟩⟩
theorem own_le {w : World} {B : Nat} {T : TypeId} {z n c : Nat} {A : Option Addr} {xs : List Value} (h : w.ownsRow B T z (.slice A n c) n xs) : n ≤ c ∧ c ≤ maxLen := by
 rcases h.2 with ⟨e, hn⟩ | ⟨g, cap, cur, e, hb, hgg, h1, h2, -⟩
 ·injection e with e1 e2 e3; subst hn; exact ⟨Nat.zero_le _, by rw [e3]; exact Nat.zero_le _⟩
 injection e with e1 e2 e3; rw [e3]; exact ⟨h1, h2⟩
theorem list_of_row {C : Addr → Value → Prop} {A : Option Addr} {docs : List V} {cs : List Cv} {cap : Nat} (h : Reads C 5 A docs.length (cellsV cs)) (ht : Two (fun v c => IsV C v c) docs cs) (hc : docs.length ≤ cap) (hl : docs.length ≤ 140737488355328) :
 IsV C (.mk 7 0 [] docs []) (lcv A docs.length cap) := by
 rw [IsV];refine ⟨rfl, rfl, rfl, rfl, rfl, by decide, by decide, by decide, by simp, by simp, hc, hl, by simp, by simp, ⟨rfl, fun h => by simp at h⟩, fun i hi => ?_, fun i hi => by simp at hi⟩;have hic : i < cs.length := by rw [← ht.1]; exact hi
 obtain ⟨bk, o, ha, hcell⟩ := h.2 (by omega);have hg : ∀ k, k < 5 → (cellsV cs)[i * 5 + k]? = cs[i].cells.toList[k]? := fun k hk => fz_get _ 5 (fun _ => rfl) cs i k hk cs[i] (List.getElem?_eq_getElem hic)
 refine ⟨bk, o, cs[i], ha, ⟨?_, ?_, ?_, ?_, ?_⟩, ht.at_ hi hic⟩
 ·have := hcell (i * 5 + 0) _ (hg 0 (by omega)); rwa [Nat.add_zero] at this
 ·have := hcell (i * 5 + 1) _ (hg 1 (by omega)); rwa [← Nat.add_assoc] at this
 ·have := hcell (i * 5 + 2) _ (hg 2 (by omega)); rwa [← Nat.add_assoc] at this
 ·have := hcell (i * 5 + 3) _ (hg 3 (by omega)); rwa [← Nat.add_assoc] at this
 have := hcell (i * 5 + 4) _ (hg 4 (by omega)); rwa [← Nat.add_assoc] at this
theorem InU.atX {S : Nat → Prop} {w : World} {B : Nat} {v : V} {c : Cv} (h : InU w B v c) (hB : B ≤ w.heap.size) (hs : ∀ q, S q → B ≤ q) : IsV (AtX w S) v c := IsV.mono (AtX.ofW hB (fun q hq => .inr (hs q hq))) v c h
theorem InU.keep {S : Nat → Prop} {w w' : World} {B : Nat} {v : V} {c : Cv} (h : InU w B v c) (hk : Kept S w w') (hB : B ≤ w.heap.size) (hs : ∀ q, S q → B ≤ q) : InU w' B v c := h.below (hk.below hB hs) (Nat.le_refl _) (Nat.le_refl _)
theorem OwnCo.r {S : Nat → Prop} {w : World} {B : Nat} {e : Cc} {c : Co} (h : OwnCo w B e c) (hB : B ≤ w.heap.size) (hs : ∀ q, S q → B ≤ q) (hd : ∀ g, ablk e.dA = some g → ¬ S g) (hx : ∀ g, ablk e.xA = some g → ¬ S g) (hl : c.docs.length ≤ 140737488355328) : CoR (AtX w S) e c := by
 obtain ⟨cs, h1, h2⟩ := h.docs;exact ⟨h.nm, h.dn, h.xn, (own_le h.ixs).1, list_of_row (own_reads h1 hd) (h2.mono fun v c hv => hv.atX hB hs) (own_le h1).1 hl, own_reads h.ixs hx⟩
theorem OwnCo.keep {S : Nat → Prop} {w w' : World} {B : Nat} {e : Cc} {c : Co} (h : OwnCo w B e c) (hk : Kept S w w') (hB : B ≤ w.heap.size) (hs : ∀ q, S q → B ≤ q) (hd : ∀ g, ablk e.dA = some g → ¬ S g) (hx : ∀ g, ablk e.xA = some g → ¬ S g) : OwnCo w' B e c := by
 obtain ⟨cs, h1, h2⟩ := h.docs;exact ⟨h.nm, h.dn, h.xn, ⟨cs, own_kept h1 hk hd, h2.mono fun v c hv => hv.keep hk hB hs⟩, own_kept h.ixs hk hx⟩
theorem Own.grow {w w' : World} {B : Nat} {A : Option Addr} {cap : Nat} {es : List Cc} {st : List Co} (h : Own w B A cap es st) (hB : B ≤ w.heap.size) (hg : Grow w w') : Own w' B A cap es st :=
 ⟨ownG h.row hg, h.two.mono fun a b k => k.keep (Kept.grow (S := fun _ => False) hg) hB (fun _ h => h.elim) (fun _ _ h => h) (fun _ _ h => h), h.distD, h.distX⟩
theorem ownT {w : World} {B B' : Nat} {T T' : TypeId} {z z' n n' c c' : Nat} {A A' : Option Addr} {xs xs' : List Value} (h : w.ownsRow B T z (.slice A n c) n xs) (k : w.ownsRow B' T' z' (.slice A' n' c') n' xs') (ht : T ≠ T') : ∀ g, ablk A = some g → ablk A' ≠ some g := by
 intro g h1 h2;rcases h.2 with ⟨e, -⟩ | ⟨g1, _, cur, e, -, hg, -⟩
 ·injection e with e1; rw [e1] at h1; cases h1
 rcases k.2 with ⟨e', -⟩ | ⟨g2, _, cur', e', -, hg', -⟩
 ·injection e' with e1; rw [e1] at h2; cases h2
 injection e with e1; injection e' with e2;rw [e1] at h1; rw [e2] at h2
 cases h1; cases h2
 rw [hg] at hg';injection hg' with hg';injection hg' with _ hT _;exact ht hT
theorem ownT_blk {w : World} {B : Nat} {T T' : TypeId} {z n c mb : Nat} {A : Option Addr} {xs : List Value} {cs : Array Value} (h : w.ownsRow B T z (.slice A n c) n xs) (k : Blk w mb T' cs) (ht : T ≠ T') : ablk A ≠ some mb := by
 intro h1;rcases h.2 with ⟨e, -⟩ | ⟨g1, _, cur, e, -, hg, -⟩
 ·injection e with e1; rw [e1] at h1; cases h1
 injection e with e1;rw [e1] at h1
 cases h1
 rw [show w.heap[_]? = _ from k] at hg;injection hg with hg;injection hg with _ hT _;exact ht hT.symm
theorem own_setC {w : World} {B n c gb i k : Nat} {es : List Cc} {e' : Cc} {v : Value} (h : w.ownsRow B 48 3 (.slice (some ⟨gb, 0, none⟩) n c) n (cellsC es)) (hi : i < es.length) (hn : es.length = n) (hk : k < 3) (he : e'.cells.toList = es[i].cells.toList.set k v) :
 (w.setCell ⟨gb, i * 3 + k, none⟩ v).ownsRow B 48 3 (.slice (some ⟨gb, 0, none⟩) n c) n (cellsC (es.set i e')) := by
 obtain ⟨g, cur, e, hb, hg, h1, h2, h3, h4, h5⟩ := own_open h (by omega)
 cases e
 have hsz : (w.setCell ⟨gb, i * 3 + k, none⟩ v).heap[gb]? = some (.cells (cur.setIfInBounds (i * 3 + k) v) 48 (0, 0)) := Blk.set_ hg _ v;have hlen : (cellsC (es.set i e')).length = n * 3 := by rw [cellsC_len, List.length_set, hn]
 refine own_mk hb hsz h1 h2 (by rw [Array.size_setIfInBounds, h3]) ?_ hlen;rw [Array.toList_setIfInBounds, List.take_set, h4, cellsC, cellsC, ← fz_set _ 3 (fun _ => rfl) es i e' hi, he];have hes : (es.map fun e => e.cells.toList).flatten = ((es.map fun e => e.cells.toList).flatten).take (i * 3) ++ (es[i].cells.toList ++ ((es.map fun e => e.cells.toList).flatten).drop ((i + 1) * 3)) := by
  conv => lhs; rw [← List.take_append_drop (i * 3) ((es.map fun e => e.cells.toList).flatten)]
  congr 1;have d1 := fz_drop (fun e : Cc => e.cells.toList) 3 (fun _ => rfl) es i;have d2 := fz_drop (fun e : Cc => e.cells.toList) 3 (fun _ => rfl) es (i + 1);rw [List.drop_eq_getElem_cons hi, List.map_cons, List.flatten_cons] at d1;rw [d1, d2]
 have hlt : (((es.map fun e => e.cells.toList).flatten).take (i * 3)).length = i * 3 := by
  rw [List.length_take, fz_len _ 3 (fun _ => rfl)]; omega
 conv => lhs; rw [hes]
 rw [List.set_append_right _ _ (by rw [hlt]; omega), hlt, show i * 3 + k - i * 3 = k by omega, List.set_append_left _ _ (by simp; omega), List.append_assoc]
end
section
open Go.RowKit
theorem Kept.of_grown {w w' : World} {row : Option Nat} (h : w.grownBy w' row) : Kept (fun q => row = some q) w w' :=
 ⟨h.os, h.tape, h.output, h.size, fun k hk hs => h.block k hk fun e => hs e.symm⟩
theorem Kept.none_ {w w' : World} (h : Grow w w') : Kept (fun _ => False) w w' := Kept.grow h
section
variable {α β : Type}
structure GR (f : α → List Value) (z : Nat) (T : TypeId) (R : (Addr → Value → Prop) → α → β → Prop) (S : Nat → Prop) (w : World) (lo : Nat) (A : Option Addr) (c : Nat) (xs : List α) (ys : List β) : Prop where
 row : w.ownsRow lo T z (.slice A xs.length c) xs.length ((xs.map f).flatten)
 two : Two (R (AtX w (fun q => ablk A = some q ∨ S q))) xs ys
variable {f : α → List Value} {z : Nat} {T : TypeId} {R : (Addr → Value → Prop) → α → β → Prop} {S : Nat → Prop} {w w' : World} {lo c c' : Nat} {A A' : Option Addr} {xs : List α} {ys : List β}
theorem GR.kept {K : Nat → Prop} (hm : ∀ (C C' : Addr → Value → Prop), (∀ p u, C p u → C' p u) → ∀ a b, R C a b → R C' a b) (h : GR f z T R S w lo A c xs ys) (hk : Kept K w w') (hs : ∀ q, K q → S q) (hA : ∀ g, ablk A = some g → ¬ K g) : GR f z T R S w' lo A c xs ys :=
 ⟨own_kept h.row hk hA, h.two.mono fun a b k => hm _ _ (AtX.kept hk fun q hq => .inr (hs q hq)) a b k⟩
theorem GR.grow (hm : ∀ (C C' : Addr → Value → Prop), (∀ p u, C p u → C' p u) → ∀ a b, R C a b → R C' a b) (h : GR f z T R S w lo A c xs ys) (hg : Grow w w') : GR f z T R S w' lo A c xs ys :=
 h.kept hm (Kept.none_ hg) (fun _ h => h.elim) (fun _ _ h => h)
theorem GR.nil (w : World) : GR f z T R S w lo none 0 [] [] := ⟨by rw [List.map_nil, List.flatten_nil]; exact World.ownsRow_nil _ _ _ _, Two.nil⟩
theorem GR.made {g cap : Nat} (h : w.ownsRow lo T z (.slice (some ⟨g, 0, none⟩) 0 cap) 0 []) : GR f z T R S w lo (some ⟨g, 0, none⟩) cap [] ([] : List β) := ⟨by rw [List.map_nil, List.flatten_nil]; exact h, Two.nil⟩
theorem GR.add (hm : ∀ (C C' : Addr → Value → Prop), (∀ p u, C p u → C' p u) → ∀ a b, R C a b → R C' a b) (h : GR f z T R S w lo A c xs ys) {a : α} {b : β} (hv : R (AtX w (fun q => ablk A = some q ∨ S q)) a b)
 (hr : w'.ownsRow lo T z (.slice A' (xs.length + 1) c') (xs.length + 1) ((xs.map f).flatten ++ f a)) (hg : w.grownBy w' (Value.ownBlock (.slice A xs.length c))) (hA : Value.ownBlock (.slice A' (xs.length + 1) c') = Value.ownBlock (.slice A xs.length c) ∨ Value.ownBlock (.slice A' (xs.length + 1) c') = some w.heap.size) :
 GR f z T R S w' lo A' c' (xs ++ [a]) (ys ++ [b]) := by
 rw [ownBlock_slice, ownBlock_slice] at hA;rw [ownBlock_slice] at hg;have hC : ∀ p u, AtX w (fun q => ablk A = some q ∨ S q) p u → AtX w' (fun q => ablk A' = some q ∨ S q) p u := fun p u hp => by
  have hp2 := AtX.kept (Kept.of_grown hg) (fun q hq => .inl hq) p u hp;refine ⟨hp2.1, hp2.2.1, fun hq => ?_⟩;rcases hq with hq | hq
  ·rcases hA with hA | hA
   ·rw [hA] at hq; exact hp.2.2 (.inl hq)
   rw [hA] at hq; injection hq with hq; have := hp.2.1; omega
  exact hp.2.2 (.inr hq)
 refine ⟨?_, (h.two.mono fun x y k => hm _ _ hC x y k).append (Two.one (hm _ _ hC _ _ hv))⟩;rw [List.length_append, List.length_singleton, List.map_append, List.flatten_append];simpa using hr
end
abbrev vF : Cv → List Value := fun c => c.cells.toList
abbrev vR : (Addr → Value → Prop) → Cv → V → Prop := fun C c v => IsV C v c
theorem vR_mono (C C' : Addr → Value → Prop) (h : ∀ p u, C p u → C' p u) (a : Cv) (b : V) (k : vR C a b) : vR C' a b := IsV.mono h _ _ k
abbrev VR (S : Nat → Prop) (w : World) (lo : Nat) (A : Option Addr) (c : Nat) (cs : List Cv) (docs : List V) : Prop := GR vF 5 27 vR S w lo A c cs docs
abbrev cF : Cc → List Value := fun c => c.cells.toList
abbrev cR : (Addr → Value → Prop) → Cc → Co → Prop := fun C e c => CoR C e c
theorem cR_mono (C C' : Addr → Value → Prop) (h : ∀ p u, C p u → C' p u) (a : Cc) (b : Co) (k : cR C a b) : cR C' a b := k.mono h
abbrev CR (S : Nat → Prop) (w : World) (lo : Nat) (A : Option Addr) (c : Nat) (es : List Cc) (st : List Co) : Prop := GR cF 3 48 cR S w lo A c es st
theorem VR.list {S : Nat → Prop} {w : World} {lo c : Nat} {A : Option Addr} {cs : List Cv} {docs : List V} (h : VR S w lo A c cs docs) (hS : ∀ g, ablk A = some g → ¬ S g) (hl : docs.length ≤ 140737488355328) : IsV (AtX w S) (.mk 7 0 [] docs []) (lcv A docs.length c) := by
 have hlen := h.two.1;have hr := h.row;rw [hlen] at hr;refine list_of_row (own_reads hr hS) ⟨hlen.symm, fun j v d hv hd => ?_⟩ (own_le hr).1 hl;exact IsV.mono (AtX.sub fun q hq => .inr hq) _ _ (h.two.2 j d v hd hv)
theorem VR.inL {S : Nat → Prop} {w : World} {lo c : Nat} {A : Option Addr} {cs : List Cv} {docs : List V} (h : VR S w lo A c cs docs) (hS : ∀ g, ablk A = some g → ¬ S g) (hl : docs.length ≤ 140737488355328) : InL w A c docs := IsV.mono AtX.atW _ _ (h.list hS hl)
theorem CR.stIn {S : Nat → Prop} {w : World} {lo c : Nat} {A : Option Addr} {es : List Cc} {st : List Co} (h : CR S w lo A c es st) : StIn w A c st := by
 have hlen := h.two.1;have hr := h.row;rw [hlen] at hr;refine ⟨(own_le hr).1, es, h.two.mono fun a b k => k.mono AtX.atW, ?_⟩;exact (own_reads (S := fun _ => False) hr (fun _ _ h => h)).mono AtX.atW
end
section
open Go.RowKit Go.ChangeShapes Go.ChangeAt Go.Shelf Go.WideShapes
theorem laysSplit_len (W : World) (h : W.ShapedOpen Tryz.prog) : Len1 W := by
 obtain ⟨m, hm⟩ := Tryz.laysSplit.s1_3 W h;exact ⟨m, hm, World.block_lt_of_cell? _ _ hm⟩
end
end Go.Proofs.YtndjopkdbdcmdaaGreatDoor
