/- Walks: the reader's value: documents. Written by wip/tools/gen_read5.py. -/
import Derived.Test.YtcdbchifigonpaaDoorRead4
import Derived.Laws.BytesString
import Derived.Laws.IdiomStrings
import Derived.Laws.BytesArg
import Derived.StringKeys
set_option linter.unusedVariables false
set_option linter.unusedSimpArgs false
namespace Go.Proofs.YtcdbchifigonpaaDoor
open Go.RowKit Go.Shelf Go.Maps Go.WideMaps

theorem zero_unit (w : World) : (zeroValue 114).run Tryd.prog w = .ok (.agg #[]) w := by kernel_rfl
/-- Bytes as a string. -/
theorem conv_bstr {w : World} {lo hi : Nat} {A : Option Addr} {b : List UInt8} {m cap : Nat} (hm : b.length = m) (h : Reads (AtW w lo hi) 1 A m (u8s b)) :
    (convert 23 9 (.slice A m cap)).run Tryd.prog w = .ok (.string ⟨b.toArray⟩) w := by
  subst hm
  cases A with
  | none =>
    have hb : b = [] := by
      cases b with
      | nil => rfl
      | cons x r => obtain ⟨_, _, e, _⟩ := h.2 (by simp); cases e
    subst hb
    rw [run_convert_bytes_string w _ _ 5 none _ cap under_u8s under_u8 under_string]
    rfl
  | some ad =>
    refine run_convert_bytes_back w _ _ 5 ad cap b under_u8s under_u8 under_string (fun j hj => ?_)
    obtain ⟨bk, o, e, hc⟩ := h.2 (by omega)
    injection e with e
    subst e
    rw [add_lit]
    exact (hc j _ (u8s_get b j hj)).1

noncomputable def docGot (f : List UInt8 → Got) (n : Nat) (r : List UInt8) : Got :=
  match rdF f n [] r with | .error e => .error e | .ok (l, r') => .ok (.mk 8 0 [] [] l, r')
theorem rdN_some {bs : List UInt8} {s : ByteArray} {r : List UInt8} (h : rdN bs = some (s, r)) : ∃ m t, bs = m :: t ∧ m.toNat ≤ t.length ∧ (⟨(t.take m.toNat).toArray⟩ : ByteArray) = s ∧ t.drop m.toNat = r := by
  cases bs with
  | nil => rw [rdN] at h; cases h
  | cons m t =>
    rw [rdN] at h
    split at h
    · rename_i hm
      injection h with h
      injection h with h1 h2
      exact ⟨m, t, rfl, hm, h1, h2⟩
    · cases h
/-- So far j of n fields have been read: the rest tells the whole. -/
def SofarF (f : List UInt8 → Got) (n j : Nat) (r rest : List UInt8) (es : List VE) : Prop :=
  rdF f n [] r = match rdF f (n - j) (es.map VE.s) rest with | .error e => .error e | .ok (l', r') => .ok (es.map (fun x => (x.s, x.v)) ++ l', r')
theorem SofarF.start (f : List UInt8 → Got) (n : Nat) (r : List UInt8) : SofarF f n 0 r r [] := by
  unfold SofarF
  rw [Nat.sub_zero]
  show rdF f n [] r = match rdF f n [] r with | .error e => .error e | .ok (l', r') => .ok ([] ++ l', r')
  cases rdF f n [] r <;> rfl
section
variable {f : List UInt8 → Got} {n j : Nat} {r rest : List UInt8} {es : List VE} (h : SofarF f n j r rest es) (hj : j < n)
include h hj
theorem SofarF.none (hf : rdN rest = none) : rdF f n [] r = .error 4 := by
  rw [h, show n - j = (n - (j + 1)) + 1 by omega, rdF, hf]
theorem SofarF.bad {s : ByteArray} {t : List UInt8} (hf : rdN rest = some (s, t)) (hs : ¬ (V.name s = true ∧ ¬ s ∈ es.map VE.s)) : rdF f n [] r = .error 4 := by
  rw [h, show n - j = (n - (j + 1)) + 1 by omega, rdF, hf]
  simp only
  rw [if_neg hs]
theorem SofarF.fail {s : ByteArray} {t : List UInt8} {e : Int} (hf : rdN rest = some (s, t)) (hs : V.name s = true ∧ ¬ s ∈ es.map VE.s) (hx : f t = .error e) : rdF f n [] r = .error e := by
  rw [h, show n - j = (n - (j + 1)) + 1 by omega, rdF, hf]
  simp only
  rw [if_pos hs, hx]
theorem SofarF.step {t rest' : List UInt8} {x : VE} (hf : rdN rest = some (x.s, t)) (hs : V.name x.s = true ∧ ¬ x.s ∈ es.map VE.s) (hx : f t = .ok (x.v, rest')) : SofarF f n (j + 1) r rest' (es ++ [x]) := by
  unfold SofarF at h ⊢
  rw [h, show n - j = (n - (j + 1)) + 1 by omega, rdF, hf]
  simp only
  rw [if_pos hs, hx, List.map_append, List.map_cons, List.map_nil]
  simp only
  cases rdF f (n - (j + 1)) (es.map VE.s ++ [x.s]) rest' with
  | error e => rfl
  | ok y => simp
end
theorem SofarF.done {f : List UInt8 → Got} {n : Nat} {r rest : List UInt8} {es : List VE} (h : SofarF f n n r rest es) : docGot f n r = .ok (.mk 8 0 [] [] (es.map fun x => (x.s, x.v)), rest) := by
  unfold SofarF at h
  unfold docGot
  rw [h, Nat.sub_self, rdF]
  simp only [List.append_nil]

theorem owns_own {w w' : World} {b n : Nat} {D : DataW Unit} {row : Option Nat} (h : w.ownsMap Tryd.prog 9 unitElem b n D) (hg : w.grownBy w' row) (hne : ∀ k, row = some k → k ≠ b) : w'.ownsMap Tryd.prog 9 unitElem b n D := by
  obtain ⟨es, clock, hb, r⟩ := h
  have hlt : b < w.heap.size := by
    rcases Nat.lt_or_ge b w.heap.size with hlt | hge
    · exact hlt
    · exact absurd ((Array.getElem?_eq_none hge).symm.trans hb) (by simp)
  exact ⟨es, clock, (hg.block b hlt (fun e => hne b e.symm rfl)).trans hb, r⟩
theorem VRow.kept {W W' : World} {te : TypeId} {hd : ByteArray → List Value} {z lo vb base : Nat} {v : Value} {es : List VE} {row : Option Nat} (h : VRow W te hd z lo vb base v es) (hg : W.grownBy W' row) (hne : ∀ k, row = some k → v.ownBlock ≠ some k ∧ k ≤ vb) : VRow W' te hd z lo vb base v es := by
  refine ⟨World.ownsRow.kept h.own hg ?_, fun x hx => ?_, h.apart⟩
  · cases hr : row with
    | none => cases v.ownBlock <;> simp
    | some k => exact .inr (hne k hr).1
  · obtain ⟨p1, p2, p3, p4⟩ := h.part x hx
    exact ⟨p1, p2, p3, p4.blocks hg.size (fun k hk hk' => hg.block k (Nat.lt_of_lt_of_le hk' p4.1) (fun e => by have := (hne k e.symm).2; omega))⟩
theorem VRow.lower {W : World} {te : TypeId} {hd : ByteArray → List Value} {z lo vb vb' base : Nat} {v : Value} {es : List VE} (h : VRow W te hd z lo vb base v es) (hv : vb' ≤ vb) : VRow W te hd z lo vb' base v es :=
  ⟨h.own, fun x hx => by obtain ⟨p1, p2, p3, p4⟩ := h.part x hx; exact ⟨p1, by omega, p3, p4⟩, h.apart⟩
/-- A row's block is no map's. -/
theorem own_ne {w : World} {base z n b m : Nat} {te : TypeId} {v : Value} {xs : List Value} {D : DataW Unit} (h : w.ownsRow base te z v n xs) (k : w.ownsMap Tryd.prog 9 unitElem b m D) : v.ownBlock ≠ some b := by
  obtain ⟨es, clock, hb, _⟩ := k
  rcases h.2 with ⟨rfl, _⟩ | ⟨g', cap, cur, rfl, _, hh, _⟩
  · simp [Value.ownBlock]
  · intro he
    have : g' = b := by simpa [Value.ownBlock] using he
    subst this
    rw [hh] at hb
    cases hb

/-- Where the reading of a document stands: the reader, the row of fields, the value's own cell, the set of names. -/
structure DSt (w W : World) (pb mb base j : Nat) (met : List ByteArray) (rest : List UInt8) (A : Option Addr) (cap : Nat) (es : List VE) : Prop where
  rd : Rd W pb rest
  row : VRow W 52 nameHead 6 w.heap.size mb base (.slice A j cap) es
  gb : GB w W pb
  blk : Blk W w.heap.size 37 #[.int .i64 8, .int .u64 0, .slice none 0 0, .slice none 0 0, .slice A j cap]
  own : W.ownsMap Tryd.prog 9 unitElem mb met.length (NS met)
  p1 : pb < w.heap.size
  p2 : w.heap.size < base
  p3 : base < mb
  p4 : mb < W.heap.size
  len : es.length = j
section
variable {w W W' : World} {pb mb base j : Nat} {met : List ByteArray} {rest rest' : List UInt8} {A : Option Addr} {cap : Nat} {es : List VE}
theorem DSt.reads (h : DSt w W pb mb base j met rest A cap es) (hg : GB W W' pb) (hr : Rd W' pb rest') : DSt w W' pb mb base j met rest' A cap es := by
  obtain ⟨h1, h2, h3, h4, h5, h6, h7, h8, h9, h0⟩ := h
  refine ⟨hr, h2.kept hg (fun k e => ?_), h3.trans hg, h4.own hg (fun k e => ?_), owns_own h5 hg (fun k e => ?_), h6, h7, h8, Nat.lt_of_lt_of_le h9 hg.size, h0⟩
  · injection e with e
    subst e
    exact ⟨fun q => by have := (h2.own_lt q).1; omega, by omega⟩
  · injection e with e; omega
  · injection e with e; omega
theorem DSt.grow (h : DSt w W pb mb base j met rest A cap es) (hg : Grow W W') : DSt w W' pb mb base j met rest A cap es := by
  obtain ⟨h1, h2, h3, h4, h5, h6, h7, h8, h9, h0⟩ := h
  exact ⟨h1.grow hg, h2.grow hg, h3.grow hg, h4.grow hg, owns_grow h5 hg, h6, h7, h8, Nat.lt_of_lt_of_le h9 hg.size, h0⟩
theorem DSt.update {met' : List ByteArray} (h : DSt w W pb mb base j met rest A cap es) (hg : W.grownBy W' (some mb)) (ho : W'.ownsMap Tryd.prog 9 unitElem mb met'.length (NS met')) : DSt w W' pb mb base j met' rest A cap es := by
  obtain ⟨h1, h2, h3, h4, h5, h6, h7, h8, h9, h0⟩ := h
  refine ⟨h1.own hg (fun k e => by injection e with e; omega), h2.kept hg (fun k e => ?_), h3.own hg (fun k e => by injection e with e; omega), h4.own hg (fun k e => by injection e with e; omega), ho, h6, h7, h8, Nat.lt_of_lt_of_le h9 hg.size, h0⟩
  injection e with e
  subst e
  exact ⟨own_ne h2.own h5, Nat.le_refl _⟩
/-- One field more. -/
theorem DSt.add {W2 W3 : World} {s : ByteArray} {x : V} {c : Cv} {o : Obj} {A' : Option Addr} {cap' m0 : Nat} (h : DSt w W2 pb mb base j met rest A cap es) (hm : m0 ≤ W2.heap.size) (hmb : mb < m0) (hx : InS W2 m0 W2.heap.size x c)
    (hv : ∀ k, Value.ownBlock (.slice A j cap) = some k → k < m0) (hh : ∀ y ∈ es, y.hi ≤ m0)
    (h2 : W3.ownsRow base 52 6 (.slice A' (j + 1) cap') (j + 1) (cellsOf nameHead es ++ (nameHead s ++ c.cells.toList))) (hg : (W2.alloc o).grownBy W3 (Value.ownBlock (.slice A j cap)))
    (hob : Value.ownBlock (.slice A' (j + 1) cap') = Value.ownBlock (.slice A j cap) ∨ Value.ownBlock (.slice A' (j + 1) cap') = some (W2.alloc o).heap.size) :
    DSt w (W3.setCell ⟨w.heap.size, 4, none⟩ (.slice A' (j + 1) cap')) pb mb base (j + 1) met rest A' cap' (es ++ [⟨s, x, c, m0, W2.heap.size⟩]) := by
  obtain ⟨h1, hr, h3, h4, h5, h6, h7, h8, h9, h0⟩ := h
  have hlo : ∀ k, Value.ownBlock (.slice A j cap) = some k → base ≤ k := fun k e => (hr.own_lt e).1
  have hset := grown_set W3 w.heap.size 4 (.slice A' (j + 1) cap')
  have hadd : VRow W3 52 nameHead 6 w.heap.size mb base (.slice A' (j + 1) cap') (es ++ [⟨s, x, c, m0, W2.heap.size⟩]) :=
    VRow.add hr hv hmb (by omega) hh hx (by rw [h0]; exact h2) hg hob
  have hown9 : ∀ k, Value.ownBlock (.slice A' (j + 1) cap') = some k → base ≤ k ∧ k < W3.heap.size := fun k e => hadd.own_lt e
  refine ⟨(Rd.own (h1.grow ((Grow.refl W2).alloc o)) hg (fun k e => by have := hlo k e; omega)).kept hset h6, hadd.kept hset (fun k e => ?_),
    GB.set (GB.own (h3.grow ((Grow.refl W2).alloc o)) hg (fun k e => by have := hlo k e; omega)) (Nat.le_refl _) 4 _,
    Blk.set_ (Blk.own (h4.alloc o) hg (fun k e => by have := hlo k e; omega)) 4 _, owns_own (owns_own (owns_grow h5 ((Grow.refl W2).alloc o)) hg (fun k e q => ?_)) hset (fun k e => by injection e with e; omega), h6, h7, h8, ?_, by simp [h0]⟩
  · injection e with e
    subst e
    exact ⟨fun q => by have := (hown9 _ q).1; omega, by omega⟩
  · subst q
    exact own_ne hr.own h5 e
  · have e1 := hg.size
    have e2 := hset.size
    have e3 : (W2.alloc o).heap.size = W2.heap.size + 1 := by simp
    omega
end
/-- A field's cells. -/
abbrev Cv.fcells (s : ByteArray) (c : Cv) : Array Value := #[.string s, .int .i64 c.k, .int .u64 c.n, .slice c.aB c.nB c.cB, .slice c.aL c.nL c.cL, .slice c.aF c.nF c.cF]
theorem Src.oneF {w : World} (s : ByteArray) (c : Cv) (e : TypeId) : Src Tryd.prog 6 35 (.slice (some ⟨w.heap.size, 0, none⟩) 1 1) 1 (nameHead s ++ c.cells.toList) (w.alloc (.cells (c.fcells s) e)) :=
  Src.ofSlice _ under_flds ⟨w.heap.size, 0, none⟩ 1 1 _ rfl (fun j u hu => by
    rw [add_lit, Nat.zero_add, (Blk.new w e (c.fcells s)).cell j, ← hu, ← Array.getElem?_toList]; rfl) (fun u hu => by
    simp only [List.mem_cons, List.not_mem_nil, or_false, List.cons_append, List.nil_append] at hu
    rcases hu with rfl | rfl | rfl | rfl | rfl | rfl <;> rfl)

set_option maxRecDepth 100000 in
set_option maxHeartbeats 3200000 in
theorem value_8a (above pb : Nat) (x : UInt8) (hx : x.toNat = 8) (bs : List UInt8) (w : World) (ha : 16 ≤ above) (h : Rd w pb (x :: bs)) :
    Calls Tryd.prog 63 #[.pointer (some ⟨pb, 0, none⟩), .int .i64 above] w (ValC w pb (.error 3)) := by
  have hd : decide ((above : Int) < 16) = false := by simp; omega
  have H := hide h
  have hlt := h.lt
  clear h
  go_enter Tryd.func63, Tryd.ntmps63
  go_wp2_with fail
  refine (byte_yes pb x bs _ (H.out.grow ((Grow.refl w).alloc _))).mono ?_
  rintro e w1 ⟨rfl, hr, hg, hz⟩
  rw [hx]
  have HB1 := hide (show Blk (w1.setCell ⟨w.heap.size, 0, none⟩ (.int .i64 8)) w.heap.size 37 #[.int .i64 8, .int .u64 0, .slice none 0 0, .slice none 0 0, .slice none 0 0] from (Blk.grownBy (Blk.new w 37 #[.int .i64 0, .int .u64 0, .slice none 0 0, .slice none 0 0, .slice none 0 0]) hg (by omega)).set_ 0 (.int .i64 8))
  have hc := (Blk.grownBy (Blk.new w 37 #[.int .i64 0, .int .u64 0, .slice none 0 0, .slice none 0 0, .slice none 0 0]) hg (by omega)).cell
  have hfr := (Blk.grownBy (Blk.new w 37 #[.int .i64 0, .int .u64 0, .slice none 0 0, .slice none 0 0, .slice none 0 0]) hg (by omega)).frozen
  have HR := hide (hr.kept (grown_set w1 w.heap.size 0 (.int .i64 8)) hlt)
  have HG := hide ((((GB.refl w pb).grow ((Grow.refl w).alloc (.cells #[.int .i64 0, .int .u64 0, .slice none 0 0, .slice none 0 0, .slice none 0 0] 37))).trans hg).set (Nat.le_refl _) 0 (.int .i64 8))
  have hz' : (w1.setCell ⟨w.heap.size, 0, none⟩ (.int .i64 8)).heap.size = w.heap.size + 1 := by simpa [World.setCell] using hz
  clear hr hg hz
  go_wp2_with fail
  generalize w1.setCell ⟨w.heap.size, 0, none⟩ (.int .i64 8) = W1 at HB1 HR HG hz' ⊢
  clear hc hfr
  have hc := HB1.out.cell
  have hfr := HB1.out.frozen
  refine (must_yes _ _).mono ?_
  rintro e w2 ⟨rfl, rfl⟩
  go_wp2_with fail
  refine (must_no _ _).mono ?_
  rintro e w2 ⟨rfl, rfl⟩
  go_wp2_with fail
  exact ⟨rfl, rfl, HG.out⟩
set_option maxRecDepth 100000 in
set_option maxHeartbeats 3200000 in
theorem value_8b (above pb : Nat) (x : UInt8) (hx : x.toNat = 8) (bs : List UInt8) (w : World) (ha : above < 16) (hbs : bs = []) (h : Rd w pb (x :: bs)) :
    Calls Tryd.prog 63 #[.pointer (some ⟨pb, 0, none⟩), .int .i64 above] w (ValC w pb (.error 4)) := by
  subst hbs
  have hd : decide ((above : Int) < 16) = true := by simp; omega
  have H := hide h
  have hlt := h.lt
  clear h
  go_enter Tryd.func63, Tryd.ntmps63
  go_wp2_with fail
  refine (byte_yes pb x [] _ (H.out.grow ((Grow.refl w).alloc _))).mono ?_
  rintro e w1 ⟨rfl, hr, hg, hz⟩
  rw [hx]
  have HB1 := hide (show Blk (w1.setCell ⟨w.heap.size, 0, none⟩ (.int .i64 8)) w.heap.size 37 #[.int .i64 8, .int .u64 0, .slice none 0 0, .slice none 0 0, .slice none 0 0] from (Blk.grownBy (Blk.new w 37 #[.int .i64 0, .int .u64 0, .slice none 0 0, .slice none 0 0, .slice none 0 0]) hg (by omega)).set_ 0 (.int .i64 8))
  have hc := (Blk.grownBy (Blk.new w 37 #[.int .i64 0, .int .u64 0, .slice none 0 0, .slice none 0 0, .slice none 0 0]) hg (by omega)).cell
  have hfr := (Blk.grownBy (Blk.new w 37 #[.int .i64 0, .int .u64 0, .slice none 0 0, .slice none 0 0, .slice none 0 0]) hg (by omega)).frozen
  have HR := hide (hr.kept (grown_set w1 w.heap.size 0 (.int .i64 8)) hlt)
  have HG := hide ((((GB.refl w pb).grow ((Grow.refl w).alloc (.cells #[.int .i64 0, .int .u64 0, .slice none 0 0, .slice none 0 0, .slice none 0 0] 37))).trans hg).set (Nat.le_refl _) 0 (.int .i64 8))
  have hz' : (w1.setCell ⟨w.heap.size, 0, none⟩ (.int .i64 8)).heap.size = w.heap.size + 1 := by simpa [World.setCell] using hz
  clear hr hg hz
  go_wp2_with fail
  generalize w1.setCell ⟨w.heap.size, 0, none⟩ (.int .i64 8) = W1 at HB1 HR HG hz' ⊢
  clear hc hfr
  have hc := HB1.out.cell
  have hfr := HB1.out.frozen
  refine (must_yes _ _).mono ?_
  rintro e w2 ⟨rfl, rfl⟩
  go_wp2_with fail
  refine (must_yes _ _).mono ?_
  rintro e w2 ⟨rfl, rfl⟩
  go_wp2_with fail
  refine (many_no pb _ HR.out).mono ?_
  rintro e w3 ⟨rfl, rfl⟩
  go_wp2_with fail
  exact ⟨rfl, rfl, HG.out⟩
set_option maxRecDepth 100000 in
set_option maxHeartbeats 3200000 in
theorem value_8c (above pb : Nat) (x : UInt8) (hx : x.toNat = 8) (bs : List UInt8) (w : World) (ha : above < 16) (y : UInt8) (r : List UInt8) (hbs : bs = y :: r) (hy : 64 < y.toNat) (h : Rd w pb (x :: bs)) :
    Calls Tryd.prog 63 #[.pointer (some ⟨pb, 0, none⟩), .int .i64 above] w (ValC w pb (.error 19)) := by
  subst hbs
  have hd : decide ((above : Int) < 16) = true := by simp; omega
  have H := hide h
  have hlt := h.lt
  clear h
  go_enter Tryd.func63, Tryd.ntmps63
  go_wp2_with fail
  refine (byte_yes pb x (y :: r) _ (H.out.grow ((Grow.refl w).alloc _))).mono ?_
  rintro e w1 ⟨rfl, hr, hg, hz⟩
  rw [hx]
  have HB1 := hide (show Blk (w1.setCell ⟨w.heap.size, 0, none⟩ (.int .i64 8)) w.heap.size 37 #[.int .i64 8, .int .u64 0, .slice none 0 0, .slice none 0 0, .slice none 0 0] from (Blk.grownBy (Blk.new w 37 #[.int .i64 0, .int .u64 0, .slice none 0 0, .slice none 0 0, .slice none 0 0]) hg (by omega)).set_ 0 (.int .i64 8))
  have hc := (Blk.grownBy (Blk.new w 37 #[.int .i64 0, .int .u64 0, .slice none 0 0, .slice none 0 0, .slice none 0 0]) hg (by omega)).cell
  have hfr := (Blk.grownBy (Blk.new w 37 #[.int .i64 0, .int .u64 0, .slice none 0 0, .slice none 0 0, .slice none 0 0]) hg (by omega)).frozen
  have HR := hide (hr.kept (grown_set w1 w.heap.size 0 (.int .i64 8)) hlt)
  have HG := hide ((((GB.refl w pb).grow ((Grow.refl w).alloc (.cells #[.int .i64 0, .int .u64 0, .slice none 0 0, .slice none 0 0, .slice none 0 0] 37))).trans hg).set (Nat.le_refl _) 0 (.int .i64 8))
  have hz' : (w1.setCell ⟨w.heap.size, 0, none⟩ (.int .i64 8)).heap.size = w.heap.size + 1 := by simpa [World.setCell] using hz
  clear hr hg hz
  go_wp2_with fail
  generalize w1.setCell ⟨w.heap.size, 0, none⟩ (.int .i64 8) = W1 at HB1 HR HG hz' ⊢
  clear hc hfr
  have hc := HB1.out.cell
  have hfr := HB1.out.frozen
  refine (must_yes _ _).mono ?_
  rintro e w2 ⟨rfl, rfl⟩
  go_wp2_with fail
  refine (must_yes _ _).mono ?_
  rintro e w2 ⟨rfl, rfl⟩
  go_wp2_with fail
  refine (many_over pb y r _ HR.out hy).mono ?_
  rintro e w3 ⟨rfl, hg⟩
  have HG2 := hide (HG.out.trans hg)
  clear hg
  go_wp2_with fail
  exact ⟨rfl, rfl, HG2.out⟩
set_option maxRecDepth 100000 in
set_option maxHeartbeats 6400000 in
theorem value_8d (above pb : Nat) (x : UInt8) (hx : x.toNat = 8) (y : UInt8) (n : Nat) (hn : y.toNat = n) (r : List UInt8) (w : World) (f : List UInt8 → Got) (hF : ValF f (above + 1) pb) (hT : Tabs w) (hp : 1 < pb) (ha : above < 16) (hy : n ≤ 64) (h : Rd w pb (x :: y :: r)) :
    Calls Tryd.prog 63 #[.pointer (some ⟨pb, 0, none⟩), .int .i64 above] w (ValC w pb (docGot f n r)) := by
  obtain ⟨i0, hi0, hz0, hz1, hz2⟩ := info_parts info_fld3
  have Hi0 := hide hi0
  have Hz0 := hide hz0
  have Hz1 := hide hz1
  have Hz2 := hide hz2
  clear hi0 hz0 hz1 hz2
  have HF := hide hF
  have HT := hide hT
  have HN := hide hn
  clear hF hT hn
  have law : Keyed Tryd.prog 9 := string_keyed under_string
  have hd : decide ((above : Int) < 16) = true := by simp; omega
  have H := hide h
  have hlt := h.lt
  clear h
  go_enter Tryd.func63, Tryd.ntmps63
  go_wp2_with fail
  refine (byte_yes pb x (y :: r) _ (H.out.grow ((Grow.refl w).alloc _))).mono ?_
  rintro e w1 ⟨rfl, hr, hg, hz⟩
  rw [hx]
  have HB1 := hide (show Blk (w1.setCell ⟨w.heap.size, 0, none⟩ (.int .i64 8)) w.heap.size 37 #[.int .i64 8, .int .u64 0, .slice none 0 0, .slice none 0 0, .slice none 0 0] from (Blk.grownBy (Blk.new w 37 #[.int .i64 0, .int .u64 0, .slice none 0 0, .slice none 0 0, .slice none 0 0]) hg (by omega)).set_ 0 (.int .i64 8))
  have hc := (Blk.grownBy (Blk.new w 37 #[.int .i64 0, .int .u64 0, .slice none 0 0, .slice none 0 0, .slice none 0 0]) hg (by omega)).cell
  have hfr := (Blk.grownBy (Blk.new w 37 #[.int .i64 0, .int .u64 0, .slice none 0 0, .slice none 0 0, .slice none 0 0]) hg (by omega)).frozen
  have HR := hide (hr.kept (grown_set w1 w.heap.size 0 (.int .i64 8)) hlt)
  have HG := hide ((((GB.refl w pb).grow ((Grow.refl w).alloc (.cells #[.int .i64 0, .int .u64 0, .slice none 0 0, .slice none 0 0, .slice none 0 0] 37))).trans hg).set (Nat.le_refl _) 0 (.int .i64 8))
  have hz' : (w1.setCell ⟨w.heap.size, 0, none⟩ (.int .i64 8)).heap.size = w.heap.size + 1 := by simpa [World.setCell] using hz
  clear hr hg hz
  go_wp2_with fail
  generalize w1.setCell ⟨w.heap.size, 0, none⟩ (.int .i64 8) = W1 at HB1 HR HG hz' ⊢
  clear hc hfr
  have hc := HB1.out.cell
  have hfr := HB1.out.frozen
  refine (must_yes _ _).mono ?_
  rintro e w2 ⟨rfl, rfl⟩
  go_wp2_with fail
  refine (must_yes _ _).mono ?_
  rintro e w2 ⟨rfl, rfl⟩
  go_wp2_with fail
  refine (many_yes pb y r _ HR.out (by rw [HN.out]; exact hy)).mono ?_
  rintro e W2 ⟨rfl, hr, hg, hz⟩
  rw [HN.out]
  have HG2 := hide (HG.out.trans hg)
  have HB2 := hide (Blk.grownBy HB1.out hg (by omega))
  clear hc hfr
  have hc := HB2.out.cell
  have hfr := HB2.out.frozen
  have HR2 := hide hr
  obtain ⟨A, cap, hb, _, hl48, _⟩ := hr
  have hp0 := hb.cell 0
  simp only [List.getElem?_toArray, List.getElem?_cons_zero] at hp0
  clear hb hg hz hz'
  obtain ⟨cur, hcur, hmk⟩ := make_flds (min n r.length) (by omega)
  rw [show ((min n r.length : Nat) : Int) = min (n : Int) (r.length : Int) by omega] at hmk
  have hmm := @run_makeMap Tryd.prog
  have hpl : pb < W2.heap.size := HR2.out.lt
  have hvl : w.heap.size < W2.heap.size := HB2.out.lt
  go_wp2_with fail
  have hsz3 : (W2.setCell ⟨w.heap.size, 4, none⟩ (.slice (some ⟨W2.heap.size, 0, none⟩) 0 (min n r.length))).heap.size = W2.heap.size := by simp [World.setCell]
  have hrow := World.ownsRow_made (e := 52) (size := 6) (W2.setCell ⟨w.heap.size, 4, none⟩ (.slice (some ⟨W2.heap.size, 0, none⟩) 0 (min n r.length))) cur (min n r.length) (Nat.le_refl _) (by simp only [maxLen]; omega) hcur
  rw [hsz3] at hrow
  have hmade := set_made ((W2.setCell ⟨w.heap.size, 4, none⟩ (.slice (some ⟨W2.heap.size, 0, none⟩) 0 (min n r.length))).alloc (.cells cur 52))
  have hsz4 : ((W2.setCell ⟨w.heap.size, 4, none⟩ (.slice (some ⟨W2.heap.size, 0, none⟩) 0 (min n r.length))).alloc (.cells cur 52)).heap.size = W2.heap.size + 1 := by simp [World.setCell]
  rw [hsz4] at hmade
  have HD3 := hide (show DSt w (((W2.setCell ⟨w.heap.size, 4, none⟩ (.slice (some ⟨W2.heap.size, 0, none⟩) 0 (min n r.length))).alloc (.cells cur 52)).alloc (.map #[] 0)) pb (W2.heap.size + 1) W2.heap.size 0 [] r (some ⟨W2.heap.size, 0, none⟩) (min n r.length) [] from
    ⟨(((HR2.out.kept (grown_set _ w.heap.size 4 _) hlt).grow ((Grow.refl _).alloc _)).grow ((Grow.refl _).alloc _)),
     VRow.grow ⟨hrow, fun x hx => by simp at hx, fun i j hi => by simp at hi⟩ ((Grow.refl _).alloc _),
     ((HG2.out.set (Nat.le_refl _) 4 _).grow ((Grow.refl _).alloc _)).grow ((Grow.refl _).alloc _),
     ((HB2.out.set_ 4 _).alloc _).alloc _, hmade, hlt, hvl, by omega, by simp [World.setCell], rfl⟩)
  clear hmk hmm hc hfr hp0 HB2 HR2 HG2 HB1 HR HG hsz3 hrow hmade hsz4
  go_loopg [113] (n + 1) (fun gk i wr => ∃ (j : Nat) (es : List VE) (A : Option Addr) (cap : Nat) (rest : List UInt8), j ≤ n ∧ gk + j = n + 1 ∧ i = .int .i64 j ∧ (∀ x ∈ es, x.s.size ≤ 255) ∧ SofarF f n j r rest es ∧
    DSt w wr pb (W2.heap.size + 1) W2.heap.size j (es.map VE.s) rest A cap es)
  case atStart => exact ⟨0, [], _, _, r, by omega, by omega, rfl, fun x hx => by simp at hx, SofarF.start f n r, HD3.out⟩
  case round =>
    obtain ⟨j, es, A', cap', rest, hj, hg, rfl, hss, hsf, hD⟩ := hrel
    have HD := hide hD
    have HSF := hide hsf
    have HSS := hide hss
    clear hD hsf hss HD3
    by_cases hlt2 : j < n
    · obtain ⟨gk', rfl⟩ : ∃ g, gk = g + 1 := ⟨gk - 1, by omega⟩
      cases hN : rdN rest with
      | none =>
        have hend : ∀ W', GB w W' pb → ValC w pb (docGot f n r) (.panicked (thrown 4)) W' := fun W' h => by
          unfold docGot
          rw [HSF.out.none hlt2 hN]
          exact ⟨rfl, h⟩
        have HE := hide hend
        clear hend
        cases rest with
        | nil =>
          clear hN
          go_wp2_with fail
          refine (byte_no pb _ HD.out.rd).mono ?_
          rintro e w2 ⟨rfl, rfl⟩
          go_wp2_with fail
          exact ⟨rfl, HE.out _ HD.out.gb⟩
        | cons m t =>
          have hmt : t.length < m.toNat := by
            rw [rdN] at hN
            split at hN
            · cases hN
            · omega
          clear hN
          go_wp2_with fail
          refine (byte_yes pb m t _ HD.out.rd).mono ?_
          rintro e w2 ⟨rfl, hr2, hg2, hz2⟩
          have HD2 := hide (HD.out.reads hg2 hr2)
          clear hr2 hg2 hz2
          go_wp2_with fail
          refine (take_no pb m.toNat t _ HD2.out.rd hmt).mono ?_
          rintro e w3 ⟨rfl, rfl⟩
          go_wp2_with fail
          exact ⟨rfl, HE.out _ HD2.out.gb⟩
      | some st =>
        obtain ⟨s, t'⟩ := st
        have HNN := hide hN
        obtain ⟨m, t, hre, hm, hs, ht⟩ := rdN_some hN
        subst hre
        have hsz : s.size ≤ 255 := by
          rw [← hs]
          show (t.take m.toNat).toArray.size ≤ 255
          rw [List.size_toArray, List.length_take]
          have := m.toNat_lt
          omega
        have hlen : (es.map VE.s).length ≤ 64 := by rw [List.length_map, HD.out.len]; omega
        have HS := hide hs
        have HTT := hide ht
        clear hN hs ht
        go_wp2_with fail
        refine (byte_yes pb m t _ HD.out.rd).mono ?_
        rintro e w2 ⟨rfl, hr2, hg2, hz2⟩
        have HD2 := hide (HD.out.reads hg2 hr2)
        clear hr2 hg2 hz2
        go_wp2_with fail
        refine (take_yes pb m.toNat t _ HD2.out.rd hm).mono ?_
        rintro e w3 ⟨A3, rfl, hrd3, hr3, hg3, hz3⟩
        have hcv := conv_bstr (cap := m.toNat) (by rw [List.length_take]; omega) hrd3
        rw [HS.out] at hcv
        rw [HTT.out] at hr3
        have HD3 := hide (HD2.out.reads hg3 hr3)
        have hkey : keyOf Tryd.prog 9 (.string s) = some (nlit s) := keyOf_string_mk under_string (by simp only [maxLen]; omega)
        obtain ⟨hasB, hhas⟩ : ∃ b, Maps.has (NS (es.map VE.s)) (nlit s) = b := ⟨_, rfl⟩
        have HHAS := hide hhas
        clear hhas hrd3 hr3 hg3 hz3
        go_wp2_with (at_lookup; refine wpList_lookup_own_unit _ rfl _ _ 113 rfl 9 114 law under_set (zero_unit _) (W2.heap.size + 1) (es.map VE.s).length (NS (es.map VE.s)) rfl HD3.out.own _ _ rfl hkey ?_; rw [HHAS.out])
        refine (name_any s _ (HT.out.gb (HD3.out.grow ((Grow.refl w3).alloc _)).gb hp)).mono ?_
        rintro e w4 ⟨rfl, hg4⟩
        have HD4 := hide ((HD3.out.grow ((Grow.refl w3).alloc _)).grow hg4)
        obtain ⟨R, hR⟩ : ∃ R, V.name s = R := ⟨_, rfl⟩
        rw [hR]
        have HR := hide hR
        clear hg4 hR hcv
        cases R
        · -- no name
          have hend : ∀ W', GB w W' pb → ValC w pb (docGot f n r) (.panicked (thrown 4)) W' := fun W' h => by
            unfold docGot
            rw [HSF.out.bad hlt2 HNN.out (fun q => by rw [HR.out] at q; exact Bool.false_ne_true q.1)]
            exact ⟨rfl, h⟩
          have HE := hide hend
          clear hend
          go_wp2_with fail
          refine (must_no _ _).mono ?_
          rintro e w5 ⟨rfl, rfl⟩
          go_wp2_with fail
          exact ⟨rfl, HE.out _ HD4.out.gb⟩
        cases hasB
        case true =>
          have hend : ∀ W', GB w W' pb → ValC w pb (docGot f n r) (.panicked (thrown 4)) W' := fun W' h => by
            unfold docGot
            rw [HSF.out.bad hlt2 HNN.out (fun q => q.2 ((has_NS _ _).1 HHAS.out))]
            exact ⟨rfl, h⟩
          have HE := hide hend
          clear hend
          go_wp2_with fail
          refine (must_no _ _).mono ?_
          rintro e w5 ⟨rfl, rfl⟩
          go_wp2_with fail
          exact ⟨rfl, HE.out _ HD4.out.gb⟩
        have HC := hide (show V.name s = true ∧ ¬ s ∈ es.map VE.s from ⟨HR.out, fun q => by have := (has_NS _ _).2 q; rw [HHAS.out] at this; exact Bool.false_ne_true this⟩)
        go_wp2_with fail
        refine (must_yes _ _).mono ?_
        rintro e w4' ⟨rfl, rfl⟩
        go_wp2_with (first | (at_mapUpdate; refine wpList_mapUpdate_own _ rfl _ _ _ 113 rfl 9 114 law under_set (unitElem (H := Unit)) (W2.heap.size + 1) (es.map VE.s).length _ rfl HD4.out.own (by unfold maxLen; omega) _ _ _ rfl rfl hkey _ [] unitElem_mk ?_; intro w5 hown5 hgrow5; have HD5 := hide (HD4.out.update (met' := es.map VE.s ++ [s]) hgrow5 (by rw [List.length_append, List.length_singleton, NS_snoc]; exact hown5)); clear hown5 hgrow5))
        have hc := HD5.out.blk.cell
        have hfr := HD5.out.blk.frozen
        have hvl5 := HD5.out.blk.lt
        have hm5 := HD5.out.p4
        have hpr5 := HD5.out.rd.lt
        have hab : IntKind.i64.wrap ((above : Int) + 1) = (above : Int) + 1 := IntWalk.i64_in _ (by omega)
        have hcall := HF.out w5.drew t' (HT.out.gb (HD5.out.grow (Grow.refl w5).drew).gb hp) (HD5.out.rd.grow (Grow.refl w5).drew)
        rw [show ((above + 1 : Nat) : Int) = (above : Int) + 1 by omega] at hcall
        cases hfx : f t' with
        | error ee =>
          rw [hfx] at hcall
          have HCC := hide hcall
          have hend : ∀ W', GB w5.drew W' pb → ValC w pb (docGot f n r) (.panicked (thrown ee)) W' := fun W' h => by
            unfold docGot
            rw [HSF.out.fail hlt2 HNN.out HC.out hfx]
            exact ⟨rfl, (HD5.out.gb.grow (Grow.refl w5).drew).trans h⟩
          have HE := hide hend
          clear hcall hfx hend
          go_wp2_with fail
          go_region_dies
          all_goals
            refine HCC.out.mono ?_
            rintro e w6 ⟨rfl, hg6⟩
            exact And.intro rfl (HE.out _ hg6)
        | ok xr =>
          obtain ⟨xv, rest'⟩ := xr
          rw [hfx] at hcall
          have HCC := hide hcall
          have HX := hide hfx
          clear hcall hfx
          go_wp2_with fail
          go_region_law ((first | (refine step_append_src (by rfl) (.tmp 137) (.tmp 144) 35 35 (by rfl) W2.heap.size 52 i0 _ 6 104 under_flds Hi0.out Hz0.out Hz1.out Hz2.out (by rfl) (.slice A' j cap') j (cellsOf nameHead es) (by rfl) (hown6.alloc _) _ 1 (nameHead s ++ c.cells.toList) (by rfl) (Src.oneF s c _) (by omega) (by simp only [maxLen]; omega) (by simp; omega) ?_; intro A7 c7 w7 hown7 hgr7 hat7; have hB7 := Blk.own (HD6.out.blk.alloc _) hgr7 (fun k hk => by have := (HD6.out.row.own_lt hk).1; omega); have hc7 := hB7.cell; have hf7 := hB7.frozen) | (go_simp; go_at_call 63; refine HCC.out.mono ?_; rintro e w6 ⟨c, rfl, hx6, hr6, hg6⟩; have HD6 := hide ((HD5.out.grow (Grow.refl w5).drew).reads hg6 hr6); have hc6 := HD6.out.blk.cell; have hc6a := (HD6.out.blk.alloc (.cells (c.fcells s) 52)).cell; have hz6 : w5.heap.size ≤ w6.heap.size := hg6.size; have hown6 := HD6.out.row.own; rw [HD6.out.len] at hown6)))
          all_goals
            have hD8 := DSt.add HD6.out (s := s) (m0 := w5.heap.size) hz6 hm5 hx6 (fun k hk => (HD5.out.row.own_lt hk).2) (fun y hy => (HD5.out.row.part y hy).2.2.2.1) hown7 hgr7 hat7
            rw [show es.map VE.s ++ [s] = (es ++ [VE.mk s xv c w5.heap.size w6.heap.size]).map VE.s by simp] at hD8
            have HD8 := hide hD8
            have hsd : ∀ x ∈ es ++ [VE.mk s xv c w5.heap.size w6.heap.size], x.s.size ≤ 255 := fun x hx => by
              rcases List.mem_append.1 hx with hx | hx
              · exact HSS.out x hx
              · rw [List.mem_singleton] at hx
                subst hx
                exact hsz
            have HSD := hide hsd
            clear hD8 hsd hc hfr hc6 hc6a hown6 hown7 hgr7 hat7 hB7 hc7 hf7 hx6 hr6 hg6
            go_wp2_with fail
            go_roundg gk'
            case measure => omega
            case rel => exact ⟨j + 1, es ++ [VE.mk s xv c w5.heap.size w6.heap.size], A7, c7, rest', by omega, by omega, by go_num, HSD.out, HSF.out.step (x := ⟨s, xv, c, w5.heap.size, w6.heap.size⟩) hlt2 HNN.out HC.out HX.out, HD8.out⟩
    · obtain rfl : j = n := by omega
      have hgot := HSF.out.done
      have HGOT := hide hgot
      have hc := HD.out.blk.cell
      have hfr := HD.out.blk.frozen
      have hvz := HD.out.blk.lt
      clear hgot
      go_wp2_with fail
      rw [HGOT.out]
      exact value_endS (c := ⟨8, 0, none, 0, 0, none, 0, 0, A', j, cap'⟩) rfl HD.out.blk (Nat.le_refl _) hlt HD.out.gb HD.out.rd ((HD.out.row.lower (by omega)).isF (fun x hx => by have := HSS.out x hx; omega) HD.out.len.symm (by omega) hvl hy)
end Go.Proofs.YtcdbchifigonpaaDoor
