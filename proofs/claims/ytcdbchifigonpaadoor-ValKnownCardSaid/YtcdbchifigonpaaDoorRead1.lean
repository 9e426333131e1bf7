/- Walks: the reader's value: what holds no values. -/
import Derived.Test.YtcdbchifigonpaaDoorPls
import Derived.Test.YtcdbchifigonpaaDoorLibs
import Derived.Test.YtcdbchifigonpaaDoorName
import Derived.Test.YtcdbchifigonpaaDoorGood
import Derived.Laws.OwnMore
namespace Go.Proofs.YtcdbchifigonpaaDoor
open Go.RowKit Go.Shelf

theorem grown_set (w : World) (b i : Nat) (u : Value) : w.grownBy (w.setCell ⟨b, i, none⟩ u) (some b) :=
  ⟨rfl, rfl, rfl, by simp [World.setCell], fun k _ hk => Below.heap_setCell w ⟨b, i, none⟩ u k (fun e => hk (by rw [e]))⟩
theorem Rd.kept {w w' : World} {pb q : Nat} {bs : List UInt8} (h : Rd w pb bs) (hg : w.grownBy w' (some q)) (hq : pb < q) : Rd w' pb bs := by
  obtain ⟨A, c, hb, h1, h2, hr⟩ := h
  refine ⟨A, c, ?_, h1, h2, hr.mono (AtW.grownBy hg (by omega))⟩
  unfold Blk at hb ⊢
  rw [hg.block pb (Blk.lt hb) (fun e => by injection e with e; omega)]
  exact hb

/-- All of w stays but block pb. -/
def GB (w w' : World) (pb : Nat) : Prop := w.grownBy w' (some pb)
theorem GB.refl (w : World) (pb : Nat) : GB w w pb := World.grownBy.refl _ _
theorem GB.trans {a b c : World} {pb : Nat} (h : GB a b pb) (k : GB b c pb) : GB a c pb :=
  ⟨k.os.trans h.os, k.tape.trans h.tape, k.output.trans h.output, Nat.le_trans h.size k.size, fun i hi hne => (k.block i (Nat.lt_of_lt_of_le hi h.size) hne).trans (h.block i hi hne)⟩
theorem GB.grow {w w1 w2 : World} {pb : Nat} (h : GB w w1 pb) (g : Grow w1 w2) : GB w w2 pb :=
  ⟨g.os.trans h.os, g.tape.trans h.tape, g.output.trans h.output, Nat.le_trans h.size g.size, fun k hk hn => (g.below.block k (Nat.lt_of_lt_of_le hk h.size)).trans (h.block k hk hn)⟩
theorem GB.set {w w1 : World} {pb b : Nat} (h : GB w w1 pb) (hb : w.heap.size ≤ b) (i : Nat) (u : Value) : GB w (w1.setCell ⟨b, i, none⟩ u) pb :=
  ⟨h.os, h.tape, h.output, by have := h.size; simpa [World.setCell] using this, fun k hk hn => (Below.heap_setCell w1 ⟨b, i, none⟩ u k (fun e => by have : b = k := e.symm; omega)).trans (h.block k hk hn)⟩
/-- What a reading of bytes comes to. -/
def ValC (w : World) (pb : Nat) (got : Got) (e : Ending) (w' : World) : Prop :=
  match got with
  | .error x => e = .panicked (thrown x) ∧ GB w w' pb
  | .ok (v, r) => ∃ c : Cv, e = .returned c.agg ∧ InS w' w.heap.size w'.heap.size v c ∧ Rd w' pb r ∧ GB w w' pb

theorem info_val : (Tryd.prog.info? 37).map (·.size) = some 5 := by kernel_rfl
/-- The world behind a value's store into its own cell. -/
def set5 (W : World) (vb : Nat) (c : Cv) : World :=
  ((((W.setCell ⟨vb, 0, none⟩ (.int .i64 c.k)).setCell ⟨vb, 1, none⟩ (.int .u64 c.n)).setCell ⟨vb, 2, none⟩ (.slice c.aB c.nB c.cB)).setCell ⟨vb, 3, none⟩ (.slice c.aL c.nL c.cL)).setCell ⟨vb, 4, none⟩ (.slice c.aF c.nF c.cF)
theorem set5_blk {W : World} {vb : Nat} {t : TypeId} {c : Cv} (h : Blk W vb t c.cells) : Blk (set5 W vb c) vb t c.cells := by
  have := ((((h.set_ 0 (.int .i64 c.k)).set_ 1 (.int .u64 c.n)).set_ 2 (.slice c.aB c.nB c.cB)).set_ 3 (.slice c.aL c.nL c.cL)).set_ 4 (.slice c.aF c.nF c.cF)
  exact this
theorem set5_gb {w W : World} {pb vb : Nat} (h : GB w W pb) (hb : w.heap.size ≤ vb) (c : Cv) : GB w (set5 W vb c) pb :=
  ((((h.set hb 0 _).set hb 1 _).set hb 2 _).set hb 3 _).set hb 4 _
theorem set5_grown (W : World) (vb : Nat) (c : Cv) : W.grownBy (set5 W vb c) (some vb) :=
  ((((grown_set W vb 0 _).trans (grown_set _ vb 1 _)).trans (grown_set _ vb 2 _)).trans (grown_set _ vb 3 _)).trans (grown_set _ vb 4 _)
theorem set5_size (W : World) (vb : Nat) (c : Cv) : (set5 W vb c).heap.size = W.heap.size := by simp [set5, World.setCell]
theorem Row.from {w : World} {base m : Nat} {A : Option Addr} {c : Nat} {xs : List UInt8} (h : Row w base (.slice A m c) m xs) : Reads (AtW w base w.heap.size) 1 A m (u8s xs) := by
  have hl : xs.length = m := by simpa [u8s] using h.1
  refine ⟨by rw [u8s_length, Nat.mul_one, hl], fun hn => ?_⟩
  obtain ⟨g, cap, hv, hb, hlt⟩ := World.ownsRow.form h (by omega)
  have hA : A = some ⟨g, 0, none⟩ := by injection hv
  subst hA
  refine ⟨g, 0, rfl, fun j u hu => ⟨?_, hb, hlt⟩⟩
  rw [← add_lit]
  exact World.ownsRow.cells h (g := g) rfl j u hu
theorem Row.cap {w : World} {base m : Nat} {A : Option Addr} {c : Nat} {xs : List UInt8} (h : Row w base (.slice A m c) m xs) : m ≤ c := by
  rcases h.2 with ⟨hv, h0⟩ | ⟨g, cap, cur, hv, _, _, hc, _⟩
  · omega
  · injection hv with _ _ e; omega
theorem Row.from_ {w : World} {base m : Nat} {A : Option Addr} {c : Nat} {xs : List UInt8} (h : Row w base (.slice A m c) m xs) : Reads (fun p u => AtW w base w.heap.size p u ∧ w.frozen? p = false) 1 A m (u8s xs) := by
  have hl : xs.length = m := by simpa [u8s] using h.1
  refine ⟨by rw [u8s_length, Nat.mul_one, hl], fun hn => ?_⟩
  obtain ⟨g, cap, hv, hb, hlt⟩ := World.ownsRow.form h (by omega)
  have hA : A = some ⟨g, 0, none⟩ := by injection hv
  subst hA
  refine ⟨g, 0, rfl, fun j u hu => ⟨⟨?_, hb, hlt⟩, by rw [Nat.zero_add]; exact World.ownsRow.frozenAt h j⟩⟩
  rw [← add_lit]
  exact World.ownsRow.cells h (g := g) rfl j u hu
theorem Tabs.gb {w w' : World} {pb : Nat} (h : Tabs w) (hg : GB w w' pb) (hp : 1 < pb) : Tabs w' :=
  ⟨fun i hi => World.grownBy.cell hg (h.1 i hi) (fun e => by simp at e; omega),
   fun i hi => ⟨World.grownBy.cell hg (h.2 i hi).1 (fun e => by simp at e; omega), World.grownBy.cell hg (h.2 i hi).2 (fun e => by simp at e; omega)⟩⟩
/-- The end of the reader's value: its own cell is handed back. -/
theorem value_endS {w W : World} {pb vb : Nat} {v : V} {r : List UInt8} {c : Cv} {tmps : Array Value} (hp : tmps.getD 4 undef = .pointer (some ⟨vb, 0, none⟩)) (hB : Blk W vb 37 c.cells) (hvb : w.heap.size ≤ vb) (hpb : pb < vb)
    (hg : GB w W pb) (hr : Rd W pb r) (hv : IsS (fun p u => CF W p u ∧ p.block ≠ vb) v c (fun q => w.heap.size ≤ q ∧ q < W.heap.size)) :
    bodyPost Tryd.prog Tryd.f63 (ValC w pb (.ok (v, r))) .ret { tmps := tmps, defers := [] } (set5 W vb c) := by
  refine bodyPost_ret (results_cell_row rfl _ _ vb 37 c.cells (0, 0) _ hp (set5_blk hB) Tryd.underlying37 rfl (by rw [info_val]; rfl)) rfl ?_
  refine ⟨c, rfl, ⟨Nat.le_refl _, ?_⟩, hr.kept (set5_grown W vb c) hpb, set5_gb hg hvb c⟩
  rw [set5_size]
  exact IsS.mono v c _ _ (fun p u h s => h.1.block ((set5_grown W vb c).block _ s.2 (fun e => h.2 (by injection e)))) (fun q h => h) hv
theorem value_end {w W : World} {pb vb : Nat} {v : V} {r : List UInt8} {c : Cv} {tmps : Array Value} (hp : tmps.getD 4 undef = .pointer (some ⟨vb, 0, none⟩)) (hB : Blk W vb 37 c.cells) (hvb : w.heap.size ≤ vb) (hpb : pb < vb)
    (hg : GB w W pb) (hr : Rd W pb r) (hv : IsV (fun p u => (AtW W w.heap.size W.heap.size p u ∧ W.frozen? p = false) ∧ p.block ≠ vb) v c) (hfl : v.l = [] ∧ v.f = [] := by exact ⟨rfl, rfl⟩) :
    bodyPost Tryd.prog Tryd.f63 (ValC w pb (.ok (v, r))) .ret { tmps := tmps, defers := [] } (set5 W vb c) :=
  value_endS hp hB hvb hpb hg hr (IsS.flat hfl (fun _ _ h => ⟨⟨⟨h.1.1.1, h.1.2⟩, h.2⟩, h.1.1.2⟩) hv)

set_option maxRecDepth 100000 in
set_option maxHeartbeats 1600000 in
theorem value_none (above pb : Nat) (w : World) (h : Rd w pb []) :
    Calls Tryd.prog 63 #[.pointer (some ⟨pb, 0, none⟩), .int .i64 above] w fun e w' => e = .panicked (thrown 4) ∧ GB w w' pb := by
  have H := hide h
  have hlt := h.lt
  clear h
  go_enter Tryd.func63, Tryd.ntmps63
  go_wp2_with fail
  refine (byte_no pb _ (H.out.grow ((Grow.refl w).alloc _))).mono ?_
  rintro e w1 ⟨rfl, rfl⟩
  go_wp2_with fail
  exact ⟨rfl, rfl, (GB.refl w pb).grow ((Grow.refl w).alloc _)⟩

set_option maxRecDepth 100000 in
set_option maxHeartbeats 1600000 in
theorem value_1 (above pb : Nat) (x : UInt8) (hx : x.toNat = 1) (bs : List UInt8) (w : World) (h : Rd w pb (x :: bs)) :
    Calls Tryd.prog 63 #[.pointer (some ⟨pb, 0, none⟩), .int .i64 above] w (ValC w pb (.ok (.mk 1 0 [] [] [], bs))) := by
  have H := hide h
  have hlt := h.lt
  clear h
  go_enter Tryd.func63, Tryd.ntmps63
  go_wp2_with fail
  refine (byte_yes pb x bs _ (H.out.grow ((Grow.refl w).alloc _))).mono ?_
  rintro e w1 ⟨rfl, hr, hg, hz⟩
  rw [hx]
  have HB1 := hide (show Blk (w1.setCell ⟨w.heap.size, 0, none⟩ (.int .i64 1)) w.heap.size 37 #[.int .i64 1, .int .u64 0, .slice none 0 0, .slice none 0 0, .slice none 0 0] from (Blk.grownBy (Blk.new w 37 #[.int .i64 0, .int .u64 0, .slice none 0 0, .slice none 0 0, .slice none 0 0]) hg (by omega)).set_ 0 (.int .i64 1))
  have hc := (Blk.grownBy (Blk.new w 37 #[.int .i64 0, .int .u64 0, .slice none 0 0, .slice none 0 0, .slice none 0 0]) hg (by omega)).cell
  have hfr := (Blk.grownBy (Blk.new w 37 #[.int .i64 0, .int .u64 0, .slice none 0 0, .slice none 0 0, .slice none 0 0]) hg (by omega)).frozen
  have HR := hide (hr.kept (grown_set w1 w.heap.size 0 (.int .i64 1)) hlt)
  have HG := hide ((((GB.refl w pb).grow ((Grow.refl w).alloc (.cells #[.int .i64 0, .int .u64 0, .slice none 0 0, .slice none 0 0, .slice none 0 0] 37))).trans hg).set (Nat.le_refl _) 0 (.int .i64 1))
  have hz' : (w1.setCell ⟨w.heap.size, 0, none⟩ (.int .i64 1)).heap.size = w.heap.size + 1 := by simpa [World.setCell] using hz
  clear hr hg hz
  go_wp2_with fail
  generalize w1.setCell ⟨w.heap.size, 0, none⟩ (.int .i64 1) = W1 at HB1 HR HG hz' ⊢
  clear hc hfr
  have hc := HB1.out.cell
  have hfr := HB1.out.frozen
  refine (must_yes _ _).mono ?_
  rintro e w2 ⟨rfl, rfl⟩
  go_wp2_with fail
  exact value_end (c := ⟨1, 0, none, 0, 0, none, 0, 0, none, 0, 0⟩) rfl HB1.out (Nat.le_refl _) hlt HG.out HR.out (by rw [IsV]; simp [Reads, u8s])
set_option maxRecDepth 100000 in
set_option maxHeartbeats 1600000 in
theorem value_low (above pb : Nat) (x : UInt8) (hk : x.toNat < 1) (bs : List UInt8) (w : World) (h : Rd w pb (x :: bs)) :
    Calls Tryd.prog 63 #[.pointer (some ⟨pb, 0, none⟩), .int .i64 above] w (ValC w pb (.error 4)) := by
  obtain ⟨k, hx⟩ : ∃ k, x.toNat = k := ⟨_, rfl⟩
  rw [hx] at hk
  have hd1 : decide ((1 : Int) ≤ (k : Int)) = false := by simp; omega
  have H := hide h
  have hlt := h.lt
  clear h
  go_enter Tryd.func63, Tryd.ntmps63
  go_wp2_with fail
  refine (byte_yes pb x bs _ (H.out.grow ((Grow.refl w).alloc _))).mono ?_
  rintro e w1 ⟨rfl, hr, hg, hz⟩
  rw [hx]
  have HB1 := hide (show Blk (w1.setCell ⟨w.heap.size, 0, none⟩ (.int .i64 (k : Int))) w.heap.size 37 #[.int .i64 (k : Int), .int .u64 0, .slice none 0 0, .slice none 0 0, .slice none 0 0] from (Blk.grownBy (Blk.new w 37 #[.int .i64 0, .int .u64 0, .slice none 0 0, .slice none 0 0, .slice none 0 0]) hg (by omega)).set_ 0 (.int .i64 (k : Int)))
  have hc := (Blk.grownBy (Blk.new w 37 #[.int .i64 0, .int .u64 0, .slice none 0 0, .slice none 0 0, .slice none 0 0]) hg (by omega)).cell
  have hfr := (Blk.grownBy (Blk.new w 37 #[.int .i64 0, .int .u64 0, .slice none 0 0, .slice none 0 0, .slice none 0 0]) hg (by omega)).frozen
  have HR := hide (hr.kept (grown_set w1 w.heap.size 0 (.int .i64 (k : Int))) hlt)
  have HG := hide ((((GB.refl w pb).grow ((Grow.refl w).alloc (.cells #[.int .i64 0, .int .u64 0, .slice none 0 0, .slice none 0 0, .slice none 0 0] 37))).trans hg).set (Nat.le_refl _) 0 (.int .i64 (k : Int)))
  have hz' : (w1.setCell ⟨w.heap.size, 0, none⟩ (.int .i64 (k : Int))).heap.size = w.heap.size + 1 := by simpa [World.setCell] using hz
  clear hr hg hz
  go_wp2_with fail
  generalize w1.setCell ⟨w.heap.size, 0, none⟩ (.int .i64 (k : Int)) = W1 at HB1 HR HG hz' ⊢
  clear hc hfr
  refine (must_no _ _).mono ?_
  rintro e w2 ⟨rfl, rfl⟩
  go_wp2_with fail
  exact ⟨rfl, rfl, HG.out⟩
set_option maxRecDepth 100000 in
set_option maxHeartbeats 1600000 in
theorem value_high (above pb : Nat) (x : UInt8) (hk : 8 < x.toNat) (bs : List UInt8) (w : World) (h : Rd w pb (x :: bs)) :
    Calls Tryd.prog 63 #[.pointer (some ⟨pb, 0, none⟩), .int .i64 above] w (ValC w pb (.error 4)) := by
  obtain ⟨k, hx⟩ : ∃ k, x.toNat = k := ⟨_, rfl⟩
  rw [hx] at hk
  have hd1 : decide ((1 : Int) ≤ (k : Int)) = true := by simp; omega
  have hd2 : decide ((k : Int) ≤ 8) = false := by simp; omega
  have hd3 : ¬ ((k : Int) ≤ 8) := by omega
  have hd4 : (1 : Int) ≤ (k : Int) := by omega
  have H := hide h
  have hlt := h.lt
  clear h
  go_enter Tryd.func63, Tryd.ntmps63
  go_wp2_with fail
  refine (byte_yes pb x bs _ (H.out.grow ((Grow.refl w).alloc _))).mono ?_
  rintro e w1 ⟨rfl, hr, hg, hz⟩
  rw [hx]
  have HB1 := hide (show Blk (w1.setCell ⟨w.heap.size, 0, none⟩ (.int .i64 (k : Int))) w.heap.size 37 #[.int .i64 (k : Int), .int .u64 0, .slice none 0 0, .slice none 0 0, .slice none 0 0] from (Blk.grownBy (Blk.new w 37 #[.int .i64 0, .int .u64 0, .slice none 0 0, .slice none 0 0, .slice none 0 0]) hg (by omega)).set_ 0 (.int .i64 (k : Int)))
  have hc := (Blk.grownBy (Blk.new w 37 #[.int .i64 0, .int .u64 0, .slice none 0 0, .slice none 0 0, .slice none 0 0]) hg (by omega)).cell
  have hfr := (Blk.grownBy (Blk.new w 37 #[.int .i64 0, .int .u64 0, .slice none 0 0, .slice none 0 0, .slice none 0 0]) hg (by omega)).frozen
  have HR := hide (hr.kept (grown_set w1 w.heap.size 0 (.int .i64 (k : Int))) hlt)
  have HG := hide ((((GB.refl w pb).grow ((Grow.refl w).alloc (.cells #[.int .i64 0, .int .u64 0, .slice none 0 0, .slice none 0 0, .slice none 0 0] 37))).trans hg).set (Nat.le_refl _) 0 (.int .i64 (k : Int)))
  have hz' : (w1.setCell ⟨w.heap.size, 0, none⟩ (.int .i64 (k : Int))).heap.size = w.heap.size + 1 := by simpa [World.setCell] using hz
  clear hr hg hz
  go_wp2_with fail
  generalize w1.setCell ⟨w.heap.size, 0, none⟩ (.int .i64 (k : Int)) = W1 at HB1 HR HG hz' ⊢
  clear hc hfr
  refine (must_no _ _).mono ?_
  rintro e w2 ⟨rfl, rfl⟩
  go_wp2_with fail
  exact ⟨rfl, rfl, HG.out⟩
set_option maxRecDepth 100000 in
set_option maxHeartbeats 1600000 in
theorem value_2a (above pb : Nat) (x : UInt8) (hx : x.toNat = 2) (bs : List UInt8) (w : World) (hbs : bs = []) (h : Rd w pb (x :: bs)) :
    Calls Tryd.prog 63 #[.pointer (some ⟨pb, 0, none⟩), .int .i64 above] w (ValC w pb (.error 4)) := by
  subst hbs
  have H := hide h
  have hlt := h.lt
  clear h
  go_enter Tryd.func63, Tryd.ntmps63
  go_wp2_with fail
  refine (byte_yes pb x [] _ (H.out.grow ((Grow.refl w).alloc _))).mono ?_
  rintro e w1 ⟨rfl, hr, hg, hz⟩
  rw [hx]
  have HB1 := hide (show Blk (w1.setCell ⟨w.heap.size, 0, none⟩ (.int .i64 2)) w.heap.size 37 #[.int .i64 2, .int .u64 0, .slice none 0 0, .slice none 0 0, .slice none 0 0] from (Blk.grownBy (Blk.new w 37 #[.int .i64 0, .int .u64 0, .slice none 0 0, .slice none 0 0, .slice none 0 0]) hg (by omega)).set_ 0 (.int .i64 2))
  have hc := (Blk.grownBy (Blk.new w 37 #[.int .i64 0, .int .u64 0, .slice none 0 0, .slice none 0 0, .slice none 0 0]) hg (by omega)).cell
  have hfr := (Blk.grownBy (Blk.new w 37 #[.int .i64 0, .int .u64 0, .slice none 0 0, .slice none 0 0, .slice none 0 0]) hg (by omega)).frozen
  have HR := hide (hr.kept (grown_set w1 w.heap.size 0 (.int .i64 2)) hlt)
  have HG := hide ((((GB.refl w pb).grow ((Grow.refl w).alloc (.cells #[.int .i64 0, .int .u64 0, .slice none 0 0, .slice none 0 0, .slice none 0 0] 37))).trans hg).set (Nat.le_refl _) 0 (.int .i64 2))
  have hz' : (w1.setCell ⟨w.heap.size, 0, none⟩ (.int .i64 2)).heap.size = w.heap.size + 1 := by simpa [World.setCell] using hz
  clear hr hg hz
  go_wp2_with fail
  generalize w1.setCell ⟨w.heap.size, 0, none⟩ (.int .i64 2) = W1 at HB1 HR HG hz' ⊢
  clear hc hfr
  have hc := HB1.out.cell
  have hfr := HB1.out.frozen
  refine (must_yes _ _).mono ?_
  rintro e w2 ⟨rfl, rfl⟩
  go_wp2_with fail
  refine (byte_no pb _ HR.out).mono ?_
  rintro e w2 ⟨rfl, rfl⟩
  go_wp2_with fail
  exact ⟨rfl, rfl, HG.out⟩
set_option maxRecDepth 100000 in
set_option maxHeartbeats 1600000 in
theorem value_2b (above pb : Nat) (x : UInt8) (hx : x.toNat = 2) (bs : List UInt8) (w : World) (y : UInt8) (r : List UInt8) (hbs : bs = y :: r) (hy : y.toNat ≤ 1) (h : Rd w pb (x :: bs)) :
    Calls Tryd.prog 63 #[.pointer (some ⟨pb, 0, none⟩), .int .i64 above] w (ValC w pb (.ok (.mk 2 y.toNat [] [] [], r))) := by
  subst hbs
  have H := hide h
  have hlt := h.lt
  clear h
  go_enter Tryd.func63, Tryd.ntmps63
  go_wp2_with fail
  refine (byte_yes pb x (y :: r) _ (H.out.grow ((Grow.refl w).alloc _))).mono ?_
  rintro e w1 ⟨rfl, hr, hg, hz⟩
  rw [hx]
  have HB1 := hide (show Blk (w1.setCell ⟨w.heap.size, 0, none⟩ (.int .i64 2)) w.heap.size 37 #[.int .i64 2, .int .u64 0, .slice none 0 0, .slice none 0 0, .slice none 0 0] from (Blk.grownBy (Blk.new w 37 #[.int .i64 0, .int .u64 0, .slice none 0 0, .slice none 0 0, .slice none 0 0]) hg (by omega)).set_ 0 (.int .i64 2))
  have hc := (Blk.grownBy (Blk.new w 37 #[.int .i64 0, .int .u64 0, .slice none 0 0, .slice none 0 0, .slice none 0 0]) hg (by omega)).cell
  have hfr := (Blk.grownBy (Blk.new w 37 #[.int .i64 0, .int .u64 0, .slice none 0 0, .slice none 0 0, .slice none 0 0]) hg (by omega)).frozen
  have HR := hide (hr.kept (grown_set w1 w.heap.size 0 (.int .i64 2)) hlt)
  have HG := hide ((((GB.refl w pb).grow ((Grow.refl w).alloc (.cells #[.int .i64 0, .int .u64 0, .slice none 0 0, .slice none 0 0, .slice none 0 0] 37))).trans hg).set (Nat.le_refl _) 0 (.int .i64 2))
  have hz' : (w1.setCell ⟨w.heap.size, 0, none⟩ (.int .i64 2)).heap.size = w.heap.size + 1 := by simpa [World.setCell] using hz
  clear hr hg hz
  go_wp2_with fail
  generalize w1.setCell ⟨w.heap.size, 0, none⟩ (.int .i64 2) = W1 at HB1 HR HG hz' ⊢
  clear hc hfr
  have hc := HB1.out.cell
  have hfr := HB1.out.frozen
  refine (must_yes _ _).mono ?_
  rintro e w2 ⟨rfl, rfl⟩
  go_wp2_with fail
  refine (byte_yes pb y r _ HR.out).mono ?_
  rintro e W2 ⟨rfl, hr, hg, hz⟩
  obtain ⟨n, hn⟩ : ∃ n, y.toNat = n := ⟨_, rfl⟩
  have hn' := y.toNat_lt
  rw [hn] at hy hn' ⊢
  have hyb : decide ((n : Int) ≤ 1) = true := by simp; omega
  have HN := hide hn
  clear hn hc hfr
  have hB2 := Blk.grownBy HB1.out hg (by omega)
  have hc := hB2.cell
  have hfr := hB2.frozen
  have HB2 := hide (show Blk (W2.setCell ⟨w.heap.size, 1, none⟩ (.int .u64 (n : Int))) w.heap.size 37 #[.int .i64 2, .int .u64 (n : Int), .slice none 0 0, .slice none 0 0, .slice none 0 0] from hB2.set_ 1 (.int .u64 (n : Int)))
  have HR2 := hide (hr.kept (grown_set W2 w.heap.size 1 (.int .u64 (n : Int))) hlt)
  have HG2 := hide ((HG.out.trans hg).set (Nat.le_refl _) 1 (.int .u64 (n : Int)))
  have hz2 : (W2.setCell ⟨w.heap.size, 1, none⟩ (.int .u64 (n : Int))).heap.size = w.heap.size + 1 := by have := hz.trans hz'; simpa [World.setCell] using this
  clear hr hg hz hB2
  go_wp2_with fail
  generalize W2.setCell ⟨w.heap.size, 1, none⟩ (.int .u64 (n : Int)) = W3 at HB2 HR2 HG2 hz2 ⊢
  clear hc hfr
  have hc := HB2.out.cell
  have hfr := HB2.out.frozen
  refine (must_yes _ _).mono ?_
  rintro e w3 ⟨rfl, rfl⟩
  go_wp2_with fail
  exact value_end (c := ⟨2, n, none, 0, 0, none, 0, 0, none, 0, 0⟩) rfl HB2.out (Nat.le_refl _) hlt HG2.out HR2.out (by rw [IsV]; simp [Reads, u8s]; have := HN.out; omega)
set_option maxRecDepth 100000 in
set_option maxHeartbeats 1600000 in
theorem value_2c (above pb : Nat) (x : UInt8) (hx : x.toNat = 2) (bs : List UInt8) (w : World) (y : UInt8) (r : List UInt8) (hbs : bs = y :: r) (hy : 1 < y.toNat) (h : Rd w pb (x :: bs)) :
    Calls Tryd.prog 63 #[.pointer (some ⟨pb, 0, none⟩), .int .i64 above] w (ValC w pb (.error 4)) := by
  subst hbs
  have H := hide h
  have hlt := h.lt
  clear h
  go_enter Tryd.func63, Tryd.ntmps63
  go_wp2_with fail
  refine (byte_yes pb x (y :: r) _ (H.out.grow ((Grow.refl w).alloc _))).mono ?_
  rintro e w1 ⟨rfl, hr, hg, hz⟩
  rw [hx]
  have HB1 := hide (show Blk (w1.setCell ⟨w.heap.size, 0, none⟩ (.int .i64 2)) w.heap.size 37 #[.int .i64 2, .int .u64 0, .slice none 0 0, .slice none 0 0, .slice none 0 0] from (Blk.grownBy (Blk.new w 37 #[.int .i64 0, .int .u64 0, .slice none 0 0, .slice none 0 0, .slice none 0 0]) hg (by omega)).set_ 0 (.int .i64 2))
  have hc := (Blk.grownBy (Blk.new w 37 #[.int .i64 0, .int .u64 0, .slice none 0 0, .slice none 0 0, .slice none 0 0]) hg (by omega)).cell
  have hfr := (Blk.grownBy (Blk.new w 37 #[.int .i64 0, .int .u64 0, .slice none 0 0, .slice none 0 0, .slice none 0 0]) hg (by omega)).frozen
  have HR := hide (hr.kept (grown_set w1 w.heap.size 0 (.int .i64 2)) hlt)
  have HG := hide ((((GB.refl w pb).grow ((Grow.refl w).alloc (.cells #[.int .i64 0, .int .u64 0, .slice none 0 0, .slice none 0 0, .slice none 0 0] 37))).trans hg).set (Nat.le_refl _) 0 (.int .i64 2))
  have hz' : (w1.setCell ⟨w.heap.size, 0, none⟩ (.int .i64 2)).heap.size = w.heap.size + 1 := by simpa [World.setCell] using hz
  clear hr hg hz
  go_wp2_with fail
  generalize w1.setCell ⟨w.heap.size, 0, none⟩ (.int .i64 2) = W1 at HB1 HR HG hz' ⊢
  clear hc hfr
  have hc := HB1.out.cell
  have hfr := HB1.out.frozen
  refine (must_yes _ _).mono ?_
  rintro e w2 ⟨rfl, rfl⟩
  go_wp2_with fail
  refine (byte_yes pb y r _ HR.out).mono ?_
  rintro e W2 ⟨rfl, hr, hg, hz⟩
  obtain ⟨n, hn⟩ : ∃ n, y.toNat = n := ⟨_, rfl⟩
  have hn' := y.toNat_lt
  rw [hn] at hy hn' ⊢
  have hyb : decide ((n : Int) ≤ 1) = false := by simp; omega
  have HN := hide hn
  clear hn hc hfr
  have hB2 := Blk.grownBy HB1.out hg (by omega)
  have hc := hB2.cell
  have hfr := hB2.frozen
  have HB2 := hide (show Blk (W2.setCell ⟨w.heap.size, 1, none⟩ (.int .u64 (n : Int))) w.heap.size 37 #[.int .i64 2, .int .u64 (n : Int), .slice none 0 0, .slice none 0 0, .slice none 0 0] from hB2.set_ 1 (.int .u64 (n : Int)))
  have HR2 := hide (hr.kept (grown_set W2 w.heap.size 1 (.int .u64 (n : Int))) hlt)
  have HG2 := hide ((HG.out.trans hg).set (Nat.le_refl _) 1 (.int .u64 (n : Int)))
  have hz2 : (W2.setCell ⟨w.heap.size, 1, none⟩ (.int .u64 (n : Int))).heap.size = w.heap.size + 1 := by have := hz.trans hz'; simpa [World.setCell] using this
  clear hr hg hz hB2
  go_wp2_with fail
  generalize W2.setCell ⟨w.heap.size, 1, none⟩ (.int .u64 (n : Int)) = W3 at HB2 HR2 HG2 hz2 ⊢
  clear hc hfr
  refine (must_no _ _).mono ?_
  rintro e w3 ⟨rfl, rfl⟩
  go_wp2_with fail
  exact ⟨rfl, rfl, HG2.out⟩
set_option maxRecDepth 100000 in
set_option maxHeartbeats 1600000 in
theorem value_3a (above pb : Nat) (x : UInt8) (hx : x.toNat = 3) (bs : List UInt8) (w : World) (hl : bs.length < 8) (h : Rd w pb (x :: bs)) :
    Calls Tryd.prog 63 #[.pointer (some ⟨pb, 0, none⟩), .int .i64 above] w (ValC w pb (.error 4)) := by
  have H := hide h
  have hlt := h.lt
  clear h
  go_enter Tryd.func63, Tryd.ntmps63
  go_wp2_with fail
  refine (byte_yes pb x bs _ (H.out.grow ((Grow.refl w).alloc _))).mono ?_
  rintro e w1 ⟨rfl, hr, hg, hz⟩
  rw [hx]
  have HB1 := hide (show Blk (w1.setCell ⟨w.heap.size, 0, none⟩ (.int .i64 3)) w.heap.size 37 #[.int .i64 3, .int .u64 0, .slice none 0 0, .slice none 0 0, .slice none 0 0] from (Blk.grownBy (Blk.new w 37 #[.int .i64 0, .int .u64 0, .slice none 0 0, .slice none 0 0, .slice none 0 0]) hg (by omega)).set_ 0 (.int .i64 3))
  have hc := (Blk.grownBy (Blk.new w 37 #[.int .i64 0, .int .u64 0, .slice none 0 0, .slice none 0 0, .slice none 0 0]) hg (by omega)).cell
  have hfr := (Blk.grownBy (Blk.new w 37 #[.int .i64 0, .int .u64 0, .slice none 0 0, .slice none 0 0, .slice none 0 0]) hg (by omega)).frozen
  have HR := hide (hr.kept (grown_set w1 w.heap.size 0 (.int .i64 3)) hlt)
  have HG := hide ((((GB.refl w pb).grow ((Grow.refl w).alloc (.cells #[.int .i64 0, .int .u64 0, .slice none 0 0, .slice none 0 0, .slice none 0 0] 37))).trans hg).set (Nat.le_refl _) 0 (.int .i64 3))
  have hz' : (w1.setCell ⟨w.heap.size, 0, none⟩ (.int .i64 3)).heap.size = w.heap.size + 1 := by simpa [World.setCell] using hz
  clear hr hg hz
  go_wp2_with fail
  generalize w1.setCell ⟨w.heap.size, 0, none⟩ (.int .i64 3) = W1 at HB1 HR HG hz' ⊢
  clear hc hfr
  have hc := HB1.out.cell
  have hfr := HB1.out.frozen
  refine (must_yes _ _).mono ?_
  rintro e w2 ⟨rfl, rfl⟩
  go_wp2_with fail
  refine (take_no pb 8 bs _ HR.out hl).mono ?_
  rintro e w2 ⟨rfl, rfl⟩
  go_wp2_with fail
  exact ⟨rfl, rfl, HG.out⟩
set_option maxRecDepth 100000 in
set_option maxHeartbeats 1600000 in
theorem value_3b (above pb : Nat) (x : UInt8) (hx : x.toNat = 3) (bs : List UInt8) (w : World) (hl : 8 ≤ bs.length) (h : Rd w pb (x :: bs)) :
    Calls Tryd.prog 63 #[.pointer (some ⟨pb, 0, none⟩), .int .i64 above] w (ValC w pb (.ok (.mk 3 (le (bs.take 8)) [] [] [], bs.drop 8))) := by
  have H := hide h
  have hlt := h.lt
  clear h
  go_enter Tryd.func63, Tryd.ntmps63
  go_wp2_with fail
  refine (byte_yes pb x bs _ (H.out.grow ((Grow.refl w).alloc _))).mono ?_
  rintro e w1 ⟨rfl, hr, hg, hz⟩
  rw [hx]
  have HB1 := hide (show Blk (w1.setCell ⟨w.heap.size, 0, none⟩ (.int .i64 3)) w.heap.size 37 #[.int .i64 3, .int .u64 0, .slice none 0 0, .slice none 0 0, .slice none 0 0] from (Blk.grownBy (Blk.new w 37 #[.int .i64 0, .int .u64 0, .slice none 0 0, .slice none 0 0, .slice none 0 0]) hg (by omega)).set_ 0 (.int .i64 3))
  have hc := (Blk.grownBy (Blk.new w 37 #[.int .i64 0, .int .u64 0, .slice none 0 0, .slice none 0 0, .slice none 0 0]) hg (by omega)).cell
  have hfr := (Blk.grownBy (Blk.new w 37 #[.int .i64 0, .int .u64 0, .slice none 0 0, .slice none 0 0, .slice none 0 0]) hg (by omega)).frozen
  have HR := hide (hr.kept (grown_set w1 w.heap.size 0 (.int .i64 3)) hlt)
  have HG := hide ((((GB.refl w pb).grow ((Grow.refl w).alloc (.cells #[.int .i64 0, .int .u64 0, .slice none 0 0, .slice none 0 0, .slice none 0 0] 37))).trans hg).set (Nat.le_refl _) 0 (.int .i64 3))
  have hz' : (w1.setCell ⟨w.heap.size, 0, none⟩ (.int .i64 3)).heap.size = w.heap.size + 1 := by simpa [World.setCell] using hz
  clear hr hg hz
  go_wp2_with fail
  generalize w1.setCell ⟨w.heap.size, 0, none⟩ (.int .i64 3) = W1 at HB1 HR HG hz' ⊢
  clear hc hfr
  have hc := HB1.out.cell
  have hfr := HB1.out.frozen
  refine (must_yes _ _).mono ?_
  rintro e w2 ⟨rfl, rfl⟩
  go_wp2_with fail
  refine (take_yes pb 8 bs _ HR.out hl).mono ?_
  rintro e W2 ⟨A, rfl, hrd, hr, hg, hz⟩
  have hpl := hr.lt
  have h8 : (bs.take 8).length = 8 := by rw [List.length_take]; omega
  have hin : InB W2 A (bs.take 8) := by
    unfold InB
    rw [h8]
    exact hrd.mono (fun p u h => ⟨h.1, h.2.1, Nat.lt_trans h.2.2 hpl⟩)
  have cw := word_any (bs.take 8) A 8 W2 hin (by omega)
  rw [h8] at cw
  have hle := le_lt (bs.take 8)
  rw [h8] at hle
  obtain ⟨n, hn⟩ : ∃ n, le (bs.take 8) = n := ⟨_, rfl⟩
  rw [hn] at cw hle
  have HN := hide hn
  have CW := hide cw
  clear hn hc hfr hrd hin cw h8
  have hB2 := Blk.grownBy HB1.out hg (by omega)
  have hc := hB2.cell
  have hfr := hB2.frozen
  have HB2 := hide (show Blk (W2.setCell ⟨w.heap.size, 1, none⟩ (.int .u64 (n : Int))) w.heap.size 37 #[.int .i64 3, .int .u64 (n : Int), .slice none 0 0, .slice none 0 0, .slice none 0 0] from hB2.set_ 1 (.int .u64 (n : Int)))
  have HR2 := hide (hr.kept (grown_set W2 w.heap.size 1 (.int .u64 (n : Int))) hlt)
  have HG2 := hide ((HG.out.trans hg).set (Nat.le_refl _) 1 (.int .u64 (n : Int)))
  clear hr hg hz hB2
  go_wp2_with fail
  refine CW.out.mono ?_
  rintro e w3 ⟨rfl, rfl⟩
  go_wp2_with fail
  exact value_end (c := ⟨3, n, none, 0, 0, none, 0, 0, none, 0, 0⟩) rfl HB2.out (Nat.le_refl _) hlt HG2.out HR2.out (by rw [IsV]; simp [Reads, u8s]; have := HN.out; omega)
set_option maxRecDepth 100000 in
set_option maxHeartbeats 1600000 in
theorem value_4a (above pb : Nat) (x : UInt8) (hx : x.toNat = 4) (bs : List UInt8) (w : World) (hl : bs.length < 8) (h : Rd w pb (x :: bs)) :
    Calls Tryd.prog 63 #[.pointer (some ⟨pb, 0, none⟩), .int .i64 above] w (ValC w pb (.error 4)) := by
  have H := hide h
  have hlt := h.lt
  clear h
  go_enter Tryd.func63, Tryd.ntmps63
  go_wp2_with fail
  refine (byte_yes pb x bs _ (H.out.grow ((Grow.refl w).alloc _))).mono ?_
  rintro e w1 ⟨rfl, hr, hg, hz⟩
  rw [hx]
  have HB1 := hide (show Blk (w1.setCell ⟨w.heap.size, 0, none⟩ (.int .i64 4)) w.heap.size 37 #[.int .i64 4, .int .u64 0, .slice none 0 0, .slice none 0 0, .slice none 0 0] from (Blk.grownBy (Blk.new w 37 #[.int .i64 0, .int .u64 0, .slice none 0 0, .slice none 0 0, .slice none 0 0]) hg (by omega)).set_ 0 (.int .i64 4))
  have hc := (Blk.grownBy (Blk.new w 37 #[.int .i64 0, .int .u64 0, .slice none 0 0, .slice none 0 0, .slice none 0 0]) hg (by omega)).cell
  have hfr := (Blk.grownBy (Blk.new w 37 #[.int .i64 0, .int .u64 0, .slice none 0 0, .slice none 0 0, .slice none 0 0]) hg (by omega)).frozen
  have HR := hide (hr.kept (grown_set w1 w.heap.size 0 (.int .i64 4)) hlt)
  have HG := hide ((((GB.refl w pb).grow ((Grow.refl w).alloc (.cells #[.int .i64 0, .int .u64 0, .slice none 0 0, .slice none 0 0, .slice none 0 0] 37))).trans hg).set (Nat.le_refl _) 0 (.int .i64 4))
  have hz' : (w1.setCell ⟨w.heap.size, 0, none⟩ (.int .i64 4)).heap.size = w.heap.size + 1 := by simpa [World.setCell] using hz
  clear hr hg hz
  go_wp2_with fail
  generalize w1.setCell ⟨w.heap.size, 0, none⟩ (.int .i64 4) = W1 at HB1 HR HG hz' ⊢
  clear hc hfr
  have hc := HB1.out.cell
  have hfr := HB1.out.frozen
  refine (must_yes _ _).mono ?_
  rintro e w2 ⟨rfl, rfl⟩
  go_wp2_with fail
  refine (take_no pb 8 bs _ HR.out hl).mono ?_
  rintro e w2 ⟨rfl, rfl⟩
  go_wp2_with fail
  exact ⟨rfl, rfl, HG.out⟩
set_option maxRecDepth 100000 in
set_option maxHeartbeats 1600000 in
theorem value_4b (above pb : Nat) (x : UInt8) (hx : x.toNat = 4) (bs : List UInt8) (w : World) (hl : 8 ≤ bs.length) (h : Rd w pb (x :: bs)) :
    Calls Tryd.prog 63 #[.pointer (some ⟨pb, 0, none⟩), .int .i64 above] w (ValC w pb (.ok (.mk 4 (le (bs.take 8)) [] [] [], bs.drop 8))) := by
  have H := hide h
  have hlt := h.lt
  clear h
  go_enter Tryd.func63, Tryd.ntmps63
  go_wp2_with fail
  refine (byte_yes pb x bs _ (H.out.grow ((Grow.refl w).alloc _))).mono ?_
  rintro e w1 ⟨rfl, hr, hg, hz⟩
  rw [hx]
  have HB1 := hide (show Blk (w1.setCell ⟨w.heap.size, 0, none⟩ (.int .i64 4)) w.heap.size 37 #[.int .i64 4, .int .u64 0, .slice none 0 0, .slice none 0 0, .slice none 0 0] from (Blk.grownBy (Blk.new w 37 #[.int .i64 0, .int .u64 0, .slice none 0 0, .slice none 0 0, .slice none 0 0]) hg (by omega)).set_ 0 (.int .i64 4))
  have hc := (Blk.grownBy (Blk.new w 37 #[.int .i64 0, .int .u64 0, .slice none 0 0, .slice none 0 0, .slice none 0 0]) hg (by omega)).cell
  have hfr := (Blk.grownBy (Blk.new w 37 #[.int .i64 0, .int .u64 0, .slice none 0 0, .slice none 0 0, .slice none 0 0]) hg (by omega)).frozen
  have HR := hide (hr.kept (grown_set w1 w.heap.size 0 (.int .i64 4)) hlt)
  have HG := hide ((((GB.refl w pb).grow ((Grow.refl w).alloc (.cells #[.int .i64 0, .int .u64 0, .slice none 0 0, .slice none 0 0, .slice none 0 0] 37))).trans hg).set (Nat.le_refl _) 0 (.int .i64 4))
  have hz' : (w1.setCell ⟨w.heap.size, 0, none⟩ (.int .i64 4)).heap.size = w.heap.size + 1 := by simpa [World.setCell] using hz
  clear hr hg hz
  go_wp2_with fail
  generalize w1.setCell ⟨w.heap.size, 0, none⟩ (.int .i64 4) = W1 at HB1 HR HG hz' ⊢
  clear hc hfr
  have hc := HB1.out.cell
  have hfr := HB1.out.frozen
  refine (must_yes _ _).mono ?_
  rintro e w2 ⟨rfl, rfl⟩
  go_wp2_with fail
  refine (take_yes pb 8 bs _ HR.out hl).mono ?_
  rintro e W2 ⟨A, rfl, hrd, hr, hg, hz⟩
  have hpl := hr.lt
  have h8 : (bs.take 8).length = 8 := by rw [List.length_take]; omega
  have hin : InB W2 A (bs.take 8) := by
    unfold InB
    rw [h8]
    exact hrd.mono (fun p u h => ⟨h.1, h.2.1, Nat.lt_trans h.2.2 hpl⟩)
  have cw := word_any (bs.take 8) A 8 W2 hin (by omega)
  rw [h8] at cw
  have hle := le_lt (bs.take 8)
  rw [h8] at hle
  obtain ⟨n, hn⟩ : ∃ n, le (bs.take 8) = n := ⟨_, rfl⟩
  rw [hn] at cw hle
  have HN := hide hn
  have CW := hide cw
  clear hn hc hfr hrd hin cw h8
  have hB2 := Blk.grownBy HB1.out hg (by omega)
  have hc := hB2.cell
  have hfr := hB2.frozen
  have HB2 := hide (show Blk (W2.setCell ⟨w.heap.size, 1, none⟩ (.int .u64 (n : Int))) w.heap.size 37 #[.int .i64 4, .int .u64 (n : Int), .slice none 0 0, .slice none 0 0, .slice none 0 0] from hB2.set_ 1 (.int .u64 (n : Int)))
  have HR2 := hide (hr.kept (grown_set W2 w.heap.size 1 (.int .u64 (n : Int))) hlt)
  have HG2 := hide ((HG.out.trans hg).set (Nat.le_refl _) 1 (.int .u64 (n : Int)))
  clear hr hg hz hB2
  go_wp2_with fail
  refine CW.out.mono ?_
  rintro e w3 ⟨rfl, rfl⟩
  go_wp2_with fail
  exact value_end (c := ⟨4, n, none, 0, 0, none, 0, 0, none, 0, 0⟩) rfl HB2.out (Nat.le_refl _) hlt HG2.out HR2.out (by rw [IsV]; simp [Reads, u8s]; have := HN.out; omega)
set_option maxRecDepth 100000 in
set_option maxHeartbeats 1600000 in
theorem value_5a (above pb : Nat) (x : UInt8) (hx : x.toNat = 5) (bs : List UInt8) (w : World) (hl : bs.length < 2) (h : Rd w pb (x :: bs)) :
    Calls Tryd.prog 63 #[.pointer (some ⟨pb, 0, none⟩), .int .i64 above] w (ValC w pb (.error 4)) := by
  have H := hide h
  have hlt := h.lt
  clear h
  go_enter Tryd.func63, Tryd.ntmps63
  go_wp2_with fail
  refine (byte_yes pb x bs _ (H.out.grow ((Grow.refl w).alloc _))).mono ?_
  rintro e w1 ⟨rfl, hr, hg, hz⟩
  rw [hx]
  have HB1 := hide (show Blk (w1.setCell ⟨w.heap.size, 0, none⟩ (.int .i64 5)) w.heap.size 37 #[.int .i64 5, .int .u64 0, .slice none 0 0, .slice none 0 0, .slice none 0 0] from (Blk.grownBy (Blk.new w 37 #[.int .i64 0, .int .u64 0, .slice none 0 0, .slice none 0 0, .slice none 0 0]) hg (by omega)).set_ 0 (.int .i64 5))
  have hc := (Blk.grownBy (Blk.new w 37 #[.int .i64 0, .int .u64 0, .slice none 0 0, .slice none 0 0, .slice none 0 0]) hg (by omega)).cell
  have hfr := (Blk.grownBy (Blk.new w 37 #[.int .i64 0, .int .u64 0, .slice none 0 0, .slice none 0 0, .slice none 0 0]) hg (by omega)).frozen
  have HR := hide (hr.kept (grown_set w1 w.heap.size 0 (.int .i64 5)) hlt)
  have HG := hide ((((GB.refl w pb).grow ((Grow.refl w).alloc (.cells #[.int .i64 0, .int .u64 0, .slice none 0 0, .slice none 0 0, .slice none 0 0] 37))).trans hg).set (Nat.le_refl _) 0 (.int .i64 5))
  have hz' : (w1.setCell ⟨w.heap.size, 0, none⟩ (.int .i64 5)).heap.size = w.heap.size + 1 := by simpa [World.setCell] using hz
  clear hr hg hz
  go_wp2_with fail
  generalize w1.setCell ⟨w.heap.size, 0, none⟩ (.int .i64 5) = W1 at HB1 HR HG hz' ⊢
  clear hc hfr
  have hc := HB1.out.cell
  have hfr := HB1.out.frozen
  refine (must_yes _ _).mono ?_
  rintro e w2 ⟨rfl, rfl⟩
  go_wp2_with fail
  refine (take_no pb 2 bs _ HR.out hl).mono ?_
  rintro e w2 ⟨rfl, rfl⟩
  go_wp2_with fail
  exact ⟨rfl, rfl, HG.out⟩
set_option maxRecDepth 100000 in
set_option maxHeartbeats 1600000 in
theorem value_5b (above pb : Nat) (x : UInt8) (hx : x.toNat = 5) (bs : List UInt8) (w : World) (hl : 2 ≤ bs.length) (hm : (bs.drop 2).length < le (bs.take 2)) (h : Rd w pb (x :: bs)) :
    Calls Tryd.prog 63 #[.pointer (some ⟨pb, 0, none⟩), .int .i64 above] w (ValC w pb (.error 4)) := by
  have H := hide h
  have hlt := h.lt
  clear h
  go_enter Tryd.func63, Tryd.ntmps63
  go_wp2_with fail
  refine (byte_yes pb x bs _ (H.out.grow ((Grow.refl w).alloc _))).mono ?_
  rintro e w1 ⟨rfl, hr, hg, hz⟩
  rw [hx]
  have HB1 := hide (show Blk (w1.setCell ⟨w.heap.size, 0, none⟩ (.int .i64 5)) w.heap.size 37 #[.int .i64 5, .int .u64 0, .slice none 0 0, .slice none 0 0, .slice none 0 0] from (Blk.grownBy (Blk.new w 37 #[.int .i64 0, .int .u64 0, .slice none 0 0, .slice none 0 0, .slice none 0 0]) hg (by omega)).set_ 0 (.int .i64 5))
  have hc := (Blk.grownBy (Blk.new w 37 #[.int .i64 0, .int .u64 0, .slice none 0 0, .slice none 0 0, .slice none 0 0]) hg (by omega)).cell
  have hfr := (Blk.grownBy (Blk.new w 37 #[.int .i64 0, .int .u64 0, .slice none 0 0, .slice none 0 0, .slice none 0 0]) hg (by omega)).frozen
  have HR := hide (hr.kept (grown_set w1 w.heap.size 0 (.int .i64 5)) hlt)
  have HG := hide ((((GB.refl w pb).grow ((Grow.refl w).alloc (.cells #[.int .i64 0, .int .u64 0, .slice none 0 0, .slice none 0 0, .slice none 0 0] 37))).trans hg).set (Nat.le_refl _) 0 (.int .i64 5))
  have hz' : (w1.setCell ⟨w.heap.size, 0, none⟩ (.int .i64 5)).heap.size = w.heap.size + 1 := by simpa [World.setCell] using hz
  clear hr hg hz
  go_wp2_with fail
  generalize w1.setCell ⟨w.heap.size, 0, none⟩ (.int .i64 5) = W1 at HB1 HR HG hz' ⊢
  clear hc hfr
  have hc := HB1.out.cell
  have hfr := HB1.out.frozen
  refine (must_yes _ _).mono ?_
  rintro e w2 ⟨rfl, rfl⟩
  go_wp2_with fail
  refine (take_yes pb 2 bs _ HR.out hl).mono ?_
  rintro e W2 ⟨A, rfl, hrd, hr, hg, hz⟩
  have hpl := hr.lt
  have h8 : (bs.take 2).length = 2 := by rw [List.length_take]; omega
  have hin : InB W2 A (bs.take 2) := by
    unfold InB
    rw [h8]
    exact hrd.mono (fun p u h => ⟨h.1, h.2.1, Nat.lt_trans h.2.2 hpl⟩)
  have cw := word_any (bs.take 2) A 2 W2 hin (by omega)
  rw [h8] at cw
  have hle := le_lt (bs.take 2)
  rw [h8] at hle
  obtain ⟨n, hn⟩ : ∃ n, le (bs.take 2) = n := ⟨_, rfl⟩
  rw [hn] at cw hle hm
  have HN := hide hn
  have CW := hide cw
  obtain ⟨bs2, hbs2⟩ : ∃ l, bs.drop 2 = l := ⟨_, rfl⟩
  rw [hbs2] at hr hm
  have HBS := hide hbs2
  clear hn hc hfr hrd hin cw h8 hbs2
  have hB2 := Blk.grownBy HB1.out hg (by omega)
  have hc := hB2.cell
  have hfr := hB2.frozen
  have HB2 := hide hB2
  have HR2 := hide hr
  have HG2 := hide (HG.out.trans hg)
  clear hr hg hB2
  go_wp2_with fail
  refine CW.out.mono ?_
  rintro e w3 ⟨rfl, rfl⟩
  have hwr : IntKind.i64.wrap (n : Int) = (n : Int) := IntWalk.i64_in _ (by omega)
  go_wp2_with fail
  refine (take_no pb n bs2 _ HR2.out hm).mono ?_
  rintro e w4 ⟨rfl, rfl⟩
  go_wp2_with fail
  exact ⟨rfl, rfl, HG2.out⟩
set_option maxRecDepth 100000 in
set_option maxHeartbeats 1600000 in
theorem value_6a (above pb : Nat) (x : UInt8) (hx : x.toNat = 6) (bs : List UInt8) (w : World) (hl : bs.length < 2) (h : Rd w pb (x :: bs)) :
    Calls Tryd.prog 63 #[.pointer (some ⟨pb, 0, none⟩), .int .i64 above] w (ValC w pb (.error 4)) := by
  have H := hide h
  have hlt := h.lt
  clear h
  go_enter Tryd.func63, Tryd.ntmps63
  go_wp2_with fail
  refine (byte_yes pb x bs _ (H.out.grow ((Grow.refl w).alloc _))).mono ?_
  rintro e w1 ⟨rfl, hr, hg, hz⟩
  rw [hx]
  have HB1 := hide (show Blk (w1.setCell ⟨w.heap.size, 0, none⟩ (.int .i64 6)) w.heap.size 37 #[.int .i64 6, .int .u64 0, .slice none 0 0, .slice none 0 0, .slice none 0 0] from (Blk.grownBy (Blk.new w 37 #[.int .i64 0, .int .u64 0, .slice none 0 0, .slice none 0 0, .slice none 0 0]) hg (by omega)).set_ 0 (.int .i64 6))
  have hc := (Blk.grownBy (Blk.new w 37 #[.int .i64 0, .int .u64 0, .slice none 0 0, .slice none 0 0, .slice none 0 0]) hg (by omega)).cell
  have hfr := (Blk.grownBy (Blk.new w 37 #[.int .i64 0, .int .u64 0, .slice none 0 0, .slice none 0 0, .slice none 0 0]) hg (by omega)).frozen
  have HR := hide (hr.kept (grown_set w1 w.heap.size 0 (.int .i64 6)) hlt)
  have HG := hide ((((GB.refl w pb).grow ((Grow.refl w).alloc (.cells #[.int .i64 0, .int .u64 0, .slice none 0 0, .slice none 0 0, .slice none 0 0] 37))).trans hg).set (Nat.le_refl _) 0 (.int .i64 6))
  have hz' : (w1.setCell ⟨w.heap.size, 0, none⟩ (.int .i64 6)).heap.size = w.heap.size + 1 := by simpa [World.setCell] using hz
  clear hr hg hz
  go_wp2_with fail
  generalize w1.setCell ⟨w.heap.size, 0, none⟩ (.int .i64 6) = W1 at HB1 HR HG hz' ⊢
  clear hc hfr
  have hc := HB1.out.cell
  have hfr := HB1.out.frozen
  refine (must_yes _ _).mono ?_
  rintro e w2 ⟨rfl, rfl⟩
  go_wp2_with fail
  refine (take_no pb 2 bs _ HR.out hl).mono ?_
  rintro e w2 ⟨rfl, rfl⟩
  go_wp2_with fail
  exact ⟨rfl, rfl, HG.out⟩
set_option maxRecDepth 100000 in
set_option maxHeartbeats 1600000 in
theorem value_6b (above pb : Nat) (x : UInt8) (hx : x.toNat = 6) (bs : List UInt8) (w : World) (hl : 2 ≤ bs.length) (hm : (bs.drop 2).length < le (bs.take 2)) (h : Rd w pb (x :: bs)) :
    Calls Tryd.prog 63 #[.pointer (some ⟨pb, 0, none⟩), .int .i64 above] w (ValC w pb (.error 4)) := by
  have H := hide h
  have hlt := h.lt
  clear h
  go_enter Tryd.func63, Tryd.ntmps63
  go_wp2_with fail
  refine (byte_yes pb x bs _ (H.out.grow ((Grow.refl w).alloc _))).mono ?_
  rintro e w1 ⟨rfl, hr, hg, hz⟩
  rw [hx]
  have HB1 := hide (show Blk (w1.setCell ⟨w.heap.size, 0, none⟩ (.int .i64 6)) w.heap.size 37 #[.int .i64 6, .int .u64 0, .slice none 0 0, .slice none 0 0, .slice none 0 0] from (Blk.grownBy (Blk.new w 37 #[.int .i64 0, .int .u64 0, .slice none 0 0, .slice none 0 0, .slice none 0 0]) hg (by omega)).set_ 0 (.int .i64 6))
  have hc := (Blk.grownBy (Blk.new w 37 #[.int .i64 0, .int .u64 0, .slice none 0 0, .slice none 0 0, .slice none 0 0]) hg (by omega)).cell
  have hfr := (Blk.grownBy (Blk.new w 37 #[.int .i64 0, .int .u64 0, .slice none 0 0, .slice none 0 0, .slice none 0 0]) hg (by omega)).frozen
  have HR := hide (hr.kept (grown_set w1 w.heap.size 0 (.int .i64 6)) hlt)
  have HG := hide ((((GB.refl w pb).grow ((Grow.refl w).alloc (.cells #[.int .i64 0, .int .u64 0, .slice none 0 0, .slice none 0 0, .slice none 0 0] 37))).trans hg).set (Nat.le_refl _) 0 (.int .i64 6))
  have hz' : (w1.setCell ⟨w.heap.size, 0, none⟩ (.int .i64 6)).heap.size = w.heap.size + 1 := by simpa [World.setCell] using hz
  clear hr hg hz
  go_wp2_with fail
  generalize w1.setCell ⟨w.heap.size, 0, none⟩ (.int .i64 6) = W1 at HB1 HR HG hz' ⊢
  clear hc hfr
  have hc := HB1.out.cell
  have hfr := HB1.out.frozen
  refine (must_yes _ _).mono ?_
  rintro e w2 ⟨rfl, rfl⟩
  go_wp2_with fail
  refine (take_yes pb 2 bs _ HR.out hl).mono ?_
  rintro e W2 ⟨A, rfl, hrd, hr, hg, hz⟩
  have hpl := hr.lt
  have h8 : (bs.take 2).length = 2 := by rw [List.length_take]; omega
  have hin : InB W2 A (bs.take 2) := by
    unfold InB
    rw [h8]
    exact hrd.mono (fun p u h => ⟨h.1, h.2.1, Nat.lt_trans h.2.2 hpl⟩)
  have cw := word_any (bs.take 2) A 2 W2 hin (by omega)
  rw [h8] at cw
  have hle := le_lt (bs.take 2)
  rw [h8] at hle
  obtain ⟨n, hn⟩ : ∃ n, le (bs.take 2) = n := ⟨_, rfl⟩
  rw [hn] at cw hle hm
  have HN := hide hn
  have CW := hide cw
  obtain ⟨bs2, hbs2⟩ : ∃ l, bs.drop 2 = l := ⟨_, rfl⟩
  rw [hbs2] at hr hm
  have HBS := hide hbs2
  clear hn hc hfr hrd hin cw h8 hbs2
  have hB2 := Blk.grownBy HB1.out hg (by omega)
  have hc := hB2.cell
  have hfr := hB2.frozen
  have HB2 := hide hB2
  have HR2 := hide hr
  have HG2 := hide (HG.out.trans hg)
  clear hr hg hB2
  go_wp2_with fail
  refine CW.out.mono ?_
  rintro e w3 ⟨rfl, rfl⟩
  have hwr : IntKind.i64.wrap (n : Int) = (n : Int) := IntWalk.i64_in _ (by omega)
  go_wp2_with fail
  refine (take_no pb n bs2 _ HR2.out hm).mono ?_
  rintro e w4 ⟨rfl, rfl⟩
  go_wp2_with fail
  exact ⟨rfl, rfl, HG2.out⟩
set_option maxRecDepth 100000 in
set_option maxHeartbeats 1600000 in
theorem value_6c (above pb : Nat) (x : UInt8) (hx : x.toNat = 6) (bs : List UInt8) (w : World) (hl : 2 ≤ bs.length) (hm : le (bs.take 2) ≤ (bs.drop 2).length) (h : Rd w pb (x :: bs)) :
    Calls Tryd.prog 63 #[.pointer (some ⟨pb, 0, none⟩), .int .i64 above] w (ValC w pb (.ok (.mk 6 0 ((bs.drop 2).take (le (bs.take 2))) [] [], (bs.drop 2).drop (le (bs.take 2))))) := by
  have H := hide h
  have hlt := h.lt
  clear h
  go_enter Tryd.func63, Tryd.ntmps63
  go_wp2_with fail
  refine (byte_yes pb x bs _ (H.out.grow ((Grow.refl w).alloc _))).mono ?_
  rintro e w1 ⟨rfl, hr, hg, hz⟩
  rw [hx]
  have HB1 := hide (show Blk (w1.setCell ⟨w.heap.size, 0, none⟩ (.int .i64 6)) w.heap.size 37 #[.int .i64 6, .int .u64 0, .slice none 0 0, .slice none 0 0, .slice none 0 0] from (Blk.grownBy (Blk.new w 37 #[.int .i64 0, .int .u64 0, .slice none 0 0, .slice none 0 0, .slice none 0 0]) hg (by omega)).set_ 0 (.int .i64 6))
  have hc := (Blk.grownBy (Blk.new w 37 #[.int .i64 0, .int .u64 0, .slice none 0 0, .slice none 0 0, .slice none 0 0]) hg (by omega)).cell
  have hfr := (Blk.grownBy (Blk.new w 37 #[.int .i64 0, .int .u64 0, .slice none 0 0, .slice none 0 0, .slice none 0 0]) hg (by omega)).frozen
  have HR := hide (hr.kept (grown_set w1 w.heap.size 0 (.int .i64 6)) hlt)
  have HG := hide ((((GB.refl w pb).grow ((Grow.refl w).alloc (.cells #[.int .i64 0, .int .u64 0, .slice none 0 0, .slice none 0 0, .slice none 0 0] 37))).trans hg).set (Nat.le_refl _) 0 (.int .i64 6))
  have hz' : (w1.setCell ⟨w.heap.size, 0, none⟩ (.int .i64 6)).heap.size = w.heap.size + 1 := by simpa [World.setCell] using hz
  clear hr hg hz
  go_wp2_with fail
  generalize w1.setCell ⟨w.heap.size, 0, none⟩ (.int .i64 6) = W1 at HB1 HR HG hz' ⊢
  clear hc hfr
  have hc := HB1.out.cell
  have hfr := HB1.out.frozen
  refine (must_yes _ _).mono ?_
  rintro e w2 ⟨rfl, rfl⟩
  go_wp2_with fail
  refine (take_yes pb 2 bs _ HR.out hl).mono ?_
  rintro e W2 ⟨A, rfl, hrd, hr, hg, hz⟩
  have hpl := hr.lt
  have h8 : (bs.take 2).length = 2 := by rw [List.length_take]; omega
  have hin : InB W2 A (bs.take 2) := by
    unfold InB
    rw [h8]
    exact hrd.mono (fun p u h => ⟨h.1, h.2.1, Nat.lt_trans h.2.2 hpl⟩)
  have cw := word_any (bs.take 2) A 2 W2 hin (by omega)
  rw [h8] at cw
  have hle := le_lt (bs.take 2)
  rw [h8] at hle
  obtain ⟨n, hn⟩ : ∃ n, le (bs.take 2) = n := ⟨_, rfl⟩
  rw [hn] at cw hle hm
  have HN := hide hn
  have CW := hide cw
  obtain ⟨bs2, hbs2⟩ : ∃ l, bs.drop 2 = l := ⟨_, rfl⟩
  rw [hbs2] at hr hm
  have HBS := hide hbs2
  clear hn hc hfr hrd hin cw h8 hbs2
  have hB2 := Blk.grownBy HB1.out hg (by omega)
  have hc := hB2.cell
  have hfr := hB2.frozen
  have HB2 := hide hB2
  have HR2 := hide hr
  have HG2 := hide (HG.out.trans hg)
  clear hr hg hB2
  go_wp2_with fail
  refine CW.out.mono ?_
  rintro e w3 ⟨rfl, rfl⟩
  have hwr : IntKind.i64.wrap (n : Int) = (n : Int) := IntWalk.i64_in _ (by omega)
  go_wp2_with fail
  refine (take_yes pb n bs2 _ HR2.out hm).mono ?_
  rintro e W3 ⟨A2, rfl, hrd, hr, hg, hz3⟩
  have hn2 : (bs2.take n).length = n := by rw [List.length_take]; omega
  have hB3 := Blk.grownBy HB2.out hg (by omega)
  clear hc hfr
  have hc := hB3.cell
  have hfr := hB3.frozen
  have hvb := hB3.lt
  have HB3 := hide hB3
  have HR3 := hide hr
  have HG3 := hide (HG2.out.trans hg)
  have HRD := hide hrd
  clear hr hg hB3 hrd hz hz' hz3
  obtain ⟨cur, hcur, hmk⟩ := make_u8 n (by omega)
  go_wp2_with fail
  refine (must_yes _ _).mono ?_
  rintro e w4 ⟨rfl, rfl⟩
  have HSrc := hide (show Src Tryd.prog 1 23 (.slice A2 n n) (bs2.take n).length (u8s (bs2.take n)) (W3.alloc (.cells cur 5)) by
    rw [hn2]
    exact Src.ofReads under_u8s (HRD.out.mono (AtW.below ((Grow.refl W3).alloc _).below (Nat.le_refl _) (Nat.le_of_lt HR3.out.lt) (Nat.le_refl _))) (u8s_one _))
  have HRow := hide (Row.made (w := W3) cur n (by simp only [maxLen]; omega) hcur)
  go_wp2_with (first | (at_builtin; refine app_src (ys := bs2.take n) rfl (.tmp 62) (.tmp 63) _ rfl rfl HRow.out _ rfl HSrc.out (by omega) (by simp) ?_; intro A4 c4 W4 hr4 hg4; have hB4 := hg4.blk (HB3.out.alloc _) (Row.ne HRow.out (HB3.out.alloc _) (by decide)); have hc := hB4.cell; have hfr := hB4.frozen; have HB4 := hide hB4; have HR4 := hide hr4; have HG4 := hide (show Grow W3 W4 from Below.trans ((Grow.refl W3).alloc _) (Grew.below hg4 HRow.out (by simp))); clear hr4 hg4 hB4))
  have hR4 := HR4.out
  rw [hn2, Nat.zero_add, List.nil_append] at hR4
  have hcap := hR4.cap
  have hfrom := hR4.from_
  have hsz : w.heap.size ≤ W3.heap.size := by omega
  have hg5 : GB w (W4.setCell ⟨w.heap.size, 2, none⟩ (.slice A4 n c4)) pb := (HG3.out.grow HG4.out).set (Nat.le_refl _) 2 _
  have hr5 : Rd (W4.setCell ⟨w.heap.size, 2, none⟩ (.slice A4 n c4)) pb (bs2.drop n) := (HR3.out.grow HG4.out).kept (grown_set W4 w.heap.size 2 _) hlt
  have hb5 : Blk (W4.setCell ⟨w.heap.size, 2, none⟩ (.slice A4 n c4)) w.heap.size 37 #[.int .i64 6, .int .u64 0, .slice A4 n c4, .slice none 0 0, .slice none 0 0] := HB4.out.set_ 2 _
  have hbs : bs.drop 2 = bs2 := HBS.out
  have hnn : le (bs.take 2) = n := HN.out
  rw [hbs, hnn]
  refine value_end (c := ⟨6, 0, A4, n, c4, none, 0, 0, none, 0, 0⟩) rfl hb5 (Nat.le_refl _) hlt hg5 hr5 ?_
  rw [IsV]
  refine ⟨rfl, rfl, hn2.symm, rfl, rfl, by omega, by omega, by omega, by rw [hn2]; exact hcap, by rw [hn2]; omega, Nat.le_refl _, by simp, Nat.le_refl _, by simp, ?_, fun i h => absurd h (by simp), fun i h => absurd h (by simp)⟩
  rw [hn2]
  refine hfrom.mono (fun p u h => ⟨⟨⟨?_, Nat.le_trans hsz h.1.2.1, by simpa [World.setCell] using h.1.2.2⟩, by rw [frozen_setCell]; exact h.2⟩, by have := h.1.2.1; omega⟩)
  exact World.grownBy.cell (grown_set W4 w.heap.size 2 _) h.1.1 (fun e => by injection e with e; have := h.1.2.1; omega)
set_option maxRecDepth 100000 in
set_option maxHeartbeats 1600000 in
theorem value_5c (above pb : Nat) (x : UInt8) (hx : x.toNat = 5) (bs : List UInt8) (w : World) (hT : Tabs w) (hp : 1 < pb) (hu : Lib.validD ((bs.drop 2).take (le (bs.take 2))) = true) (hl : 2 ≤ bs.length) (hm : le (bs.take 2) ≤ (bs.drop 2).length) (h : Rd w pb (x :: bs)) :
    Calls Tryd.prog 63 #[.pointer (some ⟨pb, 0, none⟩), .int .i64 above] w (ValC w pb (.ok (.mk 5 0 ((bs.drop 2).take (le (bs.take 2))) [] [], (bs.drop 2).drop (le (bs.take 2))))) := by
  have HT := hide hT
  have HU := hide hu
  clear hT hu
  have H := hide h
  have hlt := h.lt
  clear h
  go_enter Tryd.func63, Tryd.ntmps63
  go_wp2_with fail
  refine (byte_yes pb x bs _ (H.out.grow ((Grow.refl w).alloc _))).mono ?_
  rintro e w1 ⟨rfl, hr, hg, hz⟩
  rw [hx]
  have HB1 := hide (show Blk (w1.setCell ⟨w.heap.size, 0, none⟩ (.int .i64 5)) w.heap.size 37 #[.int .i64 5, .int .u64 0, .slice none 0 0, .slice none 0 0, .slice none 0 0] from (Blk.grownBy (Blk.new w 37 #[.int .i64 0, .int .u64 0, .slice none 0 0, .slice none 0 0, .slice none 0 0]) hg (by omega)).set_ 0 (.int .i64 5))
  have hc := (Blk.grownBy (Blk.new w 37 #[.int .i64 0, .int .u64 0, .slice none 0 0, .slice none 0 0, .slice none 0 0]) hg (by omega)).cell
  have hfr := (Blk.grownBy (Blk.new w 37 #[.int .i64 0, .int .u64 0, .slice none 0 0, .slice none 0 0, .slice none 0 0]) hg (by omega)).frozen
  have HR := hide (hr.kept (grown_set w1 w.heap.size 0 (.int .i64 5)) hlt)
  have HG := hide ((((GB.refl w pb).grow ((Grow.refl w).alloc (.cells #[.int .i64 0, .int .u64 0, .slice none 0 0, .slice none 0 0, .slice none 0 0] 37))).trans hg).set (Nat.le_refl _) 0 (.int .i64 5))
  have hz' : (w1.setCell ⟨w.heap.size, 0, none⟩ (.int .i64 5)).heap.size = w.heap.size + 1 := by simpa [World.setCell] using hz
  clear hr hg hz
  go_wp2_with fail
  generalize w1.setCell ⟨w.heap.size, 0, none⟩ (.int .i64 5) = W1 at HB1 HR HG hz' ⊢
  clear hc hfr
  have hc := HB1.out.cell
  have hfr := HB1.out.frozen
  refine (must_yes _ _).mono ?_
  rintro e w2 ⟨rfl, rfl⟩
  go_wp2_with fail
  refine (take_yes pb 2 bs _ HR.out hl).mono ?_
  rintro e W2 ⟨A, rfl, hrd, hr, hg, hz⟩
  have hpl := hr.lt
  have h8 : (bs.take 2).length = 2 := by rw [List.length_take]; omega
  have hin : InB W2 A (bs.take 2) := by
    unfold InB
    rw [h8]
    exact hrd.mono (fun p u h => ⟨h.1, h.2.1, Nat.lt_trans h.2.2 hpl⟩)
  have cw := word_any (bs.take 2) A 2 W2 hin (by omega)
  rw [h8] at cw
  have hle := le_lt (bs.take 2)
  rw [h8] at hle
  obtain ⟨n, hn⟩ : ∃ n, le (bs.take 2) = n := ⟨_, rfl⟩
  rw [hn] at cw hle hm
  have HN := hide hn
  have CW := hide cw
  obtain ⟨bs2, hbs2⟩ : ∃ l, bs.drop 2 = l := ⟨_, rfl⟩
  rw [hbs2] at hr hm
  have HBS := hide hbs2
  clear hn hc hfr hrd hin cw h8 hbs2
  have hB2 := Blk.grownBy HB1.out hg (by omega)
  have hc := hB2.cell
  have hfr := hB2.frozen
  have HB2 := hide hB2
  have HR2 := hide hr
  have HG2 := hide (HG.out.trans hg)
  clear hr hg hB2
  go_wp2_with fail
  refine CW.out.mono ?_
  rintro e w3 ⟨rfl, rfl⟩
  have hwr : IntKind.i64.wrap (n : Int) = (n : Int) := IntWalk.i64_in _ (by omega)
  go_wp2_with fail
  refine (take_yes pb n bs2 _ HR2.out hm).mono ?_
  rintro e W3 ⟨A2, rfl, hrd, hr, hg, hz3⟩
  have hn2 : (bs2.take n).length = n := by rw [List.length_take]; omega
  have hB3 := Blk.grownBy HB2.out hg (by omega)
  clear hc hfr
  have hc := hB3.cell
  have hfr := hB3.frozen
  have hvb := hB3.lt
  have HB3 := hide hB3
  have HR3 := hide hr
  have HG3 := hide (HG2.out.trans hg)
  have HRD := hide hrd
  clear hr hg hB3 hrd hz hz' hz3
  have hu := HU.out
  rw [HN.out, HBS.out] at hu
  have cv := valid_any (bs2.take n) A2 n W3 (by unfold InB; rw [hn2]; exact HRD.out.mono (fun p u h => ⟨h.1, h.2.1, Nat.lt_trans h.2.2 HR3.out.lt⟩)) (by omega) (by omega) (Tabs.gb HT.out HG3.out hp)
  rw [hn2, hu] at cv
  have CV := hide cv
  clear cv hu
  go_wp2_with fail
  refine CV.out.mono ?_
  rintro e V3 ⟨rfl, hgv⟩
  have hB3 := HB3.out.grow hgv
  have HB3' := HB3
  have HG3' := HG3
  clear hc hfr HB3 HG3 hvb
  have hc := hB3.cell
  have hfr := hB3.frozen
  have hvb := hB3.lt
  have HB3 := hide hB3
  have HR3' := hide (HR3.out.grow hgv)
  have HRD' := hide (HRD.out.mono (AtW.below hgv.below (Nat.le_refl _) (Nat.le_of_lt HR3.out.lt) (Nat.le_refl _)))
  clear HR3 HRD
  have HR3 := HR3'
  have HRD := HRD'
  have HG3 := hide (HG3'.out.grow hgv)
  clear HR3' HRD' HB3' HG3' hgv hB3
  go_wp2_with fail
  obtain ⟨cur, hcur, hmk⟩ := make_u8 n (by omega)
  refine (must_yes _ _).mono ?_
  rintro e w4 ⟨rfl, rfl⟩
  have HSrc := hide (show Src Tryd.prog 1 23 (.slice A2 n n) (bs2.take n).length (u8s (bs2.take n)) (V3.alloc (.cells cur 5)) by
    rw [hn2]
    exact Src.ofReads under_u8s (HRD.out.mono (AtW.below ((Grow.refl V3).alloc _).below (Nat.le_refl _) (Nat.le_of_lt HR3.out.lt) (Nat.le_refl _))) (u8s_one _))
  have HRow := hide (Row.made (w := V3) cur n (by simp only [maxLen]; omega) hcur)
  go_wp2_with (first | (at_builtin; refine app_src (ys := bs2.take n) rfl (.tmp 62) (.tmp 63) _ rfl rfl HRow.out _ rfl HSrc.out (by omega) (by simp) ?_; intro A4 c4 W4 hr4 hg4; have hB4 := hg4.blk (HB3.out.alloc _) (Row.ne HRow.out (HB3.out.alloc _) (by decide)); have hc := hB4.cell; have hfr := hB4.frozen; have HB4 := hide hB4; have HR4 := hide hr4; have HG4 := hide (show Grow V3 W4 from Below.trans ((Grow.refl V3).alloc _) (Grew.below hg4 HRow.out (by simp))); clear hr4 hg4 hB4))
  have hR4 := HR4.out
  rw [hn2, Nat.zero_add, List.nil_append] at hR4
  have hcap := hR4.cap
  have hfrom := hR4.from_
  have hsz : w.heap.size ≤ V3.heap.size := by omega
  have hg5 : GB w (W4.setCell ⟨w.heap.size, 2, none⟩ (.slice A4 n c4)) pb := (HG3.out.grow HG4.out).set (Nat.le_refl _) 2 _
  have hr5 : Rd (W4.setCell ⟨w.heap.size, 2, none⟩ (.slice A4 n c4)) pb (bs2.drop n) := (HR3.out.grow HG4.out).kept (grown_set W4 w.heap.size 2 _) hlt
  have hb5 : Blk (W4.setCell ⟨w.heap.size, 2, none⟩ (.slice A4 n c4)) w.heap.size 37 #[.int .i64 5, .int .u64 0, .slice A4 n c4, .slice none 0 0, .slice none 0 0] := HB4.out.set_ 2 _
  have hbs : bs.drop 2 = bs2 := HBS.out
  have hnn : le (bs.take 2) = n := HN.out
  rw [hbs, hnn]
  refine value_end (c := ⟨5, 0, A4, n, c4, none, 0, 0, none, 0, 0⟩) rfl hb5 (Nat.le_refl _) hlt hg5 hr5 ?_
  rw [IsV]
  refine ⟨rfl, rfl, hn2.symm, rfl, rfl, by omega, by omega, by omega, by rw [hn2]; exact hcap, by rw [hn2]; omega, Nat.le_refl _, by simp, Nat.le_refl _, by simp, ?_, fun i h => absurd h (by simp), fun i h => absurd h (by simp)⟩
  rw [hn2]
  refine hfrom.mono (fun p u h => ⟨⟨⟨?_, Nat.le_trans hsz h.1.2.1, by simpa [World.setCell] using h.1.2.2⟩, by rw [frozen_setCell]; exact h.2⟩, by have := h.1.2.1; omega⟩)
  exact World.grownBy.cell (grown_set W4 w.heap.size 2 _) h.1.1 (fun e => by injection e with e; have := h.1.2.1; omega)
set_option maxRecDepth 100000 in
set_option maxHeartbeats 1600000 in
theorem value_5d (above pb : Nat) (x : UInt8) (hx : x.toNat = 5) (bs : List UInt8) (w : World) (hT : Tabs w) (hp : 1 < pb) (hu : Lib.validD ((bs.drop 2).take (le (bs.take 2))) = false) (hl : 2 ≤ bs.length) (hm : le (bs.take 2) ≤ (bs.drop 2).length) (h : Rd w pb (x :: bs)) :
    Calls Tryd.prog 63 #[.pointer (some ⟨pb, 0, none⟩), .int .i64 above] w (ValC w pb (.error 4)) := by
  have HT := hide hT
  have HU := hide hu
  clear hT hu
  have H := hide h
  have hlt := h.lt
  clear h
  go_enter Tryd.func63, Tryd.ntmps63
  go_wp2_with fail
  refine (byte_yes pb x bs _ (H.out.grow ((Grow.refl w).alloc _))).mono ?_
  rintro e w1 ⟨rfl, hr, hg, hz⟩
  rw [hx]
  have HB1 := hide (show Blk (w1.setCell ⟨w.heap.size, 0, none⟩ (.int .i64 5)) w.heap.size 37 #[.int .i64 5, .int .u64 0, .slice none 0 0, .slice none 0 0, .slice none 0 0] from (Blk.grownBy (Blk.new w 37 #[.int .i64 0, .int .u64 0, .slice none 0 0, .slice none 0 0, .slice none 0 0]) hg (by omega)).set_ 0 (.int .i64 5))
  have hc := (Blk.grownBy (Blk.new w 37 #[.int .i64 0, .int .u64 0, .slice none 0 0, .slice none 0 0, .slice none 0 0]) hg (by omega)).cell
  have hfr := (Blk.grownBy (Blk.new w 37 #[.int .i64 0, .int .u64 0, .slice none 0 0, .slice none 0 0, .slice none 0 0]) hg (by omega)).frozen
  have HR := hide (hr.kept (grown_set w1 w.heap.size 0 (.int .i64 5)) hlt)
  have HG := hide ((((GB.refl w pb).grow ((Grow.refl w).alloc (.cells #[.int .i64 0, .int .u64 0, .slice none 0 0, .slice none 0 0, .slice none 0 0] 37))).trans hg).set (Nat.le_refl _) 0 (.int .i64 5))
  have hz' : (w1.setCell ⟨w.heap.size, 0, none⟩ (.int .i64 5)).heap.size = w.heap.size + 1 := by simpa [World.setCell] using hz
  clear hr hg hz
  go_wp2_with fail
  generalize w1.setCell ⟨w.heap.size, 0, none⟩ (.int .i64 5) = W1 at HB1 HR HG hz' ⊢
  clear hc hfr
  have hc := HB1.out.cell
  have hfr := HB1.out.frozen
  refine (must_yes _ _).mono ?_
  rintro e w2 ⟨rfl, rfl⟩
  go_wp2_with fail
  refine (take_yes pb 2 bs _ HR.out hl).mono ?_
  rintro e W2 ⟨A, rfl, hrd, hr, hg, hz⟩
  have hpl := hr.lt
  have h8 : (bs.take 2).length = 2 := by rw [List.length_take]; omega
  have hin : InB W2 A (bs.take 2) := by
    unfold InB
    rw [h8]
    exact hrd.mono (fun p u h => ⟨h.1, h.2.1, Nat.lt_trans h.2.2 hpl⟩)
  have cw := word_any (bs.take 2) A 2 W2 hin (by omega)
  rw [h8] at cw
  have hle := le_lt (bs.take 2)
  rw [h8] at hle
  obtain ⟨n, hn⟩ : ∃ n, le (bs.take 2) = n := ⟨_, rfl⟩
  rw [hn] at cw hle hm
  have HN := hide hn
  have CW := hide cw
  obtain ⟨bs2, hbs2⟩ : ∃ l, bs.drop 2 = l := ⟨_, rfl⟩
  rw [hbs2] at hr hm
  have HBS := hide hbs2
  clear hn hc hfr hrd hin cw h8 hbs2
  have hB2 := Blk.grownBy HB1.out hg (by omega)
  have hc := hB2.cell
  have hfr := hB2.frozen
  have HB2 := hide hB2
  have HR2 := hide hr
  have HG2 := hide (HG.out.trans hg)
  clear hr hg hB2
  go_wp2_with fail
  refine CW.out.mono ?_
  rintro e w3 ⟨rfl, rfl⟩
  have hwr : IntKind.i64.wrap (n : Int) = (n : Int) := IntWalk.i64_in _ (by omega)
  go_wp2_with fail
  refine (take_yes pb n bs2 _ HR2.out hm).mono ?_
  rintro e W3 ⟨A2, rfl, hrd, hr, hg, hz3⟩
  have hn2 : (bs2.take n).length = n := by rw [List.length_take]; omega
  have hB3 := Blk.grownBy HB2.out hg (by omega)
  clear hc hfr
  have hc := hB3.cell
  have hfr := hB3.frozen
  have hvb := hB3.lt
  have HB3 := hide hB3
  have HR3 := hide hr
  have HG3 := hide (HG2.out.trans hg)
  have HRD := hide hrd
  clear hr hg hB3 hrd hz hz' hz3
  have hu := HU.out
  rw [HN.out, HBS.out] at hu
  have cv := valid_any (bs2.take n) A2 n W3 (by unfold InB; rw [hn2]; exact HRD.out.mono (fun p u h => ⟨h.1, h.2.1, Nat.lt_trans h.2.2 HR3.out.lt⟩)) (by omega) (by omega) (Tabs.gb HT.out HG3.out hp)
  rw [hn2, hu] at cv
  have CV := hide cv
  clear cv hu
  go_wp2_with fail
  refine CV.out.mono ?_
  rintro e V3 ⟨rfl, hgv⟩
  have HG4 := hide (HG3.out.grow hgv)
  clear hc hfr hgv
  go_wp2_with fail
  refine (must_no _ _).mono ?_
  rintro e w4 ⟨rfl, rfl⟩
  go_wp2_with fail
  exact ⟨rfl, rfl, HG4.out⟩
end Go.Proofs.YtcdbchifigonpaaDoor
