/- Walks: the reader's value: lists. Written by wip/tools/gen_read4.py. -/
import Derived.Test.YtcdbchifigonpaaDoorRead23
import Derived.Deep.RegionHeld3
import Derived.RegionDies
import Derived.Deep.RegionLaw
import Derived.IntWalk
set_option linter.unusedVariables false
set_option linter.unusedSimpArgs false
namespace Go.Proofs.YtcdbchifigonpaaDoor
open Go.RowKit Go.Shelf

theorem Blk.own {w w' : World} {g : Nat} {t : TypeId} {cs : Array Value} {row : Option Nat} (h : Blk w g t cs) (hg : w.grownBy w' row) (hne : ∀ k, row = some k → k ≠ g) : Blk w' g t cs :=
  (hg.block g h.lt (fun e => hne g e.symm rfl)).trans h
theorem GB.own {w w1 w2 : World} {pb : Nat} {row : Option Nat} (h : GB w w1 pb) (hg : w1.grownBy w2 row) (hne : ∀ k, row = some k → w.heap.size ≤ k) : GB w w2 pb :=
  ⟨hg.os.trans h.os, hg.tape.trans h.tape, hg.output.trans h.output, Nat.le_trans h.size hg.size, fun k hk hn => (hg.block k (Nat.lt_of_lt_of_le hk h.size) (fun e => by have := hne k e.symm; omega)).trans (h.block k hk hn)⟩
theorem Rd.own {w w' : World} {pb : Nat} {bs : List UInt8} {row : Option Nat} (h : Rd w pb bs) (hg : w.grownBy w' row) (hne : ∀ k, row = some k → pb < k) : Rd w' pb bs := by
  obtain ⟨A, c, hb, h1, h2, hr⟩ := h
  refine ⟨A, c, hb.own hg (fun k e => by have := hne k e; omega), h1, h2, hr.mono (fun p u q => ⟨?_, q.2⟩)⟩
  have hl := hb.lt
  exact World.grownBy.cell hg q.1 (fun e => by have := hne _ e.symm; have := q.2.2; omega)
theorem Src.oneV {w : World} (c : Cv) (e : TypeId) : Src Tryd.prog 5 27 (.slice (some ⟨w.heap.size, 0, none⟩) 1 1) 1 c.cells.toList (w.alloc (.cells c.cells e)) :=
  Src.ofSlice _ under_vals ⟨w.heap.size, 0, none⟩ 1 1 _ rfl (fun j u hu => by
    rw [add_lit, Nat.zero_add, (Blk.new w e c.cells).cell j, ← hu, Array.getElem?_toList]) (fun u hu => by
    simp only [List.mem_cons, List.not_mem_nil, or_false] at hu
    rcases hu with rfl | rfl | rfl | rfl | rfl <;> rfl)
def listGot (f : List UInt8 → Got) (n : Nat) (r : List UInt8) : Got :=
  match rdL f n r with | .error e => .error e | .ok (l, r') => .ok (.mk 7 0 [] l [], r')
/-- So far j of n values have been read: the rest tells the whole. -/
def Sofar (f : List UInt8 → Got) (n j : Nat) (r rest : List UInt8) (es : List VE) : Prop :=
  rdL f n r = match rdL f (n - j) rest with | .error e => .error e | .ok (l', r') => .ok (es.map VE.v ++ l', r')
theorem Sofar.start (f : List UInt8 → Got) (n : Nat) (r : List UInt8) : Sofar f n 0 r r [] := by
  unfold Sofar
  rw [Nat.sub_zero]
  cases rdL f n r <;> rfl
theorem Sofar.fail {f : List UInt8 → Got} {n j : Nat} {r rest : List UInt8} {es : List VE} {e : Int} (h : Sofar f n j r rest es) (hj : j < n) (hf : f rest = .error e) : rdL f n r = .error e := by
  rw [h, show n - j = (n - (j + 1)) + 1 by omega, rdL, hf]
theorem Sofar.step {f : List UInt8 → Got} {n j : Nat} {r rest rest' : List UInt8} {es : List VE} {x : VE} (h : Sofar f n j r rest es) (hj : j < n) (hf : f rest = .ok (x.v, rest')) : Sofar f n (j + 1) r rest' (es ++ [x]) := by
  unfold Sofar at h ⊢
  rw [h, show n - j = (n - (j + 1)) + 1 by omega, rdL, hf]
  simp only
  cases rdL f (n - (j + 1)) rest' with
  | error e => rfl
  | ok y => simp
theorem Sofar.done {f : List UInt8 → Got} {n : Nat} {r rest : List UInt8} {es : List VE} (h : Sofar f n n r rest es) : rdL f n r = .ok (es.map VE.v, rest) := by
  unfold Sofar at h
  rw [h, Nat.sub_self, rdL]
  simp only [List.append_nil]

set_option maxRecDepth 100000 in
set_option maxHeartbeats 3200000 in
theorem value_7a (above pb : Nat) (x : UInt8) (hx : x.toNat = 7) (bs : List UInt8) (w : World) (ha : 16 ≤ above) (h : Rd w pb (x :: bs)) :
    Calls Tryd.prog 63 #[.pointer (some ⟨pb, 0, none⟩), .int .i64 above] w (ValC w pb (.error 3)) := by
  have hd : decide ((above : Int) < 16) = false := by simp; omega
  have H := hide h
  have hlt := h.lt
  clear h
  go_enter Tryd.func63, Tryd.ntmps63
  go_wp2_with fail
  refine (byte_yes pb x bs _ (H.out.grow ((Grow.refl w).alloc _))).mono ?_
  rintro e w1 ⟨rfl, hr, hg, hz⟩
  rw [hx]
  have HB1 := hide (show Blk (w1.setCell ⟨w.heap.size, 0, none⟩ (.int .i64 7)) w.heap.size 37 #[.int .i64 7, .int .u64 0, .slice none 0 0, .slice none 0 0, .slice none 0 0] from (Blk.grownBy (Blk.new w 37 #[.int .i64 0, .int .u64 0, .slice none 0 0, .slice none 0 0, .slice none 0 0]) hg (by omega)).set_ 0 (.int .i64 7))
  have hc := (Blk.grownBy (Blk.new w 37 #[.int .i64 0, .int .u64 0, .slice none 0 0, .slice none 0 0, .slice none 0 0]) hg (by omega)).cell
  have hfr := (Blk.grownBy (Blk.new w 37 #[.int .i64 0, .int .u64 0, .slice none 0 0, .slice none 0 0, .slice none 0 0]) hg (by omega)).frozen
  have HR := hide (hr.kept (grown_set w1 w.heap.size 0 (.int .i64 7)) hlt)
  have HG := hide ((((GB.refl w pb).grow ((Grow.refl w).alloc (.cells #[.int .i64 0, .int .u64 0, .slice none 0 0, .slice none 0 0, .slice none 0 0] 37))).trans hg).set (Nat.le_refl _) 0 (.int .i64 7))
  have hz' : (w1.setCell ⟨w.heap.size, 0, none⟩ (.int .i64 7)).heap.size = w.heap.size + 1 := by simpa [World.setCell] using hz
  clear hr hg hz
  go_wp2_with fail
  generalize w1.setCell ⟨w.heap.size, 0, none⟩ (.int .i64 7) = W1 at HB1 HR HG hz' ⊢
  clear hc hfr
  have hc := HB1.out.cell
  have hfr := HB1.out.frozen
  refine (must_yes _ _).mono ?_
  rintro e w2 ⟨rfl, rfl⟩
  go_wp2_with fail
  refine (must_no _ _).mono ?_
  rintro e w2 ⟨rfl, rfl⟩
  go_wp2_with fail
  exact ⟨rfl, rfl, HG.out⟩
set_option maxRecDepth 100000 in
set_option maxHeartbeats 3200000 in
theorem value_7b (above pb : Nat) (x : UInt8) (hx : x.toNat = 7) (bs : List UInt8) (w : World) (ha : above < 16) (hbs : bs = []) (h : Rd w pb (x :: bs)) :
    Calls Tryd.prog 63 #[.pointer (some ⟨pb, 0, none⟩), .int .i64 above] w (ValC w pb (.error 4)) := by
  subst hbs
  have hd : decide ((above : Int) < 16) = true := by simp; omega
  have H := hide h
  have hlt := h.lt
  clear h
  go_enter Tryd.func63, Tryd.ntmps63
  go_wp2_with fail
  refine (byte_yes pb x [] _ (H.out.grow ((Grow.refl w).alloc _))).mono ?_
  rintro e w1 ⟨rfl, hr, hg, hz⟩
  rw [hx]
  have HB1 := hide (show Blk (w1.setCell ⟨w.heap.size, 0, none⟩ (.int .i64 7)) w.heap.size 37 #[.int .i64 7, .int .u64 0, .slice none 0 0, .slice none 0 0, .slice none 0 0] from (Blk.grownBy (Blk.new w 37 #[.int .i64 0, .int .u64 0, .slice none 0 0, .slice none 0 0, .slice none 0 0]) hg (by omega)).set_ 0 (.int .i64 7))
  have hc := (Blk.grownBy (Blk.new w 37 #[.int .i64 0, .int .u64 0, .slice none 0 0, .slice none 0 0, .slice none 0 0]) hg (by omega)).cell
  have hfr := (Blk.grownBy (Blk.new w 37 #[.int .i64 0, .int .u64 0, .slice none 0 0, .slice none 0 0, .slice none 0 0]) hg (by omega)).frozen
  have HR := hide (hr.kept (grown_set w1 w.heap.size 0 (.int .i64 7)) hlt)
  have HG := hide ((((GB.refl w pb).grow ((Grow.refl w).alloc (.cells #[.int .i64 0, .int .u64 0, .slice none 0 0, .slice none 0 0, .slice none 0 0] 37))).trans hg).set (Nat.le_refl _) 0 (.int .i64 7))
  have hz' : (w1.setCell ⟨w.heap.size, 0, none⟩ (.int .i64 7)).heap.size = w.heap.size + 1 := by simpa [World.setCell] using hz
  clear hr hg hz
  go_wp2_with fail
  generalize w1.setCell ⟨w.heap.size, 0, none⟩ (.int .i64 7) = W1 at HB1 HR HG hz' ⊢
  clear hc hfr
  have hc := HB1.out.cell
  have hfr := HB1.out.frozen
  refine (must_yes _ _).mono ?_
  rintro e w2 ⟨rfl, rfl⟩
  go_wp2_with fail
  refine (must_yes _ _).mono ?_
  rintro e w2 ⟨rfl, rfl⟩
  go_wp2_with fail
  refine (many_no pb _ HR.out).mono ?_
  rintro e w3 ⟨rfl, rfl⟩
  go_wp2_with fail
  exact ⟨rfl, rfl, HG.out⟩
set_option maxRecDepth 100000 in
set_option maxHeartbeats 3200000 in
theorem value_7c (above pb : Nat) (x : UInt8) (hx : x.toNat = 7) (bs : List UInt8) (w : World) (ha : above < 16) (y : UInt8) (r : List UInt8) (hbs : bs = y :: r) (hy : 64 < y.toNat) (h : Rd w pb (x :: bs)) :
    Calls Tryd.prog 63 #[.pointer (some ⟨pb, 0, none⟩), .int .i64 above] w (ValC w pb (.error 19)) := by
  subst hbs
  have hd : decide ((above : Int) < 16) = true := by simp; omega
  have H := hide h
  have hlt := h.lt
  clear h
  go_enter Tryd.func63, Tryd.ntmps63
  go_wp2_with fail
  refine (byte_yes pb x (y :: r) _ (H.out.grow ((Grow.refl w).alloc _))).mono ?_
  rintro e w1 ⟨rfl, hr, hg, hz⟩
  rw [hx]
  have HB1 := hide (show Blk (w1.setCell ⟨w.heap.size, 0, none⟩ (.int .i64 7)) w.heap.size 37 #[.int .i64 7, .int .u64 0, .slice none 0 0, .slice none 0 0, .slice none 0 0] from (Blk.grownBy (Blk.new w 37 #[.int .i64 0, .int .u64 0, .slice none 0 0, .slice none 0 0, .slice none 0 0]) hg (by omega)).set_ 0 (.int .i64 7))
  have hc := (Blk.grownBy (Blk.new w 37 #[.int .i64 0, .int .u64 0, .slice none 0 0, .slice none 0 0, .slice none 0 0]) hg (by omega)).cell
  have hfr := (Blk.grownBy (Blk.new w 37 #[.int .i64 0, .int .u64 0, .slice none 0 0, .slice none 0 0, .slice none 0 0]) hg (by omega)).frozen
  have HR := hide (hr.kept (grown_set w1 w.heap.size 0 (.int .i64 7)) hlt)
  have HG := hide ((((GB.refl w pb).grow ((Grow.refl w).alloc (.cells #[.int .i64 0, .int .u64 0, .slice none 0 0, .slice none 0 0, .slice none 0 0] 37))).trans hg).set (Nat.le_refl _) 0 (.int .i64 7))
  have hz' : (w1.setCell ⟨w.heap.size, 0, none⟩ (.int .i64 7)).heap.size = w.heap.size + 1 := by simpa [World.setCell] using hz
  clear hr hg hz
  go_wp2_with fail
  generalize w1.setCell ⟨w.heap.size, 0, none⟩ (.int .i64 7) = W1 at HB1 HR HG hz' ⊢
  clear hc hfr
  have hc := HB1.out.cell
  have hfr := HB1.out.frozen
  refine (must_yes _ _).mono ?_
  rintro e w2 ⟨rfl, rfl⟩
  go_wp2_with fail
  refine (must_yes _ _).mono ?_
  rintro e w2 ⟨rfl, rfl⟩
  go_wp2_with fail
  refine (many_over pb y r _ HR.out hy).mono ?_
  rintro e w3 ⟨rfl, hg⟩
  have HG2 := hide (HG.out.trans hg)
  clear hg
  go_wp2_with fail
  exact ⟨rfl, rfl, HG2.out⟩
set_option maxRecDepth 100000 in
set_option maxHeartbeats 3200000 in
theorem value_7d (above pb : Nat) (x : UInt8) (hx : x.toNat = 7) (y : UInt8) (n : Nat) (hn : y.toNat = n) (r : List UInt8) (w : World) (f : List UInt8 → Got) (hF : ValF f (above + 1) pb) (hT : Tabs w) (hp : 1 < pb) (ha : above < 16) (hy : n ≤ 64) (h : Rd w pb (x :: y :: r)) :
    Calls Tryd.prog 63 #[.pointer (some ⟨pb, 0, none⟩), .int .i64 above] w (ValC w pb (listGot f n r)) := by
  obtain ⟨i0, hi0, hz0, hz1, hz2⟩ := info_parts info_val3
  have Hi0 := hide hi0
  have Hz0 := hide hz0
  have Hz1 := hide hz1
  have Hz2 := hide hz2
  clear hi0 hz0 hz1 hz2
  have HF := hide hF
  have HT := hide hT
  have HN := hide hn
  clear hF hT hn
  have hd : decide ((above : Int) < 16) = true := by simp; omega
  have H := hide h
  have hlt := h.lt
  clear h
  go_enter Tryd.func63, Tryd.ntmps63
  go_wp2_with fail
  refine (byte_yes pb x (y :: r) _ (H.out.grow ((Grow.refl w).alloc _))).mono ?_
  rintro e w1 ⟨rfl, hr, hg, hz⟩
  rw [hx]
  have HB1 := hide (show Blk (w1.setCell ⟨w.heap.size, 0, none⟩ (.int .i64 7)) w.heap.size 37 #[.int .i64 7, .int .u64 0, .slice none 0 0, .slice none 0 0, .slice none 0 0] from (Blk.grownBy (Blk.new w 37 #[.int .i64 0, .int .u64 0, .slice none 0 0, .slice none 0 0, .slice none 0 0]) hg (by omega)).set_ 0 (.int .i64 7))
  have hc := (Blk.grownBy (Blk.new w 37 #[.int .i64 0, .int .u64 0, .slice none 0 0, .slice none 0 0, .slice none 0 0]) hg (by omega)).cell
  have hfr := (Blk.grownBy (Blk.new w 37 #[.int .i64 0, .int .u64 0, .slice none 0 0, .slice none 0 0, .slice none 0 0]) hg (by omega)).frozen
  have HR := hide (hr.kept (grown_set w1 w.heap.size 0 (.int .i64 7)) hlt)
  have HG := hide ((((GB.refl w pb).grow ((Grow.refl w).alloc (.cells #[.int .i64 0, .int .u64 0, .slice none 0 0, .slice none 0 0, .slice none 0 0] 37))).trans hg).set (Nat.le_refl _) 0 (.int .i64 7))
  have hz' : (w1.setCell ⟨w.heap.size, 0, none⟩ (.int .i64 7)).heap.size = w.heap.size + 1 := by simpa [World.setCell] using hz
  clear hr hg hz
  go_wp2_with fail
  generalize w1.setCell ⟨w.heap.size, 0, none⟩ (.int .i64 7) = W1 at HB1 HR HG hz' ⊢
  clear hc hfr
  have hc := HB1.out.cell
  have hfr := HB1.out.frozen
  refine (must_yes _ _).mono ?_
  rintro e w2 ⟨rfl, rfl⟩
  go_wp2_with fail
  refine (must_yes _ _).mono ?_
  rintro e w2 ⟨rfl, rfl⟩
  go_wp2_with fail
  refine (many_yes pb y r _ HR.out (by rw [HN.out]; exact hy)).mono ?_
  rintro e W2 ⟨rfl, hr, hg, hz⟩
  rw [HN.out]
  have HG2 := hide (HG.out.trans hg)
  have HB2 := hide (Blk.grownBy HB1.out hg (by omega))
  clear hc hfr
  have hc := HB2.out.cell
  have hfr := HB2.out.frozen
  have HR2 := hide hr
  obtain ⟨A, cap, hb, _, hl48, _⟩ := hr
  have hp0 := hb.cell 0
  simp only [List.getElem?_toArray, List.getElem?_cons_zero] at hp0
  clear hb hg hz hz'
  obtain ⟨cur, hcur, hmk⟩ := make_vals (min n r.length) (by omega)
  rw [show ((min n r.length : Nat) : Int) = min (n : Int) (r.length : Int) by omega] at hmk
  have hpl : pb < W2.heap.size := HR2.out.lt
  have hvl : w.heap.size < W2.heap.size := HB2.out.lt
  go_wp2_with fail
  have hsz3 : (W2.setCell ⟨w.heap.size, 3, none⟩ (.slice (some ⟨W2.heap.size, 0, none⟩) 0 (min n r.length))).heap.size = W2.heap.size := by simp [World.setCell]
  have hrow := World.ownsRow_made (e := 37) (size := 5) (W2.setCell ⟨w.heap.size, 3, none⟩ (.slice (some ⟨W2.heap.size, 0, none⟩) 0 (min n r.length))) cur (min n r.length) (Nat.le_refl _) (by simp only [maxLen]; omega) hcur
  rw [hsz3] at hrow
  have HB3 := hide (show Blk ((W2.setCell ⟨w.heap.size, 3, none⟩ (.slice (some ⟨W2.heap.size, 0, none⟩) 0 (min n r.length))).alloc (.cells cur 37)) w.heap.size 37 #[.int .i64 7, .int .u64 0, .slice none 0 0, .slice (some ⟨W2.heap.size, 0, none⟩) 0 (min n r.length), .slice none 0 0] from (HB2.out.set_ 3 _).alloc _)
  have HG3 := hide ((HG2.out.set (Nat.le_refl _) 3 (.slice (some ⟨W2.heap.size, 0, none⟩) 0 (min n r.length))).grow ((Grow.refl _).alloc (.cells cur 37)))
  have HR3 := hide ((HR2.out.kept (grown_set _ w.heap.size 3 (.slice (some ⟨W2.heap.size, 0, none⟩) 0 (min n r.length))) hlt).grow ((Grow.refl _).alloc (.cells cur 37)))
  have HV3 := hide (show VRow ((W2.setCell ⟨w.heap.size, 3, none⟩ (.slice (some ⟨W2.heap.size, 0, none⟩) 0 (min n r.length))).alloc (.cells cur 37)) 37 noHead 5 w.heap.size w.heap.size W2.heap.size (.slice (some ⟨W2.heap.size, 0, none⟩) 0 (min n r.length)) [] from
    ⟨hrow, fun x hx => by simp at hx, fun i j hi => by simp at hi⟩)
  clear hsz3 hrow
  clear hmk hc hfr hp0 HB2 HR2 HG2 HB1 HR HG
  go_loopg [83] (n + 1) (fun gk i wr => ∃ (j : Nat) (es : List VE) (A : Option Addr) (cap : Nat) (rest : List UInt8), j ≤ n ∧ gk + j = n + 1 ∧ i = .int .i64 j ∧ es.length = j ∧ Sofar f n j r rest es ∧
    VRow wr 37 noHead 5 w.heap.size w.heap.size W2.heap.size (.slice A j cap) es ∧ Rd wr pb rest ∧ GB w wr pb ∧ Blk wr w.heap.size 37 #[.int .i64 7, .int .u64 0, .slice none 0 0, .slice A j cap, .slice none 0 0] ∧ W2.heap.size ≤ wr.heap.size)
  case atStart => exact ⟨0, [], _, _, r, by omega, by omega, rfl, rfl, Sofar.start f n r, HV3.out, HR3.out, HG3.out, HB3.out, by simp [World.setCell]⟩
  case round =>
    obtain ⟨j, es, A', cap', rest, hj, hg, rfl, hel, hrd, hv, hr, hgb, hB, hbz⟩ := hrel
    have HV := hide hv
    have HR := hide hr
    have HG := hide hgb
    have HB := hide hB
    have HL := hide hrd
    have HEL := hide hel
    have hc := hB.cell
    have hfr := hB.frozen
    have hvl' := hB.lt
    have HTr := hide (HT.out.gb hgb hp)
    have hpr := hr.lt
    clear hv hr hgb hB hrd HV3 HR3 HG3 HB3 hel
    by_cases hlt2 : j < n
    · obtain ⟨gk', rfl⟩ : ∃ g, gk = g + 1 := ⟨gk - 1, by omega⟩
      have hab : IntKind.i64.wrap ((above : Int) + 1) = (above : Int) + 1 := IntWalk.i64_in _ (by omega)
      have hcall := HF.out wr.drew rest (HTr.out.grow (Grow.refl wr).drew) (HR.out.grow (Grow.refl wr).drew)
      rw [show ((above + 1 : Nat) : Int) = (above : Int) + 1 by omega] at hcall
      cases hfx : f rest with
      | error ee =>
        rw [hfx] at hcall
        have HC := hide hcall
        have hend : ∀ w2, GB wr.drew w2 pb → ValC w pb (listGot f n r) (.panicked (thrown ee)) w2 := fun w2 h => by
          unfold listGot
          rw [HL.out.fail hlt2 hfx]
          exact ⟨rfl, (HG.out.grow (Grow.refl wr).drew).trans h⟩
        have HE := hide hend
        clear hcall hfx hend
        go_wp2_with fail
        go_region_dies
        all_goals
          refine HC.out.mono ?_
          rintro e w2 ⟨rfl, hg2⟩
          exact And.intro rfl (HE.out _ hg2)
      | ok xr =>
        obtain ⟨xv, rest'⟩ := xr
        rw [hfx] at hcall
        have HC := hide hcall
        have HX := hide hfx
        clear hcall hfx
        go_wp2_with fail
        go_region_law ((first | (refine step_append_src (by rfl) (.tmp 86) (.tmp 91) 27 27 (by rfl) W2.heap.size 37 i0 _ 5 88 under_vals Hi0.out Hz0.out Hz1.out Hz2.out (by rfl) (.slice A' j cap') j (cellsOf noHead es) (by rfl) (hown2.alloc _) _ 1 c.cells.toList (by rfl) (Src.oneV c _) (by omega) (by simp only [maxLen]; omega) (by simp; omega) ?_; intro A3 c3 w3 hown3 hgr3 hat3; have hB3 := Blk.own (hB2.alloc _) hgr3 (fun k hk => by have := (hv2.own_lt hk).1; omega); have hc3 := hB3.cell; have hf3 := hB3.frozen) | (go_simp; go_at_call 63; refine HC.out.mono ?_; rintro e w2 ⟨c, rfl, hx2, hr2, hg2⟩; have hB2 := Blk.grownBy HB.out.drew hg2 (by omega); have hc2 := hB2.cell; have hc2a := (hB2.alloc (.cells c.cells 37)).cell; have hz2 : wr.heap.size ≤ w2.heap.size := hg2.size; have hv2 := VRow.gb (HV.out.grow (Grow.refl wr).drew) hg2 (by omega) hlt; have hown2 := hv2.own; rw [HEL.out] at hown2)))
        all_goals
          have HV4 := hide (VRow.set (VRow.add (s := ⟨#[]⟩) (m0 := wr.heap.size) hv2 (fun k hk => ((HV.out).own_lt hk).2) hvl' (by omega) (fun y hy => ((HV.out).part y hy).2.2.2.1) hx2 (by rw [HEL.out]; exact hown3) hgr3 hat3) hvl 3 (.slice A3 (j + 1) c3))
          have HB4 := hide (hB3.set_ 3 (.slice A3 (j + 1) c3))
          have HG4 := hide (GB.set (GB.own (((HG.out.grow (Grow.refl wr).drew).trans hg2).grow ((Grow.refl w2).alloc _)) hgr3 (fun k hk => by have := (hv2.own_lt hk).1; omega)) (Nat.le_refl _) 3 (.slice A3 (j + 1) c3))
          have HR4 := hide (Rd.kept (Rd.own (hr2.grow ((Grow.refl w2).alloc _)) hgr3 (fun k hk => by have := (hv2.own_lt hk).1; omega)) (grown_set w3 w.heap.size 3 (.slice A3 (j + 1) c3)) hlt)
          have hz4 : W2.heap.size ≤ (w3.setCell ⟨w.heap.size, 3, none⟩ (.slice A3 (j + 1) c3)).heap.size := by
            have := hgr3.size
            simp [World.setCell] at this ⊢
            omega
          clear hB2 hB3 hc2 hc2a hc3 hf3 hx2 hr2 hg2 hv2 hown2 hown3 hgr3 hat3 hc hfr
          go_wp2_with fail
          go_roundg gk'
          case measure => omega
          case rel => exact ⟨j + 1, es ++ [⟨⟨#[]⟩, xv, c, wr.heap.size, w2.heap.size⟩], A3, c3, rest', by omega, by omega, by go_num, by simp [HEL.out], HL.out.step hlt2 HX.out, HV4.out, HR4.out, HG4.out, HB4.out, hz4⟩
    · obtain rfl : j = n := by omega
      have hrdn := (HL.out).done
      have hgot : listGot f j r = .ok (.mk 7 0 [] (es.map VE.v) [], rest) := by unfold listGot; rw [hrdn]
      have HGOT := hide hgot
      clear hrdn hgot
      go_wp2_with fail
      rw [HGOT.out]
      exact value_endS (c := ⟨7, 0, none, 0, 0, A', j, cap', none, 0, 0⟩) rfl HB.out (Nat.le_refl _) hlt HG.out HR.out (HV.out.isL HEL.out.symm (by omega) hvl hy)
end Go.Proofs.YtcdbchifigonpaaDoor
