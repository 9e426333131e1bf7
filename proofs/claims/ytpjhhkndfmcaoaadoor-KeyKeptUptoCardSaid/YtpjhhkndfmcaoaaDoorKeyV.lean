/- Walks: the writer of keys: any value. -/
import Derived.Test.YtpjhhkndfmcaoaaDoorKeyXZ
import Derived.Maps.OwnOps
import Derived.MapKept
import Derived.ChangeMaps5
set_option linter.unusedVariables false
set_option linter.unusedSimpArgs false
namespace Go.Proofs.YtpjhhkndfmcaoaaDoor
open Go.RowKit Go.Shelf Go.ChangeMaps

section
variable {P : Program} {w : World}
theorem run_checkKey_int (kt : TypeId) (hk : P.underlying kt = some (.int .i64)) (k : Int) (em : Bool) : (Instr.checkKey em 10000 kt (.int .i64 k)).run P w = .ok () w := by
  rw [show (10000 : Nat) = 9999 + 1 from rfl, Instr.checkKey]
  simp [run_underlying hk]
theorem run_findKey_lit (kt : TypeId) (hk : P.underlying kt = some (.int .i64)) (k : Int) (es : List MapEntry) (r : Option (Nat × Value)) (hf : Instr.findNow (.int .i64) (.int .i64 k) es 0 = some r) : (Instr.findKey kt (.int .i64 k) es).run P w = .ok r w := by
  unfold Instr.findKey
  simp [run_underlying hk, hf]
theorem run_mapUpdate_lit (t kt et : TypeId) (ht : P.underlying t = some (.map kt et)) (hk : P.underlying kt = some (.int .i64)) (g : Nat) (es : Array MapEntry) (clock : Nat) (h : w.heap[g]? = some (.map es clock)) (k : Int) (v : Value)
    (hf : Instr.findNow (.int .i64) (.int .i64 k) es.toList 0 = some none) :
    ∃ w', (Instr.mapUpdate t (.map (some g)) (.int .i64 k) v).run P w = .ok () w' ∧ w'.heap[g]? = some (.map (es.push { key := .int .i64 k, val := v, born := clock }) (clock + 1)) ∧ w.grownBy w' (some g) := by
  have hrun : (Instr.mapUpdate t (.map (some g)) (.int .i64 k) v).run P w = .ok () (setBlock w g (.map (es.push { key := .int .i64 k, val := v, born := clock }) (clock + 1))) := by
    unfold Instr.mapUpdate
    simp only [Sem.run_bind, run_underlying ht, Result.andThen_ok, MapKept.run_getObj_map h, run_checkKey_int kt hk, run_findKey_lit kt hk k _ _ hf, MapKept.run_setObj_map _ h]
    rfl
  exact ⟨_, hrun, heap_setBlock_same h _, ⟨rfl, rfl, rfl, by simp [setBlock], fun i _ hi => heap_setBlock_other h _ (fun e => hi (by rw [e]))⟩⟩
theorem run_lookup_lit (t kt et : TypeId) (ht : P.underlying t = some (.map kt et)) (hk : P.underlying kt = some (.int .i64)) (g : Nat) (es : Array MapEntry) (clock : Nat) (h : w.heap[g]? = some (.map es clock)) (k : Int) (i : Nat) (v : Value)
    (hf : Instr.findNow (.int .i64) (.int .i64 k) es.toList 0 = some (some (i, v))) :
    (Instr.lookup t (.map (some g)) (.int .i64 k) false).run P w = .ok v w := by
  unfold Instr.lookup
  simp only [Sem.run_bind, run_underlying ht, Result.andThen_ok, MapKept.run_getObj_map h, run_checkKey_int kt hk, run_findKey_lit kt hk k _ _ hf, Sem.run_pure]
  rfl
end
section
variable {P : Program} {w : World} {ops : Array Oper} {rest : List Oper} {o : Oper} {a : Act} {Q : Exit → Act → World → Prop}
theorem wpList_insert_lit (hg : o.guard = none) (m x v : Operand) (t kt et : TypeId) (hop : o.op = Op.insert t m x v) (ht : P.underlying t = some (.map kt et)) (hk : P.underlying kt = some (.int .i64)) (g : Nat) (es : Array MapEntry) (clock : Nat)
    (hm : a.eval m = .map (some g)) (k : Int) (hx : a.eval x = .int .i64 k) (h : w.heap[g]? = some (.map es clock)) (hf : Instr.findNow (.int .i64) (.int .i64 k) es.toList 0 = some none)
    (hK : ∀ w', w'.heap[g]? = some (.map (es.push { key := .int .i64 k, val := a.eval v, born := clock }) (clock + 1)) → w.grownBy w' (some g) → wpList P ops Q rest (a.put o.dst undef) w') :
    wpList P ops Q (o :: rest) a w := by
  refine wpList_plain hg fun K' hK' => ?_
  obtain ⟨w', hrun, r1, r2⟩ := run_mapUpdate_lit (P := P) t kt et ht hk g es clock h k (a.eval v) hf
  unfold Oper.wp
  simp [execOp, hop, hm, hx, hrun, Result.andThen]
  exact hK' _ _ (hK w' r1 r2)
end

theorem under_kinds : Tryd.prog.underlying 126 = some (.map 3 125) := by kernel_rfl
theorem under_i64 : Tryd.prog.underlying 3 = some (.int .i64) := by kernel_rfl
theorem make_kinds (w : World) : (Instr.makeMap 126 none).run Tryd.prog w = .ok (.map (some w.heap.size)) (w.alloc (.map #[] 0)) := by kernel_rfl
theorem field_kind (w : World) (f : Fn) (xs ys : Array Value) : (Instr.field 125 (.agg #[.func f xs ys]) 0).run Tryd.prog w = .ok (.func f xs ys) w := by kernel_rfl

set_option maxRecDepth 100000 in
set_option maxHeartbeats 6400000 in
theorem kw_value1 (pb : Nat) (A : Option Addr) (c : Nat) (bs bs' : List UInt8) (n : Int) (c3 c6 c9 : Option Addr) (c4 c5 c7 c8 c10 c11 : Nat) (w : World) (h : Wr w pb A c bs)
    (hf : ∀ w', Grow w w' → Calls Tryd.prog 95 #[.pointer (some ⟨pb, 0, none⟩), (Cv.agg ⟨1, n, c3, c4, c5, c6, c7, c8, c9, c10, c11⟩)] w' (WrC w' pb A bs.length c bs')) :
    Calls Tryd.prog 57 #[.pointer (some ⟨pb, 0, none⟩), (Cv.agg ⟨1, n, c3, c4, c5, c6, c7, c8, c9, c10, c11⟩)] w (WrC w pb A bs.length c bs') := by
  have hmm := make_kinds
  have hfld := field_kind
  have HF := hide hf
  have hz1 : (w.alloc (.cells (Cv.cells ⟨1, n, c3, c4, c5, c6, c7, c8, c9, c10, c11⟩) 27)).heap.size = w.heap.size + 1 := by simp
  have HB0 := hide ((Blk.new w 27 (Cv.cells ⟨1, n, c3, c4, c5, c6, c7, c8, c9, c10, c11⟩)).alloc (.map #[] 0))
  have HI0 := hide (show ((w.alloc (.cells (Cv.cells ⟨1, n, c3, c4, c5, c6, c7, c8, c9, c10, c11⟩) 27)).alloc (.map #[] 0)).heap[w.heap.size + 1]? = some (.map #[] 0) from by rw [← hz1]; exact heap_alloc_new _ _)
  have HG0 := hide (((Grow.refl w).alloc (.cells (Cv.cells ⟨1, n, c3, c4, c5, c6, c7, c8, c9, c10, c11⟩) 27)).alloc (.map #[] 0))
  have hpb := h.1.lt
  clear h hf hz1
  go_enter Tryd.func57, Tryd.ntmps57
  go_wp2_with (first
    | (refine wpList_insert_lit rfl (.tmp 5) (.const (.int .i64 1)) (.tmp 8) 126 3 125 rfl under_kinds under_i64 (w.heap.size + 1) _ 0 rfl 1 rfl HI0.out (by rfl) ?_; intro w1 hi1 hg1; have HI1 := hide hi1; have HB1 := hide (HB0.out.own hg1 (fun q hq => by injection hq with hq; omega)); have HG1 := hide (HG0.out.grown hg1 (fun q hq => by injection hq with hq; omega)); clear hi1 hg1)
    | (refine wpList_insert_lit rfl (.tmp 5) (.const (.int .i64 2)) (.tmp 11) 126 3 125 rfl under_kinds under_i64 (w.heap.size + 1) _ 1 rfl 2 rfl HI1.out (by rfl) ?_; intro w2 hi2 hg2; have HI2 := hide hi2; have HB2 := hide (HB1.out.own hg2 (fun q hq => by injection hq with hq; omega)); have HG2 := hide (HG1.out.grown hg2 (fun q hq => by injection hq with hq; omega)); clear hi2 hg2)
    | (refine wpList_insert_lit rfl (.tmp 5) (.const (.int .i64 3)) (.tmp 14) 126 3 125 rfl under_kinds under_i64 (w.heap.size + 1) _ 2 rfl 3 rfl HI2.out (by rfl) ?_; intro w3 hi3 hg3; have HI3 := hide hi3; have HB3 := hide (HB2.out.own hg3 (fun q hq => by injection hq with hq; omega)); have HG3 := hide (HG2.out.grown hg3 (fun q hq => by injection hq with hq; omega)); clear hi3 hg3)
    | (refine wpList_insert_lit rfl (.tmp 5) (.const (.int .i64 4)) (.tmp 17) 126 3 125 rfl under_kinds under_i64 (w.heap.size + 1) _ 3 rfl 4 rfl HI3.out (by rfl) ?_; intro w4 hi4 hg4; have HI4 := hide hi4; have HB4 := hide (HB3.out.own hg4 (fun q hq => by injection hq with hq; omega)); have HG4 := hide (HG3.out.grown hg4 (fun q hq => by injection hq with hq; omega)); clear hi4 hg4)
    | (refine wpList_insert_lit rfl (.tmp 5) (.const (.int .i64 5)) (.tmp 20) 126 3 125 rfl under_kinds under_i64 (w.heap.size + 1) _ 4 rfl 5 rfl HI4.out (by rfl) ?_; intro w5 hi5 hg5; have HI5 := hide hi5; have HB5 := hide (HB4.out.own hg5 (fun q hq => by injection hq with hq; omega)); have HG5 := hide (HG4.out.grown hg5 (fun q hq => by injection hq with hq; omega)); clear hi5 hg5)
    | (refine wpList_insert_lit rfl (.tmp 5) (.const (.int .i64 6)) (.tmp 23) 126 3 125 rfl under_kinds under_i64 (w.heap.size + 1) _ 5 rfl 6 rfl HI5.out (by rfl) ?_; intro w6 hi6 hg6; have HI6 := hide hi6; have HB6 := hide (HB5.out.own hg6 (fun q hq => by injection hq with hq; omega)); have HG6 := hide (HG5.out.grown hg6 (fun q hq => by injection hq with hq; omega)); clear hi6 hg6)
    | (refine wpList_insert_lit rfl (.tmp 5) (.const (.int .i64 7)) (.tmp 26) 126 3 125 rfl under_kinds under_i64 (w.heap.size + 1) _ 6 rfl 7 rfl HI6.out (by rfl) ?_; intro w7 hi7 hg7; have HI7 := hide hi7; have HB7 := hide (HB6.out.own hg7 (fun q hq => by injection hq with hq; omega)); have HG7 := hide (HG6.out.grown hg7 (fun q hq => by injection hq with hq; omega)); clear hi7 hg7)
    | (refine wpList_insert_lit rfl (.tmp 5) (.const (.int .i64 8)) (.tmp 29) 126 3 125 rfl under_kinds under_i64 (w.heap.size + 1) _ 7 rfl 8 rfl HI7.out (by rfl) ?_; intro w8 hi8 hg8; have HI8 := hide hi8; have HB8 := hide (HB7.out.own hg8 (fun q hq => by injection hq with hq; omega)); have HG8 := hide (HG7.out.grown hg8 (fun q hq => by injection hq with hq; omega)); clear hi8 hg8; have hlook := run_lookup_lit (P := Tryd.prog) 126 3 125 under_kinds under_i64 (w.heap.size + 1) _ 8 HI8.out 1 0 _ (by rfl); have hcx := HB8.out.cell; have hltx := HB8.out.lt))
  refine (HF.out w8 HG8.out).mono ?_
  rintro e w9 ⟨A2, c2, rfl, h1, h2⟩
  have HW := hide h1
  have HGE := hide ((WG.of_grow pb _ HG8.out).trans h2)
  clear h1 h2
  go_wp2_with fail
  go_end0
  exact ⟨A2, c2, rfl, HW.out, HGE.out⟩

set_option maxRecDepth 100000 in
set_option maxHeartbeats 6400000 in
theorem kw_value2 (pb : Nat) (A : Option Addr) (c : Nat) (bs bs' : List UInt8) (n : Int) (c3 c6 c9 : Option Addr) (c4 c5 c7 c8 c10 c11 : Nat) (w : World) (h : Wr w pb A c bs)
    (hf : ∀ w', Grow w w' → Calls Tryd.prog 96 #[.pointer (some ⟨pb, 0, none⟩), (Cv.agg ⟨2, n, c3, c4, c5, c6, c7, c8, c9, c10, c11⟩)] w' (WrC w' pb A bs.length c bs')) :
    Calls Tryd.prog 57 #[.pointer (some ⟨pb, 0, none⟩), (Cv.agg ⟨2, n, c3, c4, c5, c6, c7, c8, c9, c10, c11⟩)] w (WrC w pb A bs.length c bs') := by
  have hmm := make_kinds
  have hfld := field_kind
  have HF := hide hf
  have hz1 : (w.alloc (.cells (Cv.cells ⟨2, n, c3, c4, c5, c6, c7, c8, c9, c10, c11⟩) 27)).heap.size = w.heap.size + 1 := by simp
  have HB0 := hide ((Blk.new w 27 (Cv.cells ⟨2, n, c3, c4, c5, c6, c7, c8, c9, c10, c11⟩)).alloc (.map #[] 0))
  have HI0 := hide (show ((w.alloc (.cells (Cv.cells ⟨2, n, c3, c4, c5, c6, c7, c8, c9, c10, c11⟩) 27)).alloc (.map #[] 0)).heap[w.heap.size + 1]? = some (.map #[] 0) from by rw [← hz1]; exact heap_alloc_new _ _)
  have HG0 := hide (((Grow.refl w).alloc (.cells (Cv.cells ⟨2, n, c3, c4, c5, c6, c7, c8, c9, c10, c11⟩) 27)).alloc (.map #[] 0))
  have hpb := h.1.lt
  clear h hf hz1
  go_enter Tryd.func57, Tryd.ntmps57
  go_wp2_with (first
    | (refine wpList_insert_lit rfl (.tmp 5) (.const (.int .i64 1)) (.tmp 8) 126 3 125 rfl under_kinds under_i64 (w.heap.size + 1) _ 0 rfl 1 rfl HI0.out (by rfl) ?_; intro w1 hi1 hg1; have HI1 := hide hi1; have HB1 := hide (HB0.out.own hg1 (fun q hq => by injection hq with hq; omega)); have HG1 := hide (HG0.out.grown hg1 (fun q hq => by injection hq with hq; omega)); clear hi1 hg1)
    | (refine wpList_insert_lit rfl (.tmp 5) (.const (.int .i64 2)) (.tmp 11) 126 3 125 rfl under_kinds under_i64 (w.heap.size + 1) _ 1 rfl 2 rfl HI1.out (by rfl) ?_; intro w2 hi2 hg2; have HI2 := hide hi2; have HB2 := hide (HB1.out.own hg2 (fun q hq => by injection hq with hq; omega)); have HG2 := hide (HG1.out.grown hg2 (fun q hq => by injection hq with hq; omega)); clear hi2 hg2)
    | (refine wpList_insert_lit rfl (.tmp 5) (.const (.int .i64 3)) (.tmp 14) 126 3 125 rfl under_kinds under_i64 (w.heap.size + 1) _ 2 rfl 3 rfl HI2.out (by rfl) ?_; intro w3 hi3 hg3; have HI3 := hide hi3; have HB3 := hide (HB2.out.own hg3 (fun q hq => by injection hq with hq; omega)); have HG3 := hide (HG2.out.grown hg3 (fun q hq => by injection hq with hq; omega)); clear hi3 hg3)
    | (refine wpList_insert_lit rfl (.tmp 5) (.const (.int .i64 4)) (.tmp 17) 126 3 125 rfl under_kinds under_i64 (w.heap.size + 1) _ 3 rfl 4 rfl HI3.out (by rfl) ?_; intro w4 hi4 hg4; have HI4 := hide hi4; have HB4 := hide (HB3.out.own hg4 (fun q hq => by injection hq with hq; omega)); have HG4 := hide (HG3.out.grown hg4 (fun q hq => by injection hq with hq; omega)); clear hi4 hg4)
    | (refine wpList_insert_lit rfl (.tmp 5) (.const (.int .i64 5)) (.tmp 20) 126 3 125 rfl under_kinds under_i64 (w.heap.size + 1) _ 4 rfl 5 rfl HI4.out (by rfl) ?_; intro w5 hi5 hg5; have HI5 := hide hi5; have HB5 := hide (HB4.out.own hg5 (fun q hq => by injection hq with hq; omega)); have HG5 := hide (HG4.out.grown hg5 (fun q hq => by injection hq with hq; omega)); clear hi5 hg5)
    | (refine wpList_insert_lit rfl (.tmp 5) (.const (.int .i64 6)) (.tmp 23) 126 3 125 rfl under_kinds under_i64 (w.heap.size + 1) _ 5 rfl 6 rfl HI5.out (by rfl) ?_; intro w6 hi6 hg6; have HI6 := hide hi6; have HB6 := hide (HB5.out.own hg6 (fun q hq => by injection hq with hq; omega)); have HG6 := hide (HG5.out.grown hg6 (fun q hq => by injection hq with hq; omega)); clear hi6 hg6)
    | (refine wpList_insert_lit rfl (.tmp 5) (.const (.int .i64 7)) (.tmp 26) 126 3 125 rfl under_kinds under_i64 (w.heap.size + 1) _ 6 rfl 7 rfl HI6.out (by rfl) ?_; intro w7 hi7 hg7; have HI7 := hide hi7; have HB7 := hide (HB6.out.own hg7 (fun q hq => by injection hq with hq; omega)); have HG7 := hide (HG6.out.grown hg7 (fun q hq => by injection hq with hq; omega)); clear hi7 hg7)
    | (refine wpList_insert_lit rfl (.tmp 5) (.const (.int .i64 8)) (.tmp 29) 126 3 125 rfl under_kinds under_i64 (w.heap.size + 1) _ 7 rfl 8 rfl HI7.out (by rfl) ?_; intro w8 hi8 hg8; have HI8 := hide hi8; have HB8 := hide (HB7.out.own hg8 (fun q hq => by injection hq with hq; omega)); have HG8 := hide (HG7.out.grown hg8 (fun q hq => by injection hq with hq; omega)); clear hi8 hg8; have hlook := run_lookup_lit (P := Tryd.prog) 126 3 125 under_kinds under_i64 (w.heap.size + 1) _ 8 HI8.out 2 1 _ (by rfl); have hcx := HB8.out.cell; have hltx := HB8.out.lt))
  refine (HF.out w8 HG8.out).mono ?_
  rintro e w9 ⟨A2, c2, rfl, h1, h2⟩
  have HW := hide h1
  have HGE := hide ((WG.of_grow pb _ HG8.out).trans h2)
  clear h1 h2
  go_wp2_with fail
  go_end0
  exact ⟨A2, c2, rfl, HW.out, HGE.out⟩

set_option maxRecDepth 100000 in
set_option maxHeartbeats 6400000 in
theorem kw_value3 (pb : Nat) (A : Option Addr) (c : Nat) (bs bs' : List UInt8) (n : Int) (c3 c6 c9 : Option Addr) (c4 c5 c7 c8 c10 c11 : Nat) (w : World) (h : Wr w pb A c bs)
    (hf : ∀ w', Grow w w' → Calls Tryd.prog 97 #[.pointer (some ⟨pb, 0, none⟩), (Cv.agg ⟨3, n, c3, c4, c5, c6, c7, c8, c9, c10, c11⟩)] w' (WrC w' pb A bs.length c bs')) :
    Calls Tryd.prog 57 #[.pointer (some ⟨pb, 0, none⟩), (Cv.agg ⟨3, n, c3, c4, c5, c6, c7, c8, c9, c10, c11⟩)] w (WrC w pb A bs.length c bs') := by
  have hmm := make_kinds
  have hfld := field_kind
  have HF := hide hf
  have hz1 : (w.alloc (.cells (Cv.cells ⟨3, n, c3, c4, c5, c6, c7, c8, c9, c10, c11⟩) 27)).heap.size = w.heap.size + 1 := by simp
  have HB0 := hide ((Blk.new w 27 (Cv.cells ⟨3, n, c3, c4, c5, c6, c7, c8, c9, c10, c11⟩)).alloc (.map #[] 0))
  have HI0 := hide (show ((w.alloc (.cells (Cv.cells ⟨3, n, c3, c4, c5, c6, c7, c8, c9, c10, c11⟩) 27)).alloc (.map #[] 0)).heap[w.heap.size + 1]? = some (.map #[] 0) from by rw [← hz1]; exact heap_alloc_new _ _)
  have HG0 := hide (((Grow.refl w).alloc (.cells (Cv.cells ⟨3, n, c3, c4, c5, c6, c7, c8, c9, c10, c11⟩) 27)).alloc (.map #[] 0))
  have hpb := h.1.lt
  clear h hf hz1
  go_enter Tryd.func57, Tryd.ntmps57
  go_wp2_with (first
    | (refine wpList_insert_lit rfl (.tmp 5) (.const (.int .i64 1)) (.tmp 8) 126 3 125 rfl under_kinds under_i64 (w.heap.size + 1) _ 0 rfl 1 rfl HI0.out (by rfl) ?_; intro w1 hi1 hg1; have HI1 := hide hi1; have HB1 := hide (HB0.out.own hg1 (fun q hq => by injection hq with hq; omega)); have HG1 := hide (HG0.out.grown hg1 (fun q hq => by injection hq with hq; omega)); clear hi1 hg1)
    | (refine wpList_insert_lit rfl (.tmp 5) (.const (.int .i64 2)) (.tmp 11) 126 3 125 rfl under_kinds under_i64 (w.heap.size + 1) _ 1 rfl 2 rfl HI1.out (by rfl) ?_; intro w2 hi2 hg2; have HI2 := hide hi2; have HB2 := hide (HB1.out.own hg2 (fun q hq => by injection hq with hq; omega)); have HG2 := hide (HG1.out.grown hg2 (fun q hq => by injection hq with hq; omega)); clear hi2 hg2)
    | (refine wpList_insert_lit rfl (.tmp 5) (.const (.int .i64 3)) (.tmp 14) 126 3 125 rfl under_kinds under_i64 (w.heap.size + 1) _ 2 rfl 3 rfl HI2.out (by rfl) ?_; intro w3 hi3 hg3; have HI3 := hide hi3; have HB3 := hide (HB2.out.own hg3 (fun q hq => by injection hq with hq; omega)); have HG3 := hide (HG2.out.grown hg3 (fun q hq => by injection hq with hq; omega)); clear hi3 hg3)
    | (refine wpList_insert_lit rfl (.tmp 5) (.const (.int .i64 4)) (.tmp 17) 126 3 125 rfl under_kinds under_i64 (w.heap.size + 1) _ 3 rfl 4 rfl HI3.out (by rfl) ?_; intro w4 hi4 hg4; have HI4 := hide hi4; have HB4 := hide (HB3.out.own hg4 (fun q hq => by injection hq with hq; omega)); have HG4 := hide (HG3.out.grown hg4 (fun q hq => by injection hq with hq; omega)); clear hi4 hg4)
    | (refine wpList_insert_lit rfl (.tmp 5) (.const (.int .i64 5)) (.tmp 20) 126 3 125 rfl under_kinds under_i64 (w.heap.size + 1) _ 4 rfl 5 rfl HI4.out (by rfl) ?_; intro w5 hi5 hg5; have HI5 := hide hi5; have HB5 := hide (HB4.out.own hg5 (fun q hq => by injection hq with hq; omega)); have HG5 := hide (HG4.out.grown hg5 (fun q hq => by injection hq with hq; omega)); clear hi5 hg5)
    | (refine wpList_insert_lit rfl (.tmp 5) (.const (.int .i64 6)) (.tmp 23) 126 3 125 rfl under_kinds under_i64 (w.heap.size + 1) _ 5 rfl 6 rfl HI5.out (by rfl) ?_; intro w6 hi6 hg6; have HI6 := hide hi6; have HB6 := hide (HB5.out.own hg6 (fun q hq => by injection hq with hq; omega)); have HG6 := hide (HG5.out.grown hg6 (fun q hq => by injection hq with hq; omega)); clear hi6 hg6)
    | (refine wpList_insert_lit rfl (.tmp 5) (.const (.int .i64 7)) (.tmp 26) 126 3 125 rfl under_kinds under_i64 (w.heap.size + 1) _ 6 rfl 7 rfl HI6.out (by rfl) ?_; intro w7 hi7 hg7; have HI7 := hide hi7; have HB7 := hide (HB6.out.own hg7 (fun q hq => by injection hq with hq; omega)); have HG7 := hide (HG6.out.grown hg7 (fun q hq => by injection hq with hq; omega)); clear hi7 hg7)
    | (refine wpList_insert_lit rfl (.tmp 5) (.const (.int .i64 8)) (.tmp 29) 126 3 125 rfl under_kinds under_i64 (w.heap.size + 1) _ 7 rfl 8 rfl HI7.out (by rfl) ?_; intro w8 hi8 hg8; have HI8 := hide hi8; have HB8 := hide (HB7.out.own hg8 (fun q hq => by injection hq with hq; omega)); have HG8 := hide (HG7.out.grown hg8 (fun q hq => by injection hq with hq; omega)); clear hi8 hg8; have hlook := run_lookup_lit (P := Tryd.prog) 126 3 125 under_kinds under_i64 (w.heap.size + 1) _ 8 HI8.out 3 2 _ (by rfl); have hcx := HB8.out.cell; have hltx := HB8.out.lt))
  refine (HF.out w8 HG8.out).mono ?_
  rintro e w9 ⟨A2, c2, rfl, h1, h2⟩
  have HW := hide h1
  have HGE := hide ((WG.of_grow pb _ HG8.out).trans h2)
  clear h1 h2
  go_wp2_with fail
  go_end0
  exact ⟨A2, c2, rfl, HW.out, HGE.out⟩

set_option maxRecDepth 100000 in
set_option maxHeartbeats 6400000 in
theorem kw_value4 (pb : Nat) (A : Option Addr) (c : Nat) (bs bs' : List UInt8) (n : Int) (c3 c6 c9 : Option Addr) (c4 c5 c7 c8 c10 c11 : Nat) (w : World) (h : Wr w pb A c bs)
    (hf : ∀ w', Grow w w' → Calls Tryd.prog 97 #[.pointer (some ⟨pb, 0, none⟩), (Cv.agg ⟨4, n, c3, c4, c5, c6, c7, c8, c9, c10, c11⟩)] w' (WrC w' pb A bs.length c bs')) :
    Calls Tryd.prog 57 #[.pointer (some ⟨pb, 0, none⟩), (Cv.agg ⟨4, n, c3, c4, c5, c6, c7, c8, c9, c10, c11⟩)] w (WrC w pb A bs.length c bs') := by
  have hmm := make_kinds
  have hfld := field_kind
  have HF := hide hf
  have hz1 : (w.alloc (.cells (Cv.cells ⟨4, n, c3, c4, c5, c6, c7, c8, c9, c10, c11⟩) 27)).heap.size = w.heap.size + 1 := by simp
  have HB0 := hide ((Blk.new w 27 (Cv.cells ⟨4, n, c3, c4, c5, c6, c7, c8, c9, c10, c11⟩)).alloc (.map #[] 0))
  have HI0 := hide (show ((w.alloc (.cells (Cv.cells ⟨4, n, c3, c4, c5, c6, c7, c8, c9, c10, c11⟩) 27)).alloc (.map #[] 0)).heap[w.heap.size + 1]? = some (.map #[] 0) from by rw [← hz1]; exact heap_alloc_new _ _)
  have HG0 := hide (((Grow.refl w).alloc (.cells (Cv.cells ⟨4, n, c3, c4, c5, c6, c7, c8, c9, c10, c11⟩) 27)).alloc (.map #[] 0))
  have hpb := h.1.lt
  clear h hf hz1
  go_enter Tryd.func57, Tryd.ntmps57
  go_wp2_with (first
    | (refine wpList_insert_lit rfl (.tmp 5) (.const (.int .i64 1)) (.tmp 8) 126 3 125 rfl under_kinds under_i64 (w.heap.size + 1) _ 0 rfl 1 rfl HI0.out (by rfl) ?_; intro w1 hi1 hg1; have HI1 := hide hi1; have HB1 := hide (HB0.out.own hg1 (fun q hq => by injection hq with hq; omega)); have HG1 := hide (HG0.out.grown hg1 (fun q hq => by injection hq with hq; omega)); clear hi1 hg1)
    | (refine wpList_insert_lit rfl (.tmp 5) (.const (.int .i64 2)) (.tmp 11) 126 3 125 rfl under_kinds under_i64 (w.heap.size + 1) _ 1 rfl 2 rfl HI1.out (by rfl) ?_; intro w2 hi2 hg2; have HI2 := hide hi2; have HB2 := hide (HB1.out.own hg2 (fun q hq => by injection hq with hq; omega)); have HG2 := hide (HG1.out.grown hg2 (fun q hq => by injection hq with hq; omega)); clear hi2 hg2)
    | (refine wpList_insert_lit rfl (.tmp 5) (.const (.int .i64 3)) (.tmp 14) 126 3 125 rfl under_kinds under_i64 (w.heap.size + 1) _ 2 rfl 3 rfl HI2.out (by rfl) ?_; intro w3 hi3 hg3; have HI3 := hide hi3; have HB3 := hide (HB2.out.own hg3 (fun q hq => by injection hq with hq; omega)); have HG3 := hide (HG2.out.grown hg3 (fun q hq => by injection hq with hq; omega)); clear hi3 hg3)
    | (refine wpList_insert_lit rfl (.tmp 5) (.const (.int .i64 4)) (.tmp 17) 126 3 125 rfl under_kinds under_i64 (w.heap.size + 1) _ 3 rfl 4 rfl HI3.out (by rfl) ?_; intro w4 hi4 hg4; have HI4 := hide hi4; have HB4 := hide (HB3.out.own hg4 (fun q hq => by injection hq with hq; omega)); have HG4 := hide (HG3.out.grown hg4 (fun q hq => by injection hq with hq; omega)); clear hi4 hg4)
    | (refine wpList_insert_lit rfl (.tmp 5) (.const (.int .i64 5)) (.tmp 20) 126 3 125 rfl under_kinds under_i64 (w.heap.size + 1) _ 4 rfl 5 rfl HI4.out (by rfl) ?_; intro w5 hi5 hg5; have HI5 := hide hi5; have HB5 := hide (HB4.out.own hg5 (fun q hq => by injection hq with hq; omega)); have HG5 := hide (HG4.out.grown hg5 (fun q hq => by injection hq with hq; omega)); clear hi5 hg5)
    | (refine wpList_insert_lit rfl (.tmp 5) (.const (.int .i64 6)) (.tmp 23) 126 3 125 rfl under_kinds under_i64 (w.heap.size + 1) _ 5 rfl 6 rfl HI5.out (by rfl) ?_; intro w6 hi6 hg6; have HI6 := hide hi6; have HB6 := hide (HB5.out.own hg6 (fun q hq => by injection hq with hq; omega)); have HG6 := hide (HG5.out.grown hg6 (fun q hq => by injection hq with hq; omega)); clear hi6 hg6)
    | (refine wpList_insert_lit rfl (.tmp 5) (.const (.int .i64 7)) (.tmp 26) 126 3 125 rfl under_kinds under_i64 (w.heap.size + 1) _ 6 rfl 7 rfl HI6.out (by rfl) ?_; intro w7 hi7 hg7; have HI7 := hide hi7; have HB7 := hide (HB6.out.own hg7 (fun q hq => by injection hq with hq; omega)); have HG7 := hide (HG6.out.grown hg7 (fun q hq => by injection hq with hq; omega)); clear hi7 hg7)
    | (refine wpList_insert_lit rfl (.tmp 5) (.const (.int .i64 8)) (.tmp 29) 126 3 125 rfl under_kinds under_i64 (w.heap.size + 1) _ 7 rfl 8 rfl HI7.out (by rfl) ?_; intro w8 hi8 hg8; have HI8 := hide hi8; have HB8 := hide (HB7.out.own hg8 (fun q hq => by injection hq with hq; omega)); have HG8 := hide (HG7.out.grown hg8 (fun q hq => by injection hq with hq; omega)); clear hi8 hg8; have hlook := run_lookup_lit (P := Tryd.prog) 126 3 125 under_kinds under_i64 (w.heap.size + 1) _ 8 HI8.out 4 3 _ (by rfl); have hcx := HB8.out.cell; have hltx := HB8.out.lt))
  refine (HF.out w8 HG8.out).mono ?_
  rintro e w9 ⟨A2, c2, rfl, h1, h2⟩
  have HW := hide h1
  have HGE := hide ((WG.of_grow pb _ HG8.out).trans h2)
  clear h1 h2
  go_wp2_with fail
  go_end0
  exact ⟨A2, c2, rfl, HW.out, HGE.out⟩

set_option maxRecDepth 100000 in
set_option maxHeartbeats 6400000 in
theorem kw_value5 (pb : Nat) (A : Option Addr) (c : Nat) (bs bs' : List UInt8) (n : Int) (c3 c6 c9 : Option Addr) (c4 c5 c7 c8 c10 c11 : Nat) (w : World) (h : Wr w pb A c bs)
    (hf : ∀ w', Grow w w' → Calls Tryd.prog 98 #[.pointer (some ⟨pb, 0, none⟩), (Cv.agg ⟨5, n, c3, c4, c5, c6, c7, c8, c9, c10, c11⟩)] w' (WrC w' pb A bs.length c bs')) :
    Calls Tryd.prog 57 #[.pointer (some ⟨pb, 0, none⟩), (Cv.agg ⟨5, n, c3, c4, c5, c6, c7, c8, c9, c10, c11⟩)] w (WrC w pb A bs.length c bs') := by
  have hmm := make_kinds
  have hfld := field_kind
  have HF := hide hf
  have hz1 : (w.alloc (.cells (Cv.cells ⟨5, n, c3, c4, c5, c6, c7, c8, c9, c10, c11⟩) 27)).heap.size = w.heap.size + 1 := by simp
  have HB0 := hide ((Blk.new w 27 (Cv.cells ⟨5, n, c3, c4, c5, c6, c7, c8, c9, c10, c11⟩)).alloc (.map #[] 0))
  have HI0 := hide (show ((w.alloc (.cells (Cv.cells ⟨5, n, c3, c4, c5, c6, c7, c8, c9, c10, c11⟩) 27)).alloc (.map #[] 0)).heap[w.heap.size + 1]? = some (.map #[] 0) from by rw [← hz1]; exact heap_alloc_new _ _)
  have HG0 := hide (((Grow.refl w).alloc (.cells (Cv.cells ⟨5, n, c3, c4, c5, c6, c7, c8, c9, c10, c11⟩) 27)).alloc (.map #[] 0))
  have hpb := h.1.lt
  clear h hf hz1
  go_enter Tryd.func57, Tryd.ntmps57
  go_wp2_with (first
    | (refine wpList_insert_lit rfl (.tmp 5) (.const (.int .i64 1)) (.tmp 8) 126 3 125 rfl under_kinds under_i64 (w.heap.size + 1) _ 0 rfl 1 rfl HI0.out (by rfl) ?_; intro w1 hi1 hg1; have HI1 := hide hi1; have HB1 := hide (HB0.out.own hg1 (fun q hq => by injection hq with hq; omega)); have HG1 := hide (HG0.out.grown hg1 (fun q hq => by injection hq with hq; omega)); clear hi1 hg1)
    | (refine wpList_insert_lit rfl (.tmp 5) (.const (.int .i64 2)) (.tmp 11) 126 3 125 rfl under_kinds under_i64 (w.heap.size + 1) _ 1 rfl 2 rfl HI1.out (by rfl) ?_; intro w2 hi2 hg2; have HI2 := hide hi2; have HB2 := hide (HB1.out.own hg2 (fun q hq => by injection hq with hq; omega)); have HG2 := hide (HG1.out.grown hg2 (fun q hq => by injection hq with hq; omega)); clear hi2 hg2)
    | (refine wpList_insert_lit rfl (.tmp 5) (.const (.int .i64 3)) (.tmp 14) 126 3 125 rfl under_kinds under_i64 (w.heap.size + 1) _ 2 rfl 3 rfl HI2.out (by rfl) ?_; intro w3 hi3 hg3; have HI3 := hide hi3; have HB3 := hide (HB2.out.own hg3 (fun q hq => by injection hq with hq; omega)); have HG3 := hide (HG2.out.grown hg3 (fun q hq => by injection hq with hq; omega)); clear hi3 hg3)
    | (refine wpList_insert_lit rfl (.tmp 5) (.const (.int .i64 4)) (.tmp 17) 126 3 125 rfl under_kinds under_i64 (w.heap.size + 1) _ 3 rfl 4 rfl HI3.out (by rfl) ?_; intro w4 hi4 hg4; have HI4 := hide hi4; have HB4 := hide (HB3.out.own hg4 (fun q hq => by injection hq with hq; omega)); have HG4 := hide (HG3.out.grown hg4 (fun q hq => by injection hq with hq; omega)); clear hi4 hg4)
    | (refine wpList_insert_lit rfl (.tmp 5) (.const (.int .i64 5)) (.tmp 20) 126 3 125 rfl under_kinds under_i64 (w.heap.size + 1) _ 4 rfl 5 rfl HI4.out (by rfl) ?_; intro w5 hi5 hg5; have HI5 := hide hi5; have HB5 := hide (HB4.out.own hg5 (fun q hq => by injection hq with hq; omega)); have HG5 := hide (HG4.out.grown hg5 (fun q hq => by injection hq with hq; omega)); clear hi5 hg5)
    | (refine wpList_insert_lit rfl (.tmp 5) (.const (.int .i64 6)) (.tmp 23) 126 3 125 rfl under_kinds under_i64 (w.heap.size + 1) _ 5 rfl 6 rfl HI5.out (by rfl) ?_; intro w6 hi6 hg6; have HI6 := hide hi6; have HB6 := hide (HB5.out.own hg6 (fun q hq => by injection hq with hq; omega)); have HG6 := hide (HG5.out.grown hg6 (fun q hq => by injection hq with hq; omega)); clear hi6 hg6)
    | (refine wpList_insert_lit rfl (.tmp 5) (.const (.int .i64 7)) (.tmp 26) 126 3 125 rfl under_kinds under_i64 (w.heap.size + 1) _ 6 rfl 7 rfl HI6.out (by rfl) ?_; intro w7 hi7 hg7; have HI7 := hide hi7; have HB7 := hide (HB6.out.own hg7 (fun q hq => by injection hq with hq; omega)); have HG7 := hide (HG6.out.grown hg7 (fun q hq => by injection hq with hq; omega)); clear hi7 hg7)
    | (refine wpList_insert_lit rfl (.tmp 5) (.const (.int .i64 8)) (.tmp 29) 126 3 125 rfl under_kinds under_i64 (w.heap.size + 1) _ 7 rfl 8 rfl HI7.out (by rfl) ?_; intro w8 hi8 hg8; have HI8 := hide hi8; have HB8 := hide (HB7.out.own hg8 (fun q hq => by injection hq with hq; omega)); have HG8 := hide (HG7.out.grown hg8 (fun q hq => by injection hq with hq; omega)); clear hi8 hg8; have hlook := run_lookup_lit (P := Tryd.prog) 126 3 125 under_kinds under_i64 (w.heap.size + 1) _ 8 HI8.out 5 4 _ (by rfl); have hcx := HB8.out.cell; have hltx := HB8.out.lt))
  refine (HF.out w8 HG8.out).mono ?_
  rintro e w9 ⟨A2, c2, rfl, h1, h2⟩
  have HW := hide h1
  have HGE := hide ((WG.of_grow pb _ HG8.out).trans h2)
  clear h1 h2
  go_wp2_with fail
  go_end0
  exact ⟨A2, c2, rfl, HW.out, HGE.out⟩

set_option maxRecDepth 100000 in
set_option maxHeartbeats 6400000 in
theorem kw_value6 (pb : Nat) (A : Option Addr) (c : Nat) (bs bs' : List UInt8) (n : Int) (c3 c6 c9 : Option Addr) (c4 c5 c7 c8 c10 c11 : Nat) (w : World) (h : Wr w pb A c bs)
    (hf : ∀ w', Grow w w' → Calls Tryd.prog 99 #[.pointer (some ⟨pb, 0, none⟩), (Cv.agg ⟨6, n, c3, c4, c5, c6, c7, c8, c9, c10, c11⟩)] w' (WrC w' pb A bs.length c bs')) :
    Calls Tryd.prog 57 #[.pointer (some ⟨pb, 0, none⟩), (Cv.agg ⟨6, n, c3, c4, c5, c6, c7, c8, c9, c10, c11⟩)] w (WrC w pb A bs.length c bs') := by
  have hmm := make_kinds
  have hfld := field_kind
  have HF := hide hf
  have hz1 : (w.alloc (.cells (Cv.cells ⟨6, n, c3, c4, c5, c6, c7, c8, c9, c10, c11⟩) 27)).heap.size = w.heap.size + 1 := by simp
  have HB0 := hide ((Blk.new w 27 (Cv.cells ⟨6, n, c3, c4, c5, c6, c7, c8, c9, c10, c11⟩)).alloc (.map #[] 0))
  have HI0 := hide (show ((w.alloc (.cells (Cv.cells ⟨6, n, c3, c4, c5, c6, c7, c8, c9, c10, c11⟩) 27)).alloc (.map #[] 0)).heap[w.heap.size + 1]? = some (.map #[] 0) from by rw [← hz1]; exact heap_alloc_new _ _)
  have HG0 := hide (((Grow.refl w).alloc (.cells (Cv.cells ⟨6, n, c3, c4, c5, c6, c7, c8, c9, c10, c11⟩) 27)).alloc (.map #[] 0))
  have hpb := h.1.lt
  clear h hf hz1
  go_enter Tryd.func57, Tryd.ntmps57
  go_wp2_with (first
    | (refine wpList_insert_lit rfl (.tmp 5) (.const (.int .i64 1)) (.tmp 8) 126 3 125 rfl under_kinds under_i64 (w.heap.size + 1) _ 0 rfl 1 rfl HI0.out (by rfl) ?_; intro w1 hi1 hg1; have HI1 := hide hi1; have HB1 := hide (HB0.out.own hg1 (fun q hq => by injection hq with hq; omega)); have HG1 := hide (HG0.out.grown hg1 (fun q hq => by injection hq with hq; omega)); clear hi1 hg1)
    | (refine wpList_insert_lit rfl (.tmp 5) (.const (.int .i64 2)) (.tmp 11) 126 3 125 rfl under_kinds under_i64 (w.heap.size + 1) _ 1 rfl 2 rfl HI1.out (by rfl) ?_; intro w2 hi2 hg2; have HI2 := hide hi2; have HB2 := hide (HB1.out.own hg2 (fun q hq => by injection hq with hq; omega)); have HG2 := hide (HG1.out.grown hg2 (fun q hq => by injection hq with hq; omega)); clear hi2 hg2)
    | (refine wpList_insert_lit rfl (.tmp 5) (.const (.int .i64 3)) (.tmp 14) 126 3 125 rfl under_kinds under_i64 (w.heap.size + 1) _ 2 rfl 3 rfl HI2.out (by rfl) ?_; intro w3 hi3 hg3; have HI3 := hide hi3; have HB3 := hide (HB2.out.own hg3 (fun q hq => by injection hq with hq; omega)); have HG3 := hide (HG2.out.grown hg3 (fun q hq => by injection hq with hq; omega)); clear hi3 hg3)
    | (refine wpList_insert_lit rfl (.tmp 5) (.const (.int .i64 4)) (.tmp 17) 126 3 125 rfl under_kinds under_i64 (w.heap.size + 1) _ 3 rfl 4 rfl HI3.out (by rfl) ?_; intro w4 hi4 hg4; have HI4 := hide hi4; have HB4 := hide (HB3.out.own hg4 (fun q hq => by injection hq with hq; omega)); have HG4 := hide (HG3.out.grown hg4 (fun q hq => by injection hq with hq; omega)); clear hi4 hg4)
    | (refine wpList_insert_lit rfl (.tmp 5) (.const (.int .i64 5)) (.tmp 20) 126 3 125 rfl under_kinds under_i64 (w.heap.size + 1) _ 4 rfl 5 rfl HI4.out (by rfl) ?_; intro w5 hi5 hg5; have HI5 := hide hi5; have HB5 := hide (HB4.out.own hg5 (fun q hq => by injection hq with hq; omega)); have HG5 := hide (HG4.out.grown hg5 (fun q hq => by injection hq with hq; omega)); clear hi5 hg5)
    | (refine wpList_insert_lit rfl (.tmp 5) (.const (.int .i64 6)) (.tmp 23) 126 3 125 rfl under_kinds under_i64 (w.heap.size + 1) _ 5 rfl 6 rfl HI5.out (by rfl) ?_; intro w6 hi6 hg6; have HI6 := hide hi6; have HB6 := hide (HB5.out.own hg6 (fun q hq => by injection hq with hq; omega)); have HG6 := hide (HG5.out.grown hg6 (fun q hq => by injection hq with hq; omega)); clear hi6 hg6)
    | (refine wpList_insert_lit rfl (.tmp 5) (.const (.int .i64 7)) (.tmp 26) 126 3 125 rfl under_kinds under_i64 (w.heap.size + 1) _ 6 rfl 7 rfl HI6.out (by rfl) ?_; intro w7 hi7 hg7; have HI7 := hide hi7; have HB7 := hide (HB6.out.own hg7 (fun q hq => by injection hq with hq; omega)); have HG7 := hide (HG6.out.grown hg7 (fun q hq => by injection hq with hq; omega)); clear hi7 hg7)
    | (refine wpList_insert_lit rfl (.tmp 5) (.const (.int .i64 8)) (.tmp 29) 126 3 125 rfl under_kinds under_i64 (w.heap.size + 1) _ 7 rfl 8 rfl HI7.out (by rfl) ?_; intro w8 hi8 hg8; have HI8 := hide hi8; have HB8 := hide (HB7.out.own hg8 (fun q hq => by injection hq with hq; omega)); have HG8 := hide (HG7.out.grown hg8 (fun q hq => by injection hq with hq; omega)); clear hi8 hg8; have hlook := run_lookup_lit (P := Tryd.prog) 126 3 125 under_kinds under_i64 (w.heap.size + 1) _ 8 HI8.out 6 5 _ (by rfl); have hcx := HB8.out.cell; have hltx := HB8.out.lt))
  refine (HF.out w8 HG8.out).mono ?_
  rintro e w9 ⟨A2, c2, rfl, h1, h2⟩
  have HW := hide h1
  have HGE := hide ((WG.of_grow pb _ HG8.out).trans h2)
  clear h1 h2
  go_wp2_with fail
  go_end0
  exact ⟨A2, c2, rfl, HW.out, HGE.out⟩

set_option maxRecDepth 100000 in
set_option maxHeartbeats 6400000 in
theorem kw_value7 (pb : Nat) (A : Option Addr) (c : Nat) (bs bs' : List UInt8) (n : Int) (c3 c6 c9 : Option Addr) (c4 c5 c7 c8 c10 c11 : Nat) (w : World) (h : Wr w pb A c bs)
    (hf : ∀ w', Grow w w' → Calls Tryd.prog 100 #[.pointer (some ⟨pb, 0, none⟩), (Cv.agg ⟨7, n, c3, c4, c5, c6, c7, c8, c9, c10, c11⟩)] w' (WrC w' pb A bs.length c bs')) :
    Calls Tryd.prog 57 #[.pointer (some ⟨pb, 0, none⟩), (Cv.agg ⟨7, n, c3, c4, c5, c6, c7, c8, c9, c10, c11⟩)] w (WrC w pb A bs.length c bs') := by
  have hmm := make_kinds
  have hfld := field_kind
  have HF := hide hf
  have hz1 : (w.alloc (.cells (Cv.cells ⟨7, n, c3, c4, c5, c6, c7, c8, c9, c10, c11⟩) 27)).heap.size = w.heap.size + 1 := by simp
  have HB0 := hide ((Blk.new w 27 (Cv.cells ⟨7, n, c3, c4, c5, c6, c7, c8, c9, c10, c11⟩)).alloc (.map #[] 0))
  have HI0 := hide (show ((w.alloc (.cells (Cv.cells ⟨7, n, c3, c4, c5, c6, c7, c8, c9, c10, c11⟩) 27)).alloc (.map #[] 0)).heap[w.heap.size + 1]? = some (.map #[] 0) from by rw [← hz1]; exact heap_alloc_new _ _)
  have HG0 := hide (((Grow.refl w).alloc (.cells (Cv.cells ⟨7, n, c3, c4, c5, c6, c7, c8, c9, c10, c11⟩) 27)).alloc (.map #[] 0))
  have hpb := h.1.lt
  clear h hf hz1
  go_enter Tryd.func57, Tryd.ntmps57
  go_wp2_with (first
    | (refine wpList_insert_lit rfl (.tmp 5) (.const (.int .i64 1)) (.tmp 8) 126 3 125 rfl under_kinds under_i64 (w.heap.size + 1) _ 0 rfl 1 rfl HI0.out (by rfl) ?_; intro w1 hi1 hg1; have HI1 := hide hi1; have HB1 := hide (HB0.out.own hg1 (fun q hq => by injection hq with hq; omega)); have HG1 := hide (HG0.out.grown hg1 (fun q hq => by injection hq with hq; omega)); clear hi1 hg1)
    | (refine wpList_insert_lit rfl (.tmp 5) (.const (.int .i64 2)) (.tmp 11) 126 3 125 rfl under_kinds under_i64 (w.heap.size + 1) _ 1 rfl 2 rfl HI1.out (by rfl) ?_; intro w2 hi2 hg2; have HI2 := hide hi2; have HB2 := hide (HB1.out.own hg2 (fun q hq => by injection hq with hq; omega)); have HG2 := hide (HG1.out.grown hg2 (fun q hq => by injection hq with hq; omega)); clear hi2 hg2)
    | (refine wpList_insert_lit rfl (.tmp 5) (.const (.int .i64 3)) (.tmp 14) 126 3 125 rfl under_kinds under_i64 (w.heap.size + 1) _ 2 rfl 3 rfl HI2.out (by rfl) ?_; intro w3 hi3 hg3; have HI3 := hide hi3; have HB3 := hide (HB2.out.own hg3 (fun q hq => by injection hq with hq; omega)); have HG3 := hide (HG2.out.grown hg3 (fun q hq => by injection hq with hq; omega)); clear hi3 hg3)
    | (refine wpList_insert_lit rfl (.tmp 5) (.const (.int .i64 4)) (.tmp 17) 126 3 125 rfl under_kinds under_i64 (w.heap.size + 1) _ 3 rfl 4 rfl HI3.out (by rfl) ?_; intro w4 hi4 hg4; have HI4 := hide hi4; have HB4 := hide (HB3.out.own hg4 (fun q hq => by injection hq with hq; omega)); have HG4 := hide (HG3.out.grown hg4 (fun q hq => by injection hq with hq; omega)); clear hi4 hg4)
    | (refine wpList_insert_lit rfl (.tmp 5) (.const (.int .i64 5)) (.tmp 20) 126 3 125 rfl under_kinds under_i64 (w.heap.size + 1) _ 4 rfl 5 rfl HI4.out (by rfl) ?_; intro w5 hi5 hg5; have HI5 := hide hi5; have HB5 := hide (HB4.out.own hg5 (fun q hq => by injection hq with hq; omega)); have HG5 := hide (HG4.out.grown hg5 (fun q hq => by injection hq with hq; omega)); clear hi5 hg5)
    | (refine wpList_insert_lit rfl (.tmp 5) (.const (.int .i64 6)) (.tmp 23) 126 3 125 rfl under_kinds under_i64 (w.heap.size + 1) _ 5 rfl 6 rfl HI5.out (by rfl) ?_; intro w6 hi6 hg6; have HI6 := hide hi6; have HB6 := hide (HB5.out.own hg6 (fun q hq => by injection hq with hq; omega)); have HG6 := hide (HG5.out.grown hg6 (fun q hq => by injection hq with hq; omega)); clear hi6 hg6)
    | (refine wpList_insert_lit rfl (.tmp 5) (.const (.int .i64 7)) (.tmp 26) 126 3 125 rfl under_kinds under_i64 (w.heap.size + 1) _ 6 rfl 7 rfl HI6.out (by rfl) ?_; intro w7 hi7 hg7; have HI7 := hide hi7; have HB7 := hide (HB6.out.own hg7 (fun q hq => by injection hq with hq; omega)); have HG7 := hide (HG6.out.grown hg7 (fun q hq => by injection hq with hq; omega)); clear hi7 hg7)
    | (refine wpList_insert_lit rfl (.tmp 5) (.const (.int .i64 8)) (.tmp 29) 126 3 125 rfl under_kinds under_i64 (w.heap.size + 1) _ 7 rfl 8 rfl HI7.out (by rfl) ?_; intro w8 hi8 hg8; have HI8 := hide hi8; have HB8 := hide (HB7.out.own hg8 (fun q hq => by injection hq with hq; omega)); have HG8 := hide (HG7.out.grown hg8 (fun q hq => by injection hq with hq; omega)); clear hi8 hg8; have hlook := run_lookup_lit (P := Tryd.prog) 126 3 125 under_kinds under_i64 (w.heap.size + 1) _ 8 HI8.out 7 6 _ (by rfl); have hcx := HB8.out.cell; have hltx := HB8.out.lt))
  refine (HF.out w8 HG8.out).mono ?_
  rintro e w9 ⟨A2, c2, rfl, h1, h2⟩
  have HW := hide h1
  have HGE := hide ((WG.of_grow pb _ HG8.out).trans h2)
  clear h1 h2
  go_wp2_with fail
  go_end0
  exact ⟨A2, c2, rfl, HW.out, HGE.out⟩

set_option maxRecDepth 100000 in
set_option maxHeartbeats 6400000 in
theorem kw_value8 (pb : Nat) (A : Option Addr) (c : Nat) (bs bs' : List UInt8) (n : Int) (c3 c6 c9 : Option Addr) (c4 c5 c7 c8 c10 c11 : Nat) (w : World) (h : Wr w pb A c bs)
    (hf : ∀ w', Grow w w' → Calls Tryd.prog 101 #[.pointer (some ⟨pb, 0, none⟩), (Cv.agg ⟨8, n, c3, c4, c5, c6, c7, c8, c9, c10, c11⟩)] w' (WrC w' pb A bs.length c bs')) :
    Calls Tryd.prog 57 #[.pointer (some ⟨pb, 0, none⟩), (Cv.agg ⟨8, n, c3, c4, c5, c6, c7, c8, c9, c10, c11⟩)] w (WrC w pb A bs.length c bs') := by
  have hmm := make_kinds
  have hfld := field_kind
  have HF := hide hf
  have hz1 : (w.alloc (.cells (Cv.cells ⟨8, n, c3, c4, c5, c6, c7, c8, c9, c10, c11⟩) 27)).heap.size = w.heap.size + 1 := by simp
  have HB0 := hide ((Blk.new w 27 (Cv.cells ⟨8, n, c3, c4, c5, c6, c7, c8, c9, c10, c11⟩)).alloc (.map #[] 0))
  have HI0 := hide (show ((w.alloc (.cells (Cv.cells ⟨8, n, c3, c4, c5, c6, c7, c8, c9, c10, c11⟩) 27)).alloc (.map #[] 0)).heap[w.heap.size + 1]? = some (.map #[] 0) from by rw [← hz1]; exact heap_alloc_new _ _)
  have HG0 := hide (((Grow.refl w).alloc (.cells (Cv.cells ⟨8, n, c3, c4, c5, c6, c7, c8, c9, c10, c11⟩) 27)).alloc (.map #[] 0))
  have hpb := h.1.lt
  clear h hf hz1
  go_enter Tryd.func57, Tryd.ntmps57
  go_wp2_with (first
    | (refine wpList_insert_lit rfl (.tmp 5) (.const (.int .i64 1)) (.tmp 8) 126 3 125 rfl under_kinds under_i64 (w.heap.size + 1) _ 0 rfl 1 rfl HI0.out (by rfl) ?_; intro w1 hi1 hg1; have HI1 := hide hi1; have HB1 := hide (HB0.out.own hg1 (fun q hq => by injection hq with hq; omega)); have HG1 := hide (HG0.out.grown hg1 (fun q hq => by injection hq with hq; omega)); clear hi1 hg1)
    | (refine wpList_insert_lit rfl (.tmp 5) (.const (.int .i64 2)) (.tmp 11) 126 3 125 rfl under_kinds under_i64 (w.heap.size + 1) _ 1 rfl 2 rfl HI1.out (by rfl) ?_; intro w2 hi2 hg2; have HI2 := hide hi2; have HB2 := hide (HB1.out.own hg2 (fun q hq => by injection hq with hq; omega)); have HG2 := hide (HG1.out.grown hg2 (fun q hq => by injection hq with hq; omega)); clear hi2 hg2)
    | (refine wpList_insert_lit rfl (.tmp 5) (.const (.int .i64 3)) (.tmp 14) 126 3 125 rfl under_kinds under_i64 (w.heap.size + 1) _ 2 rfl 3 rfl HI2.out (by rfl) ?_; intro w3 hi3 hg3; have HI3 := hide hi3; have HB3 := hide (HB2.out.own hg3 (fun q hq => by injection hq with hq; omega)); have HG3 := hide (HG2.out.grown hg3 (fun q hq => by injection hq with hq; omega)); clear hi3 hg3)
    | (refine wpList_insert_lit rfl (.tmp 5) (.const (.int .i64 4)) (.tmp 17) 126 3 125 rfl under_kinds under_i64 (w.heap.size + 1) _ 3 rfl 4 rfl HI3.out (by rfl) ?_; intro w4 hi4 hg4; have HI4 := hide hi4; have HB4 := hide (HB3.out.own hg4 (fun q hq => by injection hq with hq; omega)); have HG4 := hide (HG3.out.grown hg4 (fun q hq => by injection hq with hq; omega)); clear hi4 hg4)
    | (refine wpList_insert_lit rfl (.tmp 5) (.const (.int .i64 5)) (.tmp 20) 126 3 125 rfl under_kinds under_i64 (w.heap.size + 1) _ 4 rfl 5 rfl HI4.out (by rfl) ?_; intro w5 hi5 hg5; have HI5 := hide hi5; have HB5 := hide (HB4.out.own hg5 (fun q hq => by injection hq with hq; omega)); have HG5 := hide (HG4.out.grown hg5 (fun q hq => by injection hq with hq; omega)); clear hi5 hg5)
    | (refine wpList_insert_lit rfl (.tmp 5) (.const (.int .i64 6)) (.tmp 23) 126 3 125 rfl under_kinds under_i64 (w.heap.size + 1) _ 5 rfl 6 rfl HI5.out (by rfl) ?_; intro w6 hi6 hg6; have HI6 := hide hi6; have HB6 := hide (HB5.out.own hg6 (fun q hq => by injection hq with hq; omega)); have HG6 := hide (HG5.out.grown hg6 (fun q hq => by injection hq with hq; omega)); clear hi6 hg6)
    | (refine wpList_insert_lit rfl (.tmp 5) (.const (.int .i64 7)) (.tmp 26) 126 3 125 rfl under_kinds under_i64 (w.heap.size + 1) _ 6 rfl 7 rfl HI6.out (by rfl) ?_; intro w7 hi7 hg7; have HI7 := hide hi7; have HB7 := hide (HB6.out.own hg7 (fun q hq => by injection hq with hq; omega)); have HG7 := hide (HG6.out.grown hg7 (fun q hq => by injection hq with hq; omega)); clear hi7 hg7)
    | (refine wpList_insert_lit rfl (.tmp 5) (.const (.int .i64 8)) (.tmp 29) 126 3 125 rfl under_kinds under_i64 (w.heap.size + 1) _ 7 rfl 8 rfl HI7.out (by rfl) ?_; intro w8 hi8 hg8; have HI8 := hide hi8; have HB8 := hide (HB7.out.own hg8 (fun q hq => by injection hq with hq; omega)); have HG8 := hide (HG7.out.grown hg8 (fun q hq => by injection hq with hq; omega)); clear hi8 hg8; have hlook := run_lookup_lit (P := Tryd.prog) 126 3 125 under_kinds under_i64 (w.heap.size + 1) _ 8 HI8.out 8 7 _ (by rfl); have hcx := HB8.out.cell; have hltx := HB8.out.lt))
  refine (HF.out w8 HG8.out).mono ?_
  rintro e w9 ⟨A2, c2, rfl, h1, h2⟩
  have HW := hide h1
  have HGE := hide ((WG.of_grow pb _ HG8.out).trans h2)
  clear h1 h2
  go_wp2_with fail
  go_end0
  exact ⟨A2, c2, rfl, HW.out, HGE.out⟩

/-- The writer lays any value's key. -/
theorem kw_any (v : V) : v.fit → v.formed = true → KeyC v := by
  induction v using V.ind with
  | h k n b l f hl hf =>
    intro hfit hfm pb A c bs cv w hW hv hlen
    rw [V.fit] at hfit
    have hV := hide hv
    obtain ⟨aB, aL, aF, cB, cL, cF, rfl, h1, h2, h3, h4, h5, h6, h7, h8, h9, hb0⟩ := hv.open
    rcases V.formed_cases hfm with h | ⟨n', hn', h⟩ | ⟨n', h⟩ | ⟨n', h⟩ | ⟨b', hb', h⟩ | ⟨b', h⟩ | ⟨l', hl', h⟩ | ⟨f', hf', hnd, h⟩ <;> cases h
    · have e : (V.mk 1 0 [] [] []).key = [16] := by rw [V.key_mk]; simp
      rw [e] at hlen ⊢
      simp only [List.length_cons, List.length_nil] at hlen
      exact kw_value1 pb A c bs _ _ _ _ _ _ _ _ _ _ _ w hW (fun w' hg => kw_null pb A c bs _ w' (hW.grow hg) (by omega))
    · have e : (V.mk 2 n [] [] []).key = [32, UInt8.ofNat n] := by rw [V.key_mk]; simp
      rw [e] at hlen ⊢
      simp only [List.length_cons, List.length_nil] at hlen
      exact kw_value2 pb A c bs _ _ _ _ _ _ _ _ _ _ _ w hW (fun w' hg => kw_bool pb A c bs _ n hn' rfl w' (hW.grow hg) (by omega))
    · have e : (V.mk 3 n [] [] []).key = 48 :: keyInt n := by rw [V.key_mk]; simp
      rw [e] at hlen ⊢
      exact kw_value3 pb A c bs _ _ _ _ _ _ _ _ _ _ _ w hW (fun w' hg => kw_int pb A c bs n hfit.1 _ _ _ _ _ _ _ _ _ w' (hW.grow hg) (by omega))
    · have e : (V.mk 4 n [] [] []).key = 48 :: keyFloat n := by rw [V.key_mk]; simp
      rw [e] at hlen ⊢
      refine kw_value4 pb A c bs _ _ _ _ _ _ _ _ _ _ _ w hW (fun w' hg => ?_)
      cases hn : nanB n with
      | true => exact kw_nan pb A c bs n hfit.1 hn _ _ _ _ _ _ _ _ _ w' (hW.grow hg) (by omega)
      | false => exact kw_float pb A c bs n hfit.1 hn _ _ _ _ _ _ _ _ _ w' (hW.grow hg) (by omega)
    · have e : (V.mk 5 0 b [] []).key = 64 :: esc b := by rw [V.key_mk]; simp
      rw [e] at hlen ⊢
      have := (escB_length b).1
      simp only [List.length_cons, esc, List.length_append, List.length_nil] at hlen
      exact kw_value5 pb A c bs _ _ _ _ _ _ _ _ _ _ _ w hW (fun w' hg => kw_text pb A c bs b _ _ _ _ _ _ _ _ w' (hW.grow hg) (Reads.mono (AtW.below (Below.mono hg.below (Nat.le_of_lt hW.1.lt)) (Nat.le_refl _) (Nat.le_refl _) (Nat.le_refl _)) hb0) (by omega))
    · have e : (V.mk 6 0 b [] []).key = 80 :: esc b := by rw [V.key_mk]; simp
      rw [e] at hlen ⊢
      have := (escB_length b).1
      simp only [List.length_cons, esc, List.length_append, List.length_nil] at hlen
      exact kw_value6 pb A c bs _ _ _ _ _ _ _ _ _ _ _ w hW (fun w' hg => kw_bytes pb A c bs b _ _ _ _ _ _ _ _ w' (hW.grow hg) (Reads.mono (AtW.below (Below.mono hg.below (Nat.le_of_lt hW.1.lt)) (Nat.le_refl _) (Nat.le_refl _) (Nat.le_refl _)) hb0) (by omega))
    · have e : (V.mk 7 0 [] l []).key = 96 :: ((l.map V.keyL).flatten ++ [0]) := by rw [V.key_mk]; simp
      rw [e] at hlen ⊢
      simp only [List.length_cons, List.length_append, List.length_nil] at hlen
      exact kw_value7 pb A c bs _ _ _ _ _ _ _ _ _ _ _ w hW (fun w' hg => kw_list pb A c bs l _ _ _ _ _ _ _ _ w' (hW.grow hg) (fun x hx => hl x hx (hfit.2.1 x hx) (hl' x hx)) (hV.out.below (Below.mono hg.below (Nat.le_of_lt hW.1.lt)) (Nat.le_refl _) (Nat.le_refl _)) (by omega))
    · have e : (V.mk 8 0 [] [] f).key = 112 :: ((f.map V.keyFd).flatten ++ [0]) := by rw [V.key_mk]; simp
      rw [e] at hlen ⊢
      simp only [List.length_cons, List.length_append, List.length_nil] at hlen
      exact kw_value8 pb A c bs _ _ _ _ _ _ _ _ _ _ _ w hW (fun w' hg => kw_doc pb A c bs f _ _ _ _ _ _ _ _ w' (hW.grow hg) (fun x hx => hf x hx (hfit.2.2 x hx) (hf' x hx).2) (hV.out.below (Below.mono hg.below (Nat.le_of_lt hW.1.lt)) (Nat.le_refl _) (Nat.le_refl _)) (by omega) (fun x hx => name_size (hf' x hx).1))
end Go.Proofs.YtpjhhkndfmcaoaaDoor
