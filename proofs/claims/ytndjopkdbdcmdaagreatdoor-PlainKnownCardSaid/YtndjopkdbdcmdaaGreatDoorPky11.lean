/- Part 11 of the proof of pknown_card. -/
import Derived.Test.YtndjopkdbdcmdaaGreatDoorPky9
import Derived.Test.YtndjopkdbdcmdaaGreatDoorPky10
import Derived.Maps.OwnOps
import Derived.ChangeMaps5
set_option linter.unusedVariables false
set_option linter.unusedSimpArgs false
set_option maxRecDepth 100000
set_option maxHeartbeats 12800000
namespace Go.Proofs.YtndjopkdbdcmdaaGreatDoor
section
open Go.RowKit Go.Shelf Go.ChangeMaps
section
variable {P : Program} {w : World}
theorem run_checkKey_int (kt : TypeId) (hk : P.underlying kt = some (.int .i64)) (k : Int) (em : Bool) : (Instr.checkKey em 10000 kt (.int .i64 k)).run P w = .ok () w := by
 rw [show (10000 : Nat) = 9999 + 1 from rfl, Instr.checkKey];simp [run_underlying hk]
theorem run_findKey_lit (kt : TypeId) (hk : P.underlying kt = some (.int .i64)) (k : Int) (es : List MapEntry) (r : Option (Nat × Value)) (hf : Instr.findNow (.int .i64) (.int .i64 k) es 0 = some r) : (Instr.findKey kt (.int .i64 k) es).run P w = .ok r w := by
 unfold Instr.findKey;simp [run_underlying hk, hf]
theorem run_mapUpdate_lit (t kt et : TypeId) (ht : P.underlying t = some (.map kt et)) (hk : P.underlying kt = some (.int .i64)) (g : Nat) (es : Array MapEntry) (clock : Nat) (h : w.heap[g]? = some (.map es clock)) (k : Int) (v : Value)
 (hf : Instr.findNow (.int .i64) (.int .i64 k) es.toList 0 = some none) :
 ∃ w', (Instr.mapUpdate t (.map (some g)) (.int .i64 k) v).run P w = .ok () w' ∧ w'.heap[g]? = some (.map (es.push { key := .int .i64 k, val := v, born := clock }) (clock + 1)) ∧ w.grownBy w' (some g) := by
 have hrun : (Instr.mapUpdate t (.map (some g)) (.int .i64 k) v).run P w = .ok () (setBlock w g (.map (es.push { key := .int .i64 k, val := v, born := clock }) (clock + 1))) := by
  unfold Instr.mapUpdate;simp only [Sem.run_bind, run_underlying ht, Result.andThen_ok, MapKept.run_getObj_map h, run_checkKey_int kt hk, run_findKey_lit kt hk k _ _ hf, MapKept.run_setObj_map _ h];rfl
 exact ⟨_, hrun, heap_setBlock_same h _, ⟨rfl, rfl, rfl, by simp [setBlock], fun i _ hi => heap_setBlock_other h _ (fun e => hi (by rw [e]))⟩⟩
theorem run_lookup_lit (t kt et : TypeId) (ht : P.underlying t = some (.map kt et)) (hk : P.underlying kt = some (.int .i64)) (g : Nat) (es : Array MapEntry) (clock : Nat) (h : w.heap[g]? = some (.map es clock)) (k : Int) (i : Nat) (v : Value)
 (hf : Instr.findNow (.int .i64) (.int .i64 k) es.toList 0 = some (some (i, v))) :
 (Instr.lookup t (.map (some g)) (.int .i64 k) false).run P w = .ok v w := by
 unfold Instr.lookup;simp only [Sem.run_bind, run_underlying ht, Result.andThen_ok, MapKept.run_getObj_map h, run_checkKey_int kt hk, run_findKey_lit kt hk k _ _ hf, Sem.run_pure];rfl
end
section
variable {P : Program} {w : World} {ops : Array Oper} {rest : List Oper} {o : Oper} {a : Act} {Q : Exit → Act → World → Prop}
theorem wpList_insert_lit (hg : o.guard = none) (m x v : Operand) (t kt et : TypeId) (hop : o.op = Op.insert t m x v) (ht : P.underlying t = some (.map kt et)) (hk : P.underlying kt = some (.int .i64)) (g : Nat) (es : Array MapEntry) (clock : Nat)
 (hm : a.eval m = .map (some g)) (k : Int) (hx : a.eval x = .int .i64 k) (h : w.heap[g]? = some (.map es clock)) (hf : Instr.findNow (.int .i64) (.int .i64 k) es.toList 0 = some none)
 (hK : ∀ w', w'.heap[g]? = some (.map (es.push { key := .int .i64 k, val := a.eval v, born := clock }) (clock + 1)) → w.grownBy w' (some g) → wpList P ops Q rest (a.put o.dst undef) w') :
 wpList P ops Q (o :: rest) a w := by
 refine wpList_plain hg fun K' hK' => ?_
 obtain ⟨w', hrun, r1, r2⟩ := run_mapUpdate_lit (P := P) t kt et ht hk g es clock h k (a.eval v) hf;unfold Oper.wp;simp [execOp, hop, hm, hx, hrun, Result.andThen];exact hK' _ _ (hK w' r1 r2)
end
theorem under_kinds : Tryz.prog.underlying 194 = some (.map 3 193) := by kernel_rfl
theorem under_i64 : Tryz.prog.underlying 3 = some (.int .i64) := by kernel_rfl
theorem make_kinds (w : World) : (Instr.makeMap 194 none).run Tryz.prog w = .ok (.map (some w.heap.size)) (w.alloc (.map #[] 0)) := by kernel_rfl
theorem field_kind (w : World) (f : Fn) (xs ys : Array Value) : (Instr.field 193 (.agg #[.func f xs ys]) 0).run Tryz.prog w = .ok (.func f xs ys) w := by kernel_rfl
def kwF (k : Int) : Nat := if k = 1 then 144 else if k = 2 then 145 else if k = 3 then 146 else if k = 4 then 146 else if k = 5 then 147 else if k = 6 then 148 else if k = 7 then 149 else 150
def kinds (pb : Nat) : Array MapEntry := #[{ key := .int .i64 1, val := .agg #[.func (.func 144) #[.pointer (some ⟨pb, 0, none⟩)] #[]], born := 0 }, { key := .int .i64 2, val := .agg #[.func (.func 145) #[.pointer (some ⟨pb, 0, none⟩)] #[]], born := 1 }, { key := .int .i64 3, val := .agg #[.func (.func 146) #[.pointer (some ⟨pb, 0, none⟩)] #[]], born := 2 }, { key := .int .i64 4, val := .agg #[.func (.func 146) #[.pointer (some ⟨pb, 0, none⟩)] #[]], born := 3 }, { key := .int .i64 5, val := .agg #[.func (.func 147) #[.pointer (some ⟨pb, 0, none⟩)] #[]], born := 4 }, { key := .int .i64 6, val := .agg #[.func (.func 148) #[.pointer (some ⟨pb, 0, none⟩)] #[]], born := 5 }, { key := .int .i64 7, val := .agg #[.func (.func 149) #[.pointer (some ⟨pb, 0, none⟩)] #[]], born := 6 }, { key := .int .i64 8, val := .agg #[.func (.func 150) #[.pointer (some ⟨pb, 0, none⟩)] #[]], born := 7 }]
theorem kw_look {w : World} (pb : Nat) (k : Int) {g : Nat} (h : w.heap[g]? = some (.map (kinds pb) 8)) (hk : 1 ≤ k ∧ k ≤ 8) : (Instr.lookup 194 (.map (some g)) (.int .i64 k) false).run Tryz.prog w = .ok (.agg #[.func (.func (kwF k)) #[.pointer (some ⟨pb, 0, none⟩)] #[]]) w := by
 obtain ⟨i, hi⟩ : ∃ i, Instr.findNow (.int .i64) (.int .i64 k) (kinds pb).toList 0 = some (some (i, .agg #[.func (.func (kwF k)) #[.pointer (some ⟨pb, 0, none⟩)] #[]])) := by
  have h8 : k = 1 ∨ k = 2 ∨ k = 3 ∨ k = 4 ∨ k = 5 ∨ k = 6 ∨ k = 7 ∨ k = 8 := by omega
  rcases h8 with rfl | rfl | rfl | rfl | rfl | rfl | rfl | rfl <;> exact ⟨_, rfl⟩
 exact run_lookup_lit (P := Tryz.prog) 194 3 193 under_kinds under_i64 g _ 8 h k i _ hi
theorem kw_call (k : Int) (x y : Value) (w : World) : Sem.run Tryz.prog (callFunc (kwF k) #[x, y]) w = .ok (.enter (kwF k) #[x, y]) w := by
 unfold kwF
 repeat' split
 all_goals kernel_rfl
theorem kw_valueG (k : Int) (hk : 1 ≤ k ∧ k ≤ 8) (pb : Nat) (A : Option Addr) (c : Nat) (bs bs' : List UInt8) (n : Int) (c3 c6 c9 : Option Addr) (c4 c5 c7 c8 c10 c11 : Nat) (w : World) (h : Wr w pb A c bs)
 (hf : ∀ w', Grow w w' → Calls Tryz.prog (kwF k) #[.pointer (some ⟨pb, 0, none⟩), (Cv.agg ⟨k, n, c3, c4, c5, c6, c7, c8, c9, c10, c11⟩)] w' (WrC w' pb A bs.length c bs')) :
 Calls Tryz.prog 98 #[.pointer (some ⟨pb, 0, none⟩), (Cv.agg ⟨k, n, c3, c4, c5, c6, c7, c8, c9, c10, c11⟩)] w (WrC w pb A bs.length c bs') := by
 have hmm := make_kinds;have hfld := field_kind;have HF := hide hf;have hz1 : (w.alloc (.cells (Cv.cells ⟨k, n, c3, c4, c5, c6, c7, c8, c9, c10, c11⟩) 27)).heap.size = w.heap.size + 1 := by simp
 have HB0 := hide ((Blk.new w 27 (Cv.cells ⟨k, n, c3, c4, c5, c6, c7, c8, c9, c10, c11⟩)).alloc (.map #[] 0));have HI0 := hide (show ((w.alloc (.cells (Cv.cells ⟨k, n, c3, c4, c5, c6, c7, c8, c9, c10, c11⟩) 27)).alloc (.map #[] 0)).heap[w.heap.size + 1]? = some (.map #[] 0) from by rw [← hz1]; exact heap_alloc_new _ _);have HG0 := hide (((Grow.refl w).alloc (.cells (Cv.cells ⟨k, n, c3, c4, c5, c6, c7, c8, c9, c10, c11⟩) 27)).alloc (.map #[] 0));have hpb := h.1.lt;clear h hf hz1;go_enter Tryz.func98, Tryz.ntmps98;go_wp2_with (first
  | (refine wpList_insert_lit rfl (.tmp 5) (.const (.int .i64 1)) (.tmp 8) 194 3 193 rfl under_kinds under_i64 (w.heap.size + 1) _ 0 rfl 1 rfl HI0.out (by rfl) ?_; intro w1 hi1 hg1; have HI1 := hide hi1; have HB1 := hide (HB0.out.own hg1 (fun q hq => by injection hq with hq; omega)); have HG1 := hide (HG0.out.grown hg1 (fun q hq => by injection hq with hq; omega)); clear hi1 hg1)
  | (refine wpList_insert_lit rfl (.tmp 5) (.const (.int .i64 2)) (.tmp 11) 194 3 193 rfl under_kinds under_i64 (w.heap.size + 1) _ 1 rfl 2 rfl HI1.out (by rfl) ?_; intro w2 hi2 hg2; have HI2 := hide hi2; have HB2 := hide (HB1.out.own hg2 (fun q hq => by injection hq with hq; omega)); have HG2 := hide (HG1.out.grown hg2 (fun q hq => by injection hq with hq; omega)); clear hi2 hg2)
  | (refine wpList_insert_lit rfl (.tmp 5) (.const (.int .i64 3)) (.tmp 14) 194 3 193 rfl under_kinds under_i64 (w.heap.size + 1) _ 2 rfl 3 rfl HI2.out (by rfl) ?_; intro w3 hi3 hg3; have HI3 := hide hi3; have HB3 := hide (HB2.out.own hg3 (fun q hq => by injection hq with hq; omega)); have HG3 := hide (HG2.out.grown hg3 (fun q hq => by injection hq with hq; omega)); clear hi3 hg3)
  | (refine wpList_insert_lit rfl (.tmp 5) (.const (.int .i64 4)) (.tmp 17) 194 3 193 rfl under_kinds under_i64 (w.heap.size + 1) _ 3 rfl 4 rfl HI3.out (by rfl) ?_; intro w4 hi4 hg4; have HI4 := hide hi4; have HB4 := hide (HB3.out.own hg4 (fun q hq => by injection hq with hq; omega)); have HG4 := hide (HG3.out.grown hg4 (fun q hq => by injection hq with hq; omega)); clear hi4 hg4)
  | (refine wpList_insert_lit rfl (.tmp 5) (.const (.int .i64 5)) (.tmp 20) 194 3 193 rfl under_kinds under_i64 (w.heap.size + 1) _ 4 rfl 5 rfl HI4.out (by rfl) ?_; intro w5 hi5 hg5; have HI5 := hide hi5; have HB5 := hide (HB4.out.own hg5 (fun q hq => by injection hq with hq; omega)); have HG5 := hide (HG4.out.grown hg5 (fun q hq => by injection hq with hq; omega)); clear hi5 hg5)
  | (refine wpList_insert_lit rfl (.tmp 5) (.const (.int .i64 6)) (.tmp 23) 194 3 193 rfl under_kinds under_i64 (w.heap.size + 1) _ 5 rfl 6 rfl HI5.out (by rfl) ?_; intro w6 hi6 hg6; have HI6 := hide hi6; have HB6 := hide (HB5.out.own hg6 (fun q hq => by injection hq with hq; omega)); have HG6 := hide (HG5.out.grown hg6 (fun q hq => by injection hq with hq; omega)); clear hi6 hg6)
  | (refine wpList_insert_lit rfl (.tmp 5) (.const (.int .i64 7)) (.tmp 26) 194 3 193 rfl under_kinds under_i64 (w.heap.size + 1) _ 6 rfl 7 rfl HI6.out (by rfl) ?_; intro w7 hi7 hg7; have HI7 := hide hi7; have HB7 := hide (HB6.out.own hg7 (fun q hq => by injection hq with hq; omega)); have HG7 := hide (HG6.out.grown hg7 (fun q hq => by injection hq with hq; omega)); clear hi7 hg7)
  | (refine wpList_insert_lit rfl (.tmp 5) (.const (.int .i64 8)) (.tmp 29) 194 3 193 rfl under_kinds under_i64 (w.heap.size + 1) _ 7 rfl 8 rfl HI7.out (by rfl) ?_; intro w8 hi8 hg8; have HI8 := hide hi8; have HB8 := hide (HB7.out.own hg8 (fun q hq => by injection hq with hq; omega)); have HG8 := hide (HG7.out.grown hg8 (fun q hq => by injection hq with hq; omega)); clear hi8 hg8; have hlook := kw_look pb k HI8.out hk; have hcx := HB8.out.cell; have hltx := HB8.out.lt))
 rw [kw_call, Oper.upon_enter];refine (HF.out w8 HG8.out).mono ?_;rintro e w9 ⟨A2, c2, rfl, h1, h2⟩;have HW := hide h1;have HGE := hide ((WG.of_grow pb _ HG8.out).trans h2);clear h1 h2;go_wp2_with fail;go_end0;exact ⟨A2, c2, rfl, HW.out, HGE.out⟩
theorem kw_any (v : V) : v.fit → v.formed = true → KeyC v := by
 induction v using V.ind with
 | h k n b l f hl hf =>
  intro hfit hfm pb A c bs cv w hW hv hlen;rw [V.fit] at hfit;have hV := hide hv;obtain ⟨aB, aL, aF, cB, cL, cF, rfl, h1, h2, h3, h4, h5, h6, h7, h8, h9, hb0⟩ := hv.open;rcases V.formed_cases hfm with h | ⟨n', hn', h⟩ | ⟨n', h⟩ | ⟨n', h⟩ | ⟨b', hb', h⟩ | ⟨b', h⟩ | ⟨l', hl', h⟩ | ⟨f', hf', hnd, h⟩ <;> cases h
  ·have e : (V.mk 1 0 [] [] []).key = [16] := by rw [V.key_mk]; simp
   rw [e] at hlen ⊢;simp only [List.length_cons, List.length_nil] at hlen;exact kw_valueG 1 (by decide) pb A c bs _ _ _ _ _ _ _ _ _ _ _ w hW (fun w' hg => kw_null pb A c bs _ w' (hW.grow hg) (by omega))
  ·have e : (V.mk 2 n [] [] []).key = [32, UInt8.ofNat n] := by rw [V.key_mk]; simp
   rw [e] at hlen ⊢;simp only [List.length_cons, List.length_nil] at hlen;exact kw_valueG 2 (by decide) pb A c bs _ _ _ _ _ _ _ _ _ _ _ w hW (fun w' hg => kw_bool pb A c bs _ n hn' rfl w' (hW.grow hg) (by omega))
  ·have e : (V.mk 3 n [] [] []).key = 48 :: keyInt n := by rw [V.key_mk]; simp
   rw [e] at hlen ⊢;exact kw_valueG 3 (by decide) pb A c bs _ _ _ _ _ _ _ _ _ _ _ w hW (fun w' hg => kw_int pb A c bs n hfit.1 _ _ _ _ _ _ _ _ _ w' (hW.grow hg) (by omega))
  ·have e : (V.mk 4 n [] [] []).key = 48 :: keyFloat n := by rw [V.key_mk]; simp
   rw [e] at hlen ⊢;refine kw_valueG 4 (by decide) pb A c bs _ _ _ _ _ _ _ _ _ _ _ w hW (fun w' hg => ?_)
   cases hn : nanB n with
   | true => exact kw_nan pb A c bs n hfit.1 hn _ _ _ _ _ _ _ _ _ w' (hW.grow hg) (by omega)
   | false => exact kw_float pb A c bs n hfit.1 hn _ _ _ _ _ _ _ _ _ w' (hW.grow hg) (by omega)
  ·have e : (V.mk 5 0 b [] []).key = 64 :: esc b := by rw [V.key_mk]; simp
   rw [e] at hlen ⊢;have := (escB_length b).1;simp only [List.length_cons, esc, List.length_append, List.length_nil] at hlen;exact kw_valueG 5 (by decide) pb A c bs _ _ _ _ _ _ _ _ _ _ _ w hW (fun w' hg => kw_text pb A c bs b _ _ _ _ _ _ _ _ w' (hW.grow hg) (Reads.mono (AtW.below (Below.mono hg.below (Nat.le_of_lt hW.1.lt)) (Nat.le_refl _) (Nat.le_refl _) (Nat.le_refl _)) hb0) (by omega))
  ·have e : (V.mk 6 0 b [] []).key = 80 :: esc b := by rw [V.key_mk]; simp
   rw [e] at hlen ⊢;have := (escB_length b).1;simp only [List.length_cons, esc, List.length_append, List.length_nil] at hlen;exact kw_valueG 6 (by decide) pb A c bs _ _ _ _ _ _ _ _ _ _ _ w hW (fun w' hg => kw_bytes pb A c bs b _ _ _ _ _ _ _ _ w' (hW.grow hg) (Reads.mono (AtW.below (Below.mono hg.below (Nat.le_of_lt hW.1.lt)) (Nat.le_refl _) (Nat.le_refl _) (Nat.le_refl _)) hb0) (by omega))
  ·have e : (V.mk 7 0 [] l []).key = 96 :: ((l.map V.keyL).flatten ++ [0]) := by rw [V.key_mk]; simp
   rw [e] at hlen ⊢;simp only [List.length_cons, List.length_append, List.length_nil] at hlen;exact kw_valueG 7 (by decide) pb A c bs _ _ _ _ _ _ _ _ _ _ _ w hW (fun w' hg => kw_list pb A c bs l _ _ _ _ _ _ _ _ w' (hW.grow hg) (fun x hx => hl x hx (hfit.2.1 x hx) (hl' x hx)) (hV.out.below (Below.mono hg.below (Nat.le_of_lt hW.1.lt)) (Nat.le_refl _) (Nat.le_refl _)) (by omega))
  have e : (V.mk 8 0 [] [] f).key = 112 :: ((f.map V.keyFd).flatten ++ [0]) := by rw [V.key_mk]; simp
  rw [e] at hlen ⊢;simp only [List.length_cons, List.length_append, List.length_nil] at hlen;exact kw_valueG 8 (by decide) pb A c bs _ _ _ _ _ _ _ _ _ _ _ w hW (fun w' hg => kw_doc pb A c bs f _ _ _ _ _ _ _ _ w' (hW.grow hg) (fun x hx => hf x hx (hfit.2.2 x hx) (hf' x hx).2) (hV.out.below (Below.mono hg.below (Nat.le_of_lt hW.1.lt)) (Nat.le_refl _) (Nat.le_refl _)) (by omega) (fun x hx => name_size (hf' x hx).1))
end
section
open Go.RowKit Go.Shelf Go.WideShapes
theorem keyL_flat (l : List V) (h : ∀ x ∈ l, x.key.length + 1 ≤ 4 * x.bytes.length) : (l.map V.keyL).flatten.length ≤ 4 * (l.map V.bytes).flatten.length := by
 induction l with
 | nil => simp
 | cons x l ih =>
  have h1 := h x List.mem_cons_self;have h2 := ih (fun y hy => h y (List.mem_cons_of_mem _ hy));simp only [List.map_cons, List.flatten_cons, List.length_append, V.keyL, List.length_cons]; omega
theorem keyFd_flat (l : List (ByteArray × V)) (h : ∀ x ∈ l, x.2.key.length + 1 ≤ 4 * x.2.bytes.length) : (l.map V.keyFd).flatten.length ≤ 4 * (l.map fun x => V.item x.1 x.2.bytes).flatten.length := by
 induction l with
 | nil => simp
 | cons x l ih =>
  have h1 := h x List.mem_cons_self;have h2 := ih (fun y hy => h y (List.mem_cons_of_mem _ hy));have h3 := (escB_length x.1.data.toList).2;have h4 : x.1.data.toList.length = x.1.size := by simp
  simp only [List.map_cons, List.flatten_cons, List.length_append, V.keyFd, List.length_cons, V.item_length, esc, List.length_nil]; omega
theorem key_len (v : V) : v.formed = true → v.key.length + 1 ≤ 4 * v.bytes.length := by
 induction v using V.ind with
 | h k n b l f hl hf =>
  intro hfm;rcases V.formed_cases hfm with h | ⟨n', hn', h⟩ | ⟨n', h⟩ | ⟨n', h⟩ | ⟨b', hb', h⟩ | ⟨b', h⟩ | ⟨l', hl', h⟩ | ⟨f', hf', hnd, h⟩ <;> cases h
  ·rw [V.key_mk, V.bytes_mk]; simp
  ·rw [V.key_mk, V.bytes_mk]; simp
  ·rw [V.key_mk, V.bytes_mk]; simp [keyInt, be_length, toLe_length]
  ·rw [V.key_mk, V.bytes_mk]; simp only [keyFloat]; simp; split <;> simp [be_length, toLe_length]
  ·have := (escB_length b).2;rw [V.key_mk, V.bytes_mk]; simp [esc, toLe_length]; omega
  ·have := (escB_length b).2;rw [V.key_mk, V.bytes_mk]; simp [esc, toLe_length]; omega
  ·have := keyL_flat l (fun x hx => hl x hx (hl' x hx));have e : (V.mk 7 0 [] l []).key = 96 :: ((l.map V.keyL).flatten ++ [0]) := by rw [V.key_mk]; simp
   rw [e, V.bytes_list];simp only [List.length_cons, List.length_append, List.length_nil];omega
  have := keyFd_flat f (fun x hx => hf x hx (hf' x hx).2);have e : (V.mk 8 0 [] [] f).key = 112 :: ((f.map V.keyFd).flatten ++ [0]) := by rw [V.key_mk]; simp
  rw [e, V.bytes_doc];simp only [List.length_cons, List.length_append, List.length_nil];omega
def OfC (w : World) (p : List UInt8 × Int) (e : Ending) (w' : World) : Prop :=
 ∃ base A c, e = .returned (.tuple #[.slice A p.1.length c, .int .i64 p.2]) ∧ w.heap.size ≤ base ∧ Row w' base (.slice A p.1.length c) p.1.length p.1 ∧ Grow w w'
theorem OfC.bad {w w' : World} {e : Int} (h : Grow w w') : OfC w ([], e) (.returned (.tuple #[.slice none 0 0, .int .i64 e])) w' :=
 ⟨w.heap.size, none, 0, rfl, Nat.le_refl _, World.ownsRow_nil _ _ _ _, h⟩
theorem of_anyM (v : V) (c : Cv) (w : World) (hfit : v.fit) (hm : v.mild) (hT : Tabs w) (hv : In w v c) : Calls Tryz.prog 53 #[c.agg] w (OfC w (ofK v)) := by
 have HG0 := hide ((Grow.refl w).alloc (.cells c.cells 27));have HB0 := hide (Blk.new w 27 c.cells);have hcell := (Blk.new w 27 c.cells).cell;have HGOOD := hide (good_anyM v _ c hm (hT.grow HG0.out) (hv.grow HG0.out));have HV := hide hv;have HFIT := hide hfit;obtain ⟨g, hg⟩ : ∃ g, v.good = g := ⟨_, rfl⟩;rw [hg] at HGOOD;have HGD := hide hg;clear hT hv hfit hg;go_enter Tryz.func53, Tryz.ntmps53;go_wp2_with fail;refine HGOOD.out.mono ?_;rintro e w1 ⟨rfl, hg1⟩;have hB1 := HB0.out.grow hg1;have HG1 := hide (HG0.out.trans hg1);have HB1 := hide hB1;have hc1 := hB1.cell;have hlt1 := hB1.lt;clear hg1 hB1 hcell;by_cases h0 : g = 0
 ·subst h0;have hf := V.good_formed HGD.out;have hkl := key_len v hf.1;have hkl2 : v.key.length ≤ 16384 := by have := hf.2; omega
  have HF := hide hf;have hrow : Row (w1.alloc (.cells #[.slice none 0 0] 150)) (w1.heap.size + 1) (.slice none 0 0) 0 [] := World.ownsRow_nil _ _ _ _;have HC := hide (kw_any v HFIT.out hf.1 w1.heap.size none 0 [] c (w1.alloc (.cells #[.slice none 0 0] 150)) ⟨Blk.new w1 _ _, hrow⟩ (((HV.out.grow HG1.out).under).below (Below.alloc (Below.refl _ w1) (Nat.le_refl _) _) (Nat.le_refl _) (Nat.le_refl _)) (by simp only [List.length_nil]; omega));rw [List.nil_append] at HC;clear hf hrow hkl;go_wp2_with fail;refine HC.out.mono ?_;rintro e w2 ⟨A2, c2, rfl, h1, h2⟩;obtain ⟨KB, hKB⟩ : ∃ K, v.key = K := ⟨_, rfl⟩;rw [hKB] at h1 h2 hkl2;have HKE := hide hKB;have hcw : w2.cell? ⟨w1.heap.size, 0, none⟩ = some (.slice A2 KB.length c2) := h1.1.cell 0;have hlw := h1.1.lt;have HW := hide h1
  have HG12 := hide (show Grow w1 w2 from Below.trans ((Grow.refl w1).alloc (.cells #[.slice none 0 0] 150)) (h2.below (bs := []) ⟨Blk.new w1 _ _, World.ownsRow_nil _ _ _ _⟩));clear h1 h2 HC hKB;by_cases hlen : 96 < KB.length
  ·go_wp2_with fail;go_ret2;rw [show ofK v = ([], 14) by unfold ofK; rw [if_neg (by have := HGD.out; omega), if_pos (by rw [HKE.out]; exact hlen)]];exact OfC.bad (HG1.out.trans HG12.out)
  obtain ⟨cur, hcur, hmk⟩ := make_u8 KB.length (by omega);have HROW := hide (Row.made (w := w2.drew) cur KB.length (by simp only [maxLen]; omega) hcur);have HSRC := hide (show Src Tryz.prog 1 23 (.slice A2 KB.length c2) KB.length (u8s KB) (w2.drew.alloc (.cells cur 5)) from Src.ofReads under_u8s (HW.out.2.reads.1.grow ((Grow.refl w2).drew.alloc _)) (u8s_one _));have hcw2 : (w2.drew.alloc (.cells cur 5)).cell? ⟨w1.heap.size, 0, none⟩ = some (.slice A2 KB.length c2) := (((Grow.refl w2).drew.alloc (.cells cur 5)).below.cell (p := ⟨w1.heap.size, 0, none⟩) hlw).trans hcw;go_wp2_with fail;refine wp_region_noPanic ?_;refine wp_region_held_drew (S := fun w' => w'.cell? ⟨w1.heap.size, 0, none⟩ = some (.slice A2 KB.length c2)) (by kernel_rfl) (hcw) (fun hHeld => ?_);refine tk_ 0 ?_
  try simp only [ly_]
  refine tk_ 1 ?_
  try simp only [ly_]
  refine tk_ 2 ?_
  try simp only [ly_]
  refine tk_ 3 ?_
  try simp only [ly_]
  refine tk_ 4 ?_
  try simp only [ly_]
  refine tk_ 6 ?_
  try simp only [ly_]
  refine tk_ 7 ?_
  try simp only [ly_]
  refine tk_ 8 ?_
  try simp only [ly_]
  refine tk_ 9 ?_
  try simp only [ly_]
  refine r1_ 5 (fun K hK => ?_);go_simp;refine hK.out _ _ (hcw2) (fun hHeld => ?_);clear hK K
  try simp only [ly_]
  refine r1_ 10 (fun K hK => ?_);refine step_app_src (ys := KB) rfl (.tmp 27) (.tmp 31) _ rfl rfl HROW.out _ rfl HSRC.out (by omega) (by simp) ?_;intro A3 c3 w3 hr3 hg3;rw [Nat.zero_add, List.nil_append] at hr3;have HR3 := hide hr3;have HG3 := hide (show Grow w2 w3 from Below.trans ((Grow.refl w2).drew.alloc _) (Grew.below hg3 HROW.out (by simp)));clear hr3 hg3;refine hK.out _ _ ((HG3.out.below.cell (p := ⟨w1.heap.size, 0, none⟩) hlw).trans hcw) (fun hHeld => ?_);clear hK K
  try simp only [ly_]
  refine tk_ 11 ?_
  try simp only [ly_]
  refine tk_ 12 ?_
  try simp only [ly_]
  refine dn_ ?_;rw [Nat.zero_add];go_wp2_with fail;go_ret2;rw [show ofK v = (KB, 0) by unfold ofK; rw [if_neg (by have := HGD.out; omega), if_neg (by rw [HKE.out]; exact hlen), HKE.out]];exact ⟨w2.drew.heap.size, A3, c3, rfl, by have := HG1.out.size; have := HG12.out.size; simp; omega, HR3.out, (HG1.out.trans HG12.out).trans HG3.out⟩
 have h0' : (g == 0) = false := by simpa using h0
 have h0'' : (g != 0) = true := by simpa using h0
 clear h0;go_wp2_with fail;go_ret2;rw [show ofK v = ([], g) by unfold ofK; rw [HGD.out, if_pos (by simpa using h0'')]];exact OfC.bad HG1.out
theorem of_any (v : V) (c : Cv) (w : World) (hfit : v.fit) (hcount : v.count ≤ 20000) (hT : Tabs w) (hv : In w v c) : Calls Tryz.prog 53 #[c.agg] w (OfC w (ofK v)) := of_anyM v c w hfit (V.mild_of hcount hv) hT hv
end
section
open Go.RowKit Go.Shelf Go.WideShapes
theorem InL.fitK {w : World} {A : Option Addr} {cap : Nat} {vs : List V} (h : InL w A cap vs) : ∀ v ∈ vs, v.fit := fun v hv => by
 have := IsV.fit _ _ h;rw [V.fit] at this;exact this.2.1 v hv
theorem allE_at : ∀ (l : List V) (j : Nat) (h : j < l.length), (∀ i (hi : i < l.length), i < j → (ofK l[i]).2 = 0) → (ofK l[j]).2 ≠ 0 → allE l = (ofK l[j]).2
 | [], j, h, _, _ => by simp at h
 | x :: l, 0, h, _, hn => by rw [allE]; simp only [List.getElem_cons_zero] at hn ⊢; rw [if_pos hn]
 | x :: l, j + 1, h, h0, hn => by
  have hx : (ofK x).2 = 0 := h0 0 (by simp) (by omega);rw [allE, if_neg (by simpa using hx)];simp only [List.getElem_cons_succ] at hn ⊢;exact allE_at l j (by simpa using h) (fun i hi hij => h0 (i + 1) (by simpa using hi) (by omega)) hn
theorem allE_none : ∀ (l : List V), (∀ i (hi : i < l.length), (ofK l[i]).2 = 0) → allE l = 0
 | [], _ => rfl
 | x :: l, h => by
  have hx : (ofK x).2 = 0 := h 0 (by simp);rw [allE, if_neg (by simpa using hx)];exact allE_none l (fun i hi => h (i + 1) (by simpa using hi))
theorem allB_take : ∀ (l : List V) (ts : List Bool) (j : Nat) (h1 : j < l.length) (h2 : j < ts.length), allB (l.take (j + 1)) (ts.take (j + 1)) = allB (l.take j) (ts.take j) ++ flip ts[j] l[j].key
 | [], _, j, h, _ => by simp at h
 | _ :: _, [], j, _, h => by simp at h
 | x :: l, t :: ts, 0, _, _ => by simp [allB]
 | x :: l, t :: ts, j + 1, h1, h2 => by
  simp only [List.take_succ_cons, allB, List.getElem_cons_succ, List.append_assoc];rw [allB_take l ts j (by simpa using h1) (by simpa using h2)]
theorem allB_full : ∀ (l : List V) (ts : List Bool), l.length = ts.length → allB (l.take l.length) (ts.take l.length) = allB l ts := fun l ts h => by
 rw [List.take_length, h, List.take_length]
theorem ofK_zero {v : V} (h : (ofK v).2 = 0) : ofK v = (v.key, 0) := by
 have hg := ofK_good h;unfold ofK; rw [if_neg (by omega), if_neg (by omega)]
theorem not8 (n : Nat) (h : n < 256) : 255 ^^^ n = 255 - n := by
 apply Nat.eq_of_testBit_eq;intro i;have e1 : (255 : Nat) = 2 ^ 8 - 1 := by decide
 have e2 : 255 - n = 2 ^ 8 - (n + 1) := by rw [e1]; omega
 rw [Nat.testBit_xor, e2, Nat.testBit_two_pow_sub_succ (by exact h), e1, Nat.testBit_two_pow_sub_one];by_cases hi : i < 8
 ·simp [hi]
 have : n.testBit i = false := Nat.testBit_lt_two_pow (Nat.lt_of_lt_of_le h (show 2 ^ 8 ≤ 2 ^ i from Nat.pow_le_pow_right (by omega) (by omega)));simp [hi, this]
theorem u8_not (x : UInt8) : bits .xor .u8 IntKind.u8.max (x.toNat : Int) = ((flip1 x).toNat : Int) := by
 have hx := x.toNat_lt;have h2 := u8_xor_nat 255 x.toNat (by omega) hx;rw [not8 x.toNat hx] at h2;unfold flip1;rw [UInt8.toNat_ofNat', Nat.mod_eq_of_lt (by omega)];exact h2
theorem Row.setAt {w : World} {base n c g : Nat} {xs : List UInt8} (h : Row w base (.slice (some ⟨g, 0, none⟩) n c) n xs) (j : Nat) (hj : j < n) (y : UInt8) (u : Value) (hu : u = .int .u8 (y.toNat : Int)) :
 Row (w.setCell ⟨g, j, none⟩ u) base (.slice (some ⟨g, 0, none⟩) n c) n (xs.set j y) := by
 subst hu;have e : u8s (xs.set j y) = (u8s xs).set j (.int .u8 (y.toNat : Int)) := by simp [u8s, List.map_set]
 unfold Row;rw [e];exact (World.ownsRow.stored h j _).1
theorem flip_set (b : List UInt8) (j : Nat) (h : j < b.length) : ((b.take j).map flip1 ++ b.drop j).set j (flip1 b[j]) = (b.take (j + 1)).map flip1 ++ b.drop (j + 1) := by
 rw [List.set_append_right _ _ (by simp; omega), List.length_map, List.length_take, Nat.min_eq_left (by omega), Nat.sub_self, List.drop_eq_getElem_cons h, List.set_cons_zero, take_snoc b j h];simp only [List.map_append, List.map_cons, List.map_nil, List.append_assoc, List.cons_append, List.nil_append]
theorem flip_get (b : List UInt8) (j : Nat) (h : j < b.length) : ((b.take j).map flip1 ++ b.drop j)[j]'(by simp; omega) = b[j] := by
 rw [List.getElem_append_right (by simp; omega)];simp only [List.getElem_drop, List.length_map, List.length_take];congr 1;omega
theorem allK_len {l : List V} {ts : List Bool} (h : l.length ≠ ts.length) : allK l ts = ([], 1) := by unfold allK; rw [if_pos h]
theorem allK_err {l : List V} {ts : List Bool} (h : l.length = ts.length) {e : Int} (he : e ≠ 0) (j : Nat) (hj : j < l.length) (h0 : ∀ i (hi : i < l.length), i < j → (ofK l[i]).2 = 0) (hx : (ofK l[j]).2 = e) : allK l ts = ([], e) := by
 have := allE_at l j hj h0 (by rw [hx]; exact he);unfold allK; rw [if_neg (by omega), this, hx, if_pos he]
theorem allK_big {l : List V} {ts : List Bool} (h : l.length = ts.length) (h0 : ∀ i (hi : i < l.length), (ofK l[i]).2 = 0) (hb : 96 < (allB l ts).length) : allK l ts = ([], 14) := by
 unfold allK; rw [if_neg (by omega), if_neg (by rw [allE_none l h0]; simp), if_pos hb]
theorem allK_good {l : List V} {ts : List Bool} (h : l.length = ts.length) (h0 : ∀ i (hi : i < l.length), (ofK l[i]).2 = 0) (hb : (allB l ts).length ≤ 96) : allK l ts = (allB l ts, 0) := by
 unfold allK; rw [if_neg (by omega), if_neg (by rw [allE_none l h0]; simp), if_neg (by omega)]
def Acc (xs ys : List UInt8) : Prop := (xs = ys ∧ ys.length ≤ 192) ∨ (96 < xs.length ∧ xs.length ≤ 192 ∧ 96 < ys.length)
theorem Acc.le {xs ys : List UInt8} (h : Acc xs ys) : xs.length ≤ 192 := by rcases h with ⟨rfl, h⟩ | h <;> omega
theorem Acc.add {xs ys zs : List UInt8} (h : Acc xs ys) (hx : xs.length ≤ 96) (hz : zs.length ≤ 96) : Acc (xs ++ zs) (ys ++ zs) := by
 rcases h with ⟨rfl, h⟩ | h
 ·exact .inl ⟨rfl, by rw [List.length_append]; omega⟩
 omega
theorem Acc.skip {xs ys zs : List UInt8} (h : Acc xs ys) (hx : 96 < xs.length) : Acc xs (ys ++ zs) := by
 refine .inr ⟨hx, h.le, ?_⟩;rw [List.length_append];rcases h with ⟨rfl, h⟩ | h <;> omega
theorem all_anyM (l : List V) (ts : List Bool) (A F : Option Addr) (cap fc : Nat) (w : World) (hcount : ∀ v ∈ l, v.mild) (hT : Tabs w) (hv : InL w A cap l) (hf : InBo w F ts) (hts : ts.length ≤ 140737488355328) :
    Calls Tryz.prog 58 #[.slice A l.length cap, .slice F ts.length fc] w (OfC w (allK l ts)) := by
  have hll : l.length ≤ 140737488355328 := by
    obtain ⟨_, _, _, _, _, _, _, _, _, _, _, _, _, hlen, _, _, _⟩ := InU.open hv;exact hlen
  have HFIT := hide hv.fitK;have HV := hide hv;have HF := hide hf;have HT := hide hT;have HCNT := hide hcount;clear hv hf hT hcount;by_cases hlen : l.length = ts.length
  · have heq : ((l.length : Int) != (ts.length : Int)) = false := by simp [hlen]
    have HLEN := hide hlen
    have HU := hide (fun x : UInt8 => u8_not x)
    clear hlen
    go_enter Tryz.func58, Tryz.ntmps58
    go_wp2_with fail
    go_loopg [6, 7, 8, 9, 10, 11, 19] (l.length + 1) (fun gk o _ _ _ _ _ i wr => ∃ (j : Nat) (xs : List UInt8) (A' : Option Addr) (c' : Nat), j ≤ l.length ∧ gk + j = l.length + 1 ∧ i = .int .i64 j ∧ o = .slice A' xs.length c' ∧ Row wr w.heap.size (.slice A' xs.length c') xs.length xs ∧
      Acc xs (allB (l.take j) (ts.take j)) ∧ (∀ i (hi : i < l.length), i < j → (ofK l[i]).2 = 0) ∧ Grow w wr)
    case atStart => exact ⟨0, [], none, 0, Nat.zero_le _, rfl, rfl, rfl, World.ownsRow_nil _ _ _ _, .inl ⟨by simp [allB], by simp [allB]⟩, fun _ _ h => absurd h (by omega), Grow.refl w⟩
    case round =>
      obtain ⟨j, xs, A', c', hj, hg, rfl, rfl, hr, hacc, hz, hgr⟩ := hrel
      obtain ⟨gk', rfl⟩ := gk_ gk (by omega)
      have hxl := hacc.le
      have HR := hide hr
      have HACC := hide hacc
      have HZ := hide hz
      have HG := hide hgr
      have hvr := In.grow HV.out hgr
      clear hr hacc hz hgr
      by_cases hlt : j < l.length
      · obtain ⟨bk, o, x, ha, hbk, e0, e1, e2, e3, e4, hx⟩ := hvr.elemL j hlt
        dsimp only [lcv] at ha
        subst ha
        have HX := hide hx
        have hlt2 : j < ts.length := by have := HLEN.out; omega
        have HOF := hide (of_anyM l[j] x (wr.alloc (.cells x.cells 27)) (HFIT.out _ (List.getElem_mem hlt)) (HCNT.out _ (List.getElem_mem hlt)) (HT.out.grow (HG.out.alloc _)) (HX.out.grow ((Grow.refl wr).alloc _)))
        obtain ⟨KB, ke, hke⟩ : ∃ kb ke, ofK l[j] = (kb, ke) := ⟨_, _, rfl⟩
        rw [hke] at HOF
        have HKE := hide hke
        clear hx hvr hke
        go_wp2_with fail
        refine HOF.out.mono ?_
        rintro e w2 ⟨base2, B, bc, rfl, hb2, hr2, hg2⟩
        dsimp only at hr2 ⊢
        have hb2' := hb2
        have HR2 := hide hr2
        have HG2 := hide ((HG.out.alloc (.cells x.cells 27)).trans hg2)
        have HG12 := hide (((Grow.refl wr).alloc (.cells x.cells 27)).trans hg2)
        clear hr2 hg2 hb2 e0 e1 e2 e3 e4
        by_cases hk0 : ke = 0
        · subst hk0
          have hof := ofK_zero (show (ofK l[j]).2 = 0 by rw [HKE.out])
          have hkb : l[j].key = KB := by have := HKE.out; rw [hof] at this; exact (Prod.ext_iff.1 this).1
          have hk96 : KB.length ≤ 96 := by rw [← hkb]; exact (ofK_good (show (ofK l[j]).2 = 0 by rw [HKE.out])).2
          have HKB := hide hkb
          have HTK := hide (allB_take l ts j hlt hlt2)
          have HZ' := hide (show ∀ i (hi : i < l.length), i < j + 1 → (ofK l[i]).2 = 0 from fun i hi hij => by
            rcases Nat.lt_succ_iff_lt_or_eq.1 hij with h | rfl
            · exact HZ.out i hi h
            rw [HKE.out])
          obtain ⟨fb, fo, rfl, hfc⟩ := HF.out.2 (by omega)
          have hcf := ((HG2.out.below.cell (hfc j (.bool ts[j]) (by simp [hlt2])).2.2).trans (hfc j (.bool ts[j]) (by simp [hlt2])).1)
          have hfl2 : fb < w2.heap.size := Nat.lt_of_lt_of_le (hfc j (.bool ts[j]) (by simp [hlt2])).2.2 HG2.out.size
          have HRx := hide (HR.out.grow HG12.out)
          clear hof hkb hfc
          cases htj : ts[j] with
          | false =>
            rw [htj] at hcf HTK
            rw [show flip false l[j].key = KB by rw [HKB.out]; rfl] at HTK
            clear htj
            by_cases hx96 : xs.length ≤ 96
            · go_wp2_with (at_builtin; refine app_src (ys := KB) rfl (.tmp 53) (.tmp 54) _ rfl rfl HRx.out _ rfl (Src.ofReads under_u8s HR2.out.reads.1 (u8s_one _)) (by omega) HG2.out.size ?_; intro A3 c3 w3 hr3 hg3; have HR3 := hide hr3; have HG3 := hide (Grew.below hg3 HRx.out HG2.out.size); clear hr3 hg3)
              go_roundg gk'
              case measure => omega
              case rel =>
                have hn : (xs ++ KB).length = xs.length + KB.length := List.length_append
                exact ⟨j + 1, xs ++ KB, A3, c3, by omega, by omega, by go_num, by rw [hn], by rw [hn]; exact HR3.out, by rw [HTK.out]; exact HACC.out.add hx96 hk96, HZ'.out, Below.trans HG2.out HG3.out⟩
            go_wp2_with fail
            go_roundg gk'
            case measure => omega
            case rel => exact ⟨j + 1, xs, A', c', by omega, by omega, by go_num, rfl, HRx.out, by rw [HTK.out]; exact HACC.out.skip (by omega), HZ'.out, HG2.out⟩
          | true =>
            rw [htj] at hcf HTK
            rw [show flip true l[j].key = KB.map flip1 by rw [HKB.out]; rfl] at HTK
            clear htj
            go_wp2_with fail
            obtain ⟨wo, hwo⟩ : ∃ wo : World, wo = wr := ⟨_, rfl⟩
            subst hwo
            go_loopg [11, 38] (KB.length + 1) (fun gk _ i w3 => ∃ k : Nat, k ≤ KB.length ∧ gk + k = KB.length + 1 ∧ i = .int .i64 k ∧ Row w3 base2 (.slice B KB.length bc) KB.length ((KB.take k).map flip1 ++ KB.drop k) ∧ w2.grownBy w3 (Value.ownBlock (.slice B KB.length bc)))
            case atStart => exact ⟨0, Nat.zero_le _, rfl, rfl, HR2.out, World.grownBy.refl _ _⟩
            case round =>
              obtain ⟨k, hk, hgk, rfl, hr3, hg3⟩ := hrel
              have HR3 := hide hr3
              have HG3 := hide hg3
              clear hr3 hg3
              by_cases hlk : k < KB.length
              · obtain ⟨gk2, rfl⟩ : ∃ g, gk = g + 1 := ⟨gk - 1, by omega⟩
                obtain ⟨gb, gcap, hgv, hgb, hglt⟩ := World.ownsRow.form HR3.out (by omega)
                have hB : B = some ⟨gb, 0, none⟩ := by injection hgv
                subst hB
                have hck := World.ownsRow.cells HR3.out (g := gb) rfl k _ (u8s_get _ k (by simp; omega))
                rw [flip_get KB k hlk] at hck
                have hfz := World.ownsRow.frozenAt HR3.out k
                have hun := HU.out KB[k]
                rw [add_lit, Nat.zero_add] at hck
                have hst := (World.ownsRow.stored HR3.out k (.int .u8 ((flip1 KB[k]).toNat : Int))).2
                have HST := hide hst
                have hbl := KB[k].toNat_lt
                clear hst
                go_wp2_with fail
                go_roundg gk2
                case measure => omega
                case rel => exact ⟨k + 1, by omega, by omega, by go_num, by rw [← flip_set KB k hlk]; exact HR3.out.setAt k hlk _ _ rfl, (show GB w2 wr gb from HG3.out).trans HST.out⟩
              obtain rfl : k = KB.length := by omega
              rw [List.take_length, List.drop_length, List.append_nil] at HR3
              have hown : ∀ q, Value.ownBlock (.slice B KB.length bc) = some q → wo.heap.size ≤ q := fun q hq => by
                have := (World.ownsRow.lt HR2.out q hq).1
                simp at hb2'
                omega
              have HGa := hide (HG12.out.grown HG3.out hown)
              have HGb := hide (HG2.out.grown HG3.out (fun q hq => Nat.le_trans HG.out.size (hown q hq)))
              have HRy := hide (HR.out.grow HGa.out)
              have hml : (KB.map flip1).length = KB.length := List.length_map _
              have HSRC := hide (show Src Tryz.prog 1 23 (.slice B KB.length bc) (KB.map flip1).length (u8s (KB.map flip1)) wr from by
                have h := HR3.out.reads.1
                unfold InB at h
                rw [hml] at h ⊢
                exact Src.ofReads under_u8s h (u8s_one _))
              have HML := hide hml
              clear hown hgk hml
              by_cases hx96 : xs.length ≤ 96
              · go_wp2_with (at_builtin; refine app_src (ys := KB.map flip1) rfl (.tmp 53) (.tmp 54) _ rfl rfl HRy.out _ rfl HSRC.out (by rw [HML.out]; omega) HGb.out.size ?_; intro A3 c3 w4 hr4 hg4; have HR4 := hide hr4; have HG4 := hide (Grew.below hg4 HRy.out HGb.out.size); clear hr4 hg4)
                go_roundg gk'
                case measure => omega
                case rel =>
                  have hn : (xs ++ KB.map flip1).length = xs.length + (KB.map flip1).length := List.length_append
                  exact ⟨j + 1, xs ++ KB.map flip1, A3, c3, by omega, by omega, by go_num, by rw [hn, HML.out], by rw [hn]; exact HR4.out, by rw [HTK.out]; exact HACC.out.add hx96 (by rw [HML.out]; exact hk96), HZ'.out, Below.trans HGb.out HG4.out⟩
              go_wp2_with fail
              go_roundg gk'
              case measure => omega
              case rel => exact ⟨j + 1, xs, A', c', by omega, by omega, by go_num, rfl, HRy.out, by rw [HTK.out]; exact HACC.out.skip (by omega), HZ'.out, HGb.out⟩
        have hk1 : (ke == 0) = false := by simpa using hk0
        have hk2 : (ke != 0) = true := by simpa using hk0
        have HK0 := hide hk0
        clear hk0
        go_wp2_with fail
        go_ret2
        rw [allK_err HLEN.out HK0.out j hlt HZ.out (by rw [HKE.out])]
        exact OfC.bad HG2.out
      obtain rfl : j = l.length := by omega
      have hb := allB_full l ts HLEN.out
      rw [hb] at HACC
      have HZ2 := hide (fun i (hi : i < l.length) => HZ.out i hi hi)
      clear hb hvr
      by_cases hx96 : 96 < xs.length
      · go_wp2_with fail
        go_ret2
        have h96 : 96 < (allB l ts).length := by rcases HACC.out with ⟨h, _⟩ | h
                                                 · rw [← h]; exact hx96
                                                 exact h.2.2
        rw [allK_big HLEN.out HZ2.out h96]
        exact OfC.bad HG.out
      obtain ⟨cur, hcur, hmk⟩ := make_u8 xs.length (by omega)
      have HROW := hide (Row.made (w := wr) cur xs.length (by simp only [maxLen]; omega) hcur)
      have HSRC := hide (show Src Tryz.prog 1 23 (.slice A' xs.length c') xs.length (u8s xs) (wr.alloc (.cells cur 5)) from Src.ofReads under_u8s (HR.out.reads.1.grow ((Grow.refl wr).alloc _)) (u8s_one _))
      go_wp2_with (at_builtin; refine app_src (ys := xs) rfl (.tmp 62) (.tmp 63) _ rfl rfl HROW.out _ rfl HSRC.out (by omega) (by simp) ?_; intro A3 c3 w3 hr3 hg3; rw [Nat.zero_add, List.nil_append] at hr3; have HR3 := hide hr3; have HG3 := hide (show Grow wr w3 from Below.trans ((Grow.refl wr).alloc _) (Grew.below hg3 HROW.out (by simp))); clear hr3 hg3)
      go_ret2
      have hxs : xs = allB l ts := by rcases HACC.out with ⟨h, _⟩ | h
                                      · exact h
                                      omega
      rw [allK_good HLEN.out HZ2.out (by rw [← hxs]; omega), ← hxs]
      exact ⟨wr.heap.size, A3, c3, rfl, HG.out.size, HR3.out, HG.out.trans HG3.out⟩
  have hne : ((l.length : Int) != (ts.length : Int)) = true := by simp; omega
  have HLEN := hide hlen;clear hlen;go_enter Tryz.func58, Tryz.ntmps58;go_wp2_with fail;go_ret2;rw [allK_len HLEN.out];exact OfC.bad (Grow.refl w)
end
section
open Go.RowKit
def keyP (v : V) : List UInt8 × Int :=
 if v.good ≠ 0 then ([], v.good) else if v.k ≠ 8 then ([], 4) else match idP v with | none => ([], 14) | some i => ofK i
theorem idP_mem {v i : V} (h : idP v = some i) : ∃ s, (s, i) ∈ v.f := by
 unfold idP at h;rw [Option.map_eq_some_iff] at h;obtain ⟨⟨s, x⟩, h1, rfl⟩ := h;exact ⟨s, List.mem_of_find?_eq_some h1⟩
theorem mem_le_sum : ∀ {l : List Nat} {x : Nat}, x ∈ l → x ≤ l.sum
 | y :: l, x, h => by
  rw [List.sum_cons];rcases List.mem_cons.1 h with rfl | h
  ·exact Nat.le_add_right _ _
  exact Nat.le_trans (mem_le_sum h) (Nat.le_add_left _ _)
theorem idP_count {v i : V} (h : idP v = some i) : i.count ≤ v.count := by
 obtain ⟨s, hs⟩ := idP_mem h;obtain ⟨k, n, b, l, f⟩ := v;rw [V.count_mk];have h1 : i.count ∈ f.map fun x => x.2.count := List.mem_map.2 ⟨(s, i), hs, rfl⟩
 have h2 := mem_le_sum h1;show i.count ≤ _;omega
theorem pkey_any (v : V) (c : Cv) (w : World) (hcount : v.count ≤ 20000) (hT : Tabs w) (hv : In w v c) : Calls Tryz.prog 24 #[c.agg] w (OfC w (keyP v)) := by
 have HG0 := hide ((Grow.refl w).alloc (.cells c.cells 27));have HB0 := hide (Blk.new w 27 c.cells);have hcell := (Blk.new w 27 c.cells).cell;have HGOOD := hide (good_any v _ c hcount (hT.grow HG0.out) (hv.grow HG0.out));have HV := hide hv;have HT := hide hT;obtain ⟨g, hg⟩ : ∃ g, v.good = g := ⟨_, rfl⟩;rw [hg] at HGOOD;have HGD := hide hg;have HK : Hid (c.k = v.k) := hide (by obtain ⟨k, n, b, l, f⟩ := v; obtain ⟨aB, aL, aF, cB, cL, cF, rfl, _⟩ := In.open hv; rfl);clear hT hv hg;go_enter Tryz.func24, Tryz.ntmps24;go_wp2_with fail;refine HGOOD.out.mono ?_;rintro e w1 ⟨rfl, hg1⟩;have hB1 := HB0.out.grow hg1;have HG1 := hide (HG0.out.trans hg1);have HB1 := hide hB1;have hc1 := hB1.cell;have hlt1 := hB1.lt;clear hg1 hB1 hcell;by_cases h0 : g = 0
 ·subst h0;by_cases h8 : c.k = 8
  ·have HID := hide (fun w2 (h : Grow w w2) => id_any v c w w2 h HV.out);have H8 := hide h8;have hk8 : (c.k == 8) = true := by rw [h8]; rfl
   clear h8;go_wp2_with fail;refine (HID.out w1 HG1.out).mono ?_;rintro e w2 ⟨hg2, ci, t, u, rfl, hiu, hres⟩;have HG2 := hide (HG1.out.trans hg2);have HG3 := hide ((HG1.out.trans hg2).alloc (.cells ci.cells 27));have HBi := hide (Blk.new w2 27 ci.cells);have hci := HBi.out.cell;have HIU := hide hiu;clear hiu hg2;rcases hres with ⟨hid, rfl⟩ | ⟨hid, rfl, rfl, rfl⟩
   ·have HP := hide (show keyP v = ofK u by unfold keyP; rw [if_neg (by have := HGD.out; omega), if_neg (by rw [← HK.out, H8.out]; simp), hid]);have HOF := hide (of_any u ci _ (IsV.fit u ci HIU.out) (Nat.le_trans (idP_count hid) hcount) (HT.out.grow HG3.out) (HIU.out.grow HG3.out));clear hid;go_wp2_with fail;refine HOF.out.mono ?_;rintro e w3 ⟨base, A3, c3, rfl, hb3, hr3, hg3⟩;have HR3 := hide hr3;have HG4 := hide (HG3.out.trans hg3);have HB3 := hide (Nat.le_trans HG3.out.size hb3);clear hr3 hg3 hb3;go_wp2_with fail;go_ret2;rw [HP.out];exact ⟨base, A3, c3, rfl, HB3.out, HR3.out, HG4.out⟩
   go_wp2_with fail;go_ret2;rw [show keyP v = ([], 14) by unfold keyP; rw [if_neg (by have := HGD.out; omega), if_neg (by rw [← HK.out, H8.out]; simp), hid]];exact OfC.bad HG3.out
  go_wp2_with fail;go_ret2;rw [show keyP v = ([], 4) by unfold keyP; rw [if_neg (by have := HGD.out; omega), if_pos (by rw [← HK.out]; exact h8)]];exact OfC.bad HG1.out
 go_wp2_with fail;go_ret2;rw [show keyP v = ([], g) by unfold keyP; rw [if_pos (by have := HGD.out; omega), HGD.out]];exact OfC.bad HG1.out
end
end Go.Proofs.YtndjopkdbdcmdaaGreatDoor
