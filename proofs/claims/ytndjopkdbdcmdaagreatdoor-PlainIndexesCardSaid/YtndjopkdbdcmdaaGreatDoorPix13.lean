/- Part 13 of the proof of pindexes_card. -/
import Derived.Test.YtndjopkdbdcmdaaGreatDoorPix6
import Derived.Test.YtndjopkdbdcmdaaGreatDoorPix10
import Derived.Test.YtndjopkdbdcmdaaGreatDoorPix11
import Derived.Test.YtndjopkdbdcmdaaGreatDoorPix12
import Derived.Maps.OwnOps
import Derived.ChangeMaps5
set_option linter.unusedVariables false
set_option linter.unusedSimpArgs false
set_option maxRecDepth 100000
set_option maxHeartbeats 12800000
namespace Go.Proofs.YtndjopkdbdcmdaaGreatDoor
section
open Go.RowKit Go.Shelf Go.ChangeMaps
section
variable {P : Program} {w : World}
theorem run_checkKey_int (kt : TypeId) (hk : P.underlying kt = some (.int .i64)) (k : Int) (em : Bool) : (Instr.checkKey em 10000 kt (.int .i64 k)).run P w = .ok () w := by
 rw [show (10000 : Nat) = 9999 + 1 from rfl,Instr.checkKey];simp [run_underlying hk]
theorem run_findKey_lit (kt : TypeId) (hk : P.underlying kt = some (.int .i64)) (k : Int) (es : List MapEntry) (r : Option (Nat × Value)) (hf : Instr.findNow (.int .i64) (.int .i64 k) es 0 = some r) : (Instr.findKey kt (.int .i64 k) es).run P w = .ok r w := by
 unfold Instr.findKey;simp [run_underlying hk,hf]
theorem run_mapUpdate_lit (t kt et : TypeId) (ht : P.underlying t = some (.map kt et)) (hk : P.underlying kt = some (.int .i64)) (g : Nat) (es : Array MapEntry) (clock : Nat) (h : w.heap[g]? = some (.map es clock)) (k : Int) (v : Value)
 (hf : Instr.findNow (.int .i64) (.int .i64 k) es.toList 0 = some none) :
 ∃ w',(Instr.mapUpdate t (.map (some g)) (.int .i64 k) v).run P w = .ok () w' ∧ w'.heap[g]? = some (.map (es.push { key := .int .i64 k,val := v,born := clock }) (clock + 1)) ∧ w.grownBy w' (some g) := by
 have hrun : (Instr.mapUpdate t (.map (some g)) (.int .i64 k) v).run P w = .ok () (setBlock w g (.map (es.push { key := .int .i64 k,val := v,born := clock }) (clock + 1))) := by
  unfold Instr.mapUpdate;simp only [Sem.run_bind,run_underlying ht,Result.andThen_ok,MapKept.run_getObj_map h,run_checkKey_int kt hk,run_findKey_lit kt hk k _ _ hf,MapKept.run_setObj_map _ h];rfl
 exact ⟨_,hrun,heap_setBlock_same h _,⟨rfl,rfl,rfl,by simp [setBlock],fun i _ hi => heap_setBlock_other h _ (fun e => hi (by rw [e]))⟩⟩
theorem run_lookup_lit (t kt et : TypeId) (ht : P.underlying t = some (.map kt et)) (hk : P.underlying kt = some (.int .i64)) (g : Nat) (es : Array MapEntry) (clock : Nat) (h : w.heap[g]? = some (.map es clock)) (k : Int) (i : Nat) (v : Value)
 (hf : Instr.findNow (.int .i64) (.int .i64 k) es.toList 0 = some (some (i,v))) :
 (Instr.lookup t (.map (some g)) (.int .i64 k) false).run P w = .ok v w := by
 unfold Instr.lookup;simp only [Sem.run_bind,run_underlying ht,Result.andThen_ok,MapKept.run_getObj_map h,run_checkKey_int kt hk,run_findKey_lit kt hk k _ _ hf,Sem.run_pure];rfl
end
section
variable {P : Program} {w : World} {ops : Array Oper} {rest : List Oper} {o : Oper} {a : Act} {Q : Exit → Act → World → Prop}
theorem wpList_insert_lit (hg : o.guard = none) (m x v : Operand) (t kt et : TypeId) (hop : o.op = Op.insert t m x v) (ht : P.underlying t = some (.map kt et)) (hk : P.underlying kt = some (.int .i64)) (g : Nat) (es : Array MapEntry) (clock : Nat)
 (hm : a.eval m = .map (some g)) (k : Int) (hx : a.eval x = .int .i64 k) (h : w.heap[g]? = some (.map es clock)) (hf : Instr.findNow (.int .i64) (.int .i64 k) es.toList 0 = some none)
 (hK : ∀ w',w'.heap[g]? = some (.map (es.push { key := .int .i64 k,val := a.eval v,born := clock }) (clock + 1)) → w.grownBy w' (some g) → wpList P ops Q rest (a.put o.dst undef) w') :
 wpList P ops Q (o :: rest) a w := by
 refine wpList_plain hg fun K' hK' => ?_
 obtain ⟨w',hrun,r1,r2⟩ := run_mapUpdate_lit (P := P) t kt et ht hk g es clock h k (a.eval v) hf;unfold Oper.wp;simp [execOp,hop,hm,hx,hrun,Result.andThen];exact hK' _ _ (hK w' r1 r2)
end
theorem under_kinds : Tryz.prog.underlying 194 = some (.map 3 193) := by kernel_rfl
theorem under_i64 : Tryz.prog.underlying 3 = some (.int .i64) := by kernel_rfl
theorem make_kinds (w : World) : (Instr.makeMap 194 none).run Tryz.prog w = .ok (.map (some w.heap.size)) (w.alloc (.map #[] 0)) := by kernel_rfl
theorem field_kind (w : World) (f : Fn) (xs ys : Array Value) : (Instr.field 193 (.agg #[.func f xs ys]) 0).run Tryz.prog w = .ok (.func f xs ys) w := by kernel_rfl
def kwF (k : Int) : Nat := if k = 1 then 144 else if k = 2 then 145 else if k = 3 then 146 else if k = 4 then 146 else if k = 5 then 147 else if k = 6 then 148 else if k = 7 then 149 else 150
def kinds (pb : Nat) : Array MapEntry := #[{ key := .int .i64 1,val := .agg #[.func (.func 144) #[.pointer (some ⟨pb,0,none⟩)] #[]],born := 0 },{ key := .int .i64 2,val := .agg #[.func (.func 145) #[.pointer (some ⟨pb,0,none⟩)] #[]],born := 1 },{ key := .int .i64 3,val := .agg #[.func (.func 146) #[.pointer (some ⟨pb,0,none⟩)] #[]],born := 2 },{ key := .int .i64 4,val := .agg #[.func (.func 146) #[.pointer (some ⟨pb,0,none⟩)] #[]],born := 3 },{ key := .int .i64 5,val := .agg #[.func (.func 147) #[.pointer (some ⟨pb,0,none⟩)] #[]],born := 4 },{ key := .int .i64 6,val := .agg #[.func (.func 148) #[.pointer (some ⟨pb,0,none⟩)] #[]],born := 5 },{ key := .int .i64 7,val := .agg #[.func (.func 149) #[.pointer (some ⟨pb,0,none⟩)] #[]],born := 6 },{ key := .int .i64 8,val := .agg #[.func (.func 150) #[.pointer (some ⟨pb,0,none⟩)] #[]],born := 7 }]
theorem kw_look {w : World} (pb : Nat) (k : Int) {g : Nat} (h : w.heap[g]? = some (.map (kinds pb) 8)) (hk : 1 ≤ k ∧ k ≤ 8) : (Instr.lookup 194 (.map (some g)) (.int .i64 k) false).run Tryz.prog w = .ok (.agg #[.func (.func (kwF k)) #[.pointer (some ⟨pb,0,none⟩)] #[]]) w := by
 obtain ⟨i,hi⟩ : ∃ i,Instr.findNow (.int .i64) (.int .i64 k) (kinds pb).toList 0 = some (some (i,.agg #[.func (.func (kwF k)) #[.pointer (some ⟨pb,0,none⟩)] #[]])) := by
  have h8 : k = 1 ∨ k = 2 ∨ k = 3 ∨ k = 4 ∨ k = 5 ∨ k = 6 ∨ k = 7 ∨ k = 8 := by omega
  rcases h8 with rfl | rfl | rfl | rfl | rfl | rfl | rfl | rfl <;> exact ⟨_,rfl⟩
 exact run_lookup_lit (P := Tryz.prog) 194 3 193 under_kinds under_i64 g _ 8 h k i _ hi
theorem kw_call (k : Int) (x y : Value) (w : World) : Sem.run Tryz.prog (callFunc (kwF k) #[x,y]) w = .ok (.enter (kwF k) #[x,y]) w := by
 unfold kwF
 repeat' split
 all_goals kernel_rfl
theorem kw_valueG (k : Int) (hk : 1 ≤ k ∧ k ≤ 8) (pb : Nat) (A : Option Addr) (c : Nat) (bs bs' : List UInt8) (n : Int) (c3 c6 c9 : Option Addr) (c4 c5 c7 c8 c10 c11 : Nat) (w : World) (h : Wr w pb A c bs)
 (hf : ∀ w',Grow w w' → Calls Tryz.prog (kwF k) #[.pointer (some ⟨pb,0,none⟩),(Cv.agg ⟨k,n,c3,c4,c5,c6,c7,c8,c9,c10,c11⟩)] w' (WrC w' pb A bs.length c bs')) :
 Calls Tryz.prog 98 #[.pointer (some ⟨pb,0,none⟩),(Cv.agg ⟨k,n,c3,c4,c5,c6,c7,c8,c9,c10,c11⟩)] w (WrC w pb A bs.length c bs') := by
 have hmm := make_kinds;have hfld := field_kind;have HF := hide hf;have hz1 : (w.alloc (.cells (Cv.cells ⟨k,n,c3,c4,c5,c6,c7,c8,c9,c10,c11⟩) 27)).heap.size = w.heap.size + 1 := by simp
 have HB0 := hide ((Blk.new w 27 (Cv.cells ⟨k,n,c3,c4,c5,c6,c7,c8,c9,c10,c11⟩)).alloc (.map #[] 0));have HI0 := hide (show ((w.alloc (.cells (Cv.cells ⟨k,n,c3,c4,c5,c6,c7,c8,c9,c10,c11⟩) 27)).alloc (.map #[] 0)).heap[w.heap.size + 1]? = some (.map #[] 0) from by rw [← hz1];exact heap_alloc_new _ _);have HG0 := hide (((Grow.refl w).alloc (.cells (Cv.cells ⟨k,n,c3,c4,c5,c6,c7,c8,c9,c10,c11⟩) 27)).alloc (.map #[] 0));have hpb := h.1.lt;clear h hf hz1;go_enter Tryz.func98,Tryz.ntmps98;go_wp2_with (first
  | (refine wpList_insert_lit rfl (.tmp 5) (.const (.int .i64 1)) (.tmp 8) 194 3 193 rfl under_kinds under_i64 (w.heap.size + 1) _ 0 rfl 1 rfl HI0.out (by rfl) ?_;intro w1 hi1 hg1;have HI1 := hide hi1;have HB1 := hide (HB0.out.own hg1 (fun q hq => by injection hq with hq;omega));have HG1 := hide (HG0.out.grown hg1 (fun q hq => by injection hq with hq;omega));clear hi1 hg1)
  | (refine wpList_insert_lit rfl (.tmp 5) (.const (.int .i64 2)) (.tmp 11) 194 3 193 rfl under_kinds under_i64 (w.heap.size + 1) _ 1 rfl 2 rfl HI1.out (by rfl) ?_;intro w2 hi2 hg2;have HI2 := hide hi2;have HB2 := hide (HB1.out.own hg2 (fun q hq => by injection hq with hq;omega));have HG2 := hide (HG1.out.grown hg2 (fun q hq => by injection hq with hq;omega));clear hi2 hg2)
  | (refine wpList_insert_lit rfl (.tmp 5) (.const (.int .i64 3)) (.tmp 14) 194 3 193 rfl under_kinds under_i64 (w.heap.size + 1) _ 2 rfl 3 rfl HI2.out (by rfl) ?_;intro w3 hi3 hg3;have HI3 := hide hi3;have HB3 := hide (HB2.out.own hg3 (fun q hq => by injection hq with hq;omega));have HG3 := hide (HG2.out.grown hg3 (fun q hq => by injection hq with hq;omega));clear hi3 hg3)
  | (refine wpList_insert_lit rfl (.tmp 5) (.const (.int .i64 4)) (.tmp 17) 194 3 193 rfl under_kinds under_i64 (w.heap.size + 1) _ 3 rfl 4 rfl HI3.out (by rfl) ?_;intro w4 hi4 hg4;have HI4 := hide hi4;have HB4 := hide (HB3.out.own hg4 (fun q hq => by injection hq with hq;omega));have HG4 := hide (HG3.out.grown hg4 (fun q hq => by injection hq with hq;omega));clear hi4 hg4)
  | (refine wpList_insert_lit rfl (.tmp 5) (.const (.int .i64 5)) (.tmp 20) 194 3 193 rfl under_kinds under_i64 (w.heap.size + 1) _ 4 rfl 5 rfl HI4.out (by rfl) ?_;intro w5 hi5 hg5;have HI5 := hide hi5;have HB5 := hide (HB4.out.own hg5 (fun q hq => by injection hq with hq;omega));have HG5 := hide (HG4.out.grown hg5 (fun q hq => by injection hq with hq;omega));clear hi5 hg5)
  | (refine wpList_insert_lit rfl (.tmp 5) (.const (.int .i64 6)) (.tmp 23) 194 3 193 rfl under_kinds under_i64 (w.heap.size + 1) _ 5 rfl 6 rfl HI5.out (by rfl) ?_;intro w6 hi6 hg6;have HI6 := hide hi6;have HB6 := hide (HB5.out.own hg6 (fun q hq => by injection hq with hq;omega));have HG6 := hide (HG5.out.grown hg6 (fun q hq => by injection hq with hq;omega));clear hi6 hg6)
  | (refine wpList_insert_lit rfl (.tmp 5) (.const (.int .i64 7)) (.tmp 26) 194 3 193 rfl under_kinds under_i64 (w.heap.size + 1) _ 6 rfl 7 rfl HI6.out (by rfl) ?_;intro w7 hi7 hg7;have HI7 := hide hi7;have HB7 := hide (HB6.out.own hg7 (fun q hq => by injection hq with hq;omega));have HG7 := hide (HG6.out.grown hg7 (fun q hq => by injection hq with hq;omega));clear hi7 hg7)
  | (refine wpList_insert_lit rfl (.tmp 5) (.const (.int .i64 8)) (.tmp 29) 194 3 193 rfl under_kinds under_i64 (w.heap.size + 1) _ 7 rfl 8 rfl HI7.out (by rfl) ?_;intro w8 hi8 hg8;have HI8 := hide hi8;have HB8 := hide (HB7.out.own hg8 (fun q hq => by injection hq with hq;omega));have HG8 := hide (HG7.out.grown hg8 (fun q hq => by injection hq with hq;omega));clear hi8 hg8;have hlook := kw_look pb k HI8.out hk;have hcx := HB8.out.cell;have hltx := HB8.out.lt))
 rw [kw_call,Oper.upon_enter];refine (HF.out w8 HG8.out).mono ?_;rintro e w9 ⟨A2,c2,rfl,h1,h2⟩;have HW := hide h1;have HGE := hide ((WG.of_grow pb _ HG8.out).trans h2);clear h1 h2;go_wp2_with fail;go_end0;exact ⟨A2,c2,rfl,HW.out,HGE.out⟩
theorem kw_any (v : V) : v.fit → v.formed = true → KeyC v := by
 induction v using V.ind with
 | h k n b l f hl hf =>
  intro hfit hfm pb A c bs cv w hW hv hlen;rw [V.fit] at hfit;have hV := hide hv;obtain ⟨aB,aL,aF,cB,cL,cF,rfl,h1,h2,h3,h4,h5,h6,h7,h8,h9,hb0⟩ := hv.open;rcases V.formed_cases hfm with h | ⟨n',hn',h⟩ | ⟨n',h⟩ | ⟨n',h⟩ | ⟨b',hb',h⟩ | ⟨b',h⟩ | ⟨l',hl',h⟩ | ⟨f',hf',hnd,h⟩ <;> cases h
  ·have e : (V.mk 1 0 [] [] []).key = [16] := by rw [V.key_mk];simp
   rw [e] at hlen ⊢;simp only [List.length_cons,List.length_nil] at hlen;exact kw_valueG 1 (by decide) pb A c bs _ _ _ _ _ _ _ _ _ _ _ w hW (fun w' hg => kw_null pb A c bs _ w' (hW.grow hg) (by omega))
  ·have e : (V.mk 2 n [] [] []).key = [32,UInt8.ofNat n] := by rw [V.key_mk];simp
   rw [e] at hlen ⊢;simp only [List.length_cons,List.length_nil] at hlen;exact kw_valueG 2 (by decide) pb A c bs _ _ _ _ _ _ _ _ _ _ _ w hW (fun w' hg => kw_bool pb A c bs _ n hn' rfl w' (hW.grow hg) (by omega))
  ·have e : (V.mk 3 n [] [] []).key = 48 :: keyInt n := by rw [V.key_mk];simp
   rw [e] at hlen ⊢;exact kw_valueG 3 (by decide) pb A c bs _ _ _ _ _ _ _ _ _ _ _ w hW (fun w' hg => kw_int pb A c bs n hfit.1 _ _ _ _ _ _ _ _ _ w' (hW.grow hg) (by omega))
  ·have e : (V.mk 4 n [] [] []).key = 48 :: keyFloat n := by rw [V.key_mk];simp
   rw [e] at hlen ⊢;refine kw_valueG 4 (by decide) pb A c bs _ _ _ _ _ _ _ _ _ _ _ w hW (fun w' hg => ?_)
   cases hn : nanB n with
   | true => exact kw_nan pb A c bs n hfit.1 hn _ _ _ _ _ _ _ _ _ w' (hW.grow hg) (by omega)
   | false => exact kw_float pb A c bs n hfit.1 hn _ _ _ _ _ _ _ _ _ w' (hW.grow hg) (by omega)
  ·have e : (V.mk 5 0 b [] []).key = 64 :: esc b := by rw [V.key_mk];simp
   rw [e] at hlen ⊢;have := (escB_length b).1;simp only [List.length_cons,esc,List.length_append,List.length_nil] at hlen;exact kw_valueG 5 (by decide) pb A c bs _ _ _ _ _ _ _ _ _ _ _ w hW (fun w' hg => kw_text pb A c bs b _ _ _ _ _ _ _ _ w' (hW.grow hg) (Reads.mono (AtW.below (Below.mono hg.below (Nat.le_of_lt hW.1.lt)) (Nat.le_refl _) (Nat.le_refl _) (Nat.le_refl _)) hb0) (by omega))
  ·have e : (V.mk 6 0 b [] []).key = 80 :: esc b := by rw [V.key_mk];simp
   rw [e] at hlen ⊢;have := (escB_length b).1;simp only [List.length_cons,esc,List.length_append,List.length_nil] at hlen;exact kw_valueG 6 (by decide) pb A c bs _ _ _ _ _ _ _ _ _ _ _ w hW (fun w' hg => kw_bytes pb A c bs b _ _ _ _ _ _ _ _ w' (hW.grow hg) (Reads.mono (AtW.below (Below.mono hg.below (Nat.le_of_lt hW.1.lt)) (Nat.le_refl _) (Nat.le_refl _) (Nat.le_refl _)) hb0) (by omega))
  ·have e : (V.mk 7 0 [] l []).key = 96 :: ((l.map V.keyL).flatten ++ [0]) := by rw [V.key_mk];simp
   rw [e] at hlen ⊢;simp only [List.length_cons,List.length_append,List.length_nil] at hlen;exact kw_valueG 7 (by decide) pb A c bs _ _ _ _ _ _ _ _ _ _ _ w hW (fun w' hg => kw_list pb A c bs l _ _ _ _ _ _ _ _ w' (hW.grow hg) (fun x hx => hl x hx (hfit.2.1 x hx) (hl' x hx)) (hV.out.below (Below.mono hg.below (Nat.le_of_lt hW.1.lt)) (Nat.le_refl _) (Nat.le_refl _)) (by omega))
  have e : (V.mk 8 0 [] [] f).key = 112 :: ((f.map V.keyFd).flatten ++ [0]) := by rw [V.key_mk];simp
  rw [e] at hlen ⊢;simp only [List.length_cons,List.length_append,List.length_nil] at hlen;exact kw_valueG 8 (by decide) pb A c bs _ _ _ _ _ _ _ _ _ _ _ w hW (fun w' hg => kw_doc pb A c bs f _ _ _ _ _ _ _ _ w' (hW.grow hg) (fun x hx => hf x hx (hfit.2.2 x hx) (hf' x hx).2) (hV.out.below (Below.mono hg.below (Nat.le_of_lt hW.1.lt)) (Nat.le_refl _) (Nat.le_refl _)) (by omega) (fun x hx => name_size (hf' x hx).1))
end
section
open Go.RowKit Go.Shelf Go.WideShapes
theorem keyL_flat (l : List V) (h : ∀ x ∈ l,x.key.length + 1 ≤ 4 * x.bytes.length) : (l.map V.keyL).flatten.length ≤ 4 * (l.map V.bytes).flatten.length := by
 induction l with
 | nil => simp
 | cons x l ih =>
  have h1 := h x List.mem_cons_self;have h2 := ih (fun y hy => h y (List.mem_cons_of_mem _ hy));simp only [List.map_cons,List.flatten_cons,List.length_append,V.keyL,List.length_cons];omega
theorem keyFd_flat (l : List (ByteArray × V)) (h : ∀ x ∈ l,x.2.key.length + 1 ≤ 4 * x.2.bytes.length) : (l.map V.keyFd).flatten.length ≤ 4 * (l.map fun x => V.item x.1 x.2.bytes).flatten.length := by
 induction l with
 | nil => simp
 | cons x l ih =>
  have h1 := h x List.mem_cons_self;have h2 := ih (fun y hy => h y (List.mem_cons_of_mem _ hy));have h3 := (escB_length x.1.data.toList).2;have h4 : x.1.data.toList.length = x.1.size := by simp
  simp only [List.map_cons,List.flatten_cons,List.length_append,V.keyFd,List.length_cons,V.item_length,esc,List.length_nil];omega
theorem key_len (v : V) : v.formed = true → v.key.length + 1 ≤ 4 * v.bytes.length := by
 induction v using V.ind with
 | h k n b l f hl hf =>
  intro hfm;rcases V.formed_cases hfm with h | ⟨n',hn',h⟩ | ⟨n',h⟩ | ⟨n',h⟩ | ⟨b',hb',h⟩ | ⟨b',h⟩ | ⟨l',hl',h⟩ | ⟨f',hf',hnd,h⟩ <;> cases h
  ·rw [V.key_mk,V.bytes_mk];simp
  ·rw [V.key_mk,V.bytes_mk];simp
  ·rw [V.key_mk,V.bytes_mk];simp [keyInt,be_length,toLe_length]
  ·rw [V.key_mk,V.bytes_mk];simp only [keyFloat];simp;split <;> simp [be_length,toLe_length]
  ·have := (escB_length b).2;rw [V.key_mk,V.bytes_mk];simp [esc,toLe_length];omega
  ·have := (escB_length b).2;rw [V.key_mk,V.bytes_mk];simp [esc,toLe_length];omega
  ·have := keyL_flat l (fun x hx => hl x hx (hl' x hx));have e : (V.mk 7 0 [] l []).key = 96 :: ((l.map V.keyL).flatten ++ [0]) := by rw [V.key_mk];simp
   rw [e,V.bytes_list];simp only [List.length_cons,List.length_append,List.length_nil];omega
  have := keyFd_flat f (fun x hx => hf x hx (hf' x hx).2);have e : (V.mk 8 0 [] [] f).key = 112 :: ((f.map V.keyFd).flatten ++ [0]) := by rw [V.key_mk];simp
  rw [e,V.bytes_doc];simp only [List.length_cons,List.length_append,List.length_nil];omega
def OfC (w : World) (p : List UInt8 × Int) (e : Ending) (w' : World) : Prop :=
 ∃ base A c,e = .returned (.tuple #[.slice A p.1.length c,.int .i64 p.2]) ∧ w.heap.size ≤ base ∧ Row w' base (.slice A p.1.length c) p.1.length p.1 ∧ Grow w w'
theorem OfC.bad {w w' : World} {e : Int} (h : Grow w w') : OfC w ([],e) (.returned (.tuple #[.slice none 0 0,.int .i64 e])) w' :=
 ⟨w.heap.size,none,0,rfl,Nat.le_refl _,World.ownsRow_nil _ _ _ _,h⟩
theorem of_anyM (v : V) (c : Cv) (w : World) (hfit : v.fit) (hm : v.mild) (hT : Tabs w) (hv : In w v c) : Calls Tryz.prog 53 #[c.agg] w (OfC w (ofK v)) := by
 have HG0 := hide ((Grow.refl w).alloc (.cells c.cells 27));have HB0 := hide (Blk.new w 27 c.cells);have hcell := (Blk.new w 27 c.cells).cell;have HGOOD := hide (good_anyM v _ c hm (hT.grow HG0.out) (hv.grow HG0.out));have HV := hide hv;have HFIT := hide hfit;obtain ⟨g,hg⟩ : ∃ g,v.good = g := ⟨_,rfl⟩;rw [hg] at HGOOD;have HGD := hide hg;clear hT hv hfit hg;go_enter Tryz.func53,Tryz.ntmps53;go_wp2_with fail;refine HGOOD.out.mono ?_;rintro e w1 ⟨rfl,hg1⟩;have hB1 := HB0.out.grow hg1;have HG1 := hide (HG0.out.trans hg1);have HB1 := hide hB1;have hc1 := hB1.cell;have hlt1 := hB1.lt;clear hg1 hB1 hcell;by_cases h0 : g = 0
 ·subst h0;have hf := V.good_formed HGD.out;have hkl := key_len v hf.1;have hkl2 : v.key.length ≤ 16384 := by have := hf.2;omega
  have HF := hide hf;have hrow : Row (w1.alloc (.cells #[.slice none 0 0] 150)) (w1.heap.size + 1) (.slice none 0 0) 0 [] := World.ownsRow_nil _ _ _ _;have HC := hide (kw_any v HFIT.out hf.1 w1.heap.size none 0 [] c (w1.alloc (.cells #[.slice none 0 0] 150)) ⟨Blk.new w1 _ _,hrow⟩ (((HV.out.grow HG1.out).under).below (Below.alloc (Below.refl _ w1) (Nat.le_refl _) _) (Nat.le_refl _) (Nat.le_refl _)) (by simp only [List.length_nil];omega));rw [List.nil_append] at HC;clear hf hrow hkl;go_wp2_with fail;refine HC.out.mono ?_;rintro e w2 ⟨A2,c2,rfl,h1,h2⟩;obtain ⟨KB,hKB⟩ : ∃ K,v.key = K := ⟨_,rfl⟩;rw [hKB] at h1 h2 hkl2;have HKE := hide hKB;have hcw : w2.cell? ⟨w1.heap.size,0,none⟩ = some (.slice A2 KB.length c2) := h1.1.cell 0;have hlw := h1.1.lt;have HW := hide h1
  have HG12 := hide (show Grow w1 w2 from Below.trans ((Grow.refl w1).alloc (.cells #[.slice none 0 0] 150)) (h2.below (bs := []) ⟨Blk.new w1 _ _,World.ownsRow_nil _ _ _ _⟩));clear h1 h2 HC hKB;by_cases hlen : 96 < KB.length
  ·go_wp2_with fail;go_ret2;rw [show ofK v = ([],14) by unfold ofK;rw [if_neg (by have := HGD.out;omega),if_pos (by rw [HKE.out];exact hlen)]];exact OfC.bad (HG1.out.trans HG12.out)
  obtain ⟨cur,hcur,hmk⟩ := make_u8 KB.length (by omega);have HROW := hide (Row.made (w := w2.drew) cur KB.length (by simp only [maxLen];omega) hcur);have HSRC := hide (show Src Tryz.prog 1 23 (.slice A2 KB.length c2) KB.length (u8s KB) (w2.drew.alloc (.cells cur 5)) from Src.ofReads under_u8s (HW.out.2.reads.1.grow ((Grow.refl w2).drew.alloc _)) (u8s_one _));have hcw2 : (w2.drew.alloc (.cells cur 5)).cell? ⟨w1.heap.size,0,none⟩ = some (.slice A2 KB.length c2) := (((Grow.refl w2).drew.alloc (.cells cur 5)).below.cell (p := ⟨w1.heap.size,0,none⟩) hlw).trans hcw;go_wp2_with fail;refine wp_region_noPanic ?_;refine wp_region_held_drew (S := fun w' => w'.cell? ⟨w1.heap.size,0,none⟩ = some (.slice A2 KB.length c2)) (by kernel_rfl) (hcw) (fun hHeld => ?_);refine tk_ 0 ?_;refine tk_ 1 ?_;refine tk_ 2 ?_;refine tk_ 3 ?_;refine tk_ 4 ?_;refine tk_ 6 ?_;refine tk_ 7 ?_;refine tk_ 8 ?_
  refine tk_ 9 ?_;refine r1_ 5 (fun K hK => ?_);go_simp;refine hk_ hK (hcw2) (fun hHeld => ?_);clear hK K;refine r1_ 10 (fun K hK => ?_);refine step_app_src (ys := KB) rfl (.tmp 27) (.tmp 31) _ rfl rfl HROW.out _ rfl HSRC.out (by omega) (by simp) ?_;intro A3 c3 w3 hr3 hg3;rw [Nat.zero_add,List.nil_append] at hr3;have HR3 := hide hr3;have HG3 := hide (show Grow w2 w3 from Below.trans ((Grow.refl w2).drew.alloc _) (Grew.below hg3 HROW.out (by simp)));clear hr3 hg3;refine hk_ hK ((HG3.out.below.cell (p := ⟨w1.heap.size,0,none⟩) hlw).trans hcw) (fun hHeld => ?_);clear hK K;refine tk_ 11 ?_;refine tk_ 12 ?_;refine dn_ ?_;rw [Nat.zero_add];go_wp2_with fail;go_ret2;rw [show ofK v = (KB,0) by unfold ofK;rw [if_neg (by have := HGD.out;omega),if_neg (by rw [HKE.out];exact hlen),HKE.out]]
  exact ⟨w2.drew.heap.size,A3,c3,rfl,by have := HG1.out.size;have := HG12.out.size;simp;omega,HR3.out,(HG1.out.trans HG12.out).trans HG3.out⟩
 have h0' : (g == 0) = false := by simpa using h0
 have h0'' : (g != 0) = true := by simpa using h0
 clear h0;go_wp2_with fail;go_ret2;rw [show ofK v = ([],g) by unfold ofK;rw [HGD.out,if_pos (by simpa using h0'')]];exact OfC.bad HG1.out
theorem of_any (v : V) (c : Cv) (w : World) (hfit : v.fit) (hcount : v.count ≤ 20000) (hT : Tabs w) (hv : In w v c) : Calls Tryz.prog 53 #[c.agg] w (OfC w (ofK v)) := of_anyM v c w hfit (V.mild_of hcount hv) hT hv
end
section
open Go.RowKit Go.Shelf Go.WideShapes
theorem InL.fitK {w : World} {A : Option Addr} {cap : Nat} {vs : List V} (h : InL w A cap vs) : ∀ v ∈ vs,v.fit := fun v hv => by
 have := IsV.fit _ _ h;rw [V.fit] at this;exact this.2.1 v hv
theorem allE_at : ∀ (l : List V) (j : Nat) (h : j < l.length),(∀ i (hi : i < l.length),i < j → (ofK l[i]).2 = 0) → (ofK l[j]).2 ≠ 0 → allE l = (ofK l[j]).2
 | [],j,h,_,_ => by simp at h
 | x :: l,0,h,_,hn => by rw [allE];simp only [List.getElem_cons_zero] at hn ⊢;rw [if_pos hn]
 | x :: l,j + 1,h,h0,hn => by
  have hx : (ofK x).2 = 0 := h0 0 (by simp) (by omega);rw [allE,if_neg (by simpa using hx)];simp only [List.getElem_cons_succ] at hn ⊢;exact allE_at l j (by simpa using h) (fun i hi hij => h0 (i + 1) (by simpa using hi) (by omega)) hn
theorem allE_none : ∀ (l : List V),(∀ i (hi : i < l.length),(ofK l[i]).2 = 0) → allE l = 0
 | [],_ => rfl
 | x :: l,h => by
  have hx : (ofK x).2 = 0 := h 0 (by simp);rw [allE,if_neg (by simpa using hx)];exact allE_none l (fun i hi => h (i + 1) (by simpa using hi))
theorem allB_take : ∀ (l : List V) (ts : List Bool) (j : Nat) (h1 : j < l.length) (h2 : j < ts.length),allB (l.take (j + 1)) (ts.take (j + 1)) = allB (l.take j) (ts.take j) ++ flip ts[j] l[j].key
 | [],_,j,h,_ => by simp at h
 | _ :: _,[],j,_,h => by simp at h
 | x :: l,t :: ts,0,_,_ => by simp [allB]
 | x :: l,t :: ts,j + 1,h1,h2 => by
  simp only [List.take_succ_cons,allB,List.getElem_cons_succ,List.append_assoc];rw [allB_take l ts j (by simpa using h1) (by simpa using h2)]
theorem allB_full : ∀ (l : List V) (ts : List Bool),l.length = ts.length → allB (l.take l.length) (ts.take l.length) = allB l ts := fun l ts h => by
 rw [List.take_length,h,List.take_length]
theorem ofK_zero {v : V} (h : (ofK v).2 = 0) : ofK v = (v.key,0) := by
 have hg := ofK_good h;unfold ofK;rw [if_neg (by omega),if_neg (by omega)]
theorem not8 (n : Nat) (h : n < 256) : 255 ^^^ n = 255 - n := by
 apply Nat.eq_of_testBit_eq;intro i;have e1 : (255 : Nat) = 2 ^ 8 - 1 := by decide
 have e2 : 255 - n = 2 ^ 8 - (n + 1) := by rw [e1];omega
 rw [Nat.testBit_xor,e2,Nat.testBit_two_pow_sub_succ (by exact h),e1,Nat.testBit_two_pow_sub_one];by_cases hi : i < 8
 ·simp [hi]
 have : n.testBit i = false := Nat.testBit_lt_two_pow (Nat.lt_of_lt_of_le h (show 2 ^ 8 ≤ 2 ^ i from Nat.pow_le_pow_right (by omega) (by omega)));simp [hi,this]
theorem u8_not (x : UInt8) : bits .xor .u8 IntKind.u8.max (x.toNat : Int) = ((flip1 x).toNat : Int) := by
 have hx := x.toNat_lt;have h2 := u8_xor_nat 255 x.toNat (by omega) hx;rw [not8 x.toNat hx] at h2;unfold flip1;rw [UInt8.toNat_ofNat',Nat.mod_eq_of_lt (by omega)];exact h2
theorem Row.setAt {w : World} {base n c g : Nat} {xs : List UInt8} (h : Row w base (.slice (some ⟨g,0,none⟩) n c) n xs) (j : Nat) (hj : j < n) (y : UInt8) (u : Value) (hu : u = .int .u8 (y.toNat : Int)) :
 Row (w.setCell ⟨g,j,none⟩ u) base (.slice (some ⟨g,0,none⟩) n c) n (xs.set j y) := by
 subst hu;have e : u8s (xs.set j y) = (u8s xs).set j (.int .u8 (y.toNat : Int)) := by simp [u8s,List.map_set]
 unfold Row;rw [e];exact (World.ownsRow.stored h j _).1
theorem flip_set (b : List UInt8) (j : Nat) (h : j < b.length) : ((b.take j).map flip1 ++ b.drop j).set j (flip1 b[j]) = (b.take (j + 1)).map flip1 ++ b.drop (j + 1) := by
 rw [List.set_append_right _ _ (by simp;omega),List.length_map,List.length_take,Nat.min_eq_left (by omega),Nat.sub_self,List.drop_eq_getElem_cons h,List.set_cons_zero,take_snoc b j h];simp only [List.map_append,List.map_cons,List.map_nil,List.append_assoc,List.cons_append,List.nil_append]
theorem flip_get (b : List UInt8) (j : Nat) (h : j < b.length) : ((b.take j).map flip1 ++ b.drop j)[j]'(by simp;omega) = b[j] := by
 rw [List.getElem_append_right (by simp;omega)];simp only [List.getElem_drop,List.length_map,List.length_take];congr 1;omega
theorem allK_len {l : List V} {ts : List Bool} (h : l.length ≠ ts.length) : allK l ts = ([],1) := by unfold allK;rw [if_pos h]
theorem allK_err {l : List V} {ts : List Bool} (h : l.length = ts.length) {e : Int} (he : e ≠ 0) (j : Nat) (hj : j < l.length) (h0 : ∀ i (hi : i < l.length),i < j → (ofK l[i]).2 = 0) (hx : (ofK l[j]).2 = e) : allK l ts = ([],e) := by
 have := allE_at l j hj h0 (by rw [hx];exact he);unfold allK;rw [if_neg (by omega),this,hx,if_pos he]
theorem allK_big {l : List V} {ts : List Bool} (h : l.length = ts.length) (h0 : ∀ i (hi : i < l.length),(ofK l[i]).2 = 0) (hb : 96 < (allB l ts).length) : allK l ts = ([],14) := by
 unfold allK;rw [if_neg (by omega),if_neg (by rw [allE_none l h0];simp),if_pos hb]
theorem allK_good {l : List V} {ts : List Bool} (h : l.length = ts.length) (h0 : ∀ i (hi : i < l.length),(ofK l[i]).2 = 0) (hb : (allB l ts).length ≤ 96) : allK l ts = (allB l ts,0) := by
 unfold allK;rw [if_neg (by omega),if_neg (by rw [allE_none l h0];simp),if_neg (by omega)]
def Acc (xs ys : List UInt8) : Prop := (xs = ys ∧ ys.length ≤ 192) ∨ (96 < xs.length ∧ xs.length ≤ 192 ∧ 96 < ys.length)
theorem Acc.le {xs ys : List UInt8} (h : Acc xs ys) : xs.length ≤ 192 := by rcases h with ⟨rfl,h⟩ | h <;> omega
theorem Acc.add {xs ys zs : List UInt8} (h : Acc xs ys) (hx : xs.length ≤ 96) (hz : zs.length ≤ 96) : Acc (xs ++ zs) (ys ++ zs) := by
 rcases h with ⟨rfl,h⟩ | h
 ·exact .inl ⟨rfl,by rw [List.length_append];omega⟩
 omega
theorem Acc.skip {xs ys zs : List UInt8} (h : Acc xs ys) (hx : 96 < xs.length) : Acc xs (ys ++ zs) := by
 refine .inr ⟨hx,h.le,?_⟩;rw [List.length_append];rcases h with ⟨rfl,h⟩ | h <;> omega
theorem all_anyM (l : List V) (ts : List Bool) (A F : Option Addr) (cap fc : Nat) (w : World) (hcount : ∀ v ∈ l,v.mild) (hT : Tabs w) (hv : InL w A cap l) (hf : InBo w F ts) (hts : ts.length ≤ 140737488355328) :
    Calls Tryz.prog 58 #[.slice A l.length cap,.slice F ts.length fc] w (OfC w (allK l ts)) := by
  have hll : l.length ≤ 140737488355328 := by
    obtain ⟨_,_,_,_,_,_,_,_,_,_,_,_,_,hlen,_,_,_⟩ := InU.open hv;exact hlen
  have HFIT := hide hv.fitK;have HV := hide hv;have HF := hide hf;have HT := hide hT;have HCNT := hide hcount;clear hv hf hT hcount;by_cases hlen : l.length = ts.length
  · have heq : ((l.length : Int) != (ts.length : Int)) = false := by simp [hlen]
    have HLEN := hide hlen
    have HU := hide (fun x : UInt8 => u8_not x)
    clear hlen
    go_enter Tryz.func58,Tryz.ntmps58
    go_wp2_with fail
    go_loopg [6,7,8,9,10,11,19] (l.length + 1) (fun gk o _ _ _ _ _ i wr => ∃ (j : Nat) (xs : List UInt8) (A' : Option Addr) (c' : Nat),j ≤ l.length ∧ gk + j = l.length + 1 ∧ i = .int .i64 j ∧ o = .slice A' xs.length c' ∧ Row wr w.heap.size (.slice A' xs.length c') xs.length xs ∧
      Acc xs (allB (l.take j) (ts.take j)) ∧ (∀ i (hi : i < l.length),i < j → (ofK l[i]).2 = 0) ∧ Grow w wr)
    case atStart => exact ⟨0,[],none,0,Nat.zero_le _,rfl,rfl,rfl,World.ownsRow_nil _ _ _ _,.inl ⟨by simp [allB],by simp [allB]⟩,fun _ _ h => absurd h (by omega),Grow.refl w⟩
    case round =>
      obtain ⟨j,xs,A',c',hj,hg,rfl,rfl,hr,hacc,hz,hgr⟩ := hrel
      obtain ⟨gk',rfl⟩ := gk_ gk (by omega)
      have hxl := hacc.le
      have HR := hide hr
      have HACC := hide hacc
      have HZ := hide hz
      have HG := hide hgr
      have hvr := In.grow HV.out hgr
      clear hr hacc hz hgr
      by_cases hlt : j < l.length
      · obtain ⟨bk,o,x,ha,hbk,e0,e1,e2,e3,e4,hx⟩ := hvr.elemL j hlt
        dsimp only [lcv] at ha
        subst ha
        have HX := hide hx
        have hlt2 : j < ts.length := by have := HLEN.out;omega
        have HOF := hide (of_anyM l[j] x (wr.alloc (.cells x.cells 27)) (HFIT.out _ (List.getElem_mem hlt)) (HCNT.out _ (List.getElem_mem hlt)) (HT.out.grow (HG.out.alloc _)) (HX.out.grow ((Grow.refl wr).alloc _)))
        obtain ⟨KB,ke,hke⟩ : ∃ kb ke,ofK l[j] = (kb,ke) := ⟨_,_,rfl⟩
        rw [hke] at HOF
        have HKE := hide hke
        clear hx hvr hke
        go_wp2_with fail
        refine HOF.out.mono ?_
        rintro e w2 ⟨base2,B,bc,rfl,hb2,hr2,hg2⟩
        dsimp only at hr2 ⊢
        have hb2' := hb2
        have HR2 := hide hr2
        have HG2 := hide ((HG.out.alloc (.cells x.cells 27)).trans hg2)
        have HG12 := hide (((Grow.refl wr).alloc (.cells x.cells 27)).trans hg2)
        clear hr2 hg2 hb2 e0 e1 e2 e3 e4
        by_cases hk0 : ke = 0
        · subst hk0
          have hof := ofK_zero (show (ofK l[j]).2 = 0 by rw [HKE.out])
          have hkb : l[j].key = KB := by have := HKE.out;rw [hof] at this;exact (Prod.ext_iff.1 this).1
          have hk96 : KB.length ≤ 96 := by rw [← hkb];exact (ofK_good (show (ofK l[j]).2 = 0 by rw [HKE.out])).2
          have HKB := hide hkb
          have HTK := hide (allB_take l ts j hlt hlt2)
          have HZ' := hide (show ∀ i (hi : i < l.length),i < j + 1 → (ofK l[i]).2 = 0 from fun i hi hij => by
            rcases Nat.lt_succ_iff_lt_or_eq.1 hij with h | rfl
            · exact HZ.out i hi h
            rw [HKE.out])
          obtain ⟨fb,fo,rfl,hfc⟩ := HF.out.2 (by omega)
          have hcf := ((HG2.out.below.cell (hfc j (.bool ts[j]) (by simp [hlt2])).2.2).trans (hfc j (.bool ts[j]) (by simp [hlt2])).1)
          have hfl2 : fb < w2.heap.size := Nat.lt_of_lt_of_le (hfc j (.bool ts[j]) (by simp [hlt2])).2.2 HG2.out.size
          have HRx := hide (HR.out.grow HG12.out)
          clear hof hkb hfc
          cases htj : ts[j] with
          | false =>
            rw [htj] at hcf HTK
            rw [show flip false l[j].key = KB by rw [HKB.out];rfl] at HTK
            clear htj
            by_cases hx96 : xs.length ≤ 96
            · go_wp2_with (at_builtin;refine app_src (ys := KB) rfl (.tmp 53) (.tmp 54) _ rfl rfl HRx.out _ rfl (Src.ofReads under_u8s HR2.out.reads.1 (u8s_one _)) (by omega) HG2.out.size ?_;intro A3 c3 w3 hr3 hg3;have HR3 := hide hr3;have HG3 := hide (Grew.below hg3 HRx.out HG2.out.size);clear hr3 hg3)
              go_roundg gk'
              case measure => omega
              case rel =>
                have hn : (xs ++ KB).length = xs.length + KB.length := List.length_append
                exact ⟨j + 1,xs ++ KB,A3,c3,by omega,by omega,by go_num,by rw [hn],by rw [hn];exact HR3.out,by rw [HTK.out];exact HACC.out.add hx96 hk96,HZ'.out,Below.trans HG2.out HG3.out⟩
            go_wp2_with fail
            go_roundg gk'
            case measure => omega
            case rel => exact ⟨j + 1,xs,A',c',by omega,by omega,by go_num,rfl,HRx.out,by rw [HTK.out];exact HACC.out.skip (by omega),HZ'.out,HG2.out⟩
          | true =>
            rw [htj] at hcf HTK
            rw [show flip true l[j].key = KB.map flip1 by rw [HKB.out];rfl] at HTK
            clear htj
            go_wp2_with fail
            obtain ⟨wo,hwo⟩ : ∃ wo : World,wo = wr := ⟨_,rfl⟩
            subst hwo
            go_loopg [11,38] (KB.length + 1) (fun gk _ i w3 => ∃ k : Nat,k ≤ KB.length ∧ gk + k = KB.length + 1 ∧ i = .int .i64 k ∧ Row w3 base2 (.slice B KB.length bc) KB.length ((KB.take k).map flip1 ++ KB.drop k) ∧ w2.grownBy w3 (Value.ownBlock (.slice B KB.length bc)))
            case atStart => exact ⟨0,Nat.zero_le _,rfl,rfl,HR2.out,World.grownBy.refl _ _⟩
            case round =>
              obtain ⟨k,hk,hgk,rfl,hr3,hg3⟩ := hrel
              have HR3 := hide hr3
              have HG3 := hide hg3
              clear hr3 hg3
              by_cases hlk : k < KB.length
              · obtain ⟨gk2,rfl⟩ : ∃ g,gk = g + 1 := ⟨gk - 1,by omega⟩
                obtain ⟨gb,gcap,hgv,hgb,hglt⟩ := World.ownsRow.form HR3.out (by omega)
                have hB : B = some ⟨gb,0,none⟩ := by injection hgv
                subst hB
                have hck := World.ownsRow.cells HR3.out (g := gb) rfl k _ (u8s_get _ k (by simp;omega))
                rw [flip_get KB k hlk] at hck
                have hfz := World.ownsRow.frozenAt HR3.out k
                have hun := HU.out KB[k]
                rw [add_lit,Nat.zero_add] at hck
                have hst := (World.ownsRow.stored HR3.out k (.int .u8 ((flip1 KB[k]).toNat : Int))).2
                have HST := hide hst
                have hbl := KB[k].toNat_lt
                clear hst
                go_wp2_with fail
                go_roundg gk2
                case measure => omega
                case rel => exact ⟨k + 1,by omega,by omega,by go_num,by rw [← flip_set KB k hlk];exact HR3.out.setAt k hlk _ _ rfl,(show GB w2 wr gb from HG3.out).trans HST.out⟩
              obtain rfl : k = KB.length := by omega
              rw [List.take_length,List.drop_length,List.append_nil] at HR3
              have hown : ∀ q,Value.ownBlock (.slice B KB.length bc) = some q → wo.heap.size ≤ q := fun q hq => by
                have := (World.ownsRow.lt HR2.out q hq).1
                simp at hb2'
                omega
              have HGa := hide (HG12.out.grown HG3.out hown)
              have HGb := hide (HG2.out.grown HG3.out (fun q hq => Nat.le_trans HG.out.size (hown q hq)))
              have HRy := hide (HR.out.grow HGa.out)
              have hml : (KB.map flip1).length = KB.length := List.length_map _
              have HSRC := hide (show Src Tryz.prog 1 23 (.slice B KB.length bc) (KB.map flip1).length (u8s (KB.map flip1)) wr from by
                have h := HR3.out.reads.1
                unfold InB at h
                rw [hml] at h ⊢
                exact Src.ofReads under_u8s h (u8s_one _))
              have HML := hide hml
              clear hown hgk hml
              by_cases hx96 : xs.length ≤ 96
              · go_wp2_with (at_builtin;refine app_src (ys := KB.map flip1) rfl (.tmp 53) (.tmp 54) _ rfl rfl HRy.out _ rfl HSRC.out (by rw [HML.out];omega) HGb.out.size ?_;intro A3 c3 w4 hr4 hg4;have HR4 := hide hr4;have HG4 := hide (Grew.below hg4 HRy.out HGb.out.size);clear hr4 hg4)
                go_roundg gk'
                case measure => omega
                case rel =>
                  have hn : (xs ++ KB.map flip1).length = xs.length + (KB.map flip1).length := List.length_append
                  exact ⟨j + 1,xs ++ KB.map flip1,A3,c3,by omega,by omega,by go_num,by rw [hn,HML.out],by rw [hn];exact HR4.out,by rw [HTK.out];exact HACC.out.add hx96 (by rw [HML.out];exact hk96),HZ'.out,Below.trans HGb.out HG4.out⟩
              go_wp2_with fail
              go_roundg gk'
              case measure => omega
              case rel => exact ⟨j + 1,xs,A',c',by omega,by omega,by go_num,rfl,HRy.out,by rw [HTK.out];exact HACC.out.skip (by omega),HZ'.out,HGb.out⟩
        have hk1 : (ke == 0) = false := by simpa using hk0
        have hk2 : (ke != 0) = true := by simpa using hk0
        have HK0 := hide hk0
        clear hk0
        go_wp2_with fail
        go_ret2
        rw [allK_err HLEN.out HK0.out j hlt HZ.out (by rw [HKE.out])]
        exact OfC.bad HG2.out
      obtain rfl : j = l.length := by omega
      have hb := allB_full l ts HLEN.out
      rw [hb] at HACC
      have HZ2 := hide (fun i (hi : i < l.length) => HZ.out i hi hi)
      clear hb hvr
      by_cases hx96 : 96 < xs.length
      · go_wp2_with fail
        go_ret2
        have h96 : 96 < (allB l ts).length := by rcases HACC.out with ⟨h,_⟩ | h
                                                 · rw [← h];exact hx96
                                                 exact h.2.2
        rw [allK_big HLEN.out HZ2.out h96]
        exact OfC.bad HG.out
      obtain ⟨cur,hcur,hmk⟩ := make_u8 xs.length (by omega)
      have HROW := hide (Row.made (w := wr) cur xs.length (by simp only [maxLen];omega) hcur)
      have HSRC := hide (show Src Tryz.prog 1 23 (.slice A' xs.length c') xs.length (u8s xs) (wr.alloc (.cells cur 5)) from Src.ofReads under_u8s (HR.out.reads.1.grow ((Grow.refl wr).alloc _)) (u8s_one _))
      go_wp2_with (at_builtin;refine app_src (ys := xs) rfl (.tmp 62) (.tmp 63) _ rfl rfl HROW.out _ rfl HSRC.out (by omega) (by simp) ?_;intro A3 c3 w3 hr3 hg3;rw [Nat.zero_add,List.nil_append] at hr3;have HR3 := hide hr3;have HG3 := hide (show Grow wr w3 from Below.trans ((Grow.refl wr).alloc _) (Grew.below hg3 HROW.out (by simp)));clear hr3 hg3)
      go_ret2
      have hxs : xs = allB l ts := by rcases HACC.out with ⟨h,_⟩ | h
                                      · exact h
                                      omega
      rw [allK_good HLEN.out HZ2.out (by rw [← hxs];omega),← hxs]
      exact ⟨wr.heap.size,A3,c3,rfl,HG.out.size,HR3.out,HG.out.trans HG3.out⟩
  have hne : ((l.length : Int) != (ts.length : Int)) = true := by simp;omega
  have HLEN := hide hlen;clear hlen;go_enter Tryz.func58,Tryz.ntmps58;go_wp2_with fail;go_ret2;rw [allK_len HLEN.out];exact OfC.bad (Grow.refl w)
end
section
open Go.RowKit
def keyP (v : V) : List UInt8 × Int :=
 if v.good ≠ 0 then ([],v.good) else if v.k ≠ 8 then ([],4) else match idP v with | none => ([],14) | some i => ofK i
theorem idP_mem {v i : V} (h : idP v = some i) : ∃ s,(s,i) ∈ v.f := by
 unfold idP at h;rw [Option.map_eq_some_iff] at h;obtain ⟨⟨s,x⟩,h1,rfl⟩ := h;exact ⟨s,List.mem_of_find?_eq_some h1⟩
theorem mem_le_sum : ∀ {l : List Nat} {x : Nat},x ∈ l → x ≤ l.sum
 | y :: l,x,h => by
  rw [List.sum_cons];rcases List.mem_cons.1 h with rfl | h
  ·exact Nat.le_add_right _ _
  exact Nat.le_trans (mem_le_sum h) (Nat.le_add_left _ _)
theorem idP_count {v i : V} (h : idP v = some i) : i.count ≤ v.count := by
 obtain ⟨s,hs⟩ := idP_mem h;obtain ⟨k,n,b,l,f⟩ := v;rw [V.count_mk];have h1 : i.count ∈ f.map fun x => x.2.count := List.mem_map.2 ⟨(s,i),hs,rfl⟩
 have h2 := mem_le_sum h1;show i.count ≤ _;omega
theorem pkey_any (v : V) (c : Cv) (w : World) (hcount : v.count ≤ 20000) (hT : Tabs w) (hv : In w v c) : Calls Tryz.prog 24 #[c.agg] w (OfC w (keyP v)) := by
 have HG0 := hide ((Grow.refl w).alloc (.cells c.cells 27));have HB0 := hide (Blk.new w 27 c.cells);have hcell := (Blk.new w 27 c.cells).cell;have HGOOD := hide (good_any v _ c hcount (hT.grow HG0.out) (hv.grow HG0.out));have HV := hide hv;have HT := hide hT;obtain ⟨g,hg⟩ : ∃ g,v.good = g := ⟨_,rfl⟩;rw [hg] at HGOOD;have HGD := hide hg;have HK : Hid (c.k = v.k) := hide (by obtain ⟨k,n,b,l,f⟩ := v;obtain ⟨aB,aL,aF,cB,cL,cF,rfl,_⟩ := In.open hv;rfl);clear hT hv hg;go_enter Tryz.func24,Tryz.ntmps24;go_wp2_with fail;refine HGOOD.out.mono ?_;rintro e w1 ⟨rfl,hg1⟩;have hB1 := HB0.out.grow hg1;have HG1 := hide (HG0.out.trans hg1);have HB1 := hide hB1;have hc1 := hB1.cell;have hlt1 := hB1.lt;clear hg1 hB1 hcell;by_cases h0 : g = 0
 ·subst h0;by_cases h8 : c.k = 8
  ·have HID := hide (fun w2 (h : Grow w w2) => id_any v c w w2 h HV.out);have H8 := hide h8;have hk8 : (c.k == 8) = true := by rw [h8];rfl
   clear h8;go_wp2_with fail;refine (HID.out w1 HG1.out).mono ?_;rintro e w2 ⟨hg2,ci,t,u,rfl,hiu,hres⟩;have HG2 := hide (HG1.out.trans hg2);have HG3 := hide ((HG1.out.trans hg2).alloc (.cells ci.cells 27));have HBi := hide (Blk.new w2 27 ci.cells);have hci := HBi.out.cell;have HIU := hide hiu;clear hiu hg2;rcases hres with ⟨hid,rfl⟩ | ⟨hid,rfl,rfl,rfl⟩
   ·have HP := hide (show keyP v = ofK u by unfold keyP;rw [if_neg (by have := HGD.out;omega),if_neg (by rw [← HK.out,H8.out];simp),hid]);have HOF := hide (of_any u ci _ (IsV.fit u ci HIU.out) (Nat.le_trans (idP_count hid) hcount) (HT.out.grow HG3.out) (HIU.out.grow HG3.out));clear hid;go_wp2_with fail;refine HOF.out.mono ?_;rintro e w3 ⟨base,A3,c3,rfl,hb3,hr3,hg3⟩;have HR3 := hide hr3;have HG4 := hide (HG3.out.trans hg3);have HB3 := hide (Nat.le_trans HG3.out.size hb3);clear hr3 hg3 hb3;go_wp2_with fail;go_ret2;rw [HP.out];exact ⟨base,A3,c3,rfl,HB3.out,HR3.out,HG4.out⟩
   go_wp2_with fail;go_ret2;rw [show keyP v = ([],14) by unfold keyP;rw [if_neg (by have := HGD.out;omega),if_neg (by rw [← HK.out,H8.out];simp),hid]];exact OfC.bad HG3.out
  go_wp2_with fail;go_ret2;rw [show keyP v = ([],4) by unfold keyP;rw [if_neg (by have := HGD.out;omega),if_pos (by rw [← HK.out];exact h8)]];exact OfC.bad HG1.out
 go_wp2_with fail;go_ret2;rw [show keyP v = ([],g) by unfold keyP;rw [if_pos (by have := HGD.out;omega),HGD.out]];exact OfC.bad HG1.out
end
section
open Go.RowKit Go.Shelf
def pathL : V → List ByteArray → Option V
 | v,[] => some v
 | v,s :: r => (stepV v s).bind fun u => pathL u r
def dotB : ByteArray := ⟨#[46]⟩
def pathN (s : ByteArray) : List ByteArray := Lib.splitB dotB 0 (Lib.countB s dotB) s
def pathV (v : V) (s : ByteArray) : Option V := if v.good = 0 then (if s.toList = [] then some v else pathL v (pathN s)) else none
def Len1 (w : World) : Prop := ∃ m,w.cell? ⟨2,0,none⟩ = some (.int .i64 m) ∧ 2 < w.heap.size
theorem Len1.grow {w w' : World} (h : Len1 w) (hg : Grow w w') : Len1 w' := by
 obtain ⟨m,h1,h2⟩ := h;exact ⟨m,(hg.below.cell h2).trans h1,Nat.lt_of_lt_of_le h2 hg.size⟩
theorem pathN_length (s : ByteArray) : (pathN s).length = Lib.countB s dotB + 1 := Lib.splitB_all dotB (by decide) 0 _ s rfl
theorem split_any (s : ByteArray) (w : World) (hM : Len1 w) (hs : s.size < 4294967281) : Calls Tryz.prog 47 #[.string s,.string dotB] w fun e w' =>
 e = .returned (.slice (some ⟨w.heap.size,0,none⟩) (pathN s).length (pathN s).length) ∧ w' = w.alloc (.cells ((pathN s).map Value.string).toArray 9) := by
 obtain ⟨m,h1,h2⟩ := hM;rw [pathN_length];exact Any.strings_Split (P := Tryz.prog) { Tryz.laysSplit with } Tryz.laysSplit.i9 s dotB m w hs h1 (by decide)
theorem stepV_sml {v u : V} {s : ByteArray} (h : stepV v s = some u) (hs : v.sml) : u.sml := by
 obtain ⟨k,n,b,l,f⟩ := v;rw [V.sml_mk] at hs;obtain ⟨-,-,-,hl,hf⟩ := hs;by_cases hk : k = 7
 ·subst hk;rw [stepV_list] at h;split at h
  ·exact hl _ (List.mem_of_getElem? h)
  cases h
 rw [stepV_doc hk] at h;obtain ⟨x,hx,rfl⟩ := Option.map_eq_some_iff.1 h;exact hf _ (List.mem_of_find?_eq_some hx)
theorem Blk.set5o {W : World} {b vb : Nat} {t : TypeId} {cs : Array Value} (h : Blk W b t cs) (hne : b ≠ vb) (c : Cv) : Blk (set5 W vb c) b t cs :=
 ((((h.far (p := ⟨vb,0,none⟩) hne _).far (p := ⟨vb,1,none⟩) hne _).far (p := ⟨vb,2,none⟩) hne _).far (p := ⟨vb,3,none⟩) hne _).far (p := ⟨vb,4,none⟩) hne _
theorem mem_flat_le {α : Type} (g : α → List UInt8) : ∀ (l : List α) (x : α),x ∈ l → (g x).length ≤ ((l.map g).flatten).length
 | y :: r,x,h => by
  rw [List.map_cons,List.flatten_cons,List.length_append];rcases List.mem_cons.1 h with h | h
  ·rw [h];omega
  have := mem_flat_le g r x h;omega
theorem formed_sml (v : V) : v.formed = true → v.bytes.length ≤ 1000000000 → v.sml := by
 refine V.ind (p := fun v => v.formed = true → v.bytes.length ≤ 1000000000 → v.sml) (fun k n b l f ihl ihf hf hb => ?_) v;have hc := count_le (V.mk k n b l f) hf;rw [V.count_mk] at hc;have h1 : l.length ≤ (l.map V.count).sum := by
  clear ihl hf hb hc
  induction l with
  | nil => simp
  | cons x r ih => have := V.count_pos x;simp only [List.map_cons,List.sum_cons,List.length_cons];omega
 have h2 : f.length ≤ (f.map fun x => x.2.count).sum := by
  clear ihf hf hb hc
  induction f with
  | nil => simp
  | cons x r ih => have := V.count_pos x.2;simp only [List.map_cons,List.sum_cons,List.length_cons];omega
 rw [V.formed_mk] at hf;simp only [Bool.and_eq_true,List.all_eq_true,decide_eq_true_eq] at hf;have ho := hf.1.1.1;unfold V.own at ho;simp only [Bool.and_eq_true,decide_eq_true_eq] at ho;rw [V.bytes_mk] at hb hc;rw [V.sml_mk];refine ⟨?_,by omega,by omega,fun x hx => ihl x hx (hf.1.1.2 x hx) ?_,fun x hx => ihf x hx (hf.1.2 x hx).2 ?_⟩
 ·by_cases hk : k = 5 ∨ k = 6
  ·rw [if_neg (by omega),if_neg (by omega),if_pos hk] at hb;simp only [List.length_cons,List.length_append] at hb;omega
  omega
 ·have h7 : k = 7 := by
   rcases ho.1.2 with h | h
   ·exact h
   rw [List.length_eq_zero_iff.1 h] at hx;simp at hx
  subst h7;have hm := mem_flat_le V.bytes l x hx;simp at hb;have hb2 : (l.map V.bytes).flatten.length ≤ 1000000000 := by simp only [List.length_flatten,List.map_map];omega
  omega
 have h8 : k = 8 := by
  rcases ho.2 with h | h
  ·exact h
  rw [List.length_eq_zero_iff.1 h] at hx;simp at hx
 subst h8;have hm := mem_flat_le (fun x : ByteArray × V => V.item x.1 x.2.bytes) f x hx;have hi : (V.item x.1 x.2.bytes).length = x.1.size + x.2.bytes.length + 1 := by rw [V.item];simp
 have hb2 : (f.map fun x : ByteArray × V => V.item x.1 x.2.bytes).flatten.length ≤ 1000000000 := by
  rw [if_neg (by decide),if_neg (by decide),if_neg (by decide),if_neg (by decide),if_pos rfl] at hb;simp only [List.length_cons] at hb;omega
 omega
theorem good_sml {v : V} (h : v.good = 0) : v.sml := formed_sml v (V.good_formed h).1 (by have := (V.good_formed h).2;omega)
theorem vpath_bad (v : V) (s : ByteArray) (c : Cv) (w : World) (hT : Tabs w) (hcount : v.count ≤ 20000) (hv : In w v c) (hgd : v.good ≠ 0) :
 Calls Tryz.prog 21 #[c.agg,.string s] w (StepC w (pathV v s)) := by
 have hg0 := ((Grow.refl w).alloc (.cells c.cells 27)).alloc (.cells Cv.zero.cells 27);have HG0 := hide hg0;have HB4 := hide (Blk.new' (w := w.alloc (.cells c.cells 27)) (g := w.heap.size + 1) (by simp) 27 Cv.zero.cells);have HGo := hide (good_any v _ c hcount (hT.grow hg0) (hv.grow hg0));clear hg0 hT hcount hv;rw [pathV];rw [if_neg hgd];obtain ⟨g,hg⟩ : ∃ g,v.good = g := ⟨_,rfl⟩;rw [hg] at hgd HGo;have hgz : (g == 0) = false := by simpa using hgd
 clear hgd hg;go_enter Tryz.func21,Tryz.ntmps21;go_wp2_with fail;refine HGo.out.mono ?_;rintro e w1 ⟨rfl,hg⟩;have HG1 := hide (HG0.out.trans hg);have HB41 := hide (HB4.out.grow hg);have hc4 := HB41.out.cell;have hlt4 := HB41.out.lt;have hz4 := HB41.out.frozen;clear hg;go_wp2_with fail;refine bodyPost_ret (step_res rfl rfl rfl Cv.zero (set5_blk (c := Cv.zero) HB41.out)) rfl (StepC.no rfl (HG1.out.set5v (Nat.le_succ _) Cv.zero))
theorem vpath_good (v : V) (s : ByteArray) (c : Cv) (w : World) (hT : Tabs w) (hM : Len1 w) (hcount : v.count ≤ 20000) (hs : s.size < 4294967281) (hv : In w v c) (hgd : v.good = 0) :
 Calls Tryz.prog 21 #[c.agg,.string s] w (StepC w (pathV v s)) := by
 have hg0 := ((Grow.refl w).alloc (.cells c.cells 27)).alloc (.cells Cv.zero.cells 27);have HG0 := hide hg0;have HB2 := hide ((Blk.new w 27 c.cells).alloc (.cells Cv.zero.cells 27));have HB4 := hide (Blk.new' (w := w.alloc (.cells c.cells 27)) (g := w.heap.size + 1) (by simp) 27 Cv.zero.cells);have HGo := hide (good_any v _ c hcount (hT.grow hg0) (hv.grow hg0));have HCp := hide (copy_any v (good_sml hgd));have HSm := hide (good_sml hgd);have HM := hide (hM.grow hg0);have HV := hide hv;have HS := hide hs;clear hg0 hv hT hM hcount hs;rw [pathV];rw [if_pos hgd];rw [hgd] at HGo;clear hgd;by_cases hse : s.toList = []
 ·rw [if_pos hse];go_enter Tryz.func21,Tryz.ntmps21;go_wp2_with fail;refine HGo.out.mono ?_;rintro e w1 ⟨rfl,hg⟩;have HG1 := hide (HG0.out.trans hg);have HB21 := hide (HB2.out.grow hg);have HB41 := hide (HB4.out.grow hg);have hc2 := HB21.out.cell;have hc4 := HB41.out.cell;have HV1 := hide (HV.out.grow HG1.out);clear hg;go_wp2_with fail;refine (HCp.out _ _ HV1.out).mono ?_;rintro e w2 ⟨x,rfl,hx,hg2⟩;have HX := hide hx;have HG2 := hide (HG1.out.trans hg2);have HL2 := hide (HB41.out.lt);have HB42 := hide (HB41.out.grow hg2);have hc42 := HB42.out.cell;have hlt42 := HB42.out.lt;have hz42 := HB42.out.frozen;clear hx hg2 hc2 hc4;go_wp2_with fail;refine bodyPost_ret (step_res rfl rfl rfl x (set5_from (c := x) HB42.out)) rfl (StepC.yes rfl (HG2.out.set5v (Nat.le_succ _) x) (HG1.out.size) (isv_set5 HX.out.atW HL2.out x))
 rw [if_neg hse];have hse2 : s.toList.isEmpty = false := by simpa using hse
 go_enter Tryz.func21,Tryz.ntmps21;go_wp2_with fail;refine HGo.out.mono ?_;rintro e w1 ⟨rfl,hg⟩;have HG1 := hide (HG0.out.trans hg);have HB21 := hide (HB2.out.grow hg);have HB41 := hide (HB4.out.grow hg);have hc2 := HB21.out.cell;have hc4 := HB41.out.cell;have HSp := hide (split_any s w1 (HM.out.grow hg) HS.out);clear hg;go_wp2_with fail;refine HSp.out.mono ?_;rintro e wS ⟨rfl,hwS⟩;have HLS := hide (show w1.heap.size < wS.heap.size by rw [hwS];simp);have HGS := hide (HG1.out.trans (show Grow w1 wS by rw [hwS];exact (Grow.refl w1).alloc _));have HB2S := hide (HB21.out.grow (show Grow w1 wS by rw [hwS];exact (Grow.refl w1).alloc _));have HB4S := hide (HB41.out.grow (show Grow w1 wS by rw [hwS];exact (Grow.refl w1).alloc _));have HNS := hide (show Blk wS w1.heap.size 9 ((pathN s).map Value.string).toArray by rw [hwS];exact Blk.new w1 _ _);have HL1 := hide (HB41.out.lt)
 clear hc2 hc4 hwS;have hnl : (pathN s).length ≤ 4294967282 := by
  have := Lib.countB_le dotB (by decide) s.size s (Nat.le_refl _);have := HS.out;rw [pathN_length];omega
 obtain ⟨ns,hns⟩ : ∃ ns,pathN s = ns := ⟨_,rfl⟩;rw [hns] at HNS hnl ⊢;obtain ⟨nb,hnb⟩ : ∃ nb,w1.heap.size = nb := ⟨_,rfl⟩;rw [hnb] at HNS HLS HL1 ⊢;have HNE := hide hns;clear hns hnb;go_wp2_with fail;go_loopg [7,8,20] (ns.length + 1) (fun gk x y i wr => ∃ (j : Nat) (u : V) (cu : Cv),j ≤ ns.length ∧ gk + j = ns.length + 1 ∧ i = .int .i64 j ∧ pathL v ns = pathL u (ns.drop j) ∧ u.sml ∧ In w u cu ∧ Grow w wr ∧
  Blk wr w.heap.size 27 cu.cells ∧ Blk wr (w.heap.size + 1) 27 Cv.zero.cells ∧ Blk wr nb 9 (ns.map Value.string).toArray)
 case atStart => exact ⟨0,v,c,by omega,by omega,rfl,rfl,HSm.out,HV.out,HGS.out,HB2S.out,HB4S.out,HNS.out⟩
 case round =>
  obtain ⟨j,u,cu,hj,hgk,rfl,hp,hus,hu,hw,h2,h4,hN⟩ := hrel;have HP := hide hp;have HUS := hide hus;have HU := hide hu;have HW := hide hw;have H2 := hide h2;have H4 := hide h4;have HN := hide hN;have hc2 := h2.cell;have hc4 := h4.cell;have hcn := hN.cell;obtain ⟨gk',rfl⟩ := gk_ gk (by omega);clear hp hus hu hw h2 h4 hN;by_cases hlt : j < ns.length
  ·have hlt2 := HN.out.lt;go_wp2_with fail;refine (step_any u ns[j] cu w wr HW.out HU.out).mono ?_;rintro e w2 ⟨hg2,x,t,u2,rfl,hx,hh⟩;have HX := hide hx;have HG2 := hide (HW.out.trans hg2);have H22 := hide (H2.out.grow hg2);have H42 := hide (H4.out.grow hg2);have HN2 := hide (HN.out.grow hg2);have hcb := H22.out.cell;have hltb := H22.out.lt;have hzb := H22.out.frozen;clear hg2 hc2 hc4 hcn hx;rcases hh with ⟨hy,rfl⟩ | ⟨hn,rfl,-,-⟩
   ·have HY := hide hy;clear hy;go_wp2_with fail;go_roundg gk'
    case measure => omega
    case rel =>
     refine ⟨j + 1,u2,x,by omega,by omega,by go_num,?_,stepV_sml HY.out HUS.out,HX.out,HG2.out.set5v (Nat.le_refl _) x,set5_from (c := x) H22.out,H42.out.set5o (by omega) x,HN2.out.set5o (by have := HL1.out;omega) x⟩;rw [HP.out,List.drop_eq_getElem_cons hlt];show (stepV u ns[j]).bind _ = _;rw [HY.out];rfl
   have HY := hide (show pathL v (pathN s) = none by
    rw [HNE.out,HP.out,List.drop_eq_getElem_cons hlt];show (stepV u ns[j]).bind _ = _;rw [hn];rfl)
   clear hn;have H4b := hide (H42.out.set5o (vb := w.heap.size) (by omega) x);have hcd := H42.out.cell;have hltd := H42.out.lt;have hzd := H42.out.frozen;go_wp2_with fail;refine bodyPost_ret (step_res rfl rfl rfl Cv.zero (set5_blk (c := Cv.zero) H4b.out)) rfl (StepC.no HY.out ((HG2.out.set5v (Nat.le_refl _) x).set5v (Nat.le_succ _) Cv.zero))
  obtain rfl : j = ns.length := by omega
  go_wp2_with fail;refine (copy_any u HUS.out _ _ (HU.out.grow HW.out)).mono ?_;rintro e w2 ⟨x,rfl,hx,hg2⟩;have HX := hide hx;have HG2 := hide (HW.out.trans hg2);have HL2 := hide (H4.out.lt);have HB42 := hide (H4.out.grow hg2);have hc42 := HB42.out.cell;have hlt42 := HB42.out.lt;have hz42 := HB42.out.frozen;clear hx hg2 hc2 hc4 hcn;have HY := hide (show pathL v (pathN s) = some u by
   rw [HNE.out,HP.out,List.drop_length];rfl)
  go_wp2_with fail;refine bodyPost_ret (step_res rfl rfl rfl x (set5_from (c := x) HB42.out)) rfl (StepC.yes HY.out (HG2.out.set5v (Nat.le_succ _) x) (HW.out.size) (isv_set5 HX.out.atW HL2.out x))
theorem vpath_any (v : V) (s : ByteArray) (c : Cv) (w : World) (hT : Tabs w) (hM : Len1 w) (hcount : v.count ≤ 20000) (hs : s.size < 4294967281) (hv : In w v c) :
 Calls Tryz.prog 21 #[c.agg,.string s] w (StepC w (pathV v s)) := by
 by_cases hgd : v.good = 0
 ·exact vpath_good v s c w hT hM hcount hs hv hgd
 exact vpath_bad v s c w hT hcount hv hgd
end
section
open Go.RowKit
theorem stepV_count {v u : V} {s : ByteArray} (h : stepV v s = some u) : u.count ≤ v.count := by
 obtain ⟨k,n,b,l,f⟩ := v;rw [V.count_mk];by_cases h7 : k = 7
 ·subst h7;rw [stepV_list] at h;split at h
  ·have hm : u.count ∈ l.map V.count := List.mem_map.2 ⟨u,List.mem_of_getElem? h,rfl⟩;have := mem_le_sum hm;omega
  cases h
 rw [stepV_doc h7,Option.map_eq_some_iff] at h;obtain ⟨⟨t,x⟩,h1,rfl⟩ := h;have hm : x.count ∈ f.map fun x => x.2.count := List.mem_map.2 ⟨(t,x),List.mem_of_find?_eq_some h1,rfl⟩
 have := mem_le_sum hm;show x.count ≤ _;omega
theorem pathL_count : ∀ {l : List ByteArray} {v u : V},pathL v l = some u → u.count ≤ v.count
 | [],v,u,h => by rw [pathL] at h;injection h with h;rw [h];exact Nat.le_refl _
 | s :: r,v,u,h => by
  rw [pathL,Option.bind_eq_some_iff] at h;obtain ⟨x,h1,h2⟩ := h;exact Nat.le_trans (pathL_count h2) (stepV_count h1)
theorem pathV_count {v u : V} {s : ByteArray} (h : pathV v s = some u) : u.count ≤ v.count := by
 unfold pathV at h;split at h
 ·split at h
  ·injection h with h;rw [h];exact Nat.le_refl _
  exact pathL_count h
 cases h
def entryP (path : ByteArray) (v : V) : List UInt8 × Bool × Int :=
 if (keyP v).2 ≠ 0 then ([],false,(keyP v).2) else match pathV v path with
  | none => ([],false,0)
  | some u => if (allK [u,(idP v).getD V.zero] [false,false]).2 ≠ 0 then ([],false,(allK [u,(idP v).getD V.zero] [false,false]).2)
   else ((allK [u,(idP v).getD V.zero] [false,false]).1,true,0)
def EntC (w : World) (p : List UInt8 × Bool × Int) (e : Ending) (w' : World) : Prop :=
 ∃ base A c,e = .returned (.tuple #[.slice A p.1.length c,.bool p.2.1,.int .i64 p.2.2]) ∧ w.heap.size ≤ base ∧ Row w' base (.slice A p.1.length c) p.1.length p.1 ∧ Grow w w'
theorem EntC.bad {w w' : World} {e : Int} {t : Bool} (h : Grow w w') : EntC w ([],t,e) (.returned (.tuple #[.slice none 0 0,.bool t,.int .i64 e])) w' :=
 ⟨w.heap.size,none,0,rfl,Nat.le_refl _,World.ownsRow_nil _ _ _ _,h⟩
theorem keyP_id {v : V} (h : (keyP v).2 = 0) : ∃ i,idP v = some i ∧ v.good = 0 ∧ (ofK i).2 = 0 := by
 unfold keyP at h;split at h
 ·rename_i hg;exact absurd h hg
 rename_i hg;split at h
 ·cases h
 cases hi : idP v with
 | none => rw [hi] at h;cases h
 | some i => rw [hi] at h;exact ⟨i,rfl,by simpa using hg,h⟩
theorem boolsO2 (w : World) (s t : Bool) : InBo (w.alloc (.cells #[.bool s,.bool t] 4)) (some ⟨w.heap.size,0,none⟩) [s,t] := by
 refine ⟨rfl,fun _ => ⟨w.heap.size,0,rfl,fun j u hu => ?_⟩⟩;have hn := Blk.new w 4 #[.bool s,.bool t];rcases j with _ | _ | j
 ·cases hu;exact ⟨hn.cell 0,Nat.zero_le _,hn.lt⟩
 ·cases hu;exact ⟨hn.cell 1,Nat.zero_le _,hn.lt⟩
 simp at hu
abbrev Ix.agg (x : Ix) : Value := .agg x.cells
theorem pentry_any (x : Ix) (v : V) (c : Cv) (w : World) (hx : x.path.size < 4294967281) (hcount : v.count ≤ 20000) (hT : Tabs w) (hM : Len1 w) (hv : In w v c) : Calls Tryz.prog 28 #[x.agg,c.agg] w (EntC w (entryP x.path v)) := by
 have HG0 := hide (((Grow.refl w).alloc (.cells x.cells 64)).alloc (.cells c.cells 27));have HX0 := hide ((Blk.new w 64 x.cells).alloc (.cells c.cells 27));have HB0 := hide (Blk.new' (w := w.alloc (.cells x.cells 64)) (g := w.heap.size + 1) (by simp) 27 c.cells);have hcell := HB0.out.cell;have HV := hide hv;have HT := hide hT;have HM := hide hM;have HKEY := hide (pkey_any v c _ hcount (hT.grow HG0.out) (hv.grow HG0.out));obtain ⟨⟨kb,ke⟩,hke⟩ : ∃ r,keyP v = r := ⟨_,rfl⟩;rw [hke] at HKEY;have HKE := hide hke;clear hT hv hM hke;go_enter Tryz.func28,Tryz.ntmps28;go_wp2_with fail;refine HKEY.out.mono ?_;rintro e w1 ⟨base,Ak,ck,rfl,hbk,hrk,hg1⟩;dsimp only at hrk ⊢;have HB1 := hide (HB0.out.grow hg1);have HX1 := hide (HX0.out.grow hg1);have hc1 := HB1.out.cell;have hl1 := HB1.out.lt;have hx1 := HX1.out.cell;have hlx1 := HX1.out.lt;have HG1 := hide (HG0.out.trans hg1)
 clear hg1 hrk hbk hcell HKEY;by_cases h0 : ke = 0
 ·subst h0;have HPATH := hide (vpath_any v x.path c w1 (HT.out.grow HG1.out) (HM.out.grow HG1.out) hcount hx (HV.out.grow HG1.out));go_wp2_with fail;refine HPATH.out.mono ?_;rintro e w2 ⟨hg2,cu,t,u,rfl,hiu,hres⟩;have HG2 := hide (HG1.out.trans hg2);have HB2 := hide (HB1.out.grow hg2);have hc2 := HB2.out.cell;have hl2 := HB2.out.lt;have HIU := hide (show In w2 u cu from IsV.mono (fun p y h => ⟨h.1,Nat.zero_le _,h.2.2⟩) u cu hiu);have HU2 := hide (Blk.new w2 27 cu.cells);clear hiu hc1 hl1 hx1 hlx1 HPATH;have HG2' := hide (HG2.out.alloc (.cells cu.cells 27));have HB2' := hide (HB2.out.alloc (.cells cu.cells 27));have hcb := HB2'.out.cell;have hcu := HU2.out.cell;rcases hres with ⟨hp,rfl⟩ | ⟨hp,rfl,rfl,rfl⟩
  ·have HP := hide hp;obtain ⟨i,hi⟩ : ∃ i,idP v = some i := (keyP_id (v := v) (by rw [HKE.out])).imp fun i h => h.1
   have HI := hide hi;have HID := hide (fun w2 (h : Grow w w2) => id_any v c w w2 h HV.out);rw [hi] at HID;clear hi hp hg2;go_wp2_with fail;refine (HID.out _ HG2'.out).mono ?_;rintro e w3 ⟨hg3,ci,t3,u3,rfl,hi3,hres3⟩;obtain ⟨hu3,rfl⟩ : some i = some u3 ∧ t3 = true := by
    rcases hres3 with h | ⟨h,-⟩
    ·exact h
    cases h
   injection hu3 with hu3;subst hu3;clear hres3 HID;have HG3 := hide (HG2'.out.trans hg3);have HU3 := hide (HU2.out.grow hg3);have hcu3 := HU3.out.cell;have hlu3 := HU3.out.lt;have HIU3 := hide (HIU.out.grow (((Grow.refl w2).alloc (.cells cu.cells 27)).trans hg3));have HI3 := hide (hi3.grow HG3.out);have HGI := hide ((Grow.refl w3).alloc (.cells ci.cells 27));have HI4 := hide (Blk.new w3 27 ci.cells);have hci4 := HI4.out.cell;have HU4 := hide (HU3.out.alloc (.cells ci.cells 27));have hcu4 := HU4.out.cell;clear hcb hcu hg3 hi3 hc2 hl2;have HR := hide (InL.row2 (HIU3.out.grow HGI.out) (HI3.out.grow HGI.out));have hR := HI4.out.lt;have hBo := boolsO2 ((w3.alloc (.cells ci.cells 27)).alloc (.cells (cells2 cu ci) 27)) false false;have hgB := ((Grow.refl ((w3.alloc (.cells ci.cells 27)))).alloc (.cells (cells2 cu ci) 27))
   have hgC := (hgB.trans (Grow.refl _)).alloc (.cells #[.bool false,.bool false] 4);have hmu := V.mild_of (Nat.le_trans (pathV_count HP.out) hcount) HIU3.out;have hmi := V.mild_of (Nat.le_trans (idP_count HI.out) hcount) HI3.out;have hR2 := HR.out.grow ((Grow.refl _).alloc (.cells #[.bool false,.bool false] 4));have hal := all_anyM [u,i] [false,false] _ _ 2 2 _ (fun y hy => by
    rcases List.mem_cons.1 hy with rfl | hy
    ·exact hmu
    rw [List.mem_singleton] at hy;subst hy;exact hmi) (HT.out.grow ((HG3.out.trans HGI.out).trans hgC)) hR2 hBo (by simp)
   simp only [World.size_alloc] at hal;obtain ⟨⟨ab,ae⟩,hae⟩ : ∃ r,allK [u,i] [false,false] = r := ⟨_,rfl⟩;rw [hae] at hal;have HAL := hide hal;have HAE := hide hae;have HG4 := hide ((HG3.out.trans HGI.out).trans hgC);clear hal hae hR2 hBo hgB hgC hmu hmi HR;go_wp2_with fail;refine HAL.out.mono ?_;rintro e w4 ⟨base,A4,c4,rfl,hb4,hr4,hg4⟩;dsimp only at hr4 ⊢;have HG5 := hide (HG4.out.trans hg4);have HB4 := hide (Nat.le_trans HG4.out.size hb4);have HR4 := hide hr4;clear hg4 hb4 hr4;by_cases he : ae = 0
   ·subst he;go_wp2_with fail;go_ret3;rw [show entryP x.path v = (ab,true,0) by unfold entryP;rw [HKE.out,if_neg (by simp),HP.out];simp only [HI.out,Option.getD_some,HAE.out];rfl];exact ⟨base,A4,c4,rfl,HB4.out,HR4.out,HG5.out⟩
   go_wp2_with fail;go_ret3;rw [show entryP x.path v = ([],false,ae) by unfold entryP;rw [HKE.out,if_neg (by simp),HP.out];simp only [HI.out,Option.getD_some,HAE.out];rw [if_pos he]];exact EntC.bad HG5.out
  go_wp2_with fail;go_ret3;rw [show entryP x.path v = ([],false,0) by unfold entryP;rw [HKE.out,if_neg (by simp),hp]];exact EntC.bad HG2'.out
 go_wp2_with fail;go_ret3;rw [show entryP x.path v = ([],false,ke) by unfold entryP;rw [HKE.out,if_pos h0]];exact EntC.bad HG1.out
end
section
open Go.RowKit
def entOf (path : ByteArray) (d : V) : Option (List UInt8 × Int × V) :=
 if (entryP path d).2.1 then some ((entryP path d).1,((entryP path d).1.length : Int) - ((ofK ((idP d).getD V.zero)).1.length : Int),d) else none
def entsE (path : ByteArray) : List V → Int
 | [] => 0
 | d :: r => if (entryP path d).2.2 ≠ 0 then (entryP path d).2.2 else entsE path r
def entsL (path : ByteArray) (docs : List V) : List (List UInt8 × Int × V) := docs.filterMap (entOf path)
theorem entsE_zero {path : ByteArray} : ∀ {docs : List V},(∀ j (h : j < docs.length),(entryP path docs[j]).2.2 = 0) → entsE path docs = 0
 | [],h => rfl
 | d :: r,h => by
  rw [entsE,if_neg (by have := h 0 (by simp);simpa using this)];exact entsE_zero fun j hj => by have := h (j + 1) (by simpa using hj);simpa using this
theorem entsE_first {path : ByteArray} : ∀ {docs : List V} {j : Nat} (hj : j < docs.length),(∀ i (h : i < docs.length),i < j → (entryP path docs[i]).2.2 = 0) → (entryP path docs[j]).2.2 ≠ 0 → entsE path docs = (entryP path docs[j]).2.2
 | d :: r,0,hj,h,he => by rw [entsE,if_pos (by simpa using he)];rfl
 | d :: r,j + 1,hj,h,he => by
  rw [entsE,if_neg (by have := h 0 (by simp) (by omega);simpa using this)];exact entsE_first (docs := r) (j := j) (by simpa using hj) (fun i hi hij => by have := h (i + 1) (by simpa using hi) (by omega);simpa using this) (by simpa using he)
theorem entsL_snoc {path : ByteArray} {docs : List V} {j : Nat} (hj : j < docs.length) : entsL path (docs.take (j + 1)) = entsL path (docs.take j) ++ (entOf path docs[j]).toList := by
 unfold entsL;rw [List.take_add_one,List.getElem?_eq_getElem hj,List.filterMap_append]
 cases h : entOf path docs[j] <;> simp [h]
end
section
open Go.RowKit
theorem atc_any (c : Cc) (s : ByteArray) (w : World) : Calls Tryz.prog 163 #[.agg c.cells,.string s] w fun e w' => e = .returned (.int .i64 (Lib.compareBytes c.nm.data.toList s.data.toList)) ∧ Grow w w' := by
 have HS := hide (fun w => scmp_any c.nm s w);have HG := hide ((Grow.refl w).alloc (.cells c.cells 48));go_enter Tryz.func163,Tryz.ntmps163;go_wp2_with (go_at_call 97;refine (HS.out _).mono ?_;rintro e w' ⟨rfl,rfl⟩);go_ret;exact ⟨rfl,HG.out⟩
theorem ixc_any (c : Ix) (s : ByteArray) (w : World) : Calls Tryz.prog 171 #[.agg c.cells,.string s] w fun e w' => e = .returned (.int .i64 (Lib.compareBytes c.name.data.toList s.data.toList)) ∧ Grow w w' := by
 have HS := hide (fun w => scmp_any c.name s w);have HG := hide ((Grow.refl w).alloc (.cells c.cells 64));go_enter Tryz.func171,Tryz.ntmps171;go_wp2_with (go_at_call 97;refine (HS.out _).mono ?_;rintro e w' ⟨rfl,rfl⟩);go_ret;exact ⟨rfl,HG.out⟩
theorem docc_any (v : V) (c : Cv) (k : List UInt8) (K : Option Addr) (kc : Nat) (w : World) (hcount : v.count ≤ 20000) (hT : Tabs w) (hv : In w v c) (hk : InB w K k) : Calls Tryz.prog 167 #[c.agg,.slice K k.length kc] w fun e w' => e = .returned (.int .i64 (Lib.compareBytes (keyP v).1 k)) ∧ Grow w w' := by
 have HG0 := hide ((Grow.refl w).alloc (.cells c.cells 27));have hcell := (Blk.new w 27 c.cells).cell;have HKEY := hide (pkey_any v c _ hcount (hT.grow HG0.out) (hv.grow HG0.out));have HK := hide hk;obtain ⟨⟨kb,ke⟩,hke⟩ : ∃ r,keyP v = r := ⟨_,rfl⟩;rw [hke] at HKEY ⊢;clear hT hv hk hke;go_enter Tryz.func167,Tryz.ntmps167;go_wp2_with fail;refine HKEY.out.mono ?_;rintro e w1 ⟨base,A1,c1,rfl,hb1,hr1,hg1⟩;dsimp only at hr1 ⊢;have HG1 := hide (HG0.out.trans hg1);have HC := hide (balg_anyV kb k A1 K c1 kc w1 hr1.reads.1 (HK.out.grow HG1.out));clear hr1 hg1 hb1 hcell;go_wp2_with fail;refine HC.out.mono ?_;rintro e w2 ⟨rfl,rfl⟩;go_wp2_with fail;go_ret;exact ⟨rfl,HG1.out⟩
def nameCf (names : Nat → ByteArray) (s : ByteArray) (j : Nat) : Int := Lib.compareBytes (names j).data.toList s.data.toList
end
section
open Go.RowKit
def docCf (docs : List V) (k : List UInt8) (j : Nat) : Int := Lib.compareBytes (keyP (docs.getD j V.zero)).1 k
theorem InL.rows {w : World} {A : Option Addr} {cap : Nat} {docs : List V} (h : InL w A cap docs) : ∃ el : Nat → Cv,RowR w A 5 docs.length (fun j => (el j).cells) ∧ ∀ j (hj : j < docs.length),In w docs[j] (el j) := by
 have hx : ∀ j,∃ x : Cv,∀ hj : j < docs.length,∃ bk o,A = some ⟨bk,o,none⟩ ∧ bk < w.heap.size ∧ (∀ i v,x.cells[i]? = some v → w.cell? ⟨bk,o + j * 5 + i,none⟩ = some v) ∧ In w docs[j] x := fun j => by
  by_cases hj : j < docs.length
  ·obtain ⟨bk,o,x,ha,hb,e0,e1,e2,e3,e4,hv⟩ := InU.elemL h j hj;refine ⟨x,fun _ => ⟨bk,o,ha,hb,fun i v hi => ?_,hv⟩⟩;rcases i with _ | _ | _ | _ | _ | i
   ·cases hi;exact e0
   ·cases hi;exact e1
   ·cases hi;exact e2
   ·cases hi;exact e3
   ·cases hi;exact e4
   simp at hi
  exact ⟨Cv.zero,fun h => absurd h hj⟩
 refine ⟨fun j => Classical.choose (hx j),fun j hj => ?_,fun j hj => ?_⟩
 ·obtain ⟨bk,o,ha,hb,hc,-⟩ := Classical.choose_spec (hx j) hj;exact ⟨bk,o,ha,hb,hc⟩
 obtain ⟨bk,o,ha,hb,hc,hv⟩ := Classical.choose_spec (hx j) hj;exact hv
theorem doc_any (docs : List V) (pb po cap : Nat) (A : Option Addr) (k : List UInt8) (K : Option Addr) (kc : Nat) (w : World) (hcount : ∀ v ∈ docs,v.count ≤ 20000) (hlen : docs.length ≤ 140737488355328) (hT : Tabs w) (hc : w.cell? ⟨pb,po + 1,none⟩ = some (.slice A docs.length cap)) (hpb : pb < w.heap.size) (hd : InL w A cap docs) (hk : InB w K k) :
 Calls Tryz.prog 120 #[.pointer (some ⟨pb,po,none⟩),.slice K k.length kc] w fun e w' => e = .returned (.tuple #[.int .i64 (bsN (docCf docs k) docs.length : Nat),.bool (bsF (docCf docs k) docs.length)]) ∧ Grow w w' := by
 obtain ⟨el,hrow,hin⟩ := hd.rows;have HBS := hide (bsV_any docs.length (docCf docs k) el A cap (.slice K k.length kc) w hlen hrow (fun j hj w' hg => by
  have h := docc_any docs[j] (el j) k K kc w' (hcount _ (List.getElem_mem hj)) (hT.grow hg) ((hin j hj).grow hg) (hk.grow hg);unfold docCf;rw [List.getD_eq_getElem?_getD,List.getElem?_eq_getElem hj,Option.getD_some];exact h))
 clear hrow hin hd hk hT hcount;go_enter Tryz.func120,Tryz.ntmps120;go_wp2_with fail;refine HBS.out.mono ?_;rintro e w2 ⟨rfl,hg⟩;have HG := hide hg;clear hg;go_wp2_with fail;go_ret2;exact ⟨rfl,HG.out⟩
end
section
open Go.RowKit
structure Co where
 name : ByteArray
 docs : List V
 ixs : List Ix
def plN (names : List ByteArray) (s : ByteArray) : Nat := bsN (nameCf (fun j => names.getD j ⟨#[]⟩) s) names.length
def plF (names : List ByteArray) (s : ByteArray) : Bool := bsF (nameCf (fun j => names.getD j ⟨#[]⟩) s) names.length
def docN (docs : List V) (k : List UInt8) : Nat := bsN (docCf docs k) docs.length
def docF (docs : List V) (k : List UInt8) : Bool := bsF (docCf docs k) docs.length
abbrev EN := List UInt8 × Int × V
def insE (x : EN) : List EN → List EN
 | [] => [x]
 | y :: r => if ltB y.1 x.1 then y :: insE x r else x :: y :: r
def sortE (l : List EN) : List EN := l.foldl (fun a x => insE x a) []
def entP (path : ByteArray) (docs : List V) : List EN := if entsE path docs = 0 then sortE (entsL path docs) else []
def twiceP : List EN → Bool
 | a :: b :: r => decide (a.1.take a.2.1.toNat = b.1.take b.2.1.toNat) || twiceP (b :: r)
 | _ => false
def ixsE (d : V) : List Ix → Int
 | [] => 0
 | x :: r => if (entryP x.path d).2.2 ≠ 0 then (entryP x.path d).2.2 else ixsE d r
def clashP (docs : List V) : List Ix → Bool
 | [] => false
 | x :: r => (x.uniq && twiceP (entP x.path docs)) || clashP docs r
abbrev Res := Except Int (List Co × Int × List V)
abbrev cnm (st : List Co) : List ByteArray := st.map Co.name
abbrev xnm (c : Co) : List ByteArray := c.ixs.map Ix.name
def coAt (st : List Co) (s : ByteArray) : Co := st.getD (plN (cnm st) s) ⟨⟨#[]⟩,[],[]⟩
def insAt {α : Type} (l : List α) (i : Nat) (x : α) : List α := l.take i ++ x :: l.drop i
def delAt {α : Type} (l : List α) (i : Nat) : List α := l.take i ++ l.drop (i + 1)
def makeP (st : List Co) (q : Rq) : Res :=
 if V.name q.coll = false then .error 4 else if plF (cnm st) q.coll = true then .error 6 else if 16 ≤ st.length then .error 19 else
 .ok (insAt st (plN (cnm st) q.coll) ⟨q.coll,[],[]⟩,0,[])
def dropP (st : List Co) (q : Rq) : Res :=
 if plF (cnm st) q.coll = false then .error 5 else .ok (delAt st (plN (cnm st) q.coll),0,[])
def putDocs (docs : List V) (d : V) : List V :=
 if docF docs (keyP d).1 = true then docs.set (docN docs (keyP d).1) d else insAt docs (docN docs (keyP d).1) d
def putP (st : List Co) (q : Rq) : Res :=
 if plF (cnm st) q.coll = false then .error 5 else if (keyP q.doc).2 ≠ 0 then .error (keyP q.doc).2 else
 if ixsE q.doc (coAt st q.coll).ixs ≠ 0 then .error (ixsE q.doc (coAt st q.coll).ixs) else
 if docF (coAt st q.coll).docs (keyP q.doc).1 = true ∧ q.do_ ≠ 3 then .error 6 else
 if clashP (putDocs (coAt st q.coll).docs q.doc) (coAt st q.coll).ixs = true then .error 13 else
 .ok (st.set (plN (cnm st) q.coll) ⟨(coAt st q.coll).name,putDocs (coAt st q.coll).docs q.doc,(coAt st q.coll).ixs⟩,
  if docF (coAt st q.coll).docs (keyP q.doc).1 = true then 1 else 0,[])
def takeP (st : List Co) (q : Rq) : Res :=
 if plF (cnm st) q.coll = false then .error 5 else if (ofK q.key).2 ≠ 0 then .error (ofK q.key).2 else
 if docF (coAt st q.coll).docs (ofK q.key).1 = false then .error 17 else
 .ok (st.set (plN (cnm st) q.coll) ⟨(coAt st q.coll).name,delAt (coAt st q.coll).docs (docN (coAt st q.coll).docs (ofK q.key).1),(coAt st q.coll).ixs⟩,
  0,[(coAt st q.coll).docs.getD (docN (coAt st q.coll).docs (ofK q.key).1) V.zero])
def getP (st : List Co) (q : Rq) : Res :=
 if plF (cnm st) q.coll = false then .error 5 else if (ofK q.key).2 ≠ 0 then .error (ofK q.key).2 else
 if docF (coAt st q.coll).docs (ofK q.key).1 = false then .error 17 else
 .ok (st,0,[(coAt st q.coll).docs.getD (docN (coAt st q.coll).docs (ofK q.key).1) V.zero])
def addIxP (st : List Co) (q : Rq) : Res :=
 if V.name q.index = false then .error 4 else if 200 < q.path.size then .error 2 else if plF (cnm st) q.coll = false then .error 5 else
 if plF (xnm (coAt st q.coll)) q.index = true then .error 6 else if 8 ≤ (coAt st q.coll).ixs.length then .error 19 else
 if entsE q.path (coAt st q.coll).docs ≠ 0 then .error (entsE q.path (coAt st q.coll).docs) else
 if q.unique = true ∧ twiceP (entP q.path (coAt st q.coll).docs) = true then .error 13 else
 .ok (st.set (plN (cnm st) q.coll) ⟨(coAt st q.coll).name,(coAt st q.coll).docs,insAt (coAt st q.coll).ixs (plN (xnm (coAt st q.coll)) q.index) ⟨q.index,q.path,q.unique⟩⟩,0,[])
def unIxP (st : List Co) (q : Rq) : Res :=
 if plF (cnm st) q.coll = false then .error 5 else if plF (xnm (coAt st q.coll)) q.index = false then .error 5 else
 .ok (st.set (plN (cnm st) q.coll) ⟨(coAt st q.coll).name,(coAt st q.coll).docs,delAt (coAt st q.coll).ixs (plN (xnm (coAt st q.coll)) q.index)⟩,0,[])
def countP (st : List Co) (q : Rq) : Res :=
 if plF (cnm st) q.coll = false then .error 5 else .ok (st,(coAt st q.coll).docs.length,[])
def bndE (v : V) : Int := if v.k = 0 then 0 else v.good
def findV (q : Rq) (path : ByteArray) (d : V) : V := if q.index = ⟨#[]⟩ then (idP d).getD V.zero else (pathV d path).getD V.zero
def findX (c : Co) (q : Rq) : ByteArray := (c.ixs.getD (plN (xnm c) q.index) ⟨⟨#[]⟩,⟨#[]⟩,false⟩).path
def findDocs (c : Co) (q : Rq) : List V := if q.index = ⟨#[]⟩ then c.docs else (entP (findX c q) c.docs).map fun x => x.2.2
noncomputable def findHits (c : Co) (q : Rq) : List V := ((findDocs c q).filter fun d => withinP (findV q (findX c q) d) q.low q.high).take q.n.toNat
noncomputable def findP (st : List Co) (q : Rq) : Res :=
 if plF (cnm st) q.coll = false then .error 5 else if plF (xnm (coAt st q.coll)) q.index = false ∧ q.index ≠ ⟨#[]⟩ then .error 5 else
 if q.n < 1 ∨ 64 < q.n then .error 1 else if bndE q.low ≠ 0 then .error (bndE q.low) else if bndE q.high ≠ 0 then .error (bndE q.high) else
 .ok (st,((findHits (coAt st q.coll) q).length : Int),findHits (coAt st q.coll) q)
noncomputable def actP (st : List Co) (q : Rq) : Res :=
 if q.do_ = 1 then makeP st q else if q.do_ = 2 then dropP st q else if q.do_ = 3 then putP st q else if q.do_ = 4 then putP st q else if q.do_ = 5 then takeP st q else
 if q.do_ = 6 then getP st q else if q.do_ = 7 then addIxP st q else if q.do_ = 8 then unIxP st q else if q.do_ = 9 then findP st q else if q.do_ = 10 then countP st q else .error 1
noncomputable def doP (st : List Co) (q : Rq) : List Co × Rp :=
 match actP st q with
 | .error e => (st,⟨e,0,[],0⟩)
 | .ok (st',n,docs) => (st',⟨0,n,docs,0⟩)
end
section
open Go.RowKit Go.Shelf
theorem cmpB_vals : ∀ (a b : List UInt8),Lib.compareBytes a b = -1 ∨ Lib.compareBytes a b = 0 ∨ Lib.compareBytes a b = 1 := fun a b => by
 fun_induction Lib.compareBytes a b <;> simp_all
theorem cmpB_trans : ∀ (a b c : List UInt8),Lib.compareBytes a b ≤ 0 → Lib.compareBytes b c ≤ 0 → Lib.compareBytes a c ≤ 0 ∧ (Lib.compareBytes a b < 0 → Lib.compareBytes a c < 0)
 | [],[],c,_,h => ⟨h,fun h => by simp [Lib.compareBytes] at h⟩
 | [],_ :: _,[],_,h => by simp [Lib.compareBytes] at h
 | [],_ :: _,_ :: _,_,_ => by simp [Lib.compareBytes]
 | _ :: _,[],_,h,_ => by simp [Lib.compareBytes] at h
 | _ :: _,_ :: _,[],_,h => by simp [Lib.compareBytes] at h
 | x :: a,y :: b,z :: c,h,k => by
  rw [Lib.compareBytes] at h k ⊢;simp only [UInt8.lt_iff_toNat_lt] at h k ⊢;rw [Lib.compareBytes];simp only [UInt8.lt_iff_toNat_lt];by_cases h1 : x.toNat < y.toNat
  ·by_cases k1 : y.toNat < z.toNat
   ·rw [if_pos (show x.toNat < z.toNat by omega)];exact ⟨by decide,fun _ => by decide⟩
   rw [if_neg k1] at k;by_cases k2 : z.toNat < y.toNat
   ·rw [if_pos k2] at k;exact absurd k (by decide)
   rw [if_pos (show x.toNat < z.toNat by omega)];exact ⟨by decide,fun _ => by decide⟩
  rw [if_neg h1] at h ⊢;by_cases h2 : y.toNat < x.toNat
  ·rw [if_pos h2] at h;exact absurd h (by decide)
  rw [if_neg h2] at h ⊢;by_cases k1 : y.toNat < z.toNat
  ·rw [if_pos (show x.toNat < z.toNat by omega)];exact ⟨by decide,fun _ => by decide⟩
  rw [if_neg k1] at k;by_cases k2 : z.toNat < y.toNat
  ·rw [if_pos k2] at k;exact absurd k (by decide)
  rw [if_neg k2] at k;rw [if_neg (show ¬ x.toNat < z.toNat by omega),if_neg (show ¬ z.toNat < x.toNat by omega)];exact cmpB_trans a b c h k
structure Fine (u : V) : Prop where
 formed : u.formed = true
 fit : u.fit
namespace V
theorem cmp_bytes {u v : V} (hu : Fine u) (hv : Fine v) : cmp u v = Lib.compareBytes u.key v.key := by
 rcases key_diff u v hu.formed hu.fit hv.formed hv.fit with ⟨rfl,h⟩ | h
 ·rw [h,cmpB_self]
 exact h.cmp.symm
theorem cmp_eq0 {u v : V} (hu : Fine u) (hv : Fine v) : cmp u v = 0 ↔ u = v := by
 rcases key_diff u v hu.formed hu.fit hv.formed hv.fit with ⟨rfl,h⟩ | h
 ·exact ⟨fun _ => rfl,fun _ => h⟩
 exact ⟨fun e => absurd e h.ne0,fun e => by subst e;exact h.irrefl.elim⟩
theorem cmp_swap {u v : V} (hu : Fine u) (hv : Fine v) : cmp v u = -(cmp u v) := by
 rcases key_diff u v hu.formed hu.fit hv.formed hv.fit with ⟨rfl,h⟩ | h
 ·rw [h];rfl
 rcases key_diff v u hv.formed hv.fit hu.formed hu.fit with ⟨rfl,h'⟩ | h'
 ·exact h.irrefl.elim
 exact h'.uniq h.swap
end V
namespace V
structure Keyed (v : V) : Prop extends Fine v where
 good : v.good = 0
 short : v.key.length ≤ 96
theorem Keyed.of {v : V} (h : (ofK v).2 = 0) (hf : v.fit) : Keyed v := by
 obtain ⟨h1,h2⟩ := ofK_good h;exact ⟨⟨(good_parts h1).1,hf⟩,h1,h2⟩
theorem Keyed.ofK {v : V} (h : Keyed v) : ofK v = (v.key,0) := by
 have := h.short;unfold Proofs.YtndjopkdbdcmdaaGreatDoor.ofK;rw [if_neg (by rw [h.good];simp),if_neg (by omega)]
def sgnC (t : Bool) (c : Int) : Int := if t = true then -c else c
theorem way_diff (t : Bool) {u v : V} (hu : Fine u) (hv : Fine v) : (u = v ∧ cmp u v = 0) ∨ Diff (sgnC t (cmp u v)) (flip t u.key) (flip t v.key) := by
 rcases key_diff u v hu.formed hu.fit hv.formed hv.fit with h | h
 ·exact .inl h
 right;unfold flip sgnC
 cases t
 ·exact h
 exact h.flip
theorem two_cmp (s t : Bool) {a b c d : V} (ha : Fine a) (hb : Fine b) (hc : Fine c) (hd : Fine d) :
 Lib.compareBytes (flip s a.key ++ flip t b.key) (flip s c.key ++ flip t d.key) = orC (sgnC s (cmp a c)) (sgnC t (cmp b d)) := by
 have h0 : ∀ s,sgnC s 0 = 0 := by intro s;cases s <;> rfl
 rcases way_diff s ha hc with ⟨rfl,h⟩ | h
 ·rw [h,h0,orC_0,cmpB_left];rcases way_diff t hb hd with ⟨rfl,h⟩ | h
  ·rw [h,h0,cmpB_self]
  exact h.cmp
 rw [orC_n _ h.ne0];exact (h.right _ _).cmp
end V
end
section
open Go.RowKit Go.Shelf
theorem stepV_formed {v u : V} {s : ByteArray} (h : stepV v s = some u) (hv : v.formed = true) : u.formed = true := by
 obtain ⟨k,n,b,l,f⟩ := v;rw [V.formed_mk] at hv;simp only [Bool.and_eq_true,List.all_eq_true] at hv;by_cases hk : k = 7
 ·subst hk;rw [stepV_list] at h;split at h
  ·exact hv.1.1.2 _ (List.mem_of_getElem? h)
  cases h
 rw [stepV_doc hk] at h;obtain ⟨x,hx,rfl⟩ := Option.map_eq_some_iff.1 h;exact (hv.1.2 _ (List.mem_of_find?_eq_some hx)).2
end
section
open Go.RowKit Go.ChangeShapes Go.ChangeAt Go.Shelf Go.WideShapes
theorem open_strB {H : Type} {enc : TypeId × Value → H} {W : World} {sp : Nat → Bool} {held : Bool} {base : Nat} {v : Value} {d : DataW H} {p : List MemPlace} (hok : Value.okWide Tryz.prog W .any base 9 v)
 (h : DataW.Trod enc Tryz.prog W 0 sp held 9 v d p) : ∃ s : ByteArray,v = .string s ∧ s.size + 1 = Rows.uptoBulk d := by
 obtain ⟨s,rfl⟩ := okWide_string under_string hok;obtain ⟨fuel,hf⟩ := h;obtain ⟨s',es,hys,_⟩ := DataW.trod_string under_string hf;refine ⟨s,rfl,?_⟩;have e1 : s = s' := by
  have h2 : ([Value.string s] : List Value) = [Value.string s'] := es;injection h2 with h2 _;injection h2
 have e2 := congrArg Prod.fst hys;dsimp only at e2;subst e1;rw [e2];simp [Rows.uptoBulk]
theorem laysSplit_len (W : World) (h : W.ShapedOpen Tryz.prog) : Len1 W := by
 obtain ⟨m,hm⟩ := Tryz.laysSplit.s1_3 W h;exact ⟨m,hm,World.block_lt_of_cell? _ _ hm⟩
end
end Go.Proofs.YtndjopkdbdcmdaaGreatDoor
