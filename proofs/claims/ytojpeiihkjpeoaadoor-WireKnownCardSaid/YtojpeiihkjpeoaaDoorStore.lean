/- Laws of the walk: a whole struct out of a block, into a block. No program in sight. -/
import Derived.Test.YtojpeiihkjpeoaaDoorRead5
import Derived.Laws.Rows
import Derived.Deep.RegionHeld
import Derived.Deep.MidRow
import Derived.Laws.Tables
set_option linter.unusedVariables false
set_option linter.unusedSimpArgs false
namespace Go.Proofs.YtojpeiihkjpeoaaDoor
open Go.RowKit

section
variable {P : Program} {ops : Array Oper} {rest : List Oper} {a : Act} {w : World} {Q : Exit → Act → World → Prop}
/-- Guards: the next operation is a whole store, a whole load, of that type. -/
theorem at_store (ty : TypeId) {x y : Operand} {t : TypeId} {p : String} {af : Array Edge} (h : wpList P ops Q (⟨none, .store ty x y, t, p, af, none⟩ :: rest) a w) : wpList P ops Q (⟨none, .store ty x y, t, p, af, none⟩ :: rest) a w := h
theorem at_load (ty : TypeId) {d : Option Tmp} {x : Operand} {t : TypeId} {p : String} {af : Array Edge} (h : wpList P ops Q (⟨d, .load ty x, t, p, af, none⟩ :: rest) a w) : wpList P ops Q (⟨d, .load ty x, t, p, af, none⟩ :: rest) a w := h
theorem grown_setRow (w : World) (g : Nat) (cs : Array Value) : w.grownBy (w.setRow g cs) (some g) :=
  ⟨rfl, rfl, rfl, by simp [World.setRow], fun k _ hk => by
    have : ¬ g = k := fun e => hk (by rw [e])
    simp [World.setRow, Array.getElem?_modify, this]⟩
theorem Blk.setRow {w : World} {g : Nat} {t : TypeId} {cs : Array Value} (h : Blk w g t cs) (cs' : Array Value) : Blk (w.setRow g cs') g t cs' := by
  unfold Blk at h ⊢
  simp [World.setRow, Array.getElem?_modify, h]
theorem store_blk {ty t : TypeId} {x y : Operand} {p : String} {af : Array Edge} {g n : Nat} {cells old : Array Value} (hx : a.eval x = .pointer (some ⟨g, 0, none⟩)) (hy : a.eval y = .agg cells) (hB : Blk w g ty old) (hi : (P.info? ty).map (·.size) = some n)
    (hold : old.size = n) (hn : cells.size = n) (h1 : cells.all (·.oneCell') = true)
    (h : ∀ w', Blk w' g ty cells → w.grownBy w' (some g) → w'.heap.size = w.heap.size → wpList P ops Q rest a w') : wpList P ops Q (⟨none, .store ty x y, t, p, af, none⟩ :: rest) a w :=
  wpList_store_row rfl ty x y rfl g cells hx hy ty old hB (by rw [hn]; exact hi) (by omega) h1 (h _ (hB.setRow cells) (grown_setRow w g cells) (by simp [World.setRow]))
theorem load_blk {ty t : TypeId} {x : Operand} {d : Option Tmp} {p : String} {af : Array Edge} {g n : Nat} {cells : Array Value} {td : TypeDesc} (hu : P.underlying ty = some td) (hd : (match td with | .struct _ | .array _ _ => true | _ => false) = true) (hx : a.eval x = .pointer (some ⟨g, 0, none⟩)) (hB : Blk w g ty cells) (hi : (P.info? ty).map (·.size) = some n)
    (hn : cells.size = n) (h : wpList P ops Q rest (a.put d (.agg cells)) w) : wpList P ops Q (⟨d, .load ty x, t, p, af, none⟩ :: rest) a w :=
  wpList_load_row rfl ty x rfl g hx ty cells (0, 0) td hB hu hd (by rw [hn]; exact hi) h
/-- A cell array with a value's five cells at an offset. -/
def put5 (cs : Array Value) (o : Nat) (c : Cv) : Array Value := ((((cs.setIfInBounds o (.int .i64 c.k)).setIfInBounds (o + 1) (.int .u64 c.n)).setIfInBounds (o + 1 + 1) (.slice c.aB c.nB c.cB)).setIfInBounds (o + 1 + 1 + 1) (.slice c.aL c.nL c.cL)).setIfInBounds (o + 1 + 1 + 1 + 1) (.slice c.aF c.nF c.cF)
theorem Blk.set5 {w : World} {g : Nat} {t : TypeId} {cs : Array Value} (h : Blk w g t cs) (o : Nat) (c : Cv) : Blk (w.setCells g o c.cells.toList) g t (put5 cs o c) :=
  ((((h.set_ o _).set_ (o + 1) _).set_ (o + 1 + 1) _).set_ (o + 1 + 1 + 1) _).set_ (o + 1 + 1 + 1 + 1) _
theorem grown_set5 (w : World) (g o : Nat) (c : Cv) : w.grownBy (w.setCells g o c.cells.toList) (some g) :=
  (GB.trans (GB.trans (GB.trans (GB.trans (grown_set w g o _) (grown_set _ g (o + 1) _)) (grown_set _ g (o + 1 + 1) _)) (grown_set _ g (o + 1 + 1 + 1) _)) (grown_set _ g (o + 1 + 1 + 1 + 1) _) : GB w (w.setCells g o c.cells.toList) g)
/-- A value into a block's cells from an offset on. -/
theorem store_val {ty t tb : TypeId} {x y : Operand} {p : String} {af : Array Edge} {g o : Nat} {c : Cv} {old new : Array Value} (hx : a.eval x = .pointer (some ⟨g, o, none⟩)) (hy : a.eval y = .agg c.cells) (hB : Blk w g tb old) (hi : (P.info? ty).map (·.size) = some 5)
    (ho : o + 5 ≤ old.size) (hnew : put5 old o c = new)
    (h : ∀ w', Blk w' g tb new → w.grownBy w' (some g) → w'.heap.size = w.heap.size → wpList P ops Q rest a w') : wpList P ops Q (⟨none, .store ty x y, t, p, af, none⟩ :: rest) a w := by
  refine wpList_store_mid rfl ty x y rfl g o c.cells hx hy (fun j hj => ⟨?_, hB.frozen _⟩) hi (by simp [Value.oneCell']) (h _ (hnew ▸ hB.set5 o c) (grown_set5 w g o c) (by simp [World.setCells, World.setCell]))
  have hj' : j < 5 := hj
  rw [hB.cell, Array.getElem?_eq_getElem (by omega)]
  rfl
theorem yields_load_blk {S : World → Prop} {ty t : TypeId} {x : Operand} {d : Option Tmp} {p : String} {af : Array Edge} {g n : Nat} {cells : Array Value} {td : TypeDesc} (hu : P.underlying ty = some td) (hd : (match td with | .struct _ | .array _ _ => true | _ => false) = true) (hx : a.eval x = .pointer (some ⟨g, 0, none⟩)) (hB : ∀ w, S w → Blk w g ty cells) (hi : (P.info? ty).map (·.size) = some n)
    (hn : cells.size = n) : YieldsIf P ops S ⟨d, .load ty x, t, p, af, none⟩ (.agg cells) a :=
  .inl ⟨by simp [Region.wanted], fun w hS => by
    have := run_loadVar_row (P := P) w g ty ty cells (0, 0) td (hB w hS) hu hd (by rw [hn]; exact hi)
    simp only [execOp, hx, Instr.loadAt, Instr.sureAddr, Sem.run_bind, Sem.run_pure, Result.andThen_ok, this]⟩
/-! The same in a region that draws its order. -/
variable {K : Act → World → Prop} {E : Prop}
theorem step_at_store (ty : TypeId) {x y : Operand} {t : TypeId} {p : String} {af : Array Edge} (h : if Region.wanted ⟨none, .store ty x y, t, p, af, none⟩ (yielded ops a.tmps) = true then Oper.wp P ⟨none, .store ty x y, t, p, af, none⟩ a w K Q else E) : if Region.wanted ⟨none, .store ty x y, t, p, af, none⟩ (yielded ops a.tmps) = true then Oper.wp P ⟨none, .store ty x y, t, p, af, none⟩ a w K Q else E := h
theorem step_at_load (ty : TypeId) {d : Option Tmp} {x : Operand} {t : TypeId} {p : String} {af : Array Edge} (h : if Region.wanted ⟨d, .load ty x, t, p, af, none⟩ (yielded ops a.tmps) = true then Oper.wp P ⟨d, .load ty x, t, p, af, none⟩ a w K Q else E) : if Region.wanted ⟨d, .load ty x, t, p, af, none⟩ (yielded ops a.tmps) = true then Oper.wp P ⟨d, .load ty x, t, p, af, none⟩ a w K Q else E := h
theorem step_store_blk {ty t : TypeId} {x y : Operand} {p : String} {af : Array Edge} {g n : Nat} {cells old : Array Value} (hx : a.eval x = .pointer (some ⟨g, 0, none⟩)) (hy : a.eval y = .agg cells) (hB : Blk w g ty old) (hi : (P.info? ty).map (·.size) = some n)
    (hold : old.size = n) (hn : cells.size = n) (h1 : cells.all (·.oneCell') = true)
    (h : ∀ w', Blk w' g ty cells → w.grownBy w' (some g) → w'.heap.size = w.heap.size → K a w') : if Region.wanted ⟨none, .store ty x y, t, p, af, none⟩ (yielded ops a.tmps) = true then Oper.wp P ⟨none, .store ty x y, t, p, af, none⟩ a w K Q else E := by
  rw [if_pos (by simp [Region.wanted])]
  exact wp_store_row ty x y rfl g cells hx hy ty old hB (by rw [hn]; exact hi) (by omega) h1 (h _ (hB.setRow cells) (grown_setRow w g cells) (by simp [World.setRow]))
theorem step_load_blk {ty t : TypeId} {x : Operand} {d : Option Tmp} {p : String} {af : Array Edge} {g n : Nat} {cells : Array Value} {td : TypeDesc} (hu : P.underlying ty = some td) (hd : (match td with | .struct _ | .array _ _ => true | _ => false) = true) (hx : a.eval x = .pointer (some ⟨g, 0, none⟩)) (hB : Blk w g ty cells) (hi : (P.info? ty).map (·.size) = some n)
    (hn : cells.size = n) (h : K (a.put d (.agg cells)) w) : if Region.wanted ⟨d, .load ty x, t, p, af, none⟩ (yielded ops a.tmps) = true then Oper.wp P ⟨d, .load ty x, t, p, af, none⟩ a w K Q else E := by
  rw [if_pos (by simp [Region.wanted])]
  exact wp_load_row ty x rfl g hx ty cells (0, 0) td hB hu hd (by rw [hn]; exact hi) h
end
theorem load_cells {P : Program} {W : World} {g n : Nat} {t : TypeId} {cs : Array Value} (h : Blk W g t cs) (hn : cs.size = n) : (loadCells ⟨g, 0, none⟩ n).run P W = .ok cs W := by
  subst hn
  have := run_loadCells_list (P := P) W ⟨g, 0, none⟩ cs.toList (fun j v hv => by
    have hadd : (⟨g, 0, none⟩ : Addr).add j = ⟨g, j, none⟩ := by unfold Addr.add; split <;> simp_all
    rw [hadd, cell_of_row W g j cs t (0, 0) h]
    simpa using hv)
  simpa using this
theorem info_rP : (Tryd.prog.info? 25).map (·.size) = some 4 := by kernel_rfl
abbrev zeroP : Array Value := #[.int .i64 0, .int .i64 0, .slice none 0 0, .int .i64 0]
theorem info_rQ : (Tryd.prog.info? 49).map (·.size) = some 26 := by kernel_rfl
abbrev zeroQ : Array Value := #[.int .i64 0, .string ⟨#[]⟩, .string ⟨#[]⟩, .string ⟨#[]⟩, .bool false, .int .i64 0, .int .u64 0, .slice none 0 0, .slice none 0 0, .slice none 0 0, .int .i64 0, .int .u64 0, .slice none 0 0, .slice none 0 0, .slice none 0 0, .int .i64 0, .int .u64 0, .slice none 0 0, .slice none 0 0, .slice none 0 0, .int .i64 0, .int .u64 0, .slice none 0 0, .slice none 0 0, .slice none 0 0, .int .i64 0]
theorem zeroP_one : zeroP.all (·.oneCell') = true := by simp [zeroP, Value.oneCell']
theorem zeroQ_one : zeroQ.all (·.oneCell') = true := by simp [zeroQ, Value.oneCell']
end Go.Proofs.YtojpeiihkjpeoaaDoor
