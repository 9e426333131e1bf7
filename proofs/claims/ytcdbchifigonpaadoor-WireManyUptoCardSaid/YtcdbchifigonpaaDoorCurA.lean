/- Laws of the walk: a whole struct out of a block, into a block. No program in sight. · Walks: the cursor over a frame's body: must, take, byte, flag, text, word, count. Written by wip/tools/gen_cur.py. · Walks: the cursor over a frame's body: a value, a value that may be none. · Walks: the deferred closures of wire.read: a thrown error is caught. Written by wip/tools/gen_getw.py. -/
import Derived.Test.YtcdbchifigonpaaDoorRead5
import Derived.Laws.Rows
import Derived.Deep.RegionHeld
import Derived.Deep.MidRow
import Derived.Great.BuildSlice
import Derived.Laws.Tables
import Derived.Test.YtcdbchifigonpaaDoorWirePl
import Derived.Test.YtcdbchifigonpaaDoorRead1
import Derived.IntWalk
import Derived.Test.YtcdbchifigonpaaDoorCatchG
set_option linter.unusedVariables false
set_option linter.unusedSimpArgs false
namespace Go.Proofs.YtcdbchifigonpaaDoor
open Go.RowKit

section
variable {P : Program} {ops : Array Oper} {rest : List Oper} {a : Act} {w : World} {Q : Exit → Act → World → Prop}
/-- Guards: the next operation is a whole store, a whole load, of that type. -/
theorem at_store (ty : TypeId) {x y : Operand} {t : TypeId} {p : String} {af : Array Edge} (h : wpList P ops Q (⟨none, .store ty x y, t, p, af, none⟩ :: rest) a w) : wpList P ops Q (⟨none, .store ty x y, t, p, af, none⟩ :: rest) a w := h
theorem at_load (ty : TypeId) {d : Option Tmp} {x : Operand} {t : TypeId} {p : String} {af : Array Edge} (h : wpList P ops Q (⟨d, .load ty x, t, p, af, none⟩ :: rest) a w) : wpList P ops Q (⟨d, .load ty x, t, p, af, none⟩ :: rest) a w := h
theorem at_build (ty : TypeId) {d : Option Tmp} {ps : Array (Nat × Operand)} {t : TypeId} {p : String} {af : Array Edge} (h : wpList P ops Q (⟨d, .build ty ps, t, p, af, none⟩ :: rest) a w) : wpList P ops Q (⟨d, .build ty ps, t, p, af, none⟩ :: rest) a w := h
theorem grown_setRow (w : World) (g : Nat) (cs : Array Value) : w.grownBy (w.setRow g cs) (some g) :=
  ⟨rfl, rfl, rfl, by simp [World.setRow], fun k _ hk => by
    have : ¬ g = k := fun e => hk (by rw [e])
    simp [World.setRow, Array.getElem?_modify, this]⟩
theorem Blk.setRow {w : World} {g : Nat} {t : TypeId} {cs : Array Value} (h : Blk w g t cs) (cs' : Array Value) : Blk (w.setRow g cs') g t cs' := by
  unfold Blk at h ⊢
  simp [World.setRow, Array.getElem?_modify, h]
theorem store_blk {ty t : TypeId} {x y : Operand} {p : String} {af : Array Edge} {g n : Nat} {cells old : Array Value} (hx : a.eval x = .pointer (some ⟨g, 0, none⟩)) (hy : a.eval y = .agg cells) (hB : Blk w g ty old) (hi : (P.info? ty).map (·.size) = some n)
    (hold : old.size = n) (hn : cells.size = n) (h1 : cells.all (·.oneCell') = true)
    (h : ∀ w', Blk w' g ty cells → w.grownBy w' (some g) → w'.heap.size = w.heap.size → wpList P ops Q rest a w') : wpList P ops Q (⟨none, .store ty x y, t, p, af, none⟩ :: rest) a w :=
  wpList_store_row rfl ty x y rfl g cells hx hy ty old hB (by rw [hn]; exact hi) (by omega) h1 (h _ (hB.setRow cells) (grown_setRow w g cells) (by simp [World.setRow]))
theorem load_blk {ty t : TypeId} {x : Operand} {d : Option Tmp} {p : String} {af : Array Edge} {g n : Nat} {cells : Array Value} {td : TypeDesc} (hu : P.underlying ty = some td) (hd : (match td with | .struct _ | .array _ _ => true | _ => false) = true) (hx : a.eval x = .pointer (some ⟨g, 0, none⟩)) (hB : Blk w g ty cells) (hi : (P.info? ty).map (·.size) = some n)
    (hn : cells.size = n) (h : wpList P ops Q rest (a.put d (.agg cells)) w) : wpList P ops Q (⟨d, .load ty x, t, p, af, none⟩ :: rest) a w :=
  wpList_load_row rfl ty x rfl g hx ty cells (0, 0) td hB hu hd (by rw [hn]; exact hi) h
/-- A cell array with a value's five cells at an offset. -/
def put5 (cs : Array Value) (o : Nat) (c : Cv) : Array Value := ((((cs.setIfInBounds o (.int .i64 c.k)).setIfInBounds (o + 1) (.int .u64 c.n)).setIfInBounds (o + 1 + 1) (.slice c.aB c.nB c.cB)).setIfInBounds (o + 1 + 1 + 1) (.slice c.aL c.nL c.cL)).setIfInBounds (o + 1 + 1 + 1 + 1) (.slice c.aF c.nF c.cF)
theorem Blk.set5 {w : World} {g : Nat} {t : TypeId} {cs : Array Value} (h : Blk w g t cs) (o : Nat) (c : Cv) : Blk (w.setCells g o c.cells.toList) g t (put5 cs o c) :=
  ((((h.set_ o _).set_ (o + 1) _).set_ (o + 1 + 1) _).set_ (o + 1 + 1 + 1) _).set_ (o + 1 + 1 + 1 + 1) _
theorem grown_set5 (w : World) (g o : Nat) (c : Cv) : w.grownBy (w.setCells g o c.cells.toList) (some g) :=
  (GB.trans (GB.trans (GB.trans (GB.trans (grown_set w g o _) (grown_set _ g (o + 1) _)) (grown_set _ g (o + 1 + 1) _)) (grown_set _ g (o + 1 + 1 + 1) _)) (grown_set _ g (o + 1 + 1 + 1 + 1) _) : GB w (w.setCells g o c.cells.toList) g)
/-- A value into a block's cells from an offset on. -/
theorem store_val {ty t tb : TypeId} {x y : Operand} {p : String} {af : Array Edge} {g o : Nat} {c : Cv} {old new : Array Value} (hx : a.eval x = .pointer (some ⟨g, o, none⟩)) (hy : a.eval y = .agg c.cells) (hB : Blk w g tb old) (hi : (P.info? ty).map (·.size) = some 5)
    (ho : o + 5 ≤ old.size) (hnew : put5 old o c = new)
    (h : ∀ w', Blk w' g tb new → w.grownBy w' (some g) → w'.heap.size = w.heap.size → wpList P ops Q rest a w') : wpList P ops Q (⟨none, .store ty x y, t, p, af, none⟩ :: rest) a w := by
  refine wpList_store_mid rfl ty x y rfl g o c.cells hx hy (fun j hj => ⟨?_, hB.frozen _⟩) hi (by simp [Value.oneCell']) (h _ (hnew ▸ hB.set5 o c) (grown_set5 w g o c) (by simp [World.setCells, World.setCell]))
  have hj' : j < 5 := hj
  rw [hB.cell, Array.getElem?_eq_getElem (by omega)]
  rfl
theorem yields_load_blk {S : World → Prop} {ty t : TypeId} {x : Operand} {d : Option Tmp} {p : String} {af : Array Edge} {g n : Nat} {cells : Array Value} {td : TypeDesc} (hu : P.underlying ty = some td) (hd : (match td with | .struct _ | .array _ _ => true | _ => false) = true) (hx : a.eval x = .pointer (some ⟨g, 0, none⟩)) (hB : ∀ w, S w → Blk w g ty cells) (hi : (P.info? ty).map (·.size) = some n)
    (hn : cells.size = n) : YieldsIf P ops S ⟨d, .load ty x, t, p, af, none⟩ (.agg cells) a :=
  .inl ⟨by simp [Region.wanted], fun w hS => by
    have := run_loadVar_row (P := P) w g ty ty cells (0, 0) td (hB w hS) hu hd (by rw [hn]; exact hi)
    simp only [execOp, hx, Instr.loadAt, Instr.sureAddr, Sem.run_bind, Sem.run_pure, Result.andThen_ok, this]⟩
/-! The same in a region that draws its order. -/
variable {K : Act → World → Prop} {E : Prop}
theorem step_at_store (ty : TypeId) {x y : Operand} {t : TypeId} {p : String} {af : Array Edge} (h : if Region.wanted ⟨none, .store ty x y, t, p, af, none⟩ (yielded ops a.tmps) = true then Oper.wp P ⟨none, .store ty x y, t, p, af, none⟩ a w K Q else E) : if Region.wanted ⟨none, .store ty x y, t, p, af, none⟩ (yielded ops a.tmps) = true then Oper.wp P ⟨none, .store ty x y, t, p, af, none⟩ a w K Q else E := h
theorem step_at_load (ty : TypeId) {d : Option Tmp} {x : Operand} {t : TypeId} {p : String} {af : Array Edge} (h : if Region.wanted ⟨d, .load ty x, t, p, af, none⟩ (yielded ops a.tmps) = true then Oper.wp P ⟨d, .load ty x, t, p, af, none⟩ a w K Q else E) : if Region.wanted ⟨d, .load ty x, t, p, af, none⟩ (yielded ops a.tmps) = true then Oper.wp P ⟨d, .load ty x, t, p, af, none⟩ a w K Q else E := h
theorem step_store_blk {ty t : TypeId} {x y : Operand} {p : String} {af : Array Edge} {g n : Nat} {cells old : Array Value} (hx : a.eval x = .pointer (some ⟨g, 0, none⟩)) (hy : a.eval y = .agg cells) (hB : Blk w g ty old) (hi : (P.info? ty).map (·.size) = some n)
    (hold : old.size = n) (hn : cells.size = n) (h1 : cells.all (·.oneCell') = true)
    (h : ∀ w', Blk w' g ty cells → w.grownBy w' (some g) → w'.heap.size = w.heap.size → K a w') : if Region.wanted ⟨none, .store ty x y, t, p, af, none⟩ (yielded ops a.tmps) = true then Oper.wp P ⟨none, .store ty x y, t, p, af, none⟩ a w K Q else E := by
  rw [if_pos (by simp [Region.wanted])]
  exact wp_store_row ty x y rfl g cells hx hy ty old hB (by rw [hn]; exact hi) (by omega) h1 (h _ (hB.setRow cells) (grown_setRow w g cells) (by simp [World.setRow]))
theorem step_load_blk {ty t : TypeId} {x : Operand} {d : Option Tmp} {p : String} {af : Array Edge} {g n : Nat} {cells : Array Value} {td : TypeDesc} (hu : P.underlying ty = some td) (hd : (match td with | .struct _ | .array _ _ => true | _ => false) = true) (hx : a.eval x = .pointer (some ⟨g, 0, none⟩)) (hB : Blk w g ty cells) (hi : (P.info? ty).map (·.size) = some n)
    (hn : cells.size = n) (h : K (a.put d (.agg cells)) w) : if Region.wanted ⟨d, .load ty x, t, p, af, none⟩ (yielded ops a.tmps) = true then Oper.wp P ⟨d, .load ty x, t, p, af, none⟩ a w K Q else E := by
  rw [if_pos (by simp [Region.wanted])]
  exact wp_load_row ty x rfl g hx ty cells (0, 0) td hB hu hd (by rw [hn]; exact hi) h
end
theorem load_cells {P : Program} {W : World} {g n : Nat} {t : TypeId} {cs : Array Value} (h : Blk W g t cs) (hn : cs.size = n) : (loadCells ⟨g, 0, none⟩ n).run P W = .ok cs W := by
  subst hn
  have := run_loadCells_list (P := P) W ⟨g, 0, none⟩ cs.toList (fun j v hv => by
    have hadd : (⟨g, 0, none⟩ : Addr).add j = ⟨g, j, none⟩ := by unfold Addr.add; split <;> simp_all
    rw [hadd, cell_of_row W g j cs t (0, 0) h]
    simpa using hv)
  simpa using this
theorem info_rP : (Tryd.prog.info? 29).map (·.size) = some 4 := by kernel_rfl
abbrev zeroP : Array Value := #[.int .i64 0, .int .i64 0, .slice none 0 0, .int .i64 0]
theorem info_rQ : (Tryd.prog.info? 39).map (·.size) = some 26 := by kernel_rfl
abbrev zeroQ : Array Value := #[.int .i64 0, .string ⟨#[]⟩, .string ⟨#[]⟩, .string ⟨#[]⟩, .bool false, .int .i64 0, .int .u64 0, .slice none 0 0, .slice none 0 0, .slice none 0 0, .int .i64 0, .int .u64 0, .slice none 0 0, .slice none 0 0, .slice none 0 0, .int .i64 0, .int .u64 0, .slice none 0 0, .slice none 0 0, .slice none 0 0, .int .i64 0, .int .u64 0, .slice none 0 0, .slice none 0 0, .slice none 0 0, .int .i64 0]
theorem zeroP_one : zeroP.all (·.oneCell') = true := by simp [zeroP, Value.oneCell']
theorem zeroQ_one : zeroQ.all (·.oneCell') = true := by simp [zeroQ, Value.oneCell']
end Go.Proofs.YtcdbchifigonpaaDoor

set_option linter.unusedVariables false
set_option linter.unusedSimpArgs false
namespace Go.Proofs.YtcdbchifigonpaaDoor
open Go.RowKit Go.Shelf

/-- The cursor at block pb stands ahead of the bytes bs. -/
def Cu (w : World) (pb : Nat) (bs : List UInt8) : Prop :=
  ∃ A c, Blk w pb 98 #[.slice A bs.length c] ∧ bs.length ≤ c ∧ bs.length ≤ 140737488400000 ∧ Reads (AtW w 0 pb) 1 A bs.length (u8s bs)
theorem Cu.grow {w w' : World} {pb : Nat} {bs : List UInt8} (h : Cu w pb bs) (hg : Grow w w') : Cu w' pb bs := by
  obtain ⟨A, c, hb, h1, h2, hr⟩ := h
  exact ⟨A, c, hb.grow hg, h1, h2, hr.mono (AtW.below hg.below (Nat.le_refl _) (Nat.le_of_lt hb.lt) (Nat.le_refl _))⟩
theorem Cu.lt {w : World} {pb : Nat} {bs : List UInt8} (h : Cu w pb bs) : pb < w.heap.size := by
  obtain ⟨A, c, hb, _⟩ := h; exact hb.lt
theorem Cu.len {w : World} {pb : Nat} {bs : List UInt8} (h : Cu w pb bs) : bs.length ≤ 140737488400000 := by
  obtain ⟨A, c, hb, _, h, _⟩ := h; exact h
theorem Cu.own {w w' : World} {pb : Nat} {bs : List UInt8} {row : Option Nat} (h : Cu w pb bs) (hg : w.grownBy w' row) (hne : ∀ k, row = some k → pb < k) : Cu w' pb bs := by
  obtain ⟨A, c, hb, h1, h2, hr⟩ := h
  refine ⟨A, c, hb.own hg (fun k e => by have := hne k e; omega), h1, h2, hr.mono (fun p u q => ⟨?_, q.2⟩)⟩
  have hl := hb.lt
  exact World.grownBy.cell hg q.1 (fun e => by have := hne _ e.symm; have := q.2.2; omega)

/-- What a reading comes to: a part, told by a value, and the rest; or nothing. -/
def PrC {α : Type} (w : World) (pb : Nat) (got : P α) (ret : α → Value → World → Prop) (e : Ending) (w' : World) : Prop :=
  match got with
  | none => e = .panicked (thrown 4) ∧ GB w w' pb
  | some (x, r) => ∃ v, e = .returned v ∧ ret x v w' ∧ Cu w' pb r ∧ GB w w' pb
theorem PrC.bad {α : Type} {w w' : World} {pb : Nat} {ret : α → Value → World → Prop} (h : GB w w' pb) : PrC w pb none ret (.panicked (thrown 4)) w' := ⟨rfl, h⟩
theorem PrC.good {α : Type} {w w' : World} {pb : Nat} {x : α} {r : List UInt8} {ret : α → Value → World → Prop} {v : Value} (h1 : ret x v w') (h2 : Cu w' pb r) (h : GB w w' pb) : PrC w pb (some (x, r)) ret (.returned v) w' := ⟨v, rfl, h1, h2, h⟩
/-- A number, told as such. -/
abbrev RetI (k : IntKind) (n : Nat) (v : Value) (_ : World) : Prop := v = .int k (n : Int)
abbrev RetZ (n : Int) (v : Value) (_ : World) : Prop := v = .int .i64 n
abbrev RetB (b : Bool) (v : Value) (_ : World) : Prop := v = .bool b
abbrev RetS (s : ByteArray) (v : Value) (_ : World) : Prop := v = .string s

set_option maxHeartbeats 400000 in
theorem wmust_yes (w : World) :
    Calls Tryd.prog 56 #[.bool true] w fun e w' => e = .returned (.tuple #[]) ∧ w = w' := by
  go_enter Tryd.func56, Tryd.ntmps56
  go_wp2
  go_end0
  exact ⟨rfl, rfl⟩
set_option maxHeartbeats 400000 in
theorem wmust_no (w : World) :
    Calls Tryd.prog 56 #[.bool false] w fun r w' => r = .panicked (thrown 4) ∧ w = w' := by
  go_enter Tryd.func56, Tryd.ntmps56
  go_wp2
  exact ⟨rfl, rfl, rfl⟩

set_option maxHeartbeats 400000 in
theorem wtake_no0 (pb : Nat) (A : Option Addr) (len cap : Nat) (n : Nat) (w : World) (hB : Blk w pb 98 #[.slice A len cap]) (hn : len < n) :
    Calls Tryd.prog 75 #[.pointer (some ⟨pb, 0, none⟩), .int .i64 n] w fun r w' => r = .panicked (thrown 4) ∧ w = w' := by
  have hp := hB.cell 0
  have hd : decide (n ≤ len) = false := by simp; omega
  clear hB
  go_enter Tryd.func75, Tryd.ntmps75
  go_wp2_with (go_at_call 56; refine (wmust_no _).mono ?_; rintro e w' ⟨rfl, rfl⟩)
  exact ⟨rfl, rfl, rfl⟩
set_option maxHeartbeats 400000 in
theorem wtake_yes0 (pb : Nat) (A : Option Addr) (len cap : Nat) (n : Nat) (w : World) (hB : Blk w pb 98 #[.slice A len cap]) (hc : len ≤ cap) (hn : n ≤ len) :
    Calls Tryd.prog 75 #[.pointer (some ⟨pb, 0, none⟩), .int .i64 n] w fun r w' => r = .returned (.slice A n n) ∧ w.setCell ⟨pb, 0, none⟩ (.slice (if cap = n then A else A.map (·.add n)) (len - n) (cap - n)) = w' := by
  have hp := hB.cell 0
  have hf := hB.frozen 0
  have hd : decide (n ≤ len) = true := by simp; omega
  clear hB
  go_enter Tryd.func75, Tryd.ntmps75
  go_wp2_with (go_at_call 56; refine (wmust_yes _).mono ?_; rintro e w' ⟨rfl, rfl⟩)
  all_goals
    go_ret
    exact ⟨rfl, rfl⟩
/-- Bytes of the body, told as they lie. -/
def RetT (pb : Nat) (x : List UInt8) (v : Value) (w' : World) : Prop := ∃ A, v = .slice A x.length x.length ∧ Reads (AtW w' 0 pb) 1 A x.length (u8s x)
theorem wtake_any (pb n : Nat) (bs : List UInt8) (w : World) (h : Cu w pb bs) :
    Calls Tryd.prog 75 #[.pointer (some ⟨pb, 0, none⟩), .int .i64 n] w (PrC w pb (pTake n bs) (RetT pb)) := by
  obtain ⟨A, c, hb, h1, h2, hr⟩ := h
  unfold pTake
  by_cases hn : n ≤ bs.length
  · rw [if_pos hn]
    refine (wtake_yes0 pb A _ c n w hb h1 hn).mono ?_
    rintro r w' ⟨rfl, rfl⟩
    have hg : w.grownBy (w.setCell ⟨pb, 0, none⟩ (.slice (if c = n then A else A.map (·.add n)) (bs.length - n) (c - n))) (some pb) := grown_set _ _ _ _
    have hr' := hr.mono (AtW.grownBy hg (Nat.le_refl _))
    have hlen : (bs.drop n).length = bs.length - n := List.length_drop
    have hlt : (bs.take n).length = n := by rw [List.length_take]; omega
    refine ⟨_, rfl, ⟨A, by rw [hlt], ?_⟩, ⟨if c = n then A else A.map (·.add n), c - n, ?_, by omega, by omega, ?_⟩, hg⟩
    · rw [hlt, u8s_take]; exact hr'.take_ n hn
    · rw [hlen]; exact hb.set_ 0 _
    · rw [hlen, u8s_drop]; exact hr'.drop_ n c hn h1
  · rw [if_neg hn]
    refine (wtake_no0 pb A _ c n w hb (by omega)).mono ?_
    rintro r w' ⟨rfl, rfl⟩
    exact ⟨rfl, GB.refl _ _⟩

set_option maxHeartbeats 400000 in
theorem wbyte_any (pb : Nat) (bs : List UInt8) (w : World) (h : Cu w pb bs) :
    Calls Tryd.prog 57 #[.pointer (some ⟨pb, 0, none⟩)] w (PrC w pb (pNum 1 bs) (RetI .i64)) := by
  have hC := wtake_any pb 1 bs w h
  have hlt := h.lt
  clear h
  cases hp : pTake 1 bs with
  | none =>
    rw [hp] at hC
    have HC := hide hC
    have hq : pNum 1 bs = none := by rw [pNum, hp]
    rw [hq]
    clear hC hp hq
    go_enter Tryd.func57, Tryd.ntmps57
    go_wp2_with fail
    refine HC.out.mono ?_
    rintro e w' ⟨rfl, hg⟩
    have HG := hide hg
    clear hg
    go_wp2_with fail
    exact And.intro rfl (PrC.bad HG.out)
  | some xr =>
    obtain ⟨x, r⟩ := xr
    rw [hp] at hC
    have HC := hide hC
    have hx := (pTake_some hp).2
    obtain ⟨y, rfl⟩ : ∃ y, x = [y] := by
      match x, hx with
      | [y], _ => exact ⟨y, rfl⟩
    have hq : pNum 1 bs = some (y.toNat, r) := by rw [pNum, hp]; simp [le]
    rw [hq]
    have hy := y.toNat_lt
    clear hC hp hq hx
    go_enter Tryd.func57, Tryd.ntmps57
    go_wp2_with fail
    refine HC.out.mono ?_
    rintro e w' ⟨v, rfl, ⟨A, rfl, hr⟩, hcu, hg⟩
    obtain ⟨bk, o, rfl, hcell⟩ := hr.2 (by simp)
    have hc0 : w'.cell? ⟨bk, o, none⟩ = some (.int .u8 (y.toNat : Int)) := (hcell 0 _ (by simp [u8s])).1
    have HCU := hide hcu
    have HG := hide hg
    clear hr hcu hg hcell
    go_wp2_with fail
    go_ret
    exact PrC.good rfl HCU.out HG.out

set_option maxHeartbeats 400000 in
theorem wflag_any (pb : Nat) (bs : List UInt8) (w : World) (h : Cu w pb bs) :
    Calls Tryd.prog 58 #[.pointer (some ⟨pb, 0, none⟩)] w (PrC w pb (pFlag bs) RetB) := by
  have hC := wbyte_any pb bs w h
  clear h
  cases hp : pNum 1 bs with
  | none =>
    rw [hp] at hC
    have HC := hide hC
    have hq : pFlag bs = none := by rw [pFlag, hp]
    rw [hq]
    clear hC hp hq
    go_enter Tryd.func58, Tryd.ntmps58
    go_wp2_with fail
    refine HC.out.mono ?_
    rintro e w' ⟨rfl, hg⟩
    have HG := hide hg
    clear hg
    go_wp2_with fail
    exact And.intro rfl (PrC.bad HG.out)
  | some xr =>
    obtain ⟨k, r⟩ := xr
    rw [hp] at hC
    have HC := hide hC
    have hk := (pNum1_some hp).2
    by_cases h1 : k ≤ 1
    · have hq : pFlag bs = some (decide (k = 1), r) := by rw [pFlag, hp]; simp only; rw [if_pos h1]
      rw [hq]
      have hd : decide ((k : Int) ≤ 1) = true := by simp; omega
      have hb : ((k : Int) == 1) = decide (k = 1) := by
        by_cases h : k = 1
        · subst h; rfl
        · rw [decide_eq_false h]; simp; omega
      obtain ⟨B, hB⟩ : ∃ B, decide (k = 1) = B := ⟨_, rfl⟩
      rw [hB] at hb ⊢
      clear hC hp hq hB
      go_enter Tryd.func58, Tryd.ntmps58
      go_wp2_with fail
      refine HC.out.mono ?_
      rintro e w' ⟨v, rfl, rfl, hcu, hg⟩
      have HCU := hide hcu
      have HG := hide hg
      clear hcu hg
      go_wp2_with fail
      refine (wmust_yes _).mono ?_
      rintro e w2 ⟨rfl, rfl⟩
      go_wp2_with fail
      go_ret
      exact PrC.good rfl HCU.out HG.out
    · have hq : pFlag bs = none := by rw [pFlag, hp]; simp only; rw [if_neg h1]
      rw [hq]
      have hd : decide ((k : Int) ≤ 1) = false := by simp; omega
      clear hC hp hq
      go_enter Tryd.func58, Tryd.ntmps58
      go_wp2_with fail
      refine HC.out.mono ?_
      rintro e w' ⟨v, rfl, rfl, hcu, hg⟩
      have HG := hide hg
      clear hcu hg
      go_wp2_with fail
      refine (wmust_no _).mono ?_
      rintro e w2 ⟨rfl, rfl⟩
      go_wp2_with fail
      exact And.intro rfl (PrC.bad HG.out)

set_option maxRecDepth 100000 in
set_option maxHeartbeats 400000 in
theorem wword_any (pb : Nat) (bs : List UInt8) (w : World) (h : Cu w pb bs) :
    Calls Tryd.prog 60 #[.pointer (some ⟨pb, 0, none⟩)] w (PrC w pb (pNum 4 bs) (RetI .u32)) := by
  have hC := wtake_any pb 4 bs w h
  have hlt := h.lt
  clear h
  cases hp : pTake 4 bs with
  | none =>
    rw [hp] at hC
    have HC := hide hC
    have hq : pNum 4 bs = none := by rw [pNum, hp]
    rw [hq]
    clear hC hp hq
    go_enter Tryd.func60, Tryd.ntmps60
    go_wp2_with fail
    refine HC.out.mono ?_
    rintro e w' ⟨rfl, hg⟩
    have HG := hide hg
    clear hg
    go_wp2_with fail
    exact And.intro rfl (PrC.bad HG.out)
  | some xr =>
    obtain ⟨x, r⟩ := xr
    rw [hp] at hC
    have HC := hide hC
    have hx := (pTake_some hp).2
    have hq : pNum 4 bs = some (le x, r) := by rw [pNum, hp]
    rw [hq]
    have hy : le x < 4294967296 := by have := le_lt x; rw [hx] at this; exact this
    have HX := hide hx
    clear hC hp hq hx
    go_enter Tryd.func60, Tryd.ntmps60
    go_wp2_with fail
    refine HC.out.mono ?_
    rintro e w' ⟨v, rfl, ⟨A, rfl, hr⟩, hcu, hg⟩
    have hin : InB w' A x := ⟨by rw [u8s_length, Nat.mul_one], fun h0 => by
      obtain ⟨bk, o, e, hc⟩ := hr.2 h0
      exact ⟨bk, o, e, fun j u hu => ⟨(hc j u hu).1, Nat.zero_le _, Nat.lt_trans (hc j u hu).2.2 hcu.lt⟩⟩⟩
    have HW := hide (word_any x A x.length w' hin (by rw [HX.out]; omega))
    have HCU := hide hcu
    have HG := hide hg
    clear hr hcu hg hin
    obtain ⟨L, hL⟩ : ∃ L, le x = L := ⟨_, rfl⟩
    rw [hL] at hy HW ⊢
    have HL := hide hL
    clear hL
    go_wp2_with fail
    refine HW.out.mono ?_
    rintro e w2 ⟨rfl, rfl⟩
    go_wp2_with fail
    go_ret
    exact PrC.good (by have := HL.out; show Value.int .u32 _ = Value.int .u32 _; congr 1; omega) HCU.out HG.out

set_option maxHeartbeats 400000 in
theorem wcount_any (pb : Nat) (bs : List UInt8) (w : World) (h : Cu w pb bs) :
    Calls Tryd.prog 70 #[.pointer (some ⟨pb, 0, none⟩)] w (PrC w pb (pCount bs) RetZ) := by
  have hC := wword_any pb bs w h
  clear h
  cases hp : pNum 4 bs with
  | none =>
    rw [hp] at hC
    have HC := hide hC
    have hq : pCount bs = none := by rw [pCount, hp]
    rw [hq]
    clear hC hp hq
    go_enter Tryd.func70, Tryd.ntmps70
    go_wp2_with fail
    refine HC.out.mono ?_
    rintro e w' ⟨rfl, hg⟩
    have HG := hide hg
    clear hg
    go_wp2_with fail
    exact And.intro rfl (PrC.bad HG.out)
  | some xr =>
    obtain ⟨k, r⟩ := xr
    rw [hp] at hC
    have HC := hide hC
    have hk : k < 4294967296 := (pNum_some hp).2
    by_cases h1 : k ≤ 2147483647
    · have hq : pCount bs = some ((k : Int), r) := by rw [pCount, hp]; simp only; rw [if_pos h1]
      rw [hq]
      have hd : decide ((k : Int) ≤ 2147483647) = true := by simp; omega
      clear hC hp hq
      go_enter Tryd.func70, Tryd.ntmps70
      go_wp2_with fail
      refine HC.out.mono ?_
      rintro e w' ⟨v, rfl, rfl, hcu, hg⟩
      have HCU := hide hcu
      have HG := hide hg
      clear hcu hg
      go_wp2_with fail
      refine (wmust_yes _).mono ?_
      rintro e w2 ⟨rfl, rfl⟩
      go_wp2_with fail
      go_ret
      exact PrC.good (by first | rfl | (show Value.int .i64 _ = Value.int .i64 _; congr 1; omega)) HCU.out HG.out
    · have hq : pCount bs = none := by rw [pCount, hp]; simp only; rw [if_neg h1]
      rw [hq]
      have hd : decide ((k : Int) ≤ 2147483647) = false := by simp; omega
      clear hC hp hq
      go_enter Tryd.func70, Tryd.ntmps70
      go_wp2_with fail
      refine HC.out.mono ?_
      rintro e w' ⟨v, rfl, rfl, hcu, hg⟩
      have HG := hide hg
      clear hcu hg
      go_wp2_with fail
      refine (wmust_no _).mono ?_
      rintro e w2 ⟨rfl, rfl⟩
      go_wp2_with fail
      exact And.intro rfl (PrC.bad HG.out)

set_option maxHeartbeats 400000 in
theorem wtext_any (pb : Nat) (bs : List UInt8) (w : World) (h : Cu w pb bs) :
    Calls Tryd.prog 59 #[.pointer (some ⟨pb, 0, none⟩)] w (PrC w pb (pText bs) RetS) := by
  have hC := wbyte_any pb bs w h
  clear h
  cases hp : pNum 1 bs with
  | none =>
    rw [hp] at hC
    have HC := hide hC
    have hq : pText bs = none := by rw [pText, hp]
    rw [hq]
    clear hC hp hq
    go_enter Tryd.func59, Tryd.ntmps59
    go_wp2_with fail
    refine HC.out.mono ?_
    rintro e w' ⟨rfl, hg⟩
    have HG := hide hg
    clear hg
    go_wp2_with fail
    exact And.intro rfl (PrC.bad HG.out)
  | some xr =>
    obtain ⟨k, r⟩ := xr
    rw [hp] at hC
    have HC := hide hC
    have hk := (pNum1_some hp).2
    by_cases h1 : k ≤ 200
    · have hd : decide ((k : Int) ≤ 200) = true := by simp; omega
      cases hp2 : pTake k r with
      | none =>
        have hq : pText bs = none := by rw [pText, hp]; simp only; rw [if_pos h1, hp2]
        rw [hq]
        have HP2 := hide hp2
        clear hC hp hq hp2
        go_enter Tryd.func59, Tryd.ntmps59
        go_wp2_with fail
        refine HC.out.mono ?_
        rintro e w' ⟨v, rfl, rfl, hcu, hg⟩
        have HG := hide hg
        have hC2 := wtake_any pb k r w' hcu
        rw [HP2.out] at hC2
        have HC2 := hide hC2
        clear hcu hg hC2
        go_wp2_with fail
        refine (wmust_yes _).mono ?_
        rintro e w2 ⟨rfl, rfl⟩
        go_wp2_with fail
        refine HC2.out.mono ?_
        rintro e w2 ⟨rfl, hg2⟩
        have HG2 := hide (HG.out.trans hg2)
        clear hg2
        go_wp2_with fail
        exact And.intro rfl (PrC.bad HG2.out)
      | some xr =>
        obtain ⟨x, r2⟩ := xr
        have hq : pText bs = some (⟨x.toArray⟩, r2) := by rw [pText, hp]; simp only; rw [if_pos h1, hp2]
        rw [hq]
        have HP2 := hide hp2
        clear hC hp hq hp2
        go_enter Tryd.func59, Tryd.ntmps59
        go_wp2_with fail
        refine HC.out.mono ?_
        rintro e w' ⟨v, rfl, rfl, hcu, hg⟩
        have HG := hide hg
        have hC2 := wtake_any pb k r w' hcu
        rw [HP2.out] at hC2
        have HC2 := hide hC2
        clear hcu hg hC2
        go_wp2_with fail
        refine (wmust_yes _).mono ?_
        rintro e w2 ⟨rfl, rfl⟩
        go_wp2_with fail
        refine HC2.out.mono ?_
        rintro e w2 ⟨v, rfl, ⟨A, rfl, hr⟩, hcu, hg2⟩
        have HG2 := hide (HG.out.trans hg2)
        have HCU := hide hcu
        have hcv := conv_bstr (cap := x.length) rfl hr
        clear hg2 hcu hr
        go_wp2_with fail
        go_ret
        exact PrC.good rfl HCU.out HG2.out
    · have hq : pText bs = none := by rw [pText, hp]; simp only; rw [if_neg h1]
      rw [hq]
      have hd : decide ((k : Int) ≤ 200) = false := by simp; omega
      clear hC hp hq
      go_enter Tryd.func59, Tryd.ntmps59
      go_wp2_with fail
      refine HC.out.mono ?_
      rintro e w' ⟨v, rfl, rfl, hcu, hg⟩
      have HG := hide hg
      clear hcu hg
      go_wp2_with fail
      refine (wmust_no _).mono ?_
      rintro e w2 ⟨rfl, rfl⟩
      go_wp2_with fail
      exact And.intro rfl (PrC.bad HG.out)
end Go.Proofs.YtcdbchifigonpaaDoor

set_option linter.unusedVariables false
set_option linter.unusedSimpArgs false
namespace Go.Proofs.YtcdbchifigonpaaDoor
open Go.RowKit Go.Shelf

/-- A value in new memory. -/
def RetV (w0 : World) (v : V) (u : Value) (w' : World) : Prop := ∃ c : Cv, u = c.agg ∧ InS w' w0.heap.size w'.heap.size v c
def valGot (g : Except Int V) (r : List UInt8) : P V := match g with
  | .error _ => none
  | .ok v => some (v, r)
theorem InS.zero (w : World) {lo : Nat} : InS w lo w.heap.size V.zero Cv.zero := by
  refine ⟨Nat.le_refl _, ?_⟩
  unfold V.zero
  rw [IsS]
  exact ⟨rfl, rfl, rfl, rfl, rfl, by decide, by decide, by decide, by simp, by simp, by simp, by simp, by simp, by simp, ⟨rfl, fun h => by simp at h⟩, ⟨fun _ _ => False, fun i hi => absurd hi (by simp), fun _ _ _ _ _ h => h.elim⟩, ⟨fun _ _ => False, fun i hi => absurd hi (by simp), fun _ _ _ _ _ h => h.elim⟩⟩
theorem Reads.inB {w : World} {pb : Nat} {A : Option Addr} {x : List UInt8} (h : Reads (AtW w 0 pb) 1 A x.length (u8s x)) (hp : pb ≤ w.heap.size) : InB w A x :=
  ⟨by rw [u8s_length, Nat.mul_one], fun h0 => by
    obtain ⟨bk, o, e, hc⟩ := h.2 h0
    exact ⟨bk, o, e, fun j u hu => ⟨(hc j u hu).1, Nat.zero_le _, Nat.lt_of_lt_of_le (hc j u hu).2.2 hp⟩⟩⟩
theorem cellresV {F : Func} {W : World} {vb : Nat} {tmps : Array Value} (hF : F.results = #[ResultVar.cell 2 37]) (h2 : tmps.getD 2 undef = .pointer (some ⟨vb, 0, none⟩)) (c : Cv) (hv : Blk W vb 37 c.cells) :
    (results F tmps).run Tryd.prog W = .ok c.agg W := by
  have hvc := hv.cell
  have h2' : tmps[2]?.getD undef = .pointer (some ⟨vb, 0, none⟩) := by simpa using h2
  simp [results, hF, go_sem, h2', hvc]
/-- The end of a function that tells the value of its own cell. -/
theorem PrC.cell {F : Func} {w W : World} {pb vb : Nat} {v : V} {r : List UInt8} {c : Cv} {tmps : Array Value} (hF : F.results = #[ResultVar.cell 2 37]) (hp : tmps.getD 2 undef = .pointer (some ⟨vb, 0, none⟩)) (hB : Blk W vb 37 Cv.zero.cells)
    (hvb : w.heap.size ≤ vb) (hpb : pb < vb) {lo : Nat} (hlo : vb < lo) (hg : GB w W pb) (hr : Cu W pb r) (hv : InS W lo W.heap.size v c) :
    bodyPost Tryd.prog F (PrC w pb (some (v, r)) (RetV w)) .ret { tmps := tmps, defers := [] } (set5 W vb c) := by
  have hs5 := set5_grown W vb c
  refine bodyPost_ret (cellresV hF hp c (set5_from (c := c) hB)) rfl (PrC.good ⟨c, rfl, ?_⟩ (hr.own hs5 (fun k e => by injection e with e; omega)) (set5_gb hg hvb c))
  exact (hv.blocks hs5.size (fun k h1 h2 => hs5.block k h2 (fun e => by injection e with e; omega))).wider (by omega) hs5.size (Nat.le_refl _)

set_option maxRecDepth 100000 in
set_option maxHeartbeats 1600000 in
theorem wvalue_any (pb : Nat) (bs : List UInt8) (w : World) (hT : Tabs w) (hp : 1 < pb) (h : Cu w pb bs) :
    Calls Tryd.prog 71 #[.pointer (some ⟨pb, 0, none⟩)] w (PrC w pb (pVal bs) (RetV w)) := by
  have hlt := h.lt
  have hG1 := (Grow.refl w).alloc (.cells Cv.zero.cells 37)
  have HV1 := hide (Blk.new w 37 Cv.zero.cells)
  have hC := wtake_any pb 2 bs (w.alloc (.cells Cv.zero.cells 37)) (h.grow hG1)
  have HG1 := hide ((GB.refl w pb).grow hG1)
  have HT := hide hT
  clear h hG1 hT
  cases hp1 : pTake 2 bs with
  | none =>
    rw [hp1] at hC
    have HC := hide hC
    have hq : pVal bs = none := by rw [pVal, pNum, hp1]
    rw [hq]
    clear hC hp1 hq
    go_enter Tryd.func71, Tryd.ntmps71
    go_wp2_with fail
    refine HC.out.mono ?_
    rintro e w' ⟨rfl, hg⟩
    have HG := hide (HG1.out.trans hg)
    clear hg
    go_wp2_with fail
    exact And.intro rfl (PrC.bad HG.out)
  | some xr =>
    obtain ⟨x, r⟩ := xr
    rw [hp1] at hC
    have HC := hide hC
    have hx := (pTake_some hp1).2
    have hq1 : pNum 2 bs = some (le x, r) := by rw [pNum, hp1]
    have hy : le x < 65536 := by have := le_lt x; rw [hx] at this; exact this
    obtain ⟨k, hk⟩ : ∃ k, le x = k := ⟨_, rfl⟩
    have HK := hide hk
    have HX := hide hx
    rw [hk] at hq1 hy
    clear hC hp1 hk hx
    cases hp2 : pTake k r with
    | none =>
      have hq : pVal bs = none := by rw [pVal, hq1]; simp only; rw [hp2]
      rw [hq]
      have HP2 := hide hp2
      clear hq hq1 hp2
      go_enter Tryd.func71, Tryd.ntmps71
      go_wp2_with fail
      refine HC.out.mono ?_
      rintro e w2 ⟨v, rfl, ⟨A, rfl, hr⟩, hcu, hg⟩
      have HW := hide (word_any x A x.length w2 (hr.inB (Nat.le_of_lt hcu.lt)) (by rw [HX.out]; omega))
      have HG2 := hide (HG1.out.trans hg)
      have hC2 := wtake_any pb k r w2 hcu
      rw [HP2.out] at hC2
      have HC2 := hide hC2
      rw [HK.out] at HW
      clear hr hcu hg hC2
      go_wp2_with fail
      refine HW.out.mono ?_
      rintro e w2 ⟨rfl, rfl⟩
      go_wp2_with fail
      refine HC2.out.mono ?_
      rintro e w3 ⟨rfl, hg⟩
      have HG3 := hide (HG2.out.trans hg)
      clear hg
      go_wp2_with fail
      exact And.intro rfl (PrC.bad HG3.out)
    | some yr =>
      obtain ⟨y, r2⟩ := yr
      have HP2 := hide hp2
      have HYL := hide (pTake_some hp2).2
      obtain ⟨got, hgot⟩ : ∃ g, rdAll y = g := ⟨_, rfl⟩
      have HGOT := hide hgot
      have HQ := hide (show pVal bs = valGot got r2 by rw [pVal, hq1]; simp only; rw [hp2, ← hgot]; rfl)
      clear hp2 hq1 hgot
      have hstep : ∀ w3, Cu w3 pb r2 → GB w w3 pb → ∀ A, Reads (AtW w3 0 pb) 1 A y.length (u8s y) → Calls Tryd.prog 37 #[.slice A y.length y.length] w3 (GetC w3 got) := fun w3 hcu hg A hr => by
        have := get_any y A y.length w3 (HT.out.gb hg hp) (hr.inB (Nat.le_of_lt hcu.lt)) (by rw [HYL.out]; omega) (Nat.le_refl _)
        rw [HGOT.out] at this
        exact this
      have HS := hide hstep
      have HE := hide (show ∀ e, got = .error e → e ≠ 0 from fun e h => by
        have := rdAll_err (HGOT.out.trans h)
        unfold Err at this
        omega)
      rw [HQ.out]
      clear hstep HQ
      go_enter Tryd.func71, Tryd.ntmps71
      go_wp2_with fail
      refine HC.out.mono ?_
      rintro e w2 ⟨v, rfl, ⟨A, rfl, hr⟩, hcu, hg⟩
      have HW := hide (word_any x A x.length w2 (hr.inB (Nat.le_of_lt hcu.lt)) (by rw [HX.out]; omega))
      have HG2 := hide (HG1.out.trans hg)
      have HV2 := hide (HV1.out.own hg (fun k e => by injection e with e; omega))
      have hC2 := wtake_any pb k r w2 hcu
      rw [HP2.out] at hC2
      have HC2 := hide hC2
      rw [HK.out] at HW
      clear hr hcu hg hC2 HV1
      go_wp2_with fail
      refine HW.out.mono ?_
      rintro e w2 ⟨rfl, rfl⟩
      go_wp2_with fail
      refine HC2.out.mono ?_
      rintro e w3 ⟨v, rfl, ⟨A2, rfl, hr⟩, hcu, hg⟩
      have HG3 := hide (HG2.out.trans hg)
      have HV3 := hide (HV2.out.own hg (fun k e => by injection e with e; omega))
      have HCU := hide hcu
      have HGet := hide (HS.out w3 hcu HG3.out A2 hr)
      have hvl := HV3.out.lt
      clear hr hcu hg HV2
      go_wp2_with fail
      refine HGet.out.mono ?_
      intro e w4 h4
      cases got with
      | error ee =>
        obtain ⟨rfl, hg4⟩ := h4
        have hne : (ee == 0) = false := by simpa using HE.out ee rfl
        have HG4 := hide ((HG3.out.grow hg4).grow ((Grow.refl w4).alloc (.cells Cv.zero.cells 37)))
        clear hg4
        go_wp2_with fail
        refine (wmust_no _).mono ?_
        rintro e w5 ⟨rfl, rfl⟩
        go_wp2_with fail
        exact And.intro rfl (PrC.bad HG4.out)
      | ok v =>
        obtain ⟨c, rfl, hin, hg4⟩ := h4
        have hal := (Grow.refl w4).alloc (.cells c.cells 37)
        have HG4 := hide ((HG3.out.grow hg4).grow hal)
        have hV4 := (HV3.out.grow hg4).grow hal
        have HCU4 := hide ((HCU.out.grow hg4).grow hal)
        have HI4 := hide (((hin.grow hal).wider (Nat.le_refl _) hal.size (Nat.le_refl _)))
        have hc0 := (Blk.new w4 37 c.cells).cell
        have hvc := hV4.cell
        have hvf := hV4.frozen
        have HV4 := hide hV4
        clear hg4 hal hin hV4
        go_wp2_with fail
        refine (wmust_yes _).mono ?_
        rintro e w5 ⟨rfl, rfl⟩
        go_wp2_with fail
        exact PrC.cell (v := v) (r := r2) (c := c) (vb := w.heap.size) (W := w4.alloc (.cells c.cells 37)) rfl rfl HV4.out (Nat.le_refl _) hlt hvl HG4.out HCU4.out HI4.out

set_option maxRecDepth 100000 in
set_option maxHeartbeats 1600000 in
theorem wmay_any (pb : Nat) (bs : List UInt8) (w : World) (hT : Tabs w) (hp : 1 < pb) (h : Cu w pb bs) :
    Calls Tryd.prog 61 #[.pointer (some ⟨pb, 0, none⟩)] w (PrC w pb (pMay bs) (RetV w)) := by
  have hlt := h.lt
  have hG1 := (Grow.refl w).alloc (.cells Cv.zero.cells 37)
  have HV1 := hide (Blk.new w 37 Cv.zero.cells)
  have hC := wflag_any pb bs (w.alloc (.cells Cv.zero.cells 37)) (h.grow hG1)
  have HG1 := hide ((GB.refl w pb).grow hG1)
  have HT := hide hT
  clear h hG1 hT
  cases hp1 : pFlag bs with
  | none =>
    rw [hp1] at hC
    have HC := hide hC
    have hq : pMay bs = none := by rw [pMay, hp1]
    rw [hq]
    clear hC hp1 hq
    go_enter Tryd.func61, Tryd.ntmps61
    go_wp2_with fail
    refine HC.out.mono ?_
    rintro e w' ⟨rfl, hg⟩
    have HG := hide (HG1.out.trans hg)
    clear hg
    go_wp2_with fail
    exact And.intro rfl (PrC.bad HG.out)
  | some xr =>
    obtain ⟨x, r⟩ := xr
    rw [hp1] at hC
    have HC := hide hC
    have hq1 : pMay bs = if x = true then pVal r else some (V.zero, r) := by rw [pMay, hp1]
    rw [hq1]
    clear hC hp1 hq1
    cases x with
    | false =>
      rw [if_neg (by decide)]
      go_enter Tryd.func61, Tryd.ntmps61
      go_wp2_with fail
      refine HC.out.mono ?_
      rintro e w2 ⟨v, rfl, rfl, hcu, hg⟩
      have hV2 := HV1.out.own hg (fun k e => by injection e with e; omega)
      have HG2 := hide (HG1.out.trans hg)
      have HCU := hide hcu
      have hvc := hV2.cell
      have hvf := hV2.frozen
      have hvl := hV2.lt
      have HV2 := hide hV2
      clear hcu hg hV2
      go_wp2_with fail
      exact PrC.cell (v := V.zero) (r := r) (c := Cv.zero) (vb := w.heap.size) (W := w2) (lo := w2.heap.size) rfl rfl HV2.out (Nat.le_refl _) hlt hvl HG2.out HCU.out (InS.zero w2)
    | true =>
      rw [if_pos rfl]
      have hstep : ∀ w2, Cu w2 pb r → GB w w2 pb → Calls Tryd.prog 71 #[.pointer (some ⟨pb, 0, none⟩)] w2 (PrC w2 pb (pVal r) (RetV w2)) := fun w2 hcu hg => wvalue_any pb r w2 (HT.out.gb hg hp) hp hcu
      obtain ⟨pv, hpv⟩ : ∃ p, pVal r = p := ⟨_, rfl⟩
      rw [hpv] at hstep ⊢
      have HS := hide hstep
      clear hstep hpv
      go_enter Tryd.func61, Tryd.ntmps61
      go_wp2_with fail
      refine HC.out.mono ?_
      rintro e w2 ⟨v, rfl, rfl, hcu, hg⟩
      have HV2 := hide (HV1.out.own hg (fun k e => by injection e with e; omega))
      have HG2 := hide (HG1.out.trans hg)
      have hcall := HS.out w2 hcu HG2.out
      have hvl := HV2.out.lt
      have hlt2 := hcu.lt
      clear hcu hg
      cases pv with
      | none =>
        have HC2 := hide hcall
        clear hcall
        go_wp2_with fail
        refine HC2.out.mono ?_
        rintro e w3 ⟨rfl, hg⟩
        have HG3 := hide (HG2.out.trans hg)
        clear hg
        go_wp2_with fail
        exact And.intro rfl (PrC.bad HG3.out)
      | some vr =>
        obtain ⟨v, r2⟩ := vr
        have HC2 := hide hcall
        clear hcall
        go_wp2_with fail
        refine HC2.out.mono ?_
        rintro e w3 ⟨u, rfl, ⟨c, rfl, hin⟩, hcu, hg⟩
        have hV3 := HV2.out.own hg (fun k e => by injection e with e; omega)
        have HG3 := hide (HG2.out.trans hg)
        have HCU := hide hcu
        have HI := hide hin
        have hvc := hV3.cell
        have hvf := hV3.frozen
        have HV3 := hide hV3
        clear hcu hg hV3 hin
        go_wp2_with fail
        exact PrC.cell (v := v) (r := r2) (c := c) (vb := w.heap.size) (W := w3) rfl rfl HV3.out (Nat.le_refl _) hlt hvl HG3.out HCU.out HI.out
end Go.Proofs.YtcdbchifigonpaaDoor

set_option linter.unusedVariables false
set_option linter.unusedSimpArgs false
namespace Go.Proofs.YtcdbchifigonpaaDoor
open Go.RowKit

/-- The world behind the catching of an error: the result's block holds noughts, the error's block the error; all else stays. -/
def Caught (w w' : World) (vb eb : Nat) (ty : TypeId) (zs : Array Value) (e : Int) : Prop :=
  ∃ W1 W2, Grow w W1 ∧ W1.grownBy W2 (some vb) ∧ W2.grownBy w' (some eb) ∧ Blk w' vb ty zs ∧ Blk w' eb 26 #[.int .i64 e]
theorem Caught.grow {a w w' : World} {vb eb : Nat} {ty : TypeId} {zs : Array Value} {e : Int} (h : Caught w w' vb eb ty zs e) (hg : Grow a w) (h1 : a.heap.size ≤ vb) (h2 : a.heap.size ≤ eb) : Grow a w' := by
  obtain ⟨W1, W2, g1, g2, g3, _, _⟩ := h
  exact ((hg.trans g1).grown g2 (fun k e => by injection e with e; omega)).grown g3 (fun k e => by injection e with e; omega)
theorem Caught.vb {w w' : World} {vb eb : Nat} {ty : TypeId} {zs : Array Value} {e : Int} (h : Caught w w' vb eb ty zs e) : Blk w' vb ty zs := by
  obtain ⟨W1, W2, g1, g2, g3, h, _⟩ := h; exact h
theorem Caught.eb {w w' : World} {vb eb : Nat} {ty : TypeId} {zs : Array Value} {e : Int} (h : Caught w w' vb eb ty zs e) : Blk w' eb 26 #[.int .i64 e] := by
  obtain ⟨W1, W2, g1, g2, g3, _, h⟩ := h; exact h

set_option maxRecDepth 100000 in
set_option maxHeartbeats 1600000 in
theorem catchP_panicking (vb eb : Nat) (e : Int) (cs : Array Value) (x : Value) (older : List PanicEntry) (w : World) (hv : Blk w vb 29 cs) (hcs : cs.size = 4) (he : Blk w eb 26 #[x]) (hne : vb ≠ eb) :
    CallsD Tryd.prog 69 #[.pointer (some ⟨vb, 0, none⟩), .pointer (some ⟨eb, 0, none⟩)] (.panicking ({ v := .iface 26 (.int .i64 e), recovered := false } :: older)) w fun r u' w' =>
      r = .returned (.tuple #[]) ∧ u' = .panicking ({ v := .iface 26 (.int .i64 e), recovered := true } :: older) ∧ Caught w w' vb eb 29 zeroP e := by
  have HV := hide (hv.alloc (.cells zeroP 29))
  have HN := hide (Blk.new w 29 zeroP)
  have HE := hide (he.alloc (.cells zeroP 29))
  have HG := hide ((Grow.refl w).alloc (.cells zeroP 29))
  have HS := hide hcs
  have hta := assert_yes
  clear hv he hcs
  refine callsD_of_wpS Tryd.func69 rfl fun c₀ cs' hu => ?_
  apply wpS_seq
  apply wpS_region
  simp [wpOpsS, go_sem, recoverD, hu, Tryd.ntmps69, Exit.thenS]
  simp only [Array.replicate, List.replicate, Array.setIfInBounds]
  refine wpS_of_wp ?_
  clear hu
  go_wp2_with (first
    | (with_reducible refine at_load 29 ?_; refine load_blk (g := w.heap.size) (n := 4) (cells := zeroP) Tryd.underlying29 rfl rfl HN.out info_rP rfl ?_)
    | (with_reducible refine at_store 29 ?_; refine store_blk (g := vb) (n := 4) (cells := zeroP) rfl rfl HV.out info_rP HS.out rfl zeroP_one ?_; intro W2 hB2 hg2 hz2; have hE2 := HE.out.own hg2 (fun k e => by injection e with e; omega); have hec := hE2.cell; have hef := hE2.frozen; have HB2 := hide hB2; have HG2 := hide hg2; have HE2 := hide hE2; clear hB2 hg2 hE2 hz2))
  simp [bodyPostS, results, Tryd.results69, go_sem]
  exact ⟨_, W2, HG.out, HG2.out, grown_set W2 eb 0 (.int .i64 e), HB2.out.own (grown_set W2 eb 0 (.int .i64 e)) (fun k h => by injection h with h; omega), HE2.out.set_ 0 _⟩
set_option maxRecDepth 100000 in
set_option maxHeartbeats 400000 in
theorem catchP_idle (vb eb : Nat) (w : World) :
    CallsD Tryd.prog 69 #[.pointer (some ⟨vb, 0, none⟩), .pointer (some ⟨eb, 0, none⟩)] .returning w fun r u' w' =>
      r = .returned (.tuple #[]) ∧ u' = .returning ∧ w' = w := by
  have hta := assert_nil
  refine callsD_of_wpS Tryd.func69 rfl fun c₀ cs hu => ?_
  apply wpS_seq
  apply wpS_region
  simp [wpOpsS, go_sem, recoverD, hu, Tryd.ntmps69, Exit.thenS]
  simp only [Array.replicate, List.replicate, Array.setIfInBounds]
  refine wpS_of_wp ?_
  go_wp2_with fail
  cases c₀
  simp_all [bodyPostS, results, Tryd.results69, go_sem]

set_option maxRecDepth 100000 in
set_option maxHeartbeats 1600000 in
theorem catchQ_panicking (vb eb : Nat) (e : Int) (cs : Array Value) (x : Value) (older : List PanicEntry) (w : World) (hv : Blk w vb 39 cs) (hcs : cs.size = 26) (he : Blk w eb 26 #[x]) (hne : vb ≠ eb) :
    CallsD Tryd.prog 55 #[.pointer (some ⟨vb, 0, none⟩), .pointer (some ⟨eb, 0, none⟩)] (.panicking ({ v := .iface 26 (.int .i64 e), recovered := false } :: older)) w fun r u' w' =>
      r = .returned (.tuple #[]) ∧ u' = .panicking ({ v := .iface 26 (.int .i64 e), recovered := true } :: older) ∧ Caught w w' vb eb 39 zeroQ e := by
  have HV := hide (hv.alloc (.cells zeroQ 39))
  have HN := hide (Blk.new w 39 zeroQ)
  have HE := hide (he.alloc (.cells zeroQ 39))
  have HG := hide ((Grow.refl w).alloc (.cells zeroQ 39))
  have HS := hide hcs
  have hta := assert_yes
  clear hv he hcs
  refine callsD_of_wpS Tryd.func55 rfl fun c₀ cs' hu => ?_
  apply wpS_seq
  apply wpS_region
  simp [wpOpsS, go_sem, recoverD, hu, Tryd.ntmps55, Exit.thenS]
  simp only [Array.replicate, List.replicate, Array.setIfInBounds]
  refine wpS_of_wp ?_
  clear hu
  go_wp2_with (first
    | (with_reducible refine at_load 39 ?_; refine load_blk (g := w.heap.size) (n := 26) (cells := zeroQ) Tryd.underlying39 rfl rfl HN.out info_rQ rfl ?_)
    | (with_reducible refine at_store 39 ?_; refine store_blk (g := vb) (n := 26) (cells := zeroQ) rfl rfl HV.out info_rQ HS.out rfl zeroQ_one ?_; intro W2 hB2 hg2 hz2; have hE2 := HE.out.own hg2 (fun k e => by injection e with e; omega); have hec := hE2.cell; have hef := hE2.frozen; have HB2 := hide hB2; have HG2 := hide hg2; have HE2 := hide hE2; clear hB2 hg2 hE2 hz2))
  simp [bodyPostS, results, Tryd.results55, go_sem]
  exact ⟨_, W2, HG.out, HG2.out, grown_set W2 eb 0 (.int .i64 e), HB2.out.own (grown_set W2 eb 0 (.int .i64 e)) (fun k h => by injection h with h; omega), HE2.out.set_ 0 _⟩
set_option maxRecDepth 100000 in
set_option maxHeartbeats 400000 in
theorem catchQ_idle (vb eb : Nat) (w : World) :
    CallsD Tryd.prog 55 #[.pointer (some ⟨vb, 0, none⟩), .pointer (some ⟨eb, 0, none⟩)] .returning w fun r u' w' =>
      r = .returned (.tuple #[]) ∧ u' = .returning ∧ w' = w := by
  have hta := assert_nil
  refine callsD_of_wpS Tryd.func55 rfl fun c₀ cs hu => ?_
  apply wpS_seq
  apply wpS_region
  simp [wpOpsS, go_sem, recoverD, hu, Tryd.ntmps55, Exit.thenS]
  simp only [Array.replicate, List.replicate, Array.setIfInBounds]
  refine wpS_of_wp ?_
  go_wp2_with fail
  cases c₀
  simp_all [bodyPostS, results, Tryd.results55, go_sem]
end Go.Proofs.YtcdbchifigonpaaDoor
