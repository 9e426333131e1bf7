/- Walks: the cursor over a frame's body: must, take, byte, flag, text, word, count. Written by wip/tools/gen_cur.py. -/
import Derived.Test.YtojpeiihkjpeoaaDoorWireP
import Derived.Test.YtojpeiihkjpeoaaDoorRead1
import Derived.Test.YtojpeiihkjpeoaaDoorRead5
import Derived.IntWalk
set_option linter.unusedVariables false
set_option linter.unusedSimpArgs false
namespace Go.Proofs.YtojpeiihkjpeoaaDoor
open Go.RowKit Go.Shelf

/-- The cursor at block pb stands ahead of the bytes bs. -/
def Cu (w : World) (pb : Nat) (bs : List UInt8) : Prop :=
  ∃ A c, Blk w pb 129 #[.slice A bs.length c] ∧ bs.length ≤ c ∧ bs.length ≤ 140737488355328 ∧ Reads (AtW w 0 pb) 1 A bs.length (u8s bs)
theorem Cu.grow {w w' : World} {pb : Nat} {bs : List UInt8} (h : Cu w pb bs) (hg : Grow w w') : Cu w' pb bs := by
  obtain ⟨A, c, hb, h1, h2, hr⟩ := h
  exact ⟨A, c, hb.grow hg, h1, h2, hr.mono (AtW.below hg.below (Nat.le_refl _) (Nat.le_of_lt hb.lt) (Nat.le_refl _))⟩
theorem Cu.lt {w : World} {pb : Nat} {bs : List UInt8} (h : Cu w pb bs) : pb < w.heap.size := by
  obtain ⟨A, c, hb, _⟩ := h; exact hb.lt
theorem Cu.len {w : World} {pb : Nat} {bs : List UInt8} (h : Cu w pb bs) : bs.length ≤ 140737488355328 := by
  obtain ⟨A, c, hb, _, h, _⟩ := h; exact h
theorem Cu.own {w w' : World} {pb : Nat} {bs : List UInt8} {row : Option Nat} (h : Cu w pb bs) (hg : w.grownBy w' row) (hne : ∀ k, row = some k → pb < k) : Cu w' pb bs := by
  obtain ⟨A, c, hb, h1, h2, hr⟩ := h
  refine ⟨A, c, hb.own hg (fun k e => by have := hne k e; omega), h1, h2, hr.mono (fun p u q => ⟨?_, q.2⟩)⟩
  have hl := hb.lt
  exact World.grownBy.cell hg q.1 (fun e => by have := hne _ e.symm; have := q.2.2; omega)

/-- What a reading comes to: a part, told by a value, and the rest; or nothing. -/
def PrC {α : Type} (w : World) (pb : Nat) (got : P α) (ret : α → Value → World → Prop) (e : Ending) (w' : World) : Prop :=
  match got with
  | none => e = .panicked (thrown 4) ∧ GB w w' pb
  | some (x, r) => ∃ v, e = .returned v ∧ ret x v w' ∧ Cu w' pb r ∧ GB w w' pb
theorem PrC.bad {α : Type} {w w' : World} {pb : Nat} {ret : α → Value → World → Prop} (h : GB w w' pb) : PrC w pb none ret (.panicked (thrown 4)) w' := ⟨rfl, h⟩
theorem PrC.good {α : Type} {w w' : World} {pb : Nat} {x : α} {r : List UInt8} {ret : α → Value → World → Prop} {v : Value} (h1 : ret x v w') (h2 : Cu w' pb r) (h : GB w w' pb) : PrC w pb (some (x, r)) ret (.returned v) w' := ⟨v, rfl, h1, h2, h⟩
/-- A number, told as such. -/
abbrev RetI (k : IntKind) (n : Nat) (v : Value) (_ : World) : Prop := v = .int k (n : Int)
abbrev RetZ (n : Int) (v : Value) (_ : World) : Prop := v = .int .i64 n
abbrev RetB (b : Bool) (v : Value) (_ : World) : Prop := v = .bool b
abbrev RetS (s : ByteArray) (v : Value) (_ : World) : Prop := v = .string s

set_option maxHeartbeats 400000 in
theorem wmust_yes (w : World) :
    Calls Tryd.prog 85 #[.bool true] w fun e w' => e = .returned (.tuple #[]) ∧ w = w' := by
  go_enter Tryd.func85, Tryd.ntmps85
  go_wp2
  go_end0
  exact ⟨rfl, rfl⟩
set_option maxHeartbeats 400000 in
theorem wmust_no (w : World) :
    Calls Tryd.prog 85 #[.bool false] w fun r w' => r = .panicked (thrown 4) ∧ w = w' := by
  go_enter Tryd.func85, Tryd.ntmps85
  go_wp2
  exact ⟨rfl, rfl, rfl⟩

set_option maxHeartbeats 400000 in
theorem wtake_no0 (pb : Nat) (A : Option Addr) (len cap : Nat) (n : Nat) (w : World) (hB : Blk w pb 129 #[.slice A len cap]) (hn : len < n) :
    Calls Tryd.prog 114 #[.pointer (some ⟨pb, 0, none⟩), .int .i64 n] w fun r w' => r = .panicked (thrown 4) ∧ w = w' := by
  have hp := hB.cell 0
  have hd : decide (n ≤ len) = false := by simp; omega
  clear hB
  go_enter Tryd.func114, Tryd.ntmps114
  go_wp2_with (go_at_call 85; refine (wmust_no _).mono ?_; rintro e w' ⟨rfl, rfl⟩)
  exact ⟨rfl, rfl, rfl⟩
set_option maxHeartbeats 400000 in
theorem wtake_yes0 (pb : Nat) (A : Option Addr) (len cap : Nat) (n : Nat) (w : World) (hB : Blk w pb 129 #[.slice A len cap]) (hc : len ≤ cap) (hn : n ≤ len) :
    Calls Tryd.prog 114 #[.pointer (some ⟨pb, 0, none⟩), .int .i64 n] w fun r w' => r = .returned (.slice A n n) ∧ w.setCell ⟨pb, 0, none⟩ (.slice (if cap = n then A else A.map (·.add n)) (len - n) (cap - n)) = w' := by
  have hp := hB.cell 0
  have hf := hB.frozen 0
  have hd : decide (n ≤ len) = true := by simp; omega
  clear hB
  go_enter Tryd.func114, Tryd.ntmps114
  go_wp2_with (go_at_call 85; refine (wmust_yes _).mono ?_; rintro e w' ⟨rfl, rfl⟩)
  all_goals
    go_ret
    exact ⟨rfl, rfl⟩
/-- Bytes of the body, told as they lie. -/
def RetT (pb : Nat) (x : List UInt8) (v : Value) (w' : World) : Prop := ∃ A, v = .slice A x.length x.length ∧ Reads (AtW w' 0 pb) 1 A x.length (u8s x)
theorem wtake_any (pb n : Nat) (bs : List UInt8) (w : World) (h : Cu w pb bs) :
    Calls Tryd.prog 114 #[.pointer (some ⟨pb, 0, none⟩), .int .i64 n] w (PrC w pb (pTake n bs) (RetT pb)) := by
  obtain ⟨A, c, hb, h1, h2, hr⟩ := h
  unfold pTake
  by_cases hn : n ≤ bs.length
  · rw [if_pos hn]
    refine (wtake_yes0 pb A _ c n w hb h1 hn).mono ?_
    rintro r w' ⟨rfl, rfl⟩
    have hg : w.grownBy (w.setCell ⟨pb, 0, none⟩ (.slice (if c = n then A else A.map (·.add n)) (bs.length - n) (c - n))) (some pb) := grown_set _ _ _ _
    have hr' := hr.mono (AtW.grownBy hg (Nat.le_refl _))
    have hlen : (bs.drop n).length = bs.length - n := List.length_drop
    have hlt : (bs.take n).length = n := by rw [List.length_take]; omega
    refine ⟨_, rfl, ⟨A, by rw [hlt], ?_⟩, ⟨if c = n then A else A.map (·.add n), c - n, ?_, by omega, by omega, ?_⟩, hg⟩
    · rw [hlt, u8s_take]; exact hr'.take_ n hn
    · rw [hlen]; exact hb.set_ 0 _
    · rw [hlen, u8s_drop]; exact hr'.drop_ n c hn h1
  · rw [if_neg hn]
    refine (wtake_no0 pb A _ c n w hb (by omega)).mono ?_
    rintro r w' ⟨rfl, rfl⟩
    exact ⟨rfl, GB.refl _ _⟩

set_option maxHeartbeats 400000 in
theorem wbyte_any (pb : Nat) (bs : List UInt8) (w : World) (h : Cu w pb bs) :
    Calls Tryd.prog 86 #[.pointer (some ⟨pb, 0, none⟩)] w (PrC w pb (pNum 1 bs) (RetI .i64)) := by
  have hC := wtake_any pb 1 bs w h
  have hlt := h.lt
  clear h
  cases hp : pTake 1 bs with
  | none =>
    rw [hp] at hC
    have HC := hide hC
    have hq : pNum 1 bs = none := by rw [pNum, hp]
    rw [hq]
    clear hC hp hq
    go_enter Tryd.func86, Tryd.ntmps86
    go_wp2_with fail
    refine HC.out.mono ?_
    rintro e w' ⟨rfl, hg⟩
    have HG := hide hg
    clear hg
    go_wp2_with fail
    exact And.intro rfl (PrC.bad HG.out)
  | some xr =>
    obtain ⟨x, r⟩ := xr
    rw [hp] at hC
    have HC := hide hC
    have hx := (pTake_some hp).2
    obtain ⟨y, rfl⟩ : ∃ y, x = [y] := by
      match x, hx with
      | [y], _ => exact ⟨y, rfl⟩
    have hq : pNum 1 bs = some (y.toNat, r) := by rw [pNum, hp]; simp [le]
    rw [hq]
    have hy := y.toNat_lt
    clear hC hp hq hx
    go_enter Tryd.func86, Tryd.ntmps86
    go_wp2_with fail
    refine HC.out.mono ?_
    rintro e w' ⟨v, rfl, ⟨A, rfl, hr⟩, hcu, hg⟩
    obtain ⟨bk, o, rfl, hcell⟩ := hr.2 (by simp)
    have hc0 : w'.cell? ⟨bk, o, none⟩ = some (.int .u8 (y.toNat : Int)) := (hcell 0 _ (by simp [u8s])).1
    have HCU := hide hcu
    have HG := hide hg
    clear hr hcu hg hcell
    go_wp2_with fail
    go_ret
    exact PrC.good rfl HCU.out HG.out

set_option maxHeartbeats 400000 in
theorem wflag_any (pb : Nat) (bs : List UInt8) (w : World) (h : Cu w pb bs) :
    Calls Tryd.prog 97 #[.pointer (some ⟨pb, 0, none⟩)] w (PrC w pb (pFlag bs) RetB) := by
  have hC := wbyte_any pb bs w h
  clear h
  cases hp : pNum 1 bs with
  | none =>
    rw [hp] at hC
    have HC := hide hC
    have hq : pFlag bs = none := by rw [pFlag, hp]
    rw [hq]
    clear hC hp hq
    go_enter Tryd.func97, Tryd.ntmps97
    go_wp2_with fail
    refine HC.out.mono ?_
    rintro e w' ⟨rfl, hg⟩
    have HG := hide hg
    clear hg
    go_wp2_with fail
    exact And.intro rfl (PrC.bad HG.out)
  | some xr =>
    obtain ⟨k, r⟩ := xr
    rw [hp] at hC
    have HC := hide hC
    have hk := (pNum1_some hp).2
    by_cases h1 : k ≤ 1
    · have hq : pFlag bs = some (decide (k = 1), r) := by rw [pFlag, hp]; simp only; rw [if_pos h1]
      rw [hq]
      have hd : decide ((k : Int) ≤ 1) = true := by simp; omega
      have hb : ((k : Int) == 1) = decide (k = 1) := by
        by_cases h : k = 1
        · subst h; rfl
        · rw [decide_eq_false h]; simp; omega
      obtain ⟨B, hB⟩ : ∃ B, decide (k = 1) = B := ⟨_, rfl⟩
      rw [hB] at hb ⊢
      clear hC hp hq hB
      go_enter Tryd.func97, Tryd.ntmps97
      go_wp2_with fail
      refine HC.out.mono ?_
      rintro e w' ⟨v, rfl, rfl, hcu, hg⟩
      have HCU := hide hcu
      have HG := hide hg
      clear hcu hg
      go_wp2_with fail
      refine (wmust_yes _).mono ?_
      rintro e w2 ⟨rfl, rfl⟩
      go_wp2_with fail
      go_ret
      exact PrC.good rfl HCU.out HG.out
    · have hq : pFlag bs = none := by rw [pFlag, hp]; simp only; rw [if_neg h1]
      rw [hq]
      have hd : decide ((k : Int) ≤ 1) = false := by simp; omega
      clear hC hp hq
      go_enter Tryd.func97, Tryd.ntmps97
      go_wp2_with fail
      refine HC.out.mono ?_
      rintro e w' ⟨v, rfl, rfl, hcu, hg⟩
      have HG := hide hg
      clear hcu hg
      go_wp2_with fail
      refine (wmust_no _).mono ?_
      rintro e w2 ⟨rfl, rfl⟩
      go_wp2_with fail
      exact And.intro rfl (PrC.bad HG.out)

set_option maxRecDepth 100000 in
set_option maxHeartbeats 400000 in
theorem wword_any (pb : Nat) (bs : List UInt8) (w : World) (h : Cu w pb bs) :
    Calls Tryd.prog 99 #[.pointer (some ⟨pb, 0, none⟩)] w (PrC w pb (pNum 4 bs) (RetI .u32)) := by
  have hC := wtake_any pb 4 bs w h
  have hlt := h.lt
  clear h
  cases hp : pTake 4 bs with
  | none =>
    rw [hp] at hC
    have HC := hide hC
    have hq : pNum 4 bs = none := by rw [pNum, hp]
    rw [hq]
    clear hC hp hq
    go_enter Tryd.func99, Tryd.ntmps99
    go_wp2_with fail
    refine HC.out.mono ?_
    rintro e w' ⟨rfl, hg⟩
    have HG := hide hg
    clear hg
    go_wp2_with fail
    exact And.intro rfl (PrC.bad HG.out)
  | some xr =>
    obtain ⟨x, r⟩ := xr
    rw [hp] at hC
    have HC := hide hC
    have hx := (pTake_some hp).2
    have hq : pNum 4 bs = some (le x, r) := by rw [pNum, hp]
    rw [hq]
    have hy : le x < 4294967296 := by have := le_lt x; rw [hx] at this; exact this
    have HX := hide hx
    clear hC hp hq hx
    go_enter Tryd.func99, Tryd.ntmps99
    go_wp2_with fail
    refine HC.out.mono ?_
    rintro e w' ⟨v, rfl, ⟨A, rfl, hr⟩, hcu, hg⟩
    have hin : InB w' A x := ⟨by rw [u8s_length, Nat.mul_one], fun h0 => by
      obtain ⟨bk, o, e, hc⟩ := hr.2 h0
      exact ⟨bk, o, e, fun j u hu => ⟨(hc j u hu).1, Nat.zero_le _, Nat.lt_trans (hc j u hu).2.2 hcu.lt⟩⟩⟩
    have HW := hide (word_any x A x.length w' hin (by rw [HX.out]; omega))
    have HCU := hide hcu
    have HG := hide hg
    clear hr hcu hg hin
    obtain ⟨L, hL⟩ : ∃ L, le x = L := ⟨_, rfl⟩
    rw [hL] at hy HW ⊢
    have HL := hide hL
    clear hL
    go_wp2_with fail
    refine HW.out.mono ?_
    rintro e w2 ⟨rfl, rfl⟩
    go_wp2_with fail
    go_ret
    exact PrC.good (by have := HL.out; show Value.int .u32 _ = Value.int .u32 _; congr 1; omega) HCU.out HG.out

set_option maxHeartbeats 400000 in
theorem wcount_any (pb : Nat) (bs : List UInt8) (w : World) (h : Cu w pb bs) :
    Calls Tryd.prog 87 #[.pointer (some ⟨pb, 0, none⟩)] w (PrC w pb (pCount bs) RetZ) := by
  have hC := wword_any pb bs w h
  clear h
  cases hp : pNum 4 bs with
  | none =>
    rw [hp] at hC
    have HC := hide hC
    have hq : pCount bs = none := by rw [pCount, hp]
    rw [hq]
    clear hC hp hq
    go_enter Tryd.func87, Tryd.ntmps87
    go_wp2_with fail
    refine HC.out.mono ?_
    rintro e w' ⟨rfl, hg⟩
    have HG := hide hg
    clear hg
    go_wp2_with fail
    exact And.intro rfl (PrC.bad HG.out)
  | some xr =>
    obtain ⟨k, r⟩ := xr
    rw [hp] at hC
    have HC := hide hC
    have hk : k < 4294967296 := (pNum_some hp).2
    by_cases h1 : k ≤ 2147483647
    · have hq : pCount bs = some ((k : Int), r) := by rw [pCount, hp]; simp only; rw [if_pos h1]
      rw [hq]
      have hd : decide ((k : Int) ≤ 2147483647) = true := by simp; omega
      clear hC hp hq
      go_enter Tryd.func87, Tryd.ntmps87
      go_wp2_with fail
      refine HC.out.mono ?_
      rintro e w' ⟨v, rfl, rfl, hcu, hg⟩
      have HCU := hide hcu
      have HG := hide hg
      clear hcu hg
      go_wp2_with fail
      refine (wmust_yes _).mono ?_
      rintro e w2 ⟨rfl, rfl⟩
      go_wp2_with fail
      go_ret
      exact PrC.good (by first | rfl | (show Value.int .i64 _ = Value.int .i64 _; congr 1; omega)) HCU.out HG.out
    · have hq : pCount bs = none := by rw [pCount, hp]; simp only; rw [if_neg h1]
      rw [hq]
      have hd : decide ((k : Int) ≤ 2147483647) = false := by simp; omega
      clear hC hp hq
      go_enter Tryd.func87, Tryd.ntmps87
      go_wp2_with fail
      refine HC.out.mono ?_
      rintro e w' ⟨v, rfl, rfl, hcu, hg⟩
      have HG := hide hg
      clear hcu hg
      go_wp2_with fail
      refine (wmust_no _).mono ?_
      rintro e w2 ⟨rfl, rfl⟩
      go_wp2_with fail
      exact And.intro rfl (PrC.bad HG.out)

set_option maxHeartbeats 400000 in
theorem wtext_any (pb : Nat) (bs : List UInt8) (w : World) (h : Cu w pb bs) :
    Calls Tryd.prog 98 #[.pointer (some ⟨pb, 0, none⟩)] w (PrC w pb (pText bs) RetS) := by
  have hC := wbyte_any pb bs w h
  clear h
  cases hp : pNum 1 bs with
  | none =>
    rw [hp] at hC
    have HC := hide hC
    have hq : pText bs = none := by rw [pText, hp]
    rw [hq]
    clear hC hp hq
    go_enter Tryd.func98, Tryd.ntmps98
    go_wp2_with fail
    refine HC.out.mono ?_
    rintro e w' ⟨rfl, hg⟩
    have HG := hide hg
    clear hg
    go_wp2_with fail
    exact And.intro rfl (PrC.bad HG.out)
  | some xr =>
    obtain ⟨k, r⟩ := xr
    rw [hp] at hC
    have HC := hide hC
    have hk := (pNum1_some hp).2
    by_cases h1 : k ≤ 200
    · have hd : decide ((k : Int) ≤ 200) = true := by simp; omega
      cases hp2 : pTake k r with
      | none =>
        have hq : pText bs = none := by rw [pText, hp]; simp only; rw [if_pos h1, hp2]
        rw [hq]
        have HP2 := hide hp2
        clear hC hp hq hp2
        go_enter Tryd.func98, Tryd.ntmps98
        go_wp2_with fail
        refine HC.out.mono ?_
        rintro e w' ⟨v, rfl, rfl, hcu, hg⟩
        have HG := hide hg
        have hC2 := wtake_any pb k r w' hcu
        rw [HP2.out] at hC2
        have HC2 := hide hC2
        clear hcu hg hC2
        go_wp2_with fail
        refine (wmust_yes _).mono ?_
        rintro e w2 ⟨rfl, rfl⟩
        go_wp2_with fail
        refine HC2.out.mono ?_
        rintro e w2 ⟨rfl, hg2⟩
        have HG2 := hide (HG.out.trans hg2)
        clear hg2
        go_wp2_with fail
        exact And.intro rfl (PrC.bad HG2.out)
      | some xr =>
        obtain ⟨x, r2⟩ := xr
        have hq : pText bs = some (⟨x.toArray⟩, r2) := by rw [pText, hp]; simp only; rw [if_pos h1, hp2]
        rw [hq]
        have HP2 := hide hp2
        clear hC hp hq hp2
        go_enter Tryd.func98, Tryd.ntmps98
        go_wp2_with fail
        refine HC.out.mono ?_
        rintro e w' ⟨v, rfl, rfl, hcu, hg⟩
        have HG := hide hg
        have hC2 := wtake_any pb k r w' hcu
        rw [HP2.out] at hC2
        have HC2 := hide hC2
        clear hcu hg hC2
        go_wp2_with fail
        refine (wmust_yes _).mono ?_
        rintro e w2 ⟨rfl, rfl⟩
        go_wp2_with fail
        refine HC2.out.mono ?_
        rintro e w2 ⟨v, rfl, ⟨A, rfl, hr⟩, hcu, hg2⟩
        have HG2 := hide (HG.out.trans hg2)
        have HCU := hide hcu
        have hcv := conv_bstr (cap := x.length) rfl hr
        clear hg2 hcu hr
        go_wp2_with fail
        go_ret
        exact PrC.good rfl HCU.out HG2.out
    · have hq : pText bs = none := by rw [pText, hp]; simp only; rw [if_neg h1]
      rw [hq]
      have hd : decide ((k : Int) ≤ 200) = false := by simp; omega
      clear hC hp hq
      go_enter Tryd.func98, Tryd.ntmps98
      go_wp2_with fail
      refine HC.out.mono ?_
      rintro e w' ⟨v, rfl, rfl, hcu, hg⟩
      have HG := hide hg
      clear hcu hg
      go_wp2_with fail
      refine (wmust_no _).mono ?_
      rintro e w2 ⟨rfl, rfl⟩
      go_wp2_with fail
      exact And.intro rfl (PrC.bad HG.out)
end Go.Proofs.YtojpeiihkjpeoaaDoor
