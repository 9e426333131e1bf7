/- Walks: words of bytes, read and laid, by the program and by the document's answer. -/
import Derived.Test.YtojpeiihkjpeoaaDoorRows
import Derived.Test.YtojpeiihkjpeoaaDoorMem
import Derived.Test.YtojpeiihkjpeoaaDoorSpec
namespace Go.Proofs.YtojpeiihkjpeoaaDoor
open Go.RowKit

theorem info_u8 : (Tryd.prog.info? 5).map (fun i => (i.zero, i.size, i.bytes)) = some (some (.int .u8 0), 1, 1) := by kernel_rfl
theorem under_u8s : Tryd.prog.underlying 26 = some (.slice 5) := by kernel_rfl
theorem under_string : Tryd.prog.underlying 9 = some .string := by kernel_rfl

theorem ret_int {k : IntKind} {a b : Int} (h : a = b) : Ending.returned (.int k a) = .returned (.int k b) := by rw [h]

theorem InB.at_ {w : World} {A : Option Addr} {b : List UInt8} (h : InB w A b) (j : Nat) (hj : j < b.length) : ∃ bk o, A = some ⟨bk, o, none⟩ ∧ bk < w.heap.size ∧ w.cell? ⟨bk, o + j, none⟩ = some (.int .u8 (b[j].toNat : Int)) := by
  obtain ⟨bk, o, e, hc⟩ := h.2 (by omega)
  have := hc j _ (u8s_get b j hj)
  exact ⟨bk, o, e, this.2.2, this.1⟩

set_option maxHeartbeats 400000 in
theorem word_any (b : List UInt8) (A : Option Addr) (cap : Nat) (w : World) (hb : InB w A b) (h8 : b.length ≤ 8) :
    Calls Tryd.prog 95 #[.slice A b.length cap] w fun e w' => e = .returned (.int .u64 (le b)) ∧ w = w' := by
  have HB := hide hb
  clear hb
  go_enter Tryd.func95, Tryd.ntmps95
  go_wp2_with fail
  go_loopg [3, 8] (b.length + 1) (fun gk n i wr => w = wr ∧ ∃ j : Nat, j ≤ b.length ∧ gk + j = b.length + 1 ∧ i = .int .i64 j ∧ n = .int .u64 (le (b.take j)))
  case atStart => exact ⟨rfl, 0, by omega, by omega, rfl, rfl⟩
  case round =>
    obtain ⟨rfl, j, hj, hg, rfl, rfl⟩ := hrel
    obtain ⟨gk', rfl⟩ : ∃ g, gk = g + 1 := ⟨gk - 1, by omega⟩
    by_cases hlt : j < b.length
    · obtain ⟨bk, o, rfl, hbk, e0⟩ := HB.out.at_ j hlt
      have hx := b[j].toNat_lt
      have hs := word_step (le (b.take j)) b[j].toNat j (by omega) (by simpa [Nat.min_eq_left hj] using le_lt (b.take j)) hx
      have hn : le (b.take (j + 1)) = le (b.take j) + b[j].toNat * 256 ^ j := by rw [take_snoc b j hlt, le_snoc]; simp [Nat.min_eq_left hj]
      obtain ⟨x, hxx⟩ : ∃ x : Nat, x = b[j].toNat := ⟨_, rfl⟩
      obtain ⟨L, hL⟩ : ∃ x : Nat, x = le (b.take j) := ⟨_, rfl⟩
      rw [← hL, ← hxx] at hs hn
      rw [← hxx] at e0 hx
      rw [← hL]
      have HS := hide hs
      have HN := hide hn
      clear hL hxx hs hn
      go_wp2_with fail
      go_roundg gk'
      case measure => omega
      case rel => exact ⟨rfl, j + 1, by omega, by omega, by go_num, by rw [HS.out, HN.out]⟩
    · obtain rfl : j = b.length := by omega
      clear hg hlt
      go_wp2_with fail
      go_ret
      exact ⟨ret_int (by rw [List.take_length]), rfl⟩

/-- Where an appended row lies: in the old row's block, or in a new one. -/
def Lies (w : World) (v v' : Value) : Prop := v'.ownBlock = v.ownBlock ∨ ∃ g, v'.ownBlock = some g ∧ w.heap.size ≤ g
theorem Lies.refl (w : World) (v : Value) : Lies w v v := .inl rfl
theorem Lies.step {w w1 : World} {v v1 v2 : Value} (h : Lies w v v1) (hz : w.heap.size ≤ w1.heap.size) (k : v2.ownBlock = v1.ownBlock ∨ v2.ownBlock = some w1.heap.size) : Lies w v v2 := by
  rcases k with k | k
  · rcases h with h | ⟨g, h, hg⟩
    · exact .inl (k.trans h)
    · exact .inr ⟨g, k.trans h, hg⟩
  · exact .inr ⟨_, k, hz⟩
theorem Lies.trans {w w1 : World} {v v1 v2 : Value} (h : Lies w v v1) (hz : w.heap.size ≤ w1.heap.size) (k : Lies w1 v1 v2) : Lies w v v2 := by
  rcases k with k | ⟨g, k, hg⟩
  · exact h.step hz (.inl k)
  · exact .inr ⟨g, k, Nat.le_trans hz hg⟩
/-- Only the row's own block, and what is new, has turned. -/
theorem grownBy_step {w w1 w2 : World} {v v1 : Value} (h : w.grownBy w1 v.ownBlock) (hl : Lies w v v1) (k : w1.grownBy w2 v1.ownBlock) : w.grownBy w2 v.ownBlock :=
  ⟨k.os.trans h.os, k.tape.trans h.tape, k.output.trans h.output, Nat.le_trans h.size k.size, fun i hi hne => by
    refine (k.block i (Nat.lt_of_lt_of_le hi h.size) ?_).trans (h.block i hi hne)
    rcases hl with e | ⟨g, e, hg⟩
    · rw [e]; exact hne
    · rw [e]; intro he; have : i = g := by injection he
      omega⟩
theorem grownBy_alloc {w w1 : World} {row : Option Nat} (h : w.grownBy w1 row) (o : Obj) : w.grownBy (w1.alloc o) row :=
  World.grownBy.trans h (World.grownBy_alloc w1 o row)
theorem Src.one {w : World} (u : Value) (h1 : u.oneCell' = true) (e : TypeId) : Src Tryd.prog 1 26 (.slice (some ⟨w.heap.size, 0, none⟩) 1 1) 1 [u] (w.alloc (.cells #[u] e)) :=
  Src.ofSlice _ under_u8s ⟨w.heap.size, 0, none⟩ 1 1 [u] rfl (cell_one_new w u e) (fun x hx => by simp at hx; subst hx; exact h1)
theorem u8s_snoc (b : List UInt8) (x : UInt8) : u8s b ++ [.int .u8 (x.toNat : Int)] = u8s (b ++ [x]) := by simp [u8s]

/-- A row of bytes of the call's own, from block base on. -/
def Row (w : World) (base : Nat) (v : Value) (m : Nat) (xs : List UInt8) : Prop := w.ownsRow base 5 1 v m (u8s xs)
/-- Only the row's own block has turned, and there may be more; the new row lies in the old one's block, or in a new one. -/
structure Grew (w : World) (v : Value) (w' : World) (v' : Value) : Prop where
  grow : w.grownBy w' v.ownBlock
  lies : Lies w v v'
theorem Grew.refl (w : World) (v : Value) : Grew w v w v := ⟨World.grownBy.refl _ _, Lies.refl _ _⟩
theorem Grew.size {w w' : World} {v v' : Value} (h : Grew w v w' v') : w.heap.size ≤ w'.heap.size := h.grow.size
theorem Grew.trans {w w1 w2 : World} {v v1 v2 : Value} (h : Grew w v w1 v1) (k : Grew w1 v1 w2 v2) : Grew w v w2 v2 :=
  ⟨grownBy_step h.grow h.lies k.grow, h.lies.trans h.size k.lies⟩
theorem Grew.of_grow {w w' : World} (v : Value) (h : Grow w w') : Grew w v w' v := ⟨⟨h.os, h.tape, h.output, h.size, fun k hk _ => h.below.block k hk⟩, Lies.refl _ _⟩
theorem Grew.alloc {w w1 : World} {v v1 : Value} (h : Grew w v w1 v1) (o : Obj) : Grew w v (w1.alloc o) v1 := h.trans (Grew.of_grow v1 ((Grow.refl w1).alloc o))
theorem Grew.drew {w w1 : World} {v v1 : Value} (h : Grew w v w1 v1) : Grew w v w1.drew v1 := h.trans (Grew.of_grow v1 (Grow.refl w1).drew)
theorem Row.alloc {w : World} {base m : Nat} {v : Value} {xs : List UInt8} (h : Row w base v m xs) (o : Obj) : Row (w.alloc o) base v m xs := World.ownsRow.alloc h o
theorem Row.drew {w : World} {base m : Nat} {v : Value} {xs : List UInt8} (h : Row w base v m xs) : Row w.drew base v m xs := h
theorem Row.grow {w w' : World} {base m : Nat} {v : Value} {xs : List UInt8} (h : Row w base v m xs) (hg : Grow w w') : Row w' base v m xs :=
  World.ownsRow.kept h (row := none) ⟨hg.os, hg.tape, hg.output, hg.size, fun k hk _ => hg.below.block k hk⟩ (by cases v.ownBlock <;> simp)
/-- All that lies below the row's base stays. -/
theorem Grew.below {w w' : World} {base m : Nat} {v v' : Value} {xs : List UInt8} (h : Grew w v w' v') (hr : Row w base v m xs) (hb : base ≤ w.heap.size) : Below base w w' :=
  (Below.refl base w).grown h.grow hb (fun k hk => (World.ownsRow.lt hr k hk).1)
/-- Another block stays. -/
theorem Grew.blk {w w' : World} {v v' : Value} (h : Grew w v w' v') {g : Nat} {t : TypeId} {cs : Array Value} (hb : Blk w g t cs) (hne : v.ownBlock ≠ some g) : Blk w' g t cs :=
  (h.grow.block g hb.lt (fun e => hne e.symm)).trans hb
theorem Row.ne {w : World} {base m : Nat} {v : Value} {xs : List UInt8} (h : Row w base v m xs) {g : Nat} {t : TypeId} {cs : Array Value} (hb : Blk w g t cs) (ht : t ≠ 5) : v.ownBlock ≠ some g := by
  rcases h.2 with ⟨rfl, _⟩ | ⟨g', cap, cur, rfl, _, hh, _⟩
  · simp [Value.ownBlock]
  · intro he
    have : g' = g := by simpa [Value.ownBlock] using he
    subst this
    unfold Blk at hb
    rw [hh] at hb
    injection hb with hb
    injection hb with _ e
    exact ht e.symm
theorem Row.made {w : World} (cur : Array Value) (cap : Nat) (hm : cap ≤ maxLen) (hs : cur.size = cap) : Row (w.alloc (.cells cur 5)) w.heap.size (.slice (some ⟨w.heap.size, 0, none⟩) 0 cap) 0 [] :=
  World.ownsRow_made w cur cap (Nat.le_refl _) hm (by omega)
/-- The row's bytes, read. -/
theorem Row.reads {w : World} {base m : Nat} {A : Option Addr} {c : Nat} {xs : List UInt8} (h : Row w base (.slice A m c) m xs) : InB w A xs ∧ xs.length = m := by
  have hl : xs.length = m := by simpa [u8s] using h.1
  refine ⟨⟨by rw [u8s_length, Nat.mul_one], fun hn => ?_⟩, hl⟩
  obtain ⟨g, cap, hv, _, hlt⟩ := World.ownsRow.form h (by omega)
  have hA : A = some ⟨g, 0, none⟩ := by injection hv
  subst hA
  refine ⟨g, 0, rfl, fun j u hu => ⟨?_, Nat.zero_le _, hlt⟩⟩
  rw [← add_lit]
  exact World.ownsRow.cells h (g := g) rfl j u hu

section
variable {w : World} {ops : Array Oper} {rest : List Oper} {o : Oper} {a : Act} {Q : Exit → Act → World → Prop}
/-- Appending bytes of whatever source onto such a row. -/
theorem app_src (hgd : o.guard = none) (s x : Operand) (tx : TypeId)
    (ho : o.op = .call { callee := .builtin .append, args := #[s, x], argTypes := #[26, tx] })
    {base m : Nat} {A : Option Addr} {c : Nat} {xs ys : List UInt8} (hv : a.eval s = .slice A m c) (hrow : Row w base (.slice A m c) m xs) (u : Value) (hx : a.eval x = u) (hs : Src Tryd.prog 1 tx u ys.length (u8s ys) w)
    (hbytes : m + ys.length ≤ 140737488400000) (hbase : base ≤ w.heap.size)
    (h : ∀ A' c' w', Row w' base (.slice A' (m + ys.length) c') (m + ys.length) (xs ++ ys) → Grew w (.slice A m c) w' (.slice A' (m + ys.length) c') → wpList Tryd.prog ops Q rest (a.put o.dst (.slice A' (m + ys.length) c')) w') : wpList Tryd.prog ops Q (o :: rest) a w := by
  obtain ⟨i0, hi0, hz0, hz1, hz2⟩ := info_parts info_u8
  refine wpList_append_fit hgd s x _ tx ho base 5 i0 _ 1 1 under_u8s hi0 hz0 hz1 hz2 rfl _ m _ hv hrow u ys.length _ hx hs (fun _ ho => fits_wide ho hbytes) (by simp only [maxLen]; omega) hbase (fun A' c' w' h2 h3 h4 => h A' c' w' ?_ ⟨h3, ?_⟩)
  · unfold Row; rw [u8s_append]; exact h2
  · rcases h4 with h4 | h4
    · exact .inl h4
    · exact .inr ⟨_, h4, Nat.le_refl _⟩
theorem step_app_src {K : Act → World → Prop} {E : Prop} (hgd : o.guard = none) (s x : Operand) (tx : TypeId)
    (ho : o.op = .call { callee := .builtin .append, args := #[s, x], argTypes := #[26, tx] })
    {base m : Nat} {A : Option Addr} {c : Nat} {xs ys : List UInt8} (hv : a.eval s = .slice A m c) (hrow : Row w base (.slice A m c) m xs) (u : Value) (hx : a.eval x = u) (hs : Src Tryd.prog 1 tx u ys.length (u8s ys) w)
    (hbytes : m + ys.length ≤ 140737488400000) (hbase : base ≤ w.heap.size)
    (h : ∀ A' c' w', Row w' base (.slice A' (m + ys.length) c') (m + ys.length) (xs ++ ys) → Grew w (.slice A m c) w' (.slice A' (m + ys.length) c') → K (a.put o.dst (.slice A' (m + ys.length) c')) w') :
    if Region.wanted o (yielded ops a.tmps) = true then Oper.wp Tryd.prog o a w K Q else E := by
  obtain ⟨i0, hi0, hz0, hz1, hz2⟩ := info_parts info_u8
  refine step_append_fit hgd s x _ tx ho base 5 i0 _ 1 1 under_u8s hi0 hz0 hz1 hz2 rfl _ m _ hv hrow u ys.length _ hx hs (fun _ ho => fits_wide ho hbytes) (by simp only [maxLen]; omega) hbase (fun A' c' w' h2 h3 h4 => h A' c' w' ?_ ⟨h3, ?_⟩)
  · unfold Row; rw [u8s_append]; exact h2
  · rcases h4 with h4 | h4
    · exact .inl h4
    · exact .inr ⟨_, h4, Nat.le_refl _⟩
end
/-- One byte, laid in a block of its own: as a source. -/
theorem src_one {w : World} {g : Nat} {e : Int} (b : UInt8) (he : (b.toNat : Int) = e) (hb : Blk w g 5 #[.int .u8 e]) : Src Tryd.prog 1 26 (.slice (some ⟨g, 0, none⟩) 1 1) [b].length (u8s [b]) w := by
  refine Src.ofSlice w under_u8s ⟨g, 0, none⟩ 1 1 (u8s [b]) rfl (fun j u hu => ?_) (u8s_one _)
  rw [add_lit, Nat.zero_add, hb.cell]
  match j, hu with
  | 0, hu => simp [u8s] at hu ⊢; rw [← hu, he]

set_option maxHeartbeats 400000 in
theorem lay_any (n size : Nat) (base : Nat) (A : Option Addr) (c m : Nat) (xs : List UInt8) (w : World) (hown : Row w base (.slice A m c) m xs) (hbase : base ≤ w.heap.size) (_hn : n < 18446744073709551616) (hs : size ≤ 8) (hm : m + size ≤ 140737488355328) :
    Calls Tryd.prog 48 #[.slice A m c, .int .i64 size, .int .u64 n] w fun e w' => ∃ A' c', e = .returned (.slice A' (m + size) c') ∧ Row w' base (.slice A' (m + size) c') (m + size) (xs ++ toLe size n) ∧
      Grew w (.slice A m c) w' (.slice A' (m + size) c') := by
  obtain ⟨i0, hi0, hz0, hz1, hz2⟩ := info_parts info_u8
  have HO := hide hown
  have Hi0 := hide hi0
  have Hz0 := hide hz0
  have Hz1 := hide hz1
  have Hz2 := hide hz2
  clear hown hi0 hz0 hz1 hz2
  go_enter Tryd.func48, Tryd.ntmps48
  go_wp2_with fail
  go_loopg [0, 9] (size + 1) (fun gk v' i wr => ∃ (j : Nat) (A' : Option Addr) (c' : Nat), j ≤ size ∧ gk + j = size + 1 ∧ i = .int .i64 j ∧ v' = .slice A' (m + j) c' ∧ wr.ownsRow base 5 1 (.slice A' (m + j) c') (m + j) (u8s (xs ++ toLe j n)) ∧ w.grownBy wr (Value.ownBlock (.slice A m c)) ∧
    Lies w (.slice A m c) (.slice A' (m + j) c') ∧ w.heap.size ≤ wr.heap.size)
  case atStart => exact ⟨0, A, c, by omega, by omega, rfl, rfl, by rw [toLe_zero, List.append_nil]; exact HO.out, World.grownBy.refl _ _, Lies.refl _ _, Nat.le_refl _⟩
  case round =>
    obtain ⟨j, A', c', hj, hg, rfl, rfl, hown, hgr, hat, hz⟩ := hrel
    obtain ⟨gk', rfl⟩ : ∃ g, gk = g + 1 := ⟨gk - 1, by omega⟩
    by_cases hlt : j < size
    · have HO := hide hown
      have HG := hide hgr
      have HA := hide hat
      clear hown hgr hat
      have hB : Hid (u8s (xs ++ toLe j n) ++ [.int .u8 ((n : Int) / 2 ^ (8 * j) % 256)] = u8s (xs ++ toLe (j + 1) n)) := by
        show _ = _
        rw [toLe_succ, ← List.append_assoc, ← u8s_snoc, byte_of, ← pow256]; rfl
      go_wp2_with (at_builtin; refine wpList_append_src rfl (.tmp 12) (.tmp 18) _ _ rfl base 5 i0 _ 1 1 under_u8s Hi0.out Hz0.out Hz1.out Hz2.out rfl (.slice A' (m + j) c') (m + j) _ rfl (HO.out.alloc _) _ 1 _ rfl (Src.one _ rfl _) (by omega) (by simp only [maxLen]; omega) (by simp; omega) ?_; intro A2 c2 w2 hown2 hgr2 hat2)
      rw [hB.out] at hown2
      have HG2 := hide (grownBy_step (grownBy_alloc HG.out _) HA.out hgr2)
      have HA2 := hide (HA.out.step (v2 := .slice A2 (m + j + 1) c2) (w1 := wr.alloc (.cells #[.int .u8 ((n : Int) / 2 ^ (8 * j) % 256)] 5)) (by simp; omega) hat2)
      have HO2 := hide hown2
      have hz2 := hgr2.size
      simp at hz2
      clear hown2 hgr2 hat2 HG HA HO hB
      go_wp2_with fail
      go_roundg gk'
      case measure => omega
      case rel => exact ⟨j + 1, A2, c2, by omega, by omega, by go_num, rfl, HO2.out, HG2.out, HA2.out, by omega⟩
    · obtain rfl : j = size := by omega
      have HO := hide hown
      have HG := hide hgr
      have HA := hide hat
      clear hown hgr hat hg hlt
      go_wp2_with fail
      go_ret
      exact ⟨A', c', rfl, HO.out, ⟨HG.out, HA.out⟩⟩

theorem drop_take_snoc (b : List UInt8) (at_ j size : Nat) (h : at_ + size ≤ b.length) (hj : j < size) :
    (b.drop (at_ + j)).take (size - j) = b[at_ + j]'(by omega) :: (b.drop (at_ + (j + 1))).take (size - (j + 1)) := by
  rw [List.drop_eq_getElem_cons (by omega), show size - j = (size - (j + 1)) + 1 from by omega, List.take_succ_cons]
  rfl

set_option maxHeartbeats 400000 in
theorem refGet_any (b : List UInt8) (A : Option Addr) (cap at_ size : Nat) (w : World) (hb : InB w A b) (h8 : size ≤ 8) (hat : at_ + size ≤ b.length) (hl : b.length ≤ 140737488355328) :
    Calls Tryd.prog 92 #[.slice A b.length cap, .int .i64 at_, .int .i64 size] w fun e w' => e = .returned (.int .u64 (le ((b.drop at_).take size))) ∧ w = w' := by
  have HB := hide hb
  clear hb
  go_enter Tryd.func92, Tryd.ntmps92
  go_wp2_with fail
  go_loopg [7, 8] (size + 1) (fun gk n i wr => w = wr ∧ ∃ j : Nat, j ≤ size ∧ gk = j + 1 ∧ i = .int .i64 ((j : Int) - 1) ∧ n = .int .u64 (le ((b.drop (at_ + j)).take (size - j))))
  case atStart => exact ⟨rfl, size, by omega, by omega, rfl, by simp [le]⟩
  case round =>
    obtain ⟨rfl, j, hj, rfl, rfl, rfl⟩ := hrel
    rcases j with _ | j
    · go_wp2_with fail
      go_ret
      exact ⟨ret_int (by simp), rfl⟩
    · obtain ⟨bk, o, rfl, hbk, e0⟩ := HB.out.at_ (at_ + j) (by omega)
      have hx := (b[at_ + j]'(by omega)).toNat_lt
      have hlt : le ((b.drop (at_ + (j + 1))).take (size - (j + 1))) < 256 ^ (size - (j + 1)) := by
        have := le_lt ((b.drop (at_ + (j + 1))).take (size - (j + 1)))
        rwa [List.length_take, List.length_drop, Nat.min_eq_left (by omega)] at this
      have hs := word_down _ (b[at_ + j]'(by omega)).toNat (size - (j + 1)) (by omega) hlt hx
      have hn := congrArg le (drop_take_snoc b at_ j size hat (by omega))
      rw [le_cons] at hn
      obtain ⟨x, hxx⟩ : ∃ x : Nat, x = (b[at_ + j]'(by omega)).toNat := ⟨_, rfl⟩
      obtain ⟨L, hL⟩ : ∃ x : Nat, x = le ((b.drop (at_ + (j + 1))).take (size - (j + 1))) := ⟨_, rfl⟩
      rw [← hL, ← hxx] at hs hn
      rw [← hxx] at e0 hx
      rw [← hL]
      have HS := hide hs
      have HN := hide hn
      have hj1 : ((j + 1 : Nat) : Int) - 1 = (j : Int) := by omega
      rw [hj1]
      clear hL hxx hs hn hlt hj1
      go_wp2_with fail
      go_roundg (j + 1)
      case measure => omega
      case rel => exact ⟨rfl, j, by omega, rfl, rfl, by rw [HS.out, HN.out]⟩

set_option maxHeartbeats 400000 in
theorem refPut_any (n size : Nat) (w : World) (_hn : n < 18446744073709551616) (hs : size ≤ 8) :
    Calls Tryd.prog 89 #[.int .u64 n, .int .i64 size] w fun e w' => ∃ A' c', e = .returned (.slice A' size c') ∧ Row w' w.heap.size (.slice A' size c') size (toLe size n) ∧ Grow w w' := by
  obtain ⟨i0, hi0, hz0, hz1, hz2⟩ := info_parts info_u8
  have Hi0 := hide hi0
  have Hz0 := hide hz0
  have Hz1 := hide hz1
  have Hz2 := hide hz2
  clear hi0 hz0 hz1 hz2
  go_enter Tryd.func89, Tryd.ntmps89
  go_wp2_with fail
  go_loopg [5, 6] (size + 1) (fun gk v' i wr => ∃ (j : Nat) (A' : Option Addr) (c' : Nat), j ≤ size ∧ gk + j = size + 1 ∧ i = .int .i64 j ∧ v' = .slice A' j c' ∧ wr.ownsRow w.heap.size 5 1 (.slice A' j c') j (u8s (toLe j n)) ∧ Grow w wr)
  case atStart => exact ⟨0, none, 0, by omega, by omega, rfl, rfl, World.ownsRow_nil _ _ _ _, Grow.refl _⟩
  case round =>
    obtain ⟨j, A', c', hj, hg, rfl, rfl, hown, hgr⟩ := hrel
    obtain ⟨gk', rfl⟩ : ∃ g, gk = g + 1 := ⟨gk - 1, by omega⟩
    have hz := hgr.size
    by_cases hlt : j < size
    · have HO := hide hown
      have HG := hide hgr
      clear hown hgr
      have hB : Hid (u8s (toLe j n) ++ [.int .u8 ((n : Int) / 2 ^ (8 * j) % 256)] = u8s (toLe (j + 1) n)) := by
        show _ = _
        rw [toLe_succ, ← u8s_snoc, byte_of, ← pow256]; rfl
      go_wp2_with (at_builtin; refine wpList_append_src rfl (.tmp 12) (.tmp 19) _ _ rfl w.heap.size 5 i0 _ 1 1 under_u8s Hi0.out Hz0.out Hz1.out Hz2.out rfl (.slice A' j c') j _ rfl (HO.out.alloc _) _ 1 _ rfl (Src.one _ rfl _) (by omega) (by simp only [maxLen]; omega) (by simp; omega) ?_; intro A2 c2 w2 hown2 hgr2 hat2)
      rw [hB.out] at hown2
      have HG2 := hide ((HG.out.alloc _).grown hgr2 (fun k hk => (HO.out.lt k hk).1))
      have HO2 := hide hown2
      clear hown2 hgr2 hat2 HG HO hB
      go_wp2_with fail
      go_roundg gk'
      case measure => omega
      case rel => exact ⟨j + 1, A2, c2, by omega, by omega, by go_num, rfl, HO2.out, HG2.out⟩
    · obtain rfl : j = size := by omega
      have HO := hide hown
      have HG := hide hgr
      clear hown hgr hg hlt
      go_wp2_with fail
      go_ret
      exact ⟨A', c', rfl, HO.out, HG.out⟩
end Go.Proofs.YtojpeiihkjpeoaaDoor
