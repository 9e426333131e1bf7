/- Laws on append onto a row of the call's own, of whatever is appended: where the new row lies is told. No program in sight. -/
import Derived.Test.YtojpeiihkjpeoaaDoorBase
import Derived.Deep.AppendSrc
import Derived.Maps.AppendAt
import Derived.Lib.AppendStr
namespace Go.Proofs.YtojpeiihkjpeoaaDoor
open Go.RowKit

theorem u8s_length (b : List UInt8) : (u8s b).length = b.length := by simp [u8s]
theorem u8s_append (a b : List UInt8) : u8s (a ++ b) = u8s a ++ u8s b := by simp [u8s]
theorem u8s_one (b : List UInt8) : ∀ u ∈ u8s b, u.oneCell' = true := by
  intro u hu; obtain ⟨x, _, rfl⟩ := List.mem_map.1 hu; rfl
theorem u8s_get (b : List UInt8) (j : Nat) (h : j < b.length) : (u8s b)[j]? = some (.int .u8 (b[j].toNat : Int)) := by simp [u8s, h]

theorem add_lit (b o j : Nat) : (⟨b, o, none⟩ : Addr).add j = ⟨b, o + j, none⟩ := by unfold Addr.add; split <;> simp_all

theorem take_set_succ {α : Type} (v : α) : ∀ (l : List α) (o : Nat), o < l.length → (l.set o v).take (o + 1) = l.take o ++ [v]
  | [], o, h => by simp at h
  | x :: l, 0, _ => by simp
  | x :: l, o + 1, h => by
    simp only [List.set_cons_succ, List.take_succ_cons, List.cons_append]
    rw [take_set_succ v l o (by simpa using h)]
theorem drop_set_lt {α : Type} (v : α) : ∀ (l : List α) (o k : Nat), o < k → (l.set o v).drop k = l.drop k
  | [], _, _, _ => by simp
  | x :: l, 0, k + 1, _ => by simp
  | x :: l, o + 1, k + 1, h => by
    simp only [List.set_cons_succ, List.drop_succ_cons]
    exact drop_set_lt v l o k (by omega)
theorem setCells_block (g : Nat) (e : TypeId) : ∀ (vs : List Value) (w : World) (o : Nat) (cur : Array Value), w.heap[g]? = some (.cells cur e (0, 0)) → o + vs.length ≤ cur.size →
    (w.setCells g o vs).heap[g]? = some (.cells (cur.toList.take o ++ vs ++ cur.toList.drop (o + vs.length)).toArray e (0, 0))
  | [], w, o, cur, hg, ho => by
    simp only [World.setCells, List.append_nil, List.length_nil, Nat.add_zero, List.take_append_drop, Array.toArray_toList]; exact hg
  | v :: r, w, o, cur, hg, ho => by
    simp only [World.setCells]
    have h1 : (w.setCell ⟨g, o, none⟩ v).heap[g]? = some (.cells (cur.setIfInBounds o v) e (0, 0)) := by
      simp [World.setCell, Array.getElem?_modify, hg]
    simp only [List.length_cons] at ho
    rw [setCells_block g e r _ (o + 1) _ h1 (by simp; omega)]
    have hl : o < cur.toList.length := by simp; omega
    simp only [Array.toList_setIfInBounds, take_set_succ v _ _ hl, drop_set_lt v _ o (o + 1 + r.length) (by omega), List.append_assoc, List.cons_append, List.nil_append, List.length_cons]
    rw [show o + 1 + r.length = o + (r.length + 1) from by omega]
theorem setCells_grown (g : Nat) (R : Option Nat) (hR : R = some g) : ∀ (vs : List Value) (w : World) (o : Nat), w.grownBy (w.setCells g o vs) R
  | [], w, _ => World.grownBy.refl w _
  | v :: r, w, o => by
    subst hR
    have h1 : w.grownBy (w.setCell ⟨g, o, none⟩ v) (some g) := ⟨rfl, rfl, rfl, by simp [World.setCell], fun k _ hk => Below.heap_setCell w ⟨g, o, none⟩ v k (fun e => hk (by rw [e]))⟩
    exact World.grownBy.trans h1 (setCells_grown g _ rfl r _ (o + 1))

section
variable {P : Program} {w : World}

theorem Src.ofReads {size : Nat} {tx e' : TypeId} (hk : P.underlying tx = some (.slice e')) {lo hi : Nat} {A : Option Addr} {n c : Nat} {news : List Value} (h : Reads (AtW w lo hi) size A n news)
    (h1 : ∀ u ∈ news, u.oneCell' = true) : Src P size tx (.slice A n c) n news w := by
  rcases Nat.eq_zero_or_pos n with h0 | h0
  · subst h0
    have hn : news = [] := List.eq_nil_of_length_eq_zero (by simpa using h.1)
    subst hn
    rcases A with _ | ad
    · exact Src.ofNil w hk c
    · exact Src.ofSlice w hk ad 0 c [] (by simp) (fun j u hu => by simp at hu) h1
  · obtain ⟨bk, o, rfl, hc⟩ := h.2 h0
    exact Src.ofSlice w hk ⟨bk, o, none⟩ n c news h.1 (fun j u hu => by rw [add_lit]; exact (hc j u hu).1) h1

/-- What a bound lets any growth pass. -/
theorem fits_wide {need old : Nat} (h : old < need) (hb : need ≤ 140737488400000) : Builtin.nextslicecap need old * 1 ≤ 281474976710656 := by
  rw [Nat.mul_one]
  unfold Builtin.nextslicecap
  split
  · omega
  · split
    · omega
    · rw [growBy_four]
      repeat' split
      all_goals omega

/-- Appending whatever a source yields onto a row of the call's own. -/
theorem run_append_fit (base : Nat) (t tx ty e : TypeId) (i : TypeInfo) (z : Value) (size bytes : Nat) (ht : P.underlying t = some (.slice e)) (hi : P.info? e = some i) (hz : i.zero = some z)
    (hsize : i.size = size) (hby : i.bytes = bytes) (hzs : z.cells.size = size)
    (v : Value) (n : Nat) (xs : List Value) (hown : w.ownsRow base e size v n xs) (x : Value) (m : Nat) (news : List Value) (hs : Src P size tx x m news w)
    (hfit : ∀ old, old < n + m → Builtin.nextslicecap (n + m) old * bytes ≤ 281474976710656) (h63 : n + m ≤ maxLen) (hbase : base ≤ w.heap.size) :
    ∃ A c w', (Builtin.append_ #[t, tx] ty #[v, x]).run P w = .ok (.slice A (n + m) c) w' ∧ w'.ownsRow base e size (.slice A (n + m) c) (n + m) (xs ++ news) ∧ w.grownBy w' v.ownBlock ∧
      (Value.ownBlock (.slice A (n + m) c) = v.ownBlock ∨ Value.ownBlock (.slice A (n + m) c) = some w.heap.size) := by
  subst hsize
  subst hby
  have hsmall : n + m ≤ 9223372036854775807 := by simp only [maxLen] at h63; omega
  have hlen : (xs ++ news).length = (n + m) * i.size := by rw [List.length_append, hown.1, hs.newsLen, Nat.add_mul]
  have grown : ∀ (old : Nat), old < n + m → ∀ (row : Option Nat),
      (w.drew.alloc (.cells ((xs ++ news).toArray ++ Builtin.zeroCells z.cells (grownCap w (n + m) old e - (n + m))) e)).ownsRow base e i.size
        (.slice (some ⟨w.heap.size, 0, none⟩) (n + m) (grownCap w (n + m) old e)) (n + m) (xs ++ news) ∧
      w.grownBy (w.drew.alloc (.cells ((xs ++ news).toArray ++ Builtin.zeroCells z.cells (grownCap w (n + m) old e - (n + m))) e)) row := by
    intro old ho row
    have hge := grownCap_ge w (n + m) old e
    have hcm : grownCap w (n + m) old e ≤ maxLen := grownCap_le_maxLen w (n + m) old e h63
    refine ⟨⟨hlen, .inr ⟨w.heap.size, _, _, rfl, hbase, heap_alloc_new w.drew _, hge, hcm, ?_, ?_⟩⟩, ⟨rfl, rfl, rfl, by simp, fun k hk _ => Below.heap_alloc w.drew _ k hk⟩⟩
    · simp only [Array.size_append, List.size_toArray, size_zeroCells, hzs, hlen, ← Nat.add_mul]
      congr 1
      omega
    · simp only [Array.toList_append, List.append_assoc]
      rw [← List.append_assoc, ← hlen]
      exact List.take_left
  rcases hown.2 with ⟨rfl, rfl⟩ | ⟨g, cap, cur, rfl, hbg, hg, hnc, hcm, hcs, htake⟩
  · have hx : xs = [] := List.eq_nil_of_length_eq_zero (by simpa using hown.1)
    subst hx
    by_cases hm : m = 0
    · subst hm
      have hn : news = [] := List.eq_nil_of_length_eq_zero (by simpa using hs.newsLen)
      subst hn
      refine ⟨none, 0, w, ?_, World.ownsRow_nil w base e _, ⟨rfl, rfl, rfl, Nat.le_refl _, fun _ _ _ => rfl⟩, .inl rfl⟩
      have hc := hs.cells
      rcases hs.kind with ⟨e', hk⟩ | hk <;> simp [Builtin.append_, run_underlying ht, run_underlying hk, sizeOf, typeInfo, hi, hs.len, hc]
    · have hr := run_append_grow_src (P := P) w t tx ty e i z ht hi hz none 0 0 [] (run_firstCells_none w.drew i.size 0 0 0) x m news hs (by omega) (by omega) (hfit _ (by omega))
      have hgr := grown 0 (by omega) (Value.ownBlock (.slice none 0 0))
      exact ⟨_, _, _, hr, hgr.1, hgr.2, .inr rfl⟩
  · by_cases hroom : n + m ≤ cap
    · have hcell : ∀ j, w.cell? ⟨g, j, none⟩ = cur[j]? := fun j => cell_of_row w g j cur e (0, 0) hg
      have hin : ∀ j, j < news.length → n * i.size + j < cur.size := fun j hj => by
        rw [hcs]; rw [hs.newsLen] at hj
        have : (n + m) * i.size ≤ cap * i.size := Nat.mul_le_mul_right _ hroom
        rw [Nat.add_mul] at this; omega
      have hr := run_append_room_src (P := P) w t tx ty e i ht hi g 0 n cap x m news hs hroom
        (fun j hj => by rw [hcell, Nat.zero_add]; simp [hin j hj]) (fun j hj => by simp [World.frozen?, hg])
      rw [Nat.zero_add] at hr
      refine ⟨_, _, _, hr, ⟨hlen, .inr ⟨g, cap, (cur.toList.take (n * i.size) ++ news ++ cur.toList.drop (n * i.size + news.length)).toArray, rfl, hbg, setCells_block g e news w (n * i.size) cur hg ?_, hroom, hcm, ?_, ?_⟩⟩, ?_, .inl rfl⟩
      · have : (n + m) * i.size ≤ cap * i.size := Nat.mul_le_mul_right _ hroom
        rw [Nat.add_mul] at this; rw [hcs, hs.newsLen]; omega
      · have : (n + m) * i.size ≤ cap * i.size := Nat.mul_le_mul_right _ hroom
        rw [Nat.add_mul] at this
        simp only [List.size_toArray, List.length_append, List.length_take, List.length_drop, Array.length_toList, hs.newsLen, hcs]
        omega
      · rw [htake, ← hlen]
        exact List.take_left
      · exact setCells_grown g _ rfl news w (n * i.size)
    · have holds : ∀ j u, xs[j]? = some u → w.cell? ((⟨g, 0, none⟩ : Addr).add j) = some u := hown.cells (g := g) rfl
      have hr := run_append_grow_src (P := P) w t tx ty e i z ht hi hz (some ⟨g, 0, none⟩) n cap xs (run_firstCells_some w.drew i.size n ⟨g, 0, none⟩ n cap xs hown.1 (by simpa using holds)) x m news hs (by omega) (by omega) (hfit _ (by omega))
      have hgr := grown cap (by omega) (Value.ownBlock (.slice (some ⟨g, 0, none⟩) n cap))
      exact ⟨_, _, _, hr, hgr.1, hgr.2, .inr rfl⟩

theorem wp_append_fit {o : Oper} {a : Act} {K : Act → World → Prop} {Q : Exit → Act → World → Prop} (s x : Operand) (t tx : TypeId)
    (ho : o.op = .call { callee := .builtin .append, args := #[s, x], argTypes := #[t, tx] })
    (base : Nat) (e : TypeId) (i : TypeInfo) (z : Value) (size bytes : Nat) (ht : P.underlying t = some (.slice e)) (hi : P.info? e = some i) (hz : i.zero = some z)
    (hsize : i.size = size) (hby : i.bytes = bytes) (hzs : z.cells.size = size)
    (v : Value) (n : Nat) (xs : List Value) (hv : a.eval s = v) (hown : w.ownsRow base e size v n xs) (u : Value) (m : Nat) (news : List Value) (hx : a.eval x = u) (hs : Src P size tx u m news w)
    (hfit : ∀ old, old < n + m → Builtin.nextslicecap (n + m) old * bytes ≤ 281474976710656) (h63 : n + m ≤ maxLen) (hbase : base ≤ w.heap.size)
    (h : ∀ A c w', w'.ownsRow base e size (.slice A (n + m) c) (n + m) (xs ++ news) → w.grownBy w' v.ownBlock →
      (Value.ownBlock (.slice A (n + m) c) = v.ownBlock ∨ Value.ownBlock (.slice A (n + m) c) = some w.heap.size) → K (a.put o.dst (.slice A (n + m) c)) w') : o.wp P a w K Q := by
  obtain ⟨A, c, w', hr, h2, h3, h4⟩ := run_append_fit (P := P) (w := w) base t tx o.type e i z size bytes ht hi hz hsize hby hzs v n xs hown u m news hs hfit h63 hbase
  unfold Oper.wp execOp
  simp only [ho, resolve, invoke, builtin, Sem.run_bind, Sem.run_pure, Result.andThen_ok, List.map_toArray, List.map_cons, List.map_nil, hv, hx, hr]
  exact h A c w' h2 h3 h4

theorem wpList_append_fit {ops : Array Oper} {rest : List Oper} {o : Oper} {a : Act} {Q : Exit → Act → World → Prop} (hgd : o.guard = none) (s x : Operand) (t tx : TypeId)
    (ho : o.op = .call { callee := .builtin .append, args := #[s, x], argTypes := #[t, tx] })
    (base : Nat) (e : TypeId) (i : TypeInfo) (z : Value) (size bytes : Nat) (ht : P.underlying t = some (.slice e)) (hi : P.info? e = some i) (hz : i.zero = some z)
    (hsize : i.size = size) (hby : i.bytes = bytes) (hzs : z.cells.size = size)
    (v : Value) (n : Nat) (xs : List Value) (hv : a.eval s = v) (hown : w.ownsRow base e size v n xs) (u : Value) (m : Nat) (news : List Value) (hx : a.eval x = u) (hs : Src P size tx u m news w)
    (hfit : ∀ old, old < n + m → Builtin.nextslicecap (n + m) old * bytes ≤ 281474976710656) (h63 : n + m ≤ maxLen) (hbase : base ≤ w.heap.size)
    (h : ∀ A c w', w'.ownsRow base e size (.slice A (n + m) c) (n + m) (xs ++ news) → w.grownBy w' v.ownBlock →
      (Value.ownBlock (.slice A (n + m) c) = v.ownBlock ∨ Value.ownBlock (.slice A (n + m) c) = some w.heap.size) → wpList P ops Q rest (a.put o.dst (.slice A (n + m) c)) w') : wpList P ops Q (o :: rest) a w :=
  wpList_plain hgd fun _ hK => wp_append_fit s x t tx ho base e i z size bytes ht hi hz hsize hby hzs v n xs hv hown u m news hx hs hfit h63 hbase fun A c w' h2 h3 h4 => hK _ _ (h A c w' h2 h3 h4)

theorem step_append_fit {ops : Array Oper} {o : Oper} {a : Act} {K : Act → World → Prop} {Q : Exit → Act → World → Prop} {E : Prop} (hgd : o.guard = none) (s x : Operand) (t tx : TypeId)
    (ho : o.op = .call { callee := .builtin .append, args := #[s, x], argTypes := #[t, tx] })
    (base : Nat) (e : TypeId) (i : TypeInfo) (z : Value) (size bytes : Nat) (ht : P.underlying t = some (.slice e)) (hi : P.info? e = some i) (hz : i.zero = some z)
    (hsize : i.size = size) (hby : i.bytes = bytes) (hzs : z.cells.size = size)
    (v : Value) (n : Nat) (xs : List Value) (hv : a.eval s = v) (hown : w.ownsRow base e size v n xs) (u : Value) (m : Nat) (news : List Value) (hx : a.eval x = u) (hs : Src P size tx u m news w)
    (hfit : ∀ old, old < n + m → Builtin.nextslicecap (n + m) old * bytes ≤ 281474976710656) (h63 : n + m ≤ maxLen) (hbase : base ≤ w.heap.size)
    (h : ∀ A c w', w'.ownsRow base e size (.slice A (n + m) c) (n + m) (xs ++ news) → w.grownBy w' v.ownBlock →
      (Value.ownBlock (.slice A (n + m) c) = v.ownBlock ∨ Value.ownBlock (.slice A (n + m) c) = some w.heap.size) → K (a.put o.dst (.slice A (n + m) c)) w') :
    if Region.wanted o (yielded ops a.tmps) = true then Oper.wp P o a w K Q else E := by
  have hw : Region.wanted o (yielded ops a.tmps) = true := by simp [Region.wanted, hgd]
  rw [if_pos hw]
  exact wp_append_fit s x t tx ho base e i z size bytes ht hi hz hsize hby hzs v n xs hv hown u m news hx hs hfit h63 hbase h

theorem wpList_append_src {ops : Array Oper} {rest : List Oper} {o : Oper} {a : Act} {Q : Exit → Act → World → Prop} (hgd : o.guard = none) (s x : Operand) (t tx : TypeId)
    (ho : o.op = .call { callee := .builtin .append, args := #[s, x], argTypes := #[t, tx] })
    (base : Nat) (e : TypeId) (i : TypeInfo) (z : Value) (size bytes : Nat) (ht : P.underlying t = some (.slice e)) (hi : P.info? e = some i) (hz : i.zero = some z)
    (hsize : i.size = size) (hby : i.bytes = bytes) (hzs : z.cells.size = size)
    (v : Value) (n : Nat) (xs : List Value) (hv : a.eval s = v) (hown : w.ownsRow base e size v n xs) (u : Value) (m : Nat) (news : List Value) (hx : a.eval x = u) (hs : Src P size tx u m news w)
    (hbytes : (n + m) * bytes ≤ 140737488355328) (h63 : n + m ≤ maxLen) (hbase : base ≤ w.heap.size)
    (h : ∀ A c w', w'.ownsRow base e size (.slice A (n + m) c) (n + m) (xs ++ news) → w.grownBy w' v.ownBlock →
      (Value.ownBlock (.slice A (n + m) c) = v.ownBlock ∨ Value.ownBlock (.slice A (n + m) c) = some w.heap.size) → wpList P ops Q rest (a.put o.dst (.slice A (n + m) c)) w') : wpList P ops Q (o :: rest) a w :=
  wpList_append_fit hgd s x t tx ho base e i z size bytes ht hi hz hsize hby hzs v n xs hv hown u m news hx hs (fun _ ho => growslice_fits ho hbytes) h63 hbase h

theorem step_append_src {ops : Array Oper} {o : Oper} {a : Act} {K : Act → World → Prop} {Q : Exit → Act → World → Prop} {E : Prop} (hgd : o.guard = none) (s x : Operand) (t tx : TypeId)
    (ho : o.op = .call { callee := .builtin .append, args := #[s, x], argTypes := #[t, tx] })
    (base : Nat) (e : TypeId) (i : TypeInfo) (z : Value) (size bytes : Nat) (ht : P.underlying t = some (.slice e)) (hi : P.info? e = some i) (hz : i.zero = some z)
    (hsize : i.size = size) (hby : i.bytes = bytes) (hzs : z.cells.size = size)
    (v : Value) (n : Nat) (xs : List Value) (hv : a.eval s = v) (hown : w.ownsRow base e size v n xs) (u : Value) (m : Nat) (news : List Value) (hx : a.eval x = u) (hs : Src P size tx u m news w)
    (hbytes : (n + m) * bytes ≤ 140737488355328) (h63 : n + m ≤ maxLen) (hbase : base ≤ w.heap.size)
    (h : ∀ A c w', w'.ownsRow base e size (.slice A (n + m) c) (n + m) (xs ++ news) → w.grownBy w' v.ownBlock →
      (Value.ownBlock (.slice A (n + m) c) = v.ownBlock ∨ Value.ownBlock (.slice A (n + m) c) = some w.heap.size) → K (a.put o.dst (.slice A (n + m) c)) w') :
    if Region.wanted o (yielded ops a.tmps) = true then Oper.wp P o a w K Q else E :=
  step_append_fit hgd s x t tx ho base e i z size bytes ht hi hz hsize hby hzs v n xs hv hown u m news hx hs (fun _ ho => growslice_fits ho hbytes) h63 hbase h
end
end Go.Proofs.YtojpeiihkjpeoaaDoor
