/- Lists of replies as they lie in memory; frames one behind the other. -/
import Derived.Test.YtcdbchifigonpaaDoorWAwake
import Derived.Test.YtcdbchifigonpaaDoorSameQ
set_option linter.unusedVariables false
set_option linter.unusedSimpArgs false
namespace Go.Proofs.YtcdbchifigonpaaDoor
open Go.RowKit

theorem row_list {α : Type} {n : Nat} {p : Nat → α → Prop} (h : ∀ i, i < n → ∃ x, p i x) : ∃ l : List α, l.length = n ∧ ∀ i (hi : i < l.length), p i l[i] := by
  induction n with
  | zero => exact ⟨[], rfl, fun i hi => absurd hi (by simp)⟩
  | succ n ih =>
    obtain ⟨l, hl, hp⟩ := ih (fun i hi => h i (by omega))
    obtain ⟨x, hx⟩ := h n (by omega)
    refine ⟨l ++ [x], by simp [hl], fun i hi => ?_⟩
    by_cases hlt : i < l.length
    · rw [List.getElem_append_left hlt]; exact hp i hlt
    · obtain rfl : i = l.length := by simp at hi; omega
      have e : (l ++ [x])[l.length]'hi = x := by simp
      rw [e, hl]; exact hx
/-- A list of replies lies in the world. -/
def InRs (w : World) (A : Option Addr) (l : List Rp) : Prop :=
  ∀ i (h : i < l.length), ∃ bk o dA dc, A = some ⟨bk, o, none⟩ ∧ AtW w 0 w.heap.size ⟨bk, o + i * 4, none⟩ (.int .i64 l[i].e) ∧ AtW w 0 w.heap.size ⟨bk, o + i * 4 + 1, none⟩ (.int .i64 l[i].n) ∧ AtW w 0 w.heap.size ⟨bk, o + i * 4 + 2, none⟩ (.slice dA l[i].docs.length dc) ∧ AtW w 0 w.heap.size ⟨bk, o + i * 4 + 3, none⟩ (.int .i64 l[i].cursor) ∧
    InL w dA dc l[i].docs ∧ (-9223372036854775808 ≤ l[i].e ∧ l[i].e ≤ 9223372036854775807) ∧ (-9223372036854775808 ≤ l[i].n ∧ l[i].n ≤ 9223372036854775807) ∧ (-9223372036854775808 ≤ l[i].cursor ∧ l[i].cursor ≤ 9223372036854775807)
theorem InRs.grow {w w' : World} {A : Option Addr} {l : List Rp} (h : InRs w A l) (hg : Grow w w') : InRs w' A l := fun i hi => by
  obtain ⟨bk, o, dA, dc, ha, h0, h1, h2, h3, hd, hr⟩ := h i hi
  have hm := AtW.below hg.below (lo := 0) (lo' := 0) (Nat.le_refl _) (Nat.le_refl _) hg.size
  exact ⟨bk, o, dA, dc, ha, hm _ _ h0, hm _ _ h1, hm _ _ h2, hm _ _ h3, hd.grow hg, hr⟩
/-- The bodies of those that are written. -/
def bodies (l : List Rp) : List (List UInt8) := (l.filter fun q => decide (q.put.2 = 0)).map Rp.body
def framesB (l : List Rp) : List UInt8 := ((bodies l).map frameOf).flatten
theorem bodies_yes {l : List Rp} {j : Nat} (h : j < l.length) {p : List UInt8} (hp : l[j].put = (p, 0)) : framesB (l.take (j + 1)) = framesB (l.take j) ++ p ∧ (bodies (l.take (j + 1))).length = (bodies (l.take j)).length + 1 := by
  obtain ⟨h1, h2, rfl⟩ := putOf_ok hp
  unfold framesB bodies
  rw [List.take_succ_eq_append_getElem h, List.filter_append]
  simp [hp]
theorem bodies_no {l : List Rp} {j : Nat} (h : j < l.length) {p : List UInt8} {e : Int} (hp : l[j].put = (p, e)) (he : e ≠ 0) : framesB (l.take (j + 1)) = framesB (l.take j) ∧ (bodies (l.take (j + 1))).length = (bodies (l.take j)).length := by
  unfold framesB bodies
  rw [List.take_succ_eq_append_getElem h, List.filter_append]
  simp [hp, he]
theorem bodies_le (l : List Rp) : ∀ x ∈ bodies l, x.length ≤ 12000 := fun x hx => by
  obtain ⟨q, hq, rfl⟩ := List.mem_map.1 hx
  have h := (List.mem_filter.1 hq).2
  simp only [decide_eq_true_eq] at h
  have : q.put = (q.put.1, 0) := by rw [← h]
  exact (putOf_ok this).2.1
theorem frames_split (l : List Rp) : split (framesB l) = ((bodies l).length, 0, 0) := split_frames (bodies l) (bodies_le l)
theorem sum_mem_ {α : Type} (g : α → Nat) : ∀ (l : List α) (x : α), x ∈ l → g x ≤ (l.map g).sum
  | y :: r, x, h => by
    rw [List.map_cons, List.sum_cons]
    rcases List.mem_cons.1 h with h | h
    · rw [h]; omega
    · have := sum_mem_ g r x h; omega
theorem flat_bound {α : Type} (g : α → List UInt8) (m : Nat) : ∀ (l : List α), (∀ x ∈ l, (g x).length ≤ m) → ((l.map g).flatten).length ≤ l.length * m
  | [], _ => by simp
  | x :: r, h => by
    have h1 := h x (by simp)
    have h2 := flat_bound g m r (fun y hy => h y (by simp [hy]))
    simp only [List.map_cons, List.flatten_cons, List.length_append, List.length_cons, Nat.add_mul, Nat.one_mul]
    omega
theorem frames_len (l : List Rp) : (framesB l).length ≤ l.length * 12008 := by
  have h1 := flat_bound frameOf 12008 (bodies l) (fun x hx => by rw [frameOf_length]; have := bodies_le l x hx; omega)
  have h2 : (bodies l).length ≤ l.length := by
    unfold bodies
    rw [List.length_map]
    exact List.length_filter_le _ _
  have h3 : (bodies l).length * 12008 ≤ l.length * 12008 := Nat.mul_le_mul_right _ h2
  exact Nat.le_trans h1 h3
theorem frames_len_take (l : List Rp) (j : Nat) : (framesB (l.take j)).length ≤ l.length * 12008 := by
  have h1 := frames_len (l.take j)
  have h2 : (l.take j).length ≤ l.length := List.length_take_le' _ _
  have h3 : (l.take j).length * 12008 ≤ l.length * 12008 := Nat.mul_le_mul_right _ h2
  exact Nat.le_trans h1 h3
theorem getReq_ok {b : List UInt8} {q : Rq} {m : Nat} (h : getReq b = (q, m, 0)) : q.Ok := by
  unfold getReq getOf at h
  split at h
  · rename_i h0
    injection h with _ h
    exact absurd (congrArg Prod.snd h) h0
  split at h
  · injection h with _ h; injection h with _ h; cases h
  rename_i x r hx
  split at h
  · injection h with h1 h
    subst h1
    exact (pReq_some hx).2
  · injection h with _ h; injection h with _ h; cases h
theorem MayOk.small {v : V} (h : MayOk v) : v.count ≤ 20000 := by
  rcases h with rfl | ⟨-, h⟩
  · unfold V.zero; rw [V.count_mk]; decide
  · have := good_small (rdAll_sound h).1; omega
theorem Rq.Ok.small {q : Rq} (h : q.Ok) : ∀ v ∈ q.vals, v.count ≤ 20000 := fun v hv => by
  have : v = q.key ∨ v = q.low ∨ v = q.high ∨ v = q.doc := by simpa [Rq.vals] using hv
  rcases this with rfl | rfl | rfl | rfl
  · exact h.key.small
  · exact h.low.small
  · exact h.high.small
  · exact h.doc.small
theorem Rq.Ok.sizes {q : Rq} (h : q.Ok) : (-9223372036854775808 ≤ q.do_ ∧ q.do_ ≤ 9223372036854775807) ∧ (-9223372036854775808 ≤ q.n ∧ q.n ≤ 9223372036854775807) ∧ q.coll.size ≤ 140737488355328 ∧ q.index.size ≤ 140737488355328 ∧ q.path.size ≤ 140737488355328 := by
  have := h.args
  unfold Rq.args at this
  refine ⟨⟨?_, ?_⟩, ⟨?_, ?_⟩, ?_, ?_, ?_⟩ <;> omega
end Go.Proofs.YtcdbchifigonpaaDoor
