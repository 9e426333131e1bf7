/- Plain: a document with a field put; rows of fields whose values lie in an earlier world. -/
import Derived.Test.YtcdbchifigonpaaDoorIsv
set_option linter.unusedVariables false
set_option linter.unusedSimpArgs false
namespace Go.Proofs.YtcdbchifigonpaaDoor
open Go.RowKit Go.Shelf

/-- The fields, that of a name turned. -/
def putF (f : List (ByteArray × V)) (s : ByteArray) (x : V) : List (ByteArray × V) := f.map fun y => if y.1 = s then (y.1, x) else y
/-- Has a list of fields that name? -/
def hasF (f : List (ByteArray × V)) (s : ByteArray) : Bool := f.any fun y => decide (y.1 = s)
/-- The fields with one put. -/
def withF (f : List (ByteArray × V)) (s : ByteArray) (x : V) : List (ByteArray × V) := putF f s x ++ if hasF f s then [] else [(s, x)]
/-- The document with a field put. -/
def withV (v : V) (s : ByteArray) (x : V) : V := .mk 8 0 [] [] (withF v.f s x)
theorem putF_length (f : List (ByteArray × V)) (s : ByteArray) (x : V) : (putF f s x).length = f.length := by simp [putF]
theorem putF_names (f : List (ByteArray × V)) (s : ByteArray) (x : V) : (putF f s x).map Prod.fst = f.map Prod.fst := by
  rw [putF, List.map_map]
  refine List.map_congr_left fun y _ => ?_
  simp only [Function.comp]
  split <;> rfl
theorem putF_snoc {f : List (ByteArray × V)} {j : Nat} (h : j < f.length) (s : ByteArray) (x : V) : putF (f.take (j + 1)) s x = putF (f.take j) s x ++ [if f[j].1 = s then (f[j].1, x) else f[j]] := by
  rw [putF, putF, List.take_succ_eq_append_getElem h, List.map_append]
  rfl
theorem hasF_snoc {f : List (ByteArray × V)} {j : Nat} (h : j < f.length) (s : ByteArray) : hasF (f.take (j + 1)) s = (hasF (f.take j) s || decide (f[j].1 = s)) := by
  rw [hasF, hasF, List.take_succ_eq_append_getElem h, List.any_append]
  simp
theorem withF_length (f : List (ByteArray × V)) (s : ByteArray) (x : V) : (withF f s x).length ≤ f.length + 1 ∧ f.length ≤ (withF f s x).length := by
  rw [withF, List.length_append, putF_length]
  split <;> simp

theorem hasF_no {f : List (ByteArray × V)} {s : ByteArray} (h : hasF f s = false) (x : V) : putF f s x = f := by
  rw [hasF, List.any_eq_false] at h
  rw [putF]
  conv => rhs; rw [← List.map_id f]
  refine List.map_congr_left fun y hy => ?_
  have := h y hy
  simp only [decide_eq_true_eq] at this
  rw [if_neg this]
  rfl
theorem put_sum (g : ByteArray × V → Nat) (B : Nat) (s : ByteArray) (x : V) : ∀ (f : List (ByteArray × V)), (f.map Prod.fst).Nodup → (∀ y ∈ f, g (y.1, x) ≤ g y + B) → ((putF f s x).map g).sum ≤ (f.map g).sum + (if hasF f s then B else 0)
  | [], _, _ => by simp [putF, hasF]
  | y :: r, hd, hB => by
    rw [List.map_cons, List.nodup_cons] at hd
    have ih := put_sum g B s x r hd.2 (fun z hz => hB z (List.mem_cons_of_mem _ hz))
    by_cases he : y.1 = s
    · have hr : hasF r s = false := by
        rw [hasF, List.any_eq_false]
        intro z hz
        simp only [decide_eq_true_eq]
        intro e
        exact hd.1 (he.trans e.symm ▸ List.mem_map_of_mem hz)
      rw [hr] at ih
      have e1 : putF (y :: r) s x = (y.1, x) :: putF r s x := by simp [putF, he]
      have e2 : hasF (y :: r) s = true := by simp [hasF, he]
      have hy := hB y List.mem_cons_self
      rw [e1, e2]
      simp only [List.map_cons, List.sum_cons, if_true]
      simp at ih
      omega
    · have e1 : putF (y :: r) s x = y :: putF r s x := by simp [putF, he]
      have e2 : hasF (y :: r) s = hasF r s := by simp [hasF, he]
      rw [e1, e2]
      simp only [List.map_cons, List.sum_cons]
      omega
theorem withV_count {v : V} {s : ByteArray} {x : V} (hd : (v.f.map Prod.fst).Nodup) : (withV v s x).count ≤ v.count + x.count := by
  obtain ⟨k, n, b, l, f⟩ := v
  have h := put_sum (fun y => y.2.count) x.count s x f hd (fun y _ => Nat.le_add_left _ _)
  show (V.mk 8 0 [] [] (withF f s x)).count ≤ _
  rw [V.count_mk, V.count_mk, withF]
  by_cases hh : hasF f s = true
  · rw [hh] at h ⊢
    simp only [if_true, List.append_nil, List.map_nil, List.sum_nil] at h ⊢
    omega
  · simp only [Bool.not_eq_true] at hh
    rw [hh] at h ⊢
    simp only [Bool.false_eq_true, if_false, List.map_append, List.map_cons, List.map_nil, List.sum_append, List.sum_cons, List.sum_nil] at h ⊢
    omega
theorem withV_bytes {f : List (ByteArray × V)} {s : ByteArray} {x : V} (hd : (f.map Prod.fst).Nodup) : (withV (.mk 8 0 [] [] f) s x).bytes.length ≤ (V.mk 8 0 [] [] f).bytes.length + x.bytes.length + s.size + 1 := by
  have hi : ∀ (s : ByteArray) (r : List UInt8), (V.item s r).length = s.size + r.length + 1 := fun s r => by rw [V.item]; simp
  have h := put_sum (fun y => (V.item y.1 y.2.bytes).length) x.bytes.length s x f hd (fun y _ => by dsimp only; rw [hi, hi]; omega)
  have e : ∀ f : List (ByteArray × V), (V.mk 8 0 [] [] f).bytes.length = (f.map fun y => (V.item y.1 y.2.bytes).length).sum + 2 := fun f => by
    rw [V.bytes_mk]
    simp [List.length_flatten, Function.comp_def]
  show (V.mk 8 0 [] [] (withF f s x)).bytes.length ≤ _
  rw [e, e, withF]
  by_cases hh : hasF f s = true
  · rw [hh] at h ⊢
    simp only [if_true, List.append_nil] at h ⊢
    omega
  · simp only [Bool.not_eq_true] at hh
    rw [hh] at h ⊢
    simp only [Bool.false_eq_true, if_false, List.map_append, List.map_cons, List.map_nil, List.sum_append, List.sum_cons, List.sum_nil, hi] at h ⊢
    omega
theorem withF_mem {f : List (ByteArray × V)} {s : ByteArray} {x : V} {y : ByteArray × V} (h : y ∈ withF f s x) : y.2 = x ∨ y ∈ f := by
  rw [withF, List.mem_append] at h
  rcases h with h | h
  · rw [putF, List.mem_map] at h
    obtain ⟨z, hz, e⟩ := h
    split at e
    · exact .inl (by rw [← e])
    · exact .inr (e ▸ hz)
  · split at h
    · simp at h
    · rw [List.mem_singleton] at h
      exact .inl (by rw [h])
/-- What With tells. -/
def withG (v : V) (s : ByteArray) (x : V) : Except Int V := if v.k = 8 ∧ v.good = 0 then (if (withV v s x).good = 0 then .ok (withV v s x) else .error (withV v s x).good) else .error 4
/-- A value, or an error. -/
def WithC (w : World) (g : Except Int V) (e : Ending) (w' : World) : Prop :=
  Grow w w' ∧ ∃ (c : Cv) (r : Int), e = .returned (.tuple #[c.agg, .int .i64 r]) ∧ ((∃ v, g = .ok v ∧ r = 0 ∧ In w' v c) ∨ (g = .error r ∧ r ≠ 0 ∧ c = Cv.zero))
theorem WithC.no {w w' : World} {g : Except Int V} {r : Int} (h : g = .error r) (h0 : r ≠ 0) (hg : Grow w w') : WithC w g (.returned (.tuple #[Cv.zero.agg, .int .i64 r])) w' :=
  ⟨hg, Cv.zero, r, rfl, .inr ⟨h, h0, rfl⟩⟩
theorem WithC.yes {w w' : World} {g : Except Int V} {v : V} {c : Cv} (h : g = .ok v) (hg : Grow w w') (hi : In w' v c) : WithC w g (.returned (.tuple #[c.agg, .int .i64 0])) w' :=
  ⟨hg, c, 0, rfl, .inl ⟨v, h, rfl, hi⟩⟩
/-- A good document has fields alone, of names that differ. -/
theorem good_doc {v : V} (hk : v.k = 8) (hg : v.good = 0) : v = .mk 8 0 [] [] v.f ∧ (v.f.map Prod.fst).Nodup ∧ v.f.length ≤ 64 := by
  obtain ⟨k, n, b, l, f⟩ := v
  have hk' : k = 8 := hk
  subst hk'
  obtain ⟨h1, h2, -, -⟩ := good_iff.1 hg
  have hm := ((V.most_over 8 n b l f 64).1 h2).2.1
  rw [V.formed_mk] at h1
  simp only [Bool.and_eq_true, decide_eq_true_eq] at h1
  have ho := h1.1.1.1
  unfold V.own at ho
  simp at ho
  refine ⟨?_, h1.2, hm⟩
  show V.mk 8 n b l f = .mk 8 0 [] [] f
  obtain ⟨o1, o2⟩ := ho
  simp_all

/-- A row of fields of the call's own, whose values lie in the world w0. -/
structure FRow (w0 W : World) (base : Nat) (v : Value) (es : List VE) : Prop where
  own : W.ownsRow base 52 6 v es.length (cellsOf nameHead es)
  part : ∀ x ∈ es, x.s.size ≤ 140737488355328 ∧ In w0 x.v x.c
theorem FRow.own_lt {w0 W : World} {base : Nat} {v : Value} {es : List VE} (h : FRow w0 W base v es) {k : Nat} (hk : v.ownBlock = some k) : base ≤ k ∧ k < W.heap.size := World.ownsRow.lt h.own k hk
theorem FRow.cap {w0 W : World} {base n cap : Nat} {A : Option Addr} {es : List VE} (h : FRow w0 W base (.slice A n cap) es) (hn : n = es.length) : n ≤ cap := by
  rcases h.own.2 with ⟨hv, h0⟩ | ⟨g, cap', cur, hv, _, _, hc, _⟩
  · omega
  · injection hv with _ _ e; omega
theorem FRow.grow {w0 W W' : World} {base : Nat} {v : Value} {es : List VE} (h : FRow w0 W base v es) (hg : Grow W W') : FRow w0 W' base v es :=
  ⟨World.ownsRow.kept h.own (row := none) ⟨hg.os, hg.tape, hg.output, hg.size, fun k hk _ => hg.below.block k hk⟩ (by cases v.ownBlock <;> simp), h.part⟩
theorem FRow.kept {w0 W W' : World} {base : Nat} {v : Value} {es : List VE} {row : Option Nat} (h : FRow w0 W base v es) (hg : W.grownBy W' row) (hne : ∀ k, v.ownBlock = some k → row ≠ some k) : FRow w0 W' base v es := by
  refine ⟨World.ownsRow.kept h.own hg ?_, h.part⟩
  cases hv : v.ownBlock with
  | none => exact .inl rfl
  | some k => exact .inr (fun e => hne k hv e.symm)
theorem FRow.add {w0 w3 : World} {base : Nat} {v' : Value} {es : List VE} {s : ByteArray} {x : V} {c : Cv} {lo hi : Nat} (hp : ∀ x ∈ es, x.s.size ≤ 140737488355328 ∧ In w0 x.v x.c) (hs : s.size ≤ 140737488355328) (hx : In w0 x c)
    (h2 : w3.ownsRow base 52 6 v' (es.length + 1) (cellsOf nameHead es ++ (nameHead s ++ c.cells.toList))) : FRow w0 w3 base v' (es ++ [⟨s, x, c, lo, hi⟩]) := by
  refine ⟨by rw [List.length_append, cellsOf_snoc]; exact h2, fun y hy => ?_⟩
  rcases List.mem_append.1 hy with hy | hy
  · exact hp y hy
  · rw [List.mem_singleton] at hy
    subst hy
    exact ⟨hs, hx⟩
/-- The row's fields are a document. -/
theorem FRow.in_ {w0 W : World} {base n cap : Nat} {A : Option Addr} {es : List VE} (h : FRow w0 W base (.slice A n cap) es) (hg : Grow w0 W) (hn : n = es.length) (hl : es.length ≤ 140737488355328) :
    In W (.mk 8 0 [] [] (es.map fun x => (x.s, x.v))) ⟨8, 0, none, 0, 0, none, 0, 0, A, n, cap⟩ := by
  have hcap := h.cap hn
  unfold In
  rw [IsV]
  refine ⟨rfl, rfl, rfl, rfl, by rw [List.length_map]; exact hn, by omega, by omega, by omega, by simp, by simp, by simp, by simp, by show (es.map fun x => (x.s, x.v)).length ≤ cap; rw [List.length_map]; omega, by rw [List.length_map]; omega, ⟨by simp [u8s], fun h => by simp at h⟩, fun i hi => absurd hi (by simp), fun i hi => ?_⟩
  rw [List.length_map] at hi
  subst hn
  obtain ⟨g, cap', hv, hb, hlt⟩ := World.ownsRow.form h.own (by omega)
  have hA : A = some ⟨g, 0, none⟩ := by injection hv
  subst hA
  have hcell : ∀ t u, t < 6 → (nameHead es[i].s ++ es[i].c.cells.toList)[t]? = some u → AtW W 0 W.heap.size ⟨g, 0 + i * 6 + t, none⟩ u := fun t u ht hu => by
    have := World.ownsRow.cells h.own (g := g) rfl (i * 6 + t) u (by rw [cellsOf_get (k := 1) (z := 6) (fun _ => rfl) rfl es i t hi ht]; exact hu)
    rw [add_lit] at this
    rw [Nat.add_assoc]
    exact ⟨this, Nat.zero_le _, hlt⟩
  refine ⟨g, 0, es[i].c, rfl, ?_, ?_, ?_, ?_⟩
  · rw [List.getElem_map]
    exact hcell 0 _ (by omega) rfl
  · rw [List.getElem_map]
    exact (h.part _ (List.getElem_mem hi)).1
  · exact ⟨hcell 1 _ (by omega) rfl, hcell 2 _ (by omega) rfl, hcell 3 _ (by omega) rfl, hcell 4 _ (by omega) rfl, hcell 5 _ (by omega) rfl⟩
  · rw [List.getElem_map]
    exact (h.part _ (List.getElem_mem hi)).2.grow hg
end Go.Proofs.YtcdbchifigonpaaDoor
