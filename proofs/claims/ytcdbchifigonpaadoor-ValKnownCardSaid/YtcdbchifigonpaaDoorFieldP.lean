/- Plain: a put field is found; a path goes step by step. -/
import Derived.Test.YtcdbchifigonpaaDoorWithP
import Derived.Test.YtcdbchifigonpaaDoorPathR
set_option linter.unusedVariables false
set_option linter.unusedSimpArgs false
namespace Go.Proofs.YtcdbchifigonpaaDoor
open Go.RowKit Go.Shelf

theorem withF_has (f : List (ByteArray × V)) (s : ByteArray) (x : V) : (s, x) ∈ withF f s x := by
  rw [withF, List.mem_append]
  by_cases h : hasF f s = true
  · left
    rw [hasF, List.any_eq_true] at h
    obtain ⟨y, hy, hs⟩ := h
    simp only [decide_eq_true_eq] at hs
    rw [putF, List.mem_map]
    exact ⟨y, hy, by rw [if_pos hs, hs]⟩
  · right
    rw [if_neg h]
    exact List.mem_singleton.2 rfl
theorem withV_path {v x : V} {s : ByteArray} (h : (withV v s x).good = 0) : pathV (withV v s x) s = some x := by
  obtain ⟨hf, -, -, -⟩ := good_iff.1 h
  have hf' := hf
  unfold withV at hf'
  rw [V.formed_mk] at hf'
  simp only [Bool.and_eq_true, List.all_eq_true, decide_eq_true_eq] at hf'
  obtain ⟨i, hi, he⟩ := List.getElem_of_mem (withF_has v.f s x)
  have hn := (hf'.1.2 _ (withF_has v.f s x)).1
  unfold V.name at hn
  simp only [Bool.and_eq_true, decide_eq_true_eq, List.all_eq_true] at hn
  have hse : ¬ s.toList = [] := fun e => by
    rw [toList_data] at e
    have : s.data.toList.length = s.size := by simp
    rw [e] at this
    have := hn.1.1.1
    simp at *
    omega
  rw [pathV, if_pos h, if_neg hse, pathN_one (fun j hj => (hn.1.2 _ (List.getElem_mem hj)).2 ∘ fun e => by rw [e]; rfl)]
  show (stepV (withV v s x) s).bind _ = _
  unfold withV
  rw [stepV_doc (by decide), find_any hf'.2 hi (by rw [he]), he]
  rfl
theorem withF_get (f : List (ByteArray × V)) (s : ByteArray) (x : V) (i : Nat) (hi : i < f.length) : ∃ h : i < (withF f s x).length, (withF f s x)[i].1 = f[i].1 ∧ (f[i].1 ≠ s → (withF f s x)[i].2 = f[i].2) := by
  have h := (withF_length f s x).2
  refine ⟨by omega, ?_⟩
  have hp : i < (putF f s x).length := by rw [putF_length]; exact hi
  have e : (withF f s x)[i]'(by omega) = (putF f s x)[i] := by
    simp only [withF]
    rw [List.getElem_append_left hp]
  rw [e]
  simp only [putF, List.getElem_map]
  by_cases he : f[i].1 = s
  · rw [if_pos he]; exact ⟨rfl, fun k => absurd he k⟩
  · rw [if_neg he]; exact ⟨rfl, fun _ => rfl⟩
theorem sum_mem {α : Type} (g : α → Nat) : ∀ (l : List α) (x : α), x ∈ l → g x ≤ (l.map g).sum
  | y :: r, x, h => by
    rw [List.map_cons, List.sum_cons]
    rcases List.mem_cons.1 h with h | h
    · rw [h]; omega
    · have := sum_mem g r x h; omega
theorem stepV_mem {v u : V} {s : ByteArray} (h : stepV v s = some u) : (v.k = 7 ∧ u ∈ v.l) ∨ (v.k ≠ 7 ∧ ∃ n, (n, u) ∈ v.f) := by
  obtain ⟨k, n, b, l, f⟩ := v
  by_cases hk : k = 7
  · subst hk
    rw [stepV_list] at h
    split at h
    · exact .inl ⟨rfl, List.mem_of_getElem? h⟩
    · cases h
  · rw [stepV_doc hk] at h
    obtain ⟨x, hx, rfl⟩ := Option.map_eq_some_iff.1 h
    exact .inr ⟨hk, x.1, List.mem_of_find?_eq_some hx⟩
theorem stepV_count {v u : V} {s : ByteArray} (h : stepV v s = some u) : u.count ≤ v.count := by
  obtain ⟨k, n, b, l, f⟩ := v
  rw [V.count_mk]
  rcases stepV_mem h with ⟨-, h⟩ | ⟨-, m, h⟩
  · have := sum_mem V.count l u h; omega
  · have := sum_mem (fun x : ByteArray × V => x.2.count) f (m, u) h; dsimp only at this; omega
theorem stepV_good {v u : V} {s : ByteArray} (h : stepV v s = some u) (hv : v.good = 0) : u.good = 0 := by
  obtain ⟨h1, h2, h3, h4⟩ := good_iff.1 hv
  obtain ⟨k, n, b, l, f⟩ := v
  have hm := (V.most_over k n b l f 64).1 h2
  rw [V.bytes_mk] at h4
  refine good_iff.2 ⟨stepV_formed h h1, ?_, ?_, ?_⟩
  · rcases stepV_mem h with ⟨-, q⟩ | ⟨-, m, q⟩
    · exact hm.2.2.1 u q
    · exact hm.2.2.2 _ q
  · rcases stepV_mem h with ⟨-, q⟩ | ⟨-, m, q⟩
    · exact Nat.le_trans (V.depth_l q) h3
    · exact Nat.le_trans (V.depth_f q) h3
  · rw [V.formed_mk] at h1
    simp only [Bool.and_eq_true, decide_eq_true_eq] at h1
    have ho := h1.1.1.1
    unfold V.own at ho
    simp only [Bool.and_eq_true, decide_eq_true_eq] at ho
    rcases stepV_mem h with ⟨hk, q⟩ | ⟨hk, m, q⟩
    · have hk' : k = 7 := hk
      subst hk'
      have := mem_flat_le V.bytes l u q
      rw [if_neg (by decide), if_neg (by decide), if_neg (by decide), if_pos rfl] at h4
      simp only [List.length_cons] at h4
      omega
    · have h8 : k = 8 := by
        rcases ho.2 with e | e
        · exact e
        · have q2 : (m, u) ∈ f := q
          rw [List.length_eq_zero_iff.1 e] at q2; simp at q2
      subst h8
      have hm := mem_flat_le (fun x : ByteArray × V => V.item x.1 x.2.bytes) f (m, u) q
      have hi : (V.item m u.bytes).length = m.size + u.bytes.length + 1 := by rw [V.item]; simp
      rw [if_neg (by decide), if_neg (by decide), if_neg (by decide), if_neg (by decide), if_pos rfl] at h4
      simp only [List.length_cons] at h4
      dsimp only at hm
      omega
theorem pathL_count : ∀ (l : List ByteArray) (v u : V), pathL v l = some u → u.count ≤ v.count
  | [], v, u, h => by injection h with h; rw [h]; exact Nat.le_refl _
  | s :: r, v, u, h => by
    rw [pathL] at h
    cases hs : stepV v s with
    | none => rw [hs] at h; cases h
    | some y => rw [hs] at h; exact Nat.le_trans (pathL_count r y u h) (stepV_count hs)
theorem pathV_count {v u : V} {s : ByteArray} (h : pathV v s = some u) : u.count ≤ v.count := by
  rw [pathV] at h
  split at h
  · split at h
    · injection h with h; rw [h]; exact Nat.le_refl _
    · exact pathL_count _ _ _ h
  · cases h
/-- A path with a first dot, by its head. -/
theorem pathV_head {v : V} {s : ByteArray} {k : Nat} (hk : k < s.data.toList.length) (h0 : 0 < k) (hne : ∀ i (hi : i < s.data.toList.length), i < k → s.data.toList[i] ≠ 46) (he : s.data.toList[k] = 46) :
    (pathV v (s.extract 0 k) = none → pathV v s = none) ∧ (∀ u, pathV v (s.extract 0 k) = some u → k + 1 < s.size → pathV v s = pathV u (s.extract (k + 1) s.size)) := by
  have hsz : s.data.toList.length = s.size := by simp
  have hse : ¬ s.toList = [] := fun e => by rw [toList_data] at e; rw [e] at hk; simp at hk
  have hhs : (s.extract 0 k).size = k := by rw [ByteArray.size_extract]; omega
  have hhe : ¬ (s.extract 0 k).toList = [] := fun e => by
    rw [toList_data] at e
    have : (s.extract 0 k).data.toList.length = (s.extract 0 k).size := by simp
    rw [e, hhs] at this
    simp at this
    omega
  have hone : pathN (s.extract 0 k) = [s.extract 0 k] := by
    refine pathN_one fun j hj => ?_
    have hjl : j < k := by
      have : (s.extract 0 k).data.toList.length = (s.extract 0 k).size := by simp
      omega
    have := hne j (by omega) hjl
    simpa using this
  by_cases hg : v.good = 0
  · have e1 : pathV v (s.extract 0 k) = stepV v (s.extract 0 k) := by
      rw [pathV, if_pos hg, if_neg hhe, hone]
      show (stepV v _).bind _ = _
      cases stepV v (s.extract 0 k) <;> rfl
    have e2 : pathV v s = (stepV v (s.extract 0 k)).bind fun u => pathL u (pathN (s.extract (k + 1) s.size)) := by
      rw [pathV, if_pos hg, if_neg hse, pathN_cons hk (fun j hj hjk => hne j hj hjk) he]
      rfl
    rw [e1, e2]
    refine ⟨fun h => by rw [h]; rfl, fun u hu hlt => ?_⟩
    rw [hu, pathV, if_pos (stepV_good hu hg), if_neg]
    · rfl
    · intro e
      rw [toList_data] at e
      have h1 : (s.extract (k + 1) s.size).data.toList.length = (s.extract (k + 1) s.size).size := by simp
      have h2 : (s.extract (k + 1) s.size).size = s.size - (k + 1) := by rw [ByteArray.size_extract]; omega
      rw [e, h2] at h1
      simp at h1
      omega
  · have e1 : ∀ t, pathV v t = none := fun t => by rw [pathV, if_neg hg]
    rw [e1, e1]
    exact ⟨fun _ => rfl, fun u h => by cases h⟩
end Go.Proofs.YtcdbchifigonpaaDoor
