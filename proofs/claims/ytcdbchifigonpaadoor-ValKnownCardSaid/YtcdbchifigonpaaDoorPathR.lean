/- Plain: the pieces of a path, one by one; a step of a good value. -/
import Derived.Test.YtcdbchifigonpaaDoorPathV
set_option linter.unusedVariables false
set_option linter.unusedSimpArgs false
namespace Go.Proofs.YtcdbchifigonpaaDoor
open Go.RowKit Go.Shelf

theorem indexB_one (s : ByteArray) : Lib.indexB s dotB = Lib.indexByte s.data.toList 46 := Lib.index_one _ _
theorem indexByte_none {l : List UInt8} (h : ∀ j (hj : j < l.length), l[j] ≠ 46) : Lib.indexByte l 46 = -1 := by
  induction l with
  | nil => rfl
  | cons b l ih =>
    have h0 : (b == 46) = false := beq_eq_false_iff_ne.2 (h 0 (by simp))
    rw [Lib.indexByte, h0, ih (fun j hj => h (j + 1) (by simpa using hj))]
    rfl
theorem indexByte_some {l : List UInt8} {k : Nat} (hk : k < l.length) (h : ∀ j (hj : j < l.length), j < k → l[j] ≠ 46) (he : l[k] = 46) : Lib.indexByte l 46 = k := by
  induction l generalizing k with
  | nil => simp at hk
  | cons b l ih =>
    cases k with
    | zero =>
      have h0 : (b == 46) = true := by simpa using he
      rw [Lib.indexByte, h0]
      rfl
    | succ k =>
      have h0 : (b == 46) = false := beq_eq_false_iff_ne.2 (h 0 (by simp) (by omega))
      have hi := ih (k := k) (by simpa using hk) (fun j hj hjk => h (j + 1) (by simpa using hj) (by omega)) he
      rw [Lib.indexByte, h0, hi]
      have hb : ((k : Int) == -1) = false := by rw [beq_eq_false_iff_ne]; omega
      rw [hb]
      simp
theorem pathN_one {s : ByteArray} (h : ∀ j (hj : j < s.data.toList.length), s.data.toList[j] ≠ 46) : pathN s = [s] :=
  Lib.splitB_miss _ _ _ _ ((indexB_one s).trans (indexByte_none h))
theorem pathN_cons {s : ByteArray} {k : Nat} (hk : k < s.data.toList.length) (h : ∀ j (hj : j < s.data.toList.length), j < k → s.data.toList[j] ≠ 46) (he : s.data.toList[k] = 46) :
    pathN s = s.extract 0 k :: pathN (s.extract (k + 1) s.size) := by
  have hi : Lib.indexB s dotB = k := (indexB_one s).trans (indexByte_some hk h he)
  unfold pathN
  rw [Lib.countB_hit s dotB k (by decide) hi, Nat.add_comm 1, Lib.splitB_hit _ _ _ _ _ hi]
  rfl
theorem find_any {f : List (ByteArray × V)} {s : ByteArray} (hd : (f.map Prod.fst).Nodup) {j : Nat} (h : j < f.length) (he : f[j].1 = s) : (f.find? fun x => decide (x.1 = s)) = some f[j] := by
  refine find_at h (fun i hi hij hs => ?_) he
  have h1 : i < (f.map Prod.fst).length := by simpa using hi
  have h2 : j < (f.map Prod.fst).length := by simpa using h
  have h3 : i ≠ j := by omega
  exact h3 ((List.getElem_inj (h₀ := h1) (h₁ := h2) hd).1 (by simpa using hs.trans he.symm))
/-- A good value's step by no name leads nowhere. -/
theorem stepV_empty {v : V} (h : v.formed = true) {s : ByteArray} (hs : s.size = 0) : stepV v s = none := by
  obtain ⟨k, n, b, l, f⟩ := v
  have hl : s.data.toList = [] := List.length_eq_zero_iff.1 (by simpa using hs)
  by_cases hk : k = 7
  · subst hk
    rw [stepV_list, hl, if_neg (by decide)]
  · rw [stepV_doc hk]
    rw [V.formed_mk] at h
    simp only [Bool.and_eq_true, List.all_eq_true] at h
    rw [find_no]
    · rfl
    · intro i hi he
      have hn := (h.1.2 _ (List.getElem_mem hi)).1
      rw [he] at hn
      unfold V.name at hn
      simp [hs, hl] at hn
theorem stepV_formed {v u : V} {s : ByteArray} (h : stepV v s = some u) (hv : v.formed = true) : u.formed = true := by
  obtain ⟨k, n, b, l, f⟩ := v
  rw [V.formed_mk] at hv
  simp only [Bool.and_eq_true, List.all_eq_true] at hv
  by_cases hk : k = 7
  · subst hk
    rw [stepV_list] at h
    split at h
    · exact hv.1.1.2 _ (List.mem_of_getElem? h)
    · cases h
  · rw [stepV_doc hk] at h
    obtain ⟨x, hx, rfl⟩ := Option.map_eq_some_iff.1 h
    exact (hv.1.2 _ (List.mem_of_find?_eq_some hx)).2
end Go.Proofs.YtcdbchifigonpaaDoor
