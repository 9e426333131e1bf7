/- Plain: sizes of lists and documents, digits as paths. -/
import Derived.Test.YtcdbchifigonpaaDoorFieldP
set_option linter.unusedVariables false
set_option linter.unusedSimpArgs false
namespace Go.Proofs.YtcdbchifigonpaaDoor
open Go.RowKit Go.Shelf

/-- The digits of a number below 100. -/
def tenD : ByteArray := ⟨#[48, 49, 50, 51, 52, 53, 54, 55, 56, 57]⟩
def dg1 (n : Nat) : ByteArray := tenD.extract n (n + 1)
def dg (n : Nat) : ByteArray := if n < 10 then dg1 n else dg1 (n / 10) ++ dg1 (n % 10)
def dgOk (n : Nat) : Bool := decide (ixN (dg n).data.toList = (n : Int)) && (dg n).data.toList.all (fun c => decide (c ≠ 46)) && decide ((dg n).size < 3) && decide (0 < (dg n).size)
theorem dg_ok : ∀ n, n < 66 → dgOk n = true := by decide +kernel
theorem dg_ix {n : Nat} (h : n < 66) : ixN (dg n).data.toList = (n : Int) ∧ (∀ j (hj : j < (dg n).data.toList.length), (dg n).data.toList[j] ≠ 46) ∧ (dg n).size < 3 ∧ ¬ (dg n).toList = [] := by
  have := dg_ok n h
  unfold dgOk at this
  simp only [Bool.and_eq_true, decide_eq_true_eq, List.all_eq_true] at this
  obtain ⟨⟨⟨h1, h2⟩, h3⟩, h4⟩ := this
  refine ⟨h1, fun j hj => h2 _ (List.getElem_mem hj), h3, fun e => ?_⟩
  rw [toList_data] at e
  have : (dg n).data.toList.length = (dg n).size := by simp
  rw [e] at this
  simp at this
  omega
theorem path_one {v : V} {s : ByteArray} (h : v.good = 0) (hs : ¬ s.toList = []) (h46 : ∀ j (hj : j < s.data.toList.length), s.data.toList[j] ≠ 46) : pathV v s = stepV v s := by
  rw [pathV, if_pos h, if_neg hs, pathN_one h46]
  show (stepV v s).bind _ = _
  cases stepV v s <;> rfl
theorem list_len {l : List V} (h : (V.mk 7 0 [] l []).good = 0) : l.length ≤ 64 := ((V.most_over 7 0 [] l [] 64).1 (good_iff.1 h).2.1).1
theorem list_step {l : List V} {i : Nat} (h : i < 66) : stepV (.mk 7 0 [] l []) (dg i) = l[i]? := by
  rw [stepV_list, (dg_ix h).1, if_pos (by omega)]
  simp
theorem list_path {l : List V} (h : (V.mk 7 0 [] l []).good = 0) {i : Nat} (hi : i < l.length) : pathV (.mk 7 0 [] l []) (dg i) = some l[i] := by
  have h64 := list_len h
  obtain ⟨-, h2, -, h4⟩ := dg_ix (n := i) (by omega)
  rw [path_one h h4 h2, list_step (by omega)]
  simp [hi]
theorem list_none {l : List V} (h : (V.mk 7 0 [] l []).good = 0) : pathV (.mk 7 0 [] l []) (dg l.length) = none := by
  have h64 := list_len h
  obtain ⟨-, h2, -, h4⟩ := dg_ix (n := l.length) (by omega)
  rw [path_one h h4 h2, list_step (by omega)]
  simp
theorem list_good {l : List V} (h : (V.mk 7 0 [] l []).good = 0) {i : Nat} (hi : i < l.length) : l[i].good = 0 := by
  have h64 := list_len h
  refine stepV_good (v := .mk 7 0 [] l []) (s := dg i) ?_ h
  rw [list_step (by omega)]
  simp [hi]
theorem name_path {s : ByteArray} (h : V.name s = true) : (∀ j (hj : j < s.data.toList.length), s.data.toList[j] ≠ 46) ∧ ¬ s.toList = [] := by
  unfold V.name at h
  simp only [Bool.and_eq_true, decide_eq_true_eq, List.all_eq_true] at h
  refine ⟨fun j hj => (h.1.2 _ (List.getElem_mem hj)).2 ∘ fun e => by rw [e]; rfl, fun e => ?_⟩
  rw [toList_data] at e
  have : s.data.toList.length = s.size := by simp
  rw [e] at this
  simp at this
  omega
theorem doc_step {f : List (ByteArray × V)} (h : (V.mk 8 0 [] [] f).good = 0) {i : Nat} (hi : i < f.length) : V.name f[i].1 = true ∧ stepV (.mk 8 0 [] [] f) f[i].1 = some f[i].2 := by
  have hf := (good_iff.1 h).1
  rw [V.formed_mk] at hf
  simp only [Bool.and_eq_true, List.all_eq_true, decide_eq_true_eq] at hf
  refine ⟨(hf.1.2 _ (List.getElem_mem hi)).1, ?_⟩
  rw [stepV_doc (by decide), find_any hf.2 hi rfl]
  rfl
theorem doc_path {f : List (ByteArray × V)} (h : (V.mk 8 0 [] [] f).good = 0) {i : Nat} (hi : i < f.length) : pathV (.mk 8 0 [] [] f) f[i].1 = some f[i].2 := by
  obtain ⟨h1, h2⟩ := doc_step h hi
  obtain ⟨h3, h4⟩ := name_path h1
  rw [path_one h h4 h3, h2]
theorem doc_good {f : List (ByteArray × V)} (h : (V.mk 8 0 [] [] f).good = 0) {i : Nat} (hi : i < f.length) : f[i].2.good = 0 := stepV_good (doc_step h hi).2 h
theorem flat_len {α : Type} (g : α → List UInt8) : ∀ (l : List α), ((l.map g).flatten).length = (l.map fun x => (g x).length).sum
  | [] => rfl
  | x :: r => by simp [flat_len g r]
/-- A list's size, part by part. -/
def sizeL (l : List V) : Nat := 2 + (l.map fun x => x.bytes.length).sum
theorem sizeL_nil : sizeL [] = 2 := rfl
theorem sizeL_snoc {l : List V} {j : Nat} (h : j < l.length) : sizeL (l.take (j + 1)) = sizeL (l.take j) + l[j].bytes.length := by
  unfold sizeL
  rw [sum_take _ l j h]
  omega
theorem sizeL_all (l : List V) : (V.mk 7 0 [] l []).bytes.length = sizeL l := by
  rw [V.bytes_list, List.length_cons, List.length_cons, flat_len, sizeL]
  omega
theorem sizeL_le (l : List V) (j : Nat) : sizeL (l.take j) ≤ sizeL l := by
  unfold sizeL
  have := sum_take_le (fun x : V => x.bytes.length) l j
  omega
/-- A document's size, field by field. -/
def sizeF (f : List (ByteArray × V)) : Nat := 2 + (f.map fun x => 1 + x.1.size + x.2.bytes.length).sum
theorem sizeF_nil : sizeF [] = 2 := rfl
theorem sizeF_snoc {f : List (ByteArray × V)} {j : Nat} (h : j < f.length) : sizeF (f.take (j + 1)) = sizeF (f.take j) + 1 + f[j].1.size + f[j].2.bytes.length := by
  unfold sizeF
  rw [sum_take _ f j h]
  omega
theorem sizeF_all (f : List (ByteArray × V)) : (V.mk 8 0 [] [] f).bytes.length = sizeF f := by
  rw [V.bytes_doc, List.length_cons, List.length_cons, flat_len, sizeF]
  simp only [V.item_length]
  omega
theorem sizeF_le (f : List (ByteArray × V)) (j : Nat) : sizeF (f.take j) ≤ sizeF f := by
  unfold sizeF
  have := sum_take_le (fun x : ByteArray × V => 1 + x.1.size + x.2.bytes.length) f j
  omega
theorem len_le_sum {α : Type} (g : α → Nat) (hg : ∀ x, 1 ≤ g x) : ∀ (l : List α), l.length ≤ (l.map g).sum
  | [] => by simp
  | x :: r => by
    have h1 := hg x
    have h2 := len_le_sum g hg r
    simp only [List.length_cons, List.map_cons, List.sum_cons]
    omega
theorem zip_snoc {α β : Type} {a : List α} {b : List β} {j : Nat} (h : j < a.length) (h' : j < b.length) : (a.take (j + 1)).zip (b.take (j + 1)) = (a.take j).zip (b.take j) ++ [(a[j], b[j])] := by
  rw [List.take_succ_eq_append_getElem h, List.take_succ_eq_append_getElem h', List.zip_append (by simp; omega)]
  rfl
end Go.Proofs.YtcdbchifigonpaaDoor
