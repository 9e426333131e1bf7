/- A formed value has no more parts than bytes. No program in sight. -/
import Derived.Test.YtkgjfkpabdlgbaaDoorRd
set_option linter.unusedVariables false
set_option linter.unusedSimpArgs false
namespace Go.Proofs.YtkgjfkpabdlgbaaDoor
open V

theorem sum_le_flat {α : Type} (g : α → List UInt8) (f : α → Nat) (l : List α) (h : ∀ x ∈ l, f x ≤ (g x).length) : (l.map f).sum ≤ ((l.map g).flatten).length := by
  induction l with
  | nil => simp
  | cons x xs ih =>
    have h1 := h x (by simp)
    have h2 := ih fun y hy => h y (by simp [hy])
    simp only [List.map_cons, List.sum_cons, List.flatten_cons, List.length_append]
    omega

theorem count_le (v : V) : v.formed = true → v.count ≤ v.bytes.length := by
  induction v using V.ind with
  | h k n b l f hl hf =>
    intro hfm
    rcases formed_cases hfm with h | ⟨n', hn', h⟩ | ⟨n', h⟩ | ⟨n', h⟩ | ⟨b', hb', h⟩ | ⟨b', h⟩ | ⟨l', hl', h⟩ | ⟨f', hf', hnd, h⟩ <;> cases h
    · rw [count_mk, bytes_mk]; simp
    · rw [count_mk, bytes_mk]; simp
    · rw [count_mk, bytes_mk]; simp
    · rw [count_mk, bytes_mk]; simp
    · rw [count_mk, bytes_mk]; simp
    · rw [count_mk, bytes_mk]; simp
    · have h1 := sum_le_flat V.bytes V.count l fun x hx => hl x hx (hl' x hx)
      rw [count_mk, bytes_list]
      simp only [List.map_nil, List.sum_nil, List.length_cons]
      omega
    · have h1 := sum_le_flat (fun x : ByteArray × V => item x.1 x.2.bytes) (fun x => x.2.count) f fun x hx => by
        have := hf x hx (hf' x hx).2
        rw [item_length]
        omega
      rw [count_mk, bytes_doc]
      simp only [List.map_nil, List.sum_nil, List.length_cons]
      omega

theorem good_small {v : V} (h : v.good = 0) : v.count ≤ 4096 := by
  obtain ⟨h1, _, _, h4⟩ := good_iff.1 h
  have := count_le v h1
  omega
end Go.Proofs.YtkgjfkpabdlgbaaDoor
