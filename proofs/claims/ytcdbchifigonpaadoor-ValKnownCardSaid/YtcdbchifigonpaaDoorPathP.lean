/- Paths: the number that a text is, plainly and walked by the program and by the document's answer. -/
import Derived.Test.YtcdbchifigonpaaDoorLibs
set_option linter.unusedVariables false
set_option linter.unusedSimpArgs false
namespace Go.Proofs.YtcdbchifigonpaaDoor
open Go.RowKit

/-- The number that digits are; -1: they are none. -/
def ixF : List UInt8 → Nat → Int
  | [], n => n
  | c :: r, n => if c.toNat < 48 ∨ 57 < c.toNat then -1 else ixF r (10 * n + (c.toNat - 48))
/-- The place that a text is; -1: it is none. -/
def ixN (s : List UInt8) : Int := if s = [] ∨ 4 < s.length ∨ (1 < s.length ∧ s.head? = some 48) then -1 else ixF s 0
theorem ixF_bad {c : UInt8} {r : List UInt8} {n : Nat} (h : c.toNat < 48 ∨ 57 < c.toNat) : ixF (c :: r) n = -1 := by rw [ixF, if_pos h]
theorem ixF_ok {c : UInt8} {r : List UInt8} {n : Nat} (h : ¬ (c.toNat < 48 ∨ 57 < c.toNat)) : ixF (c :: r) n = ixF r (10 * n + (c.toNat - 48)) := by rw [ixF, if_neg h]
theorem ixF_at (s : List UInt8) (j : Nat) (h : j < s.length) (n : Nat) : ixF (s.drop j) n = if s[j].toNat < 48 ∨ 57 < s[j].toNat then -1 else ixF (s.drop (j + 1)) (10 * n + (s[j].toNat - 48)) := by
  rw [List.drop_eq_getElem_cons h, ixF]
theorem bytes_get (s : ByteArray) (j : Nat) (h : j < s.size) : s[j] = s.data.toList[j]'(by simpa using h) := by
  show s.data[j] = _
  simp
theorem toList_data (s : ByteArray) : s.toList = s.data.toList := by
  exact ByteArray.toList_eq s
set_option maxRecDepth 100000 in
set_option maxHeartbeats 1600000 in
theorem vindex_any (s : ByteArray) (w : World) : Calls Tryd.prog 66 #[.string s] w fun e w' => e = .returned (.int .i64 (ixN s.data.toList)) ∧ w = w' := by
  obtain ⟨z, hz⟩ : ∃ z, ixN s.data.toList = z := ⟨_, rfl⟩
  rw [hz]
  have hlen : s.data.toList.length = s.size := by simp
  by_cases h0 : s.size = 0
  · have he : s.data.toList = [] := List.length_eq_zero_iff.1 (by omega)
    have hz' : z = -1 := by rw [← hz, he]; rfl
    have hse : s = ⟨#[]⟩ := by apply ByteArray.ext; apply Array.ext'; exact he
    subst hse
    subst hz'
    clear h0 hz he hlen
    go_enter Tryd.func66, Tryd.ntmps66
    go_wp2_with fail
    go_ret
    exact ⟨rfl, rfl⟩
  · have hne : s.data.toList ≠ [] := fun h => h0 (by rw [← hlen, h]; rfl)
    have hl1 : ¬ s.toList = [] := by
      intro h
      have := toList_data s
      rw [h] at this
      exact hne this.symm
    have hl2 : s.toList.isEmpty = false := by simpa using hl1
    have hpos : 0 < s.size := by omega
    by_cases h4 : 4 < s.size
    · have hz' : z = -1 := by rw [← hz]; unfold ixN; rw [if_pos (.inr (.inl (by omega)))]
      subst hz'
      clear h0 hz hne hlen
      go_enter Tryd.func66, Tryd.ntmps66
      go_wp2_with fail
      go_ret
      exact ⟨rfl, rfl⟩
    · obtain ⟨x, hx⟩ : ∃ x, s[0]'hpos = x := ⟨_, rfl⟩
      have hx0 : s.data.toList.head? = some x := by
        rw [← hx, bytes_get s 0 hpos, List.head?_eq_getElem?, List.getElem?_eq_getElem]
      have hxl := x.toNat_lt
      by_cases h1 : 1 < s.size ∧ x.toNat = 48
      · have hz' : z = -1 := by
          rw [← hz]; unfold ixN
          rw [if_pos (.inr (.inr ⟨by omega, by rw [hx0]; congr 1; apply UInt8.toNat_inj.1; exact h1.2⟩))]
        subst hz'
        obtain ⟨h1, h2⟩ := h1
        have h2b : ((x.toNat : Int) == 48) = true := by simp; omega
        clear h0 hz hne hlen hx0 h2
        go_enter Tryd.func66, Tryd.ntmps66
        go_wp2_with fail
        go_ret
        exact ⟨rfl, rfl⟩
      · have hz' : ixF s.data.toList 0 = z := by
          rw [← hz]; unfold ixN
          rw [if_neg]
          rintro (h | h | ⟨h, h'⟩)
          · exact hne h
          · omega
          · exact h1 ⟨by omega, by rw [hx0] at h'; injection h' with h'; rw [h']; rfl⟩
        have HZ := hide hz'
        have hs1 : ¬ 1 < s.size ∨ (1 < s.size ∧ ((x.toNat : Int) == 48) = false) := by
          rcases Nat.lt_or_ge 1 s.size with h | h
          · right; exact ⟨h, by simp; omega⟩
          · left; omega
        clear hz hz' hne hlen hx0 h1 h0
        have hs4 : s.size ≤ 4 := by omega
        have hsj : ∀ (n : Nat) (j : Nat), j < s.size → n < 10 ^ j → n ≤ 999 := fun n j h1 h2 => by
          have : 10 ^ j ≤ 10 ^ 3 := Nat.pow_le_pow_right (by omega) (by omega)
          omega
        have HSJ := hide hsj
        clear hsj
        rcases hs1 with hs1 | ⟨hs1, hs2⟩
        all_goals
          go_enter Tryd.func66, Tryd.ntmps66
          go_wp2_with fail
          go_loopg [3, 24] (s.size + 1) (fun gk a i wr => w = wr ∧ ∃ (j n : Nat), j ≤ s.size ∧ gk + j = s.size + 1 ∧ i = .int .i64 j ∧ a = .int .i64 (n : Int) ∧ n < 10 ^ j ∧ ixF (s.data.toList.drop j) n = z)
          case atStart => exact ⟨rfl, 0, 0, by omega, by omega, rfl, rfl, by simp, HZ.out⟩
          case round =>
            obtain ⟨rfl, j, n, hj, hgk, rfl, rfl, hn, hf⟩ := hrel
            have HF := hide hf
            have HN := hide hn
            clear hf
            by_cases hlt : j < s.size
            · obtain ⟨gk', rfl⟩ : ∃ g, gk = g + 1 := ⟨gk - 1, by omega⟩
              have hn9 := HSJ.out n j hlt hn
              clear hn
              have hstep := ixF_at s.data.toList j (by simpa using hlt) n
              rw [HF.out, ← bytes_get s j hlt] at hstep
              obtain ⟨y, hy⟩ : ∃ y, s[j] = y := ⟨_, rfl⟩
              rw [hy] at hstep
              have HST := hide hstep
              have hyl := y.toNat_lt
              clear hstep
              by_cases c1 : y.toNat < 48
              · have HE := hide (show z = -1 by rw [HST.out, if_pos (.inl c1)])
                go_wp2_with fail
                go_ret
                exact ⟨ret_int HE.out.symm, rfl⟩
              · by_cases c2 : 57 < y.toNat
                · have HE := hide (show z = -1 by rw [HST.out, if_pos (.inr c2)])
                  go_wp2_with fail
                  go_ret
                  exact ⟨ret_int HE.out.symm, rfl⟩
                · have HE := hide (show z = ixF (s.data.toList.drop (j + 1)) (10 * n + (y.toNat - 48)) by rw [HST.out, if_neg (by omega)])
                  go_wp2_with fail
                  go_roundg gk'
                  case measure => omega
                  case rel => exact ⟨rfl, j + 1, 10 * n + (y.toNat - 48), by omega, by omega, by go_num, by go_num, by have := HN.out; rw [Nat.pow_succ]; omega, HE.out.symm⟩
            · obtain rfl : j = s.size := by omega
              have HE := hide (show z = (n : Int) by rw [← HF.out, List.drop_of_length_le (by simp)]; rfl)
              clear hn
              go_wp2_with fail
              go_ret
              exact ⟨ret_int HE.out.symm, rfl⟩
end Go.Proofs.YtcdbchifigonpaaDoor
