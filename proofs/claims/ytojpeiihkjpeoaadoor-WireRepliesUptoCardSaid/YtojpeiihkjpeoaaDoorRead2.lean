/- Walks: the reader's value: all that holds no values, joined. -/
import Derived.Test.YtojpeiihkjpeoaaDoorRead1
namespace Go.Proofs.YtojpeiihkjpeoaaDoor
open Go.RowKit Go.Shelf

theorem value_flat (above pb : Nat) (x : UInt8) (bs : List UInt8) (w : World) (h7 : x.toNat ≠ 7) (h8 : x.toNat ≠ 8) (hT : Tabs w) (hp : 1 < pb) (h : Rd w pb (x :: bs)) :
    Calls Tryd.prog 103 #[.pointer (some ⟨pb, 0, none⟩), .int .i64 above] w (ValC w pb (rdFlat x.toNat bs)) := by
  unfold rdFlat
  by_cases k1 : x.toNat = 1
  · rw [if_pos k1]; exact value_1 above pb x k1 bs w h
  rw [if_neg k1]
  by_cases k2 : x.toNat = 2
  · rw [if_pos k2]
    cases bs with
    | nil => exact value_2a above pb x k2 [] w rfl h
    | cons y r =>
      by_cases hy : y.toNat ≤ 1
      · simp only [if_pos hy]; exact value_2b above pb x k2 (y :: r) w y r rfl hy h
      · simp only [if_neg hy]; exact value_2c above pb x k2 (y :: r) w y r rfl (by omega) h
  rw [if_neg k2]
  by_cases k3 : x.toNat = 3 ∨ x.toNat = 4
  · rw [if_pos k3]
    by_cases hl : 8 ≤ bs.length
    · rw [if_pos hl]
      rcases k3 with k | k
      · rw [k]; exact value_3b above pb x k bs w hl h
      · rw [k]; exact value_4b above pb x k bs w hl h
    · rw [if_neg hl]
      rcases k3 with k | k
      · exact value_3a above pb x k bs w (by omega) h
      · exact value_4a above pb x k bs w (by omega) h
  rw [if_neg k3]
  by_cases k5 : x.toNat = 5 ∨ x.toNat = 6
  · rw [if_pos k5]
    by_cases hl : 2 ≤ bs.length
    · rw [if_pos hl]
      by_cases hm : le (bs.take 2) ≤ (bs.drop 2).length
      · rw [if_pos hm]
        rcases k5 with k | k
        · by_cases hu : Lib.validD ((bs.drop 2).take (le (bs.take 2))) = true
          · rw [if_pos (Or.inr hu), k]; exact value_5c above pb x k bs w hT hp hu hl hm h
          · rw [if_neg (by rw [k]; simpa using hu)]; exact value_5d above pb x k bs w hT hp (by simpa using hu) hl hm h
        · rw [if_pos (Or.inl k), k]; exact value_6c above pb x k bs w hl hm h
      · rw [if_neg hm]
        rcases k5 with k | k
        · exact value_5b above pb x k bs w hl (by omega) h
        · exact value_6b above pb x k bs w hl (by omega) h
    · rw [if_neg hl]
      rcases k5 with k | k
      · exact value_5a above pb x k bs w (by omega) h
      · exact value_6a above pb x k bs w (by omega) h
  rw [if_neg k5]
  by_cases k0 : x.toNat < 1
  · exact value_low above pb x k0 bs w h
  · exact value_high above pb x (by omega) bs w h
end Go.Proofs.YtojpeiihkjpeoaaDoor
