/- Plain: chapter 2's examples: bytes read, values in order, paths. -/
import Derived.Test.YtcdbchifigonpaaDoorFieldP
import Derived.Test.YtcdbchifigonpaaDoorVoQ
set_option linter.unusedVariables false
set_option linter.unusedSimpArgs false
namespace Go.Proofs.YtcdbchifigonpaaDoor
open Go.RowKit Go.Shelf V

def sA : ByteArray := ⟨#[97]⟩
def sB : ByteArray := ⟨#[98]⟩
def vI (n : Nat) : V := .mk 3 n [] [] []
def vF (n : Nat) : V := .mk 4 n [] [] []
def vD (s : ByteArray) (v : V) : V := .mk 8 0 [] [] [(s, v)]
def vNull : V := .mk 1 0 [] [] []
def vBool (n : Nat) : V := .mk 2 n [] [] []
def vL (l : List V) : V := .mk 7 0 [] l []
theorem read22 : rdAll [2, 2] = .error 4 := by kernel_rfl
theorem read5 : rdAll [5, 1, 0, 255] = .error 4 := by kernel_rfl
theorem read11 : rdAll [1, 1] = .error 4 := by kernel_rfl
theorem read7 : rdAll [7, 65] = .error 19 := by kernel_rfl
theorem read3 : rdAll [3] = .error 4 := by kernel_rfl
theorem good_by {v : V} (h1 : v.formed = true) (h2 : v.most ≤ 64) (h3 : v.depth ≤ 16) (h4 : v.bytes.length ≤ 4096) : v.good = 0 := good_iff.2 ⟨h1, h2, h3, h4⟩
theorem vNull_good : vNull.good = 0 := good_by (by unfold vNull; rw [V.formed_mk]; decide) (by unfold vNull; rw [V.most_mk]; decide) (by unfold vNull; rw [V.depth_mk]; decide) (by unfold vNull; rw [V.bytes_mk]; decide)
theorem vBool_good (n : Nat) (h : n ≤ 1) : (vBool n).good = 0 := by
  have : n = 0 ∨ n = 1 := by omega
  rcases this with rfl | rfl <;> exact good_by (by unfold vBool; rw [V.formed_mk]; decide) (by unfold vBool; rw [V.most_mk]; decide) (by unfold vBool; rw [V.depth_mk]; decide) (by unfold vBool; rw [V.bytes_mk]; decide)
theorem num_good (k : Int) (hk : k = 3 ∨ k = 4) (n : Nat) : (V.mk k n [] [] []).good = 0 := by
  rcases hk with rfl | rfl <;> refine good_by ?_ (by rw [V.most_mk]; decide) (by rw [V.depth_mk]; decide) (by rw [V.bytes_mk]; simp [toLe_length])
  all_goals
    rw [V.formed_mk]
    unfold V.own
    simp
theorem nameA : V.name sA = true := by decide +kernel
theorem nameB : V.name sB = true := by decide +kernel
theorem vD_good {s : ByteArray} {v : V} (hs : V.name s = true) (hv : v.good = 0) (hd : v.depth ≤ 10) (hb : v.bytes.length ≤ 1000) : (vD s v).good = 0 := by
  obtain ⟨h1, h2, -, -⟩ := good_iff.1 hv
  have hz := name_size hs
  refine good_by ?_ ((V.most_over _ _ _ _ _ 64).2 ⟨by simp, by simp, by simp, by simpa using h2⟩) ?_ ?_
  · unfold vD
    rw [V.formed_mk]
    simp [V.own, hs, h1]
  · unfold vD
    rw [V.depth_doc]
    simp
    omega
  · unfold vD
    rw [V.bytes_doc]
    simp [V.item_length]
    omega
theorem vL_good {l : List V} (hl : ∀ x ∈ l, x.good = 0) (hn : l.length ≤ 2) (hd : ∀ x ∈ l, x.depth ≤ 10) (hb : ((l.map V.bytes).flatten).length ≤ 1000) : (vL l).good = 0 := by
  refine good_by ?_ ((V.most_over _ _ _ _ _ 64).2 ⟨by omega, by simp, fun x hx => (good_iff.1 (hl x hx)).2.1, by simp⟩) ?_ ?_
  · unfold vL
    rw [V.formed_mk]
    simp only [V.own, Bool.and_eq_true, List.all_eq_true]
    refine ⟨⟨⟨by simp, fun x hx => (good_iff.1 (hl x hx)).1⟩, by simp⟩, by simp⟩
  · unfold vL
    rw [V.depth_list]
    have := (foldl_max_le (l.map V.depth) 0 10).2 ⟨by omega, fun y hy => by
      obtain ⟨x, hx, rfl⟩ := List.mem_map.1 hy
      exact hd x hx⟩
    omega
  · unfold vL
    rw [V.bytes_list]
    simp only [List.length_cons]
    omega
theorem num_bytes (k : Int) (hk : k = 3 ∨ k = 4) (n : Nat) : (V.mk k n [] [] []).bytes.length = 9 := by rcases hk with rfl | rfl <;> rw [V.bytes_mk] <;> simp [toLe_length]
theorem num_depth (k : Int) (hk : k = 3 ∨ k = 4) (n : Nat) : (V.mk k n [] [] []).depth = 0 := by rcases hk with rfl | rfl <;> rw [V.depth_mk] <;> rfl
theorem vI_good (n : Nat) : (vI n).good = 0 := num_good 3 (.inl rfl) n
theorem vF_good (n : Nat) : (vF n).good = 0 := num_good 4 (.inr rfl) n
theorem vDI_good {s : ByteArray} (hs : V.name s = true) (n : Nat) : (vD s (vI n)).good = 0 := vD_good hs (vI_good n) (by unfold vI; rw [num_depth 3 (.inl rfl)]; omega) (by unfold vI; rw [num_bytes 3 (.inl rfl)]; omega)
theorem vNull_bytes : vNull.bytes = [1] := by unfold vNull; rw [V.bytes_mk]; decide
theorem vDB_bytes : (vD sA (vBool 1)).bytes = [8, 1, 1, 97, 2, 1] := by
  unfold vD vBool
  rw [V.bytes_doc]
  simp only [List.map_cons, List.map_nil, V.bytes_mk]
  decide +kernel
theorem vDB_good : (vD sA (vBool 1)).good = 0 := vD_good nameA (vBool_good 1 (by omega)) (by unfold vBool; rw [V.depth_mk]; decide) (by unfold vBool; rw [V.bytes_mk]; decide)
theorem rv_one : rv 4607182418800017408 = U1 := by
  obtain ⟨k, hk⟩ : ∃ k : Nat, k = 1022 := ⟨_, rfl⟩
  have h := rv_place k 4503599627370496 (by decide) (by decide)
  have e : k * 4503599627370496 + 4503599627370496 = 4607182418800017408 := by omega
  have hu := U1_eq (52 + k) (by omega)
  rw [Nat.pow_add, show (2 : Nat) ^ 52 = 4503599627370496 from by decide] at hu
  rw [e, hu] at h
  exact h
theorem rv_53 : rv 4845873199050653696 = 9007199254740992 * U1 := by
  obtain ⟨k, hk⟩ : ∃ k : Nat, k = 1074 := ⟨_, rfl⟩
  have h := rv_place (1 + k) 4503599627370496 (by decide) (by decide)
  have e : (1 + k) * 4503599627370496 + 4503599627370496 = 4845873199050653696 := by omega
  have hu := U1_eq k hk
  rw [e, Nat.pow_add, hu] at h
  omega
theorem mix_one : mixC 1 4607182418800017408 = -1 := by
  have hs : sv 4607182418800017408 = (U1 : Int) := by unfold sv; rw [if_pos (by decide), rv_one]
  unfold mixC
  rw [hs, if_neg (by omega), if_neg (by omega), if_neg (by decide)]
theorem mix_zero : mixC 0 9223372036854775808 = 1 := by
  have hs : sv 9223372036854775808 = 0 := by
    unfold sv; rw [if_neg (by decide)]
    show -(rv 0 : Int) = 0
    rw [rv_zero]; rfl
  unfold mixC
  rw [hs, if_neg (by omega), if_neg (by omega), if_pos rfl]
theorem mix_53 : mixC 9007199254740993 4845873199050653696 = 1 := by
  have hp := U1_pos
  have hs : sv 4845873199050653696 = 9007199254740992 * (U1 : Int) := by unfold sv; rw [if_pos (by decide), rv_53]; simp
  unfold mixC
  rw [hs, if_neg (by omega), if_pos (by omega)]
theorem nan_no (n : Nat) (hn : n < 18446744073709551616) (h : n % 9223372036854775808 ≤ 9218868437227405312) : nanB n = false := by
  have := order_sv hn hn h h
  unfold nanB
  rw [this]
  simp
theorem nan_yes : nanB 9221120237041090560 = true := by
  unfold nanB
  rw [order_nan_l (by decide)]
  rfl
theorem cmpN (k k' : Int) (n n' : Nat) (hk : k = 3 ∨ k = 4) (hk' : k' = 3 ∨ k' = 4) : V.cmp (.mk k n [] [] []) (.mk k' n' [] [] []) = numC k n k' n' := by
  rw [V.cmp_mk]
  rcases hk with rfl | rfl <;> rcases hk' with rfl | rfl <;> rfl
theorem less1 : V.cmp (vI 1) (vF 4607182418800017408) = -1 ∧ V.cmp (vF 4607182418800017408) (vI 1) = 1 := by
  unfold vI vF
  rw [cmpN _ _ _ _ (.inl rfl) (.inr rfl), cmpN _ _ _ _ (.inr rfl) (.inl rfl)]
  unfold numC
  rw [nan_no 4607182418800017408 (by decide) (by decide)]
  have e : i64 1 = 1 := by decide
  rw [e]
  simp [mix_one]
theorem less2 : V.cmp (vF 9223372036854775808) (vI 0) = -1 ∧ V.cmp (vI 0) (vF 9223372036854775808) = 1 := by
  unfold vI vF
  rw [cmpN _ _ _ _ (.inl rfl) (.inr rfl), cmpN _ _ _ _ (.inr rfl) (.inl rfl)]
  unfold numC
  rw [nan_no 9223372036854775808 (by decide) (by decide)]
  have e : i64 0 = 0 := by decide
  rw [e]
  simp [mix_zero]
theorem less3 : V.cmp (vF 4845873199050653696) (vI 9007199254740993) = -1 ∧ V.cmp (vI 9007199254740993) (vF 4845873199050653696) = 1 := by
  unfold vI vF
  rw [cmpN _ _ _ _ (.inl rfl) (.inr rfl), cmpN _ _ _ _ (.inr rfl) (.inl rfl)]
  unfold numC
  rw [nan_no 4845873199050653696 (by decide) (by decide)]
  have e : i64 9007199254740993 = 9007199254740993 := by decide
  rw [e]
  simp [mix_53]
theorem less4 : V.cmp (vF 9221120237041090560) (vF 18442240474082181120) = -1 ∧ V.cmp (vF 18442240474082181120) (vF 9221120237041090560) = 1 := by
  unfold vF
  rw [cmpN _ _ _ _ (.inr rfl) (.inr rfl), cmpN _ _ _ _ (.inr rfl) (.inr rfl)]
  unfold numC
  rw [nan_no 18442240474082181120 (by decide) (by decide), nan_yes]
  simp
theorem cmpI (n m : Nat) (hn : n < 9223372036854775808) (hm : m < 9223372036854775808) : V.cmp (vI n) (vI m) = sg n m := by
  unfold vI
  rw [cmpN _ _ _ _ (.inl rfl) (.inl rfl)]
  unfold numC i64
  rw [if_pos rfl, if_pos rfl, if_pos hn, if_pos hm]
theorem less5 : V.cmp (vL [vI 1]) (vL [vI 1, vI 2]) = -1 ∧ V.cmp (vL [vI 1, vI 2]) (vL [vI 1]) = 1 := by
  have e := cmpI 1 1 (by decide) (by decide)
  have e2 : sg ((1 : Nat) : Int) ((1 : Nat) : Int) = 0 := by decide
  unfold vL
  rw [V.cmp_mk, V.cmp_mk]
  constructor <;> simp [cls, V.cmpL, V.cmpF, foldC, e, e2, orC, sg]
theorem less6 : V.cmp (vD sA (vI 1)) (vD sB (vI 0)) = -1 ∧ V.cmp (vD sB (vI 0)) (vD sA (vI 1)) = 1 := by
  have e1 : Lib.compareBytes sA.data.toList sB.data.toList = -1 := by decide +kernel
  have e2 : Lib.compareBytes sB.data.toList sA.data.toList = 1 := by decide +kernel
  unfold vD
  rw [V.cmp_mk, V.cmp_mk]
  constructor <;> simp [cls, V.cmpL, V.cmpF, V.cmpP, foldC, e1, e2, orC, sg]
theorem less7 : V.cmp vNull (vBool 0) = -1 ∧ V.cmp (vBool 0) vNull = 1 := by
  unfold vNull vBool
  rw [V.cmp_mk, V.cmp_mk]
  constructor <;> rfl
/-- The path of the example. -/
def sP : ByteArray := ⟨#[97, 46, 49, 46, 98]⟩
def s1 : ByteArray := ⟨#[49]⟩
def vT : V := vD sA (vL [vI 5, vD sB (vI 6)])
theorem vDI_len {s : ByteArray} (hs : s.size = 1) (n : Nat) : (vD s (vI n)).bytes.length = 13 := by
  unfold vD
  rw [V.bytes_doc]
  have : (vI n).bytes.length = 9 := num_bytes 3 (.inl rfl) n
  simp [V.item_length, hs, this]
theorem vDI_depth (s : ByteArray) (n : Nat) : (vD s (vI n)).depth = 1 := by
  unfold vD
  rw [V.depth_doc]
  have : (vI n).depth = 0 := num_depth 3 (.inl rfl) n
  simp [this]
theorem vTL_good : (vL [vI 5, vD sB (vI 6)]).good = 0 := by
  have h5 : (vI 5).bytes.length = 9 := num_bytes 3 (.inl rfl) 5
  have h6 := vDI_len (s := sB) rfl 6
  have d5 : (vI 5).depth = 0 := num_depth 3 (.inl rfl) 5
  have d6 := vDI_depth sB 6
  refine vL_good (fun x hx => ?_) (by simp) (fun x hx => ?_) (by simp [h5, h6])
  · simp only [List.mem_cons, List.not_mem_nil, or_false] at hx
    rcases hx with rfl | rfl
    · exact vI_good 5
    · exact vDI_good nameB 6
  · simp only [List.mem_cons, List.not_mem_nil, or_false] at hx
    rcases hx with rfl | rfl <;> omega
theorem vT_good : vT.good = 0 := by
  have h5 : (vI 5).bytes.length = 9 := num_bytes 3 (.inl rfl) 5
  have h6 := vDI_len (s := sB) rfl 6
  have d5 : (vI 5).depth = 0 := num_depth 3 (.inl rfl) 5
  have d6 := vDI_depth sB 6
  refine vD_good nameA vTL_good ?_ ?_
  · unfold vL
    rw [V.depth_list]
    simp [d5, d6]
  · unfold vL
    rw [V.bytes_list]
    simp [h5, h6]
theorem vT_path : pathV vT sP = some (vI 6) := by
  have e : pathN sP = [sA, s1, sB] := by kernel_rfl
  rw [pathV, if_pos vT_good, if_neg (by decide +kernel), e]
  show (stepV vT sA).bind _ = _
  have a1 : stepV vT sA = some (vL [vI 5, vD sB (vI 6)]) := by
    unfold vT vD
    rw [stepV_doc (by decide)]
    simp
  have a2 : stepV (vL [vI 5, vD sB (vI 6)]) s1 = some (vD sB (vI 6)) := by
    unfold vL
    rw [stepV_list, show ixN s1.data.toList = 1 from by decide +kernel]
    simp
  have a3 : stepV (vD sB (vI 6)) sB = some (vI 6) := by
    unfold vD
    rw [stepV_doc (by decide)]
    simp
  rw [a1, Option.bind_some]
  show (stepV (vL [vI 5, vD sB (vI 6)]) s1).bind _ = _
  rw [a2, Option.bind_some]
  show (stepV (vD sB (vI 6)) sB).bind _ = _
  rw [a3]
  rfl
theorem vN_path : pathV (vD sA (vI 1)) sB = none := by
  have e : pathN sB = [sB] := by kernel_rfl
  have hne : ¬ sA = sB := by decide
  rw [pathV, if_pos (vDI_good nameA 1), if_neg (by decide +kernel), e]
  show (stepV _ sB).bind _ = _
  have a1 : stepV (vD sA (vI 1)) sB = none := by
    unfold vD
    rw [stepV_doc (by decide)]
    simp [hne]
  rw [a1]
  rfl
def vW : V := .mk 8 0 [] [] [(sA, vI 1), (sB, vI 2)]
theorem vW_good : vW.good = 0 := by
  have h1 : (vI 1).bytes.length = 9 := num_bytes 3 (.inl rfl) 1
  have h2 : (vI 2).bytes.length = 9 := num_bytes 3 (.inl rfl) 2
  have d1 : (vI 1).depth = 0 := num_depth 3 (.inl rfl) 1
  have d2 : (vI 2).depth = 0 := num_depth 3 (.inl rfl) 2
  have hne : ¬ sA = sB := by decide
  have g1 := good_iff.1 (vI_good 1)
  have g2 := good_iff.1 (vI_good 2)
  refine good_by ?_ ((V.most_over _ _ _ _ _ 64).2 ⟨by simp, by simp, by simp, fun x hx => ?_⟩) ?_ ?_
  · unfold vW
    rw [V.formed_mk]
    simp [V.own, nameA, nameB, g1.1, g2.1, hne]
  · simp only [List.mem_cons, List.not_mem_nil, or_false] at hx
    rcases hx with rfl | rfl
    · exact g1.2.1
    · exact g2.2.1
  · unfold vW
    rw [V.depth_doc]
    simp [d1, d2]
  · unfold vW
    rw [V.bytes_doc]
    have z1 : sA.size = 1 := rfl
    have z2 : sB.size = 1 := rfl
    simp [V.item_length, h1, h2, z1, z2]
theorem vW_with : withV (vD sA (vI 1)) sB (vI 2) = vW := by
  have hne : ¬ sA = sB := by decide
  unfold withV vD vW withF putF hasF
  simp [V.f, hne]
theorem vW_withG : withG (vD sA (vI 1)) sB (vI 2) = .ok vW := by
  unfold withG
  rw [if_pos ⟨rfl, vDI_good nameA 1⟩, vW_with, if_pos vW_good]
end Go.Proofs.YtcdbchifigonpaaDoor
