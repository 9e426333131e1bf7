/- Arguments as they are read: bytes; the listed tables. -/
import Derived.Test.YtojpeiihkjpeoaaDoorLib1
import Derived.Test.YtojpeiihkjpeoaaDoorName
import Derived.Deep.Slices
import Derived.ProofKit
import Derived.OpenShut
import Derived.SizedLaws
import Derived.Lib.LaidIn
import Derived.Lib.LaidU8T
set_option linter.unusedVariables false
set_option linter.unusedSimpArgs false
namespace Go.Proofs.YtojpeiihkjpeoaaDoor
open Go.RowKit Go.ChangeShapes Go.Shelf Go.Deep

theorem cells_u8 : Tryd.prog.cellsOf 5 = 1 := by kernel_rfl
theorem bytes_u8 : Tryd.prog.bytesOf 5 = 1 := by kernel_rfl

section
variable {H : Type} {enc : TypeId × Value → H} {W : World} {sp : Nat → Bool} {held : Bool}
theorem addr_add_zero (a : Addr) : a.add 0 = a := by unfold Addr.add; simp
theorem spot_of_cell {a : Addr} {u : Value} (h : W.cell? a = some u) : a = ⟨a.block, a.off, none⟩ := by
  obtain ⟨bk, o, s⟩ := a
  cases s with
  | none => rfl
  | some s =>
    exfalso
    unfold World.cell? at h
    simp only at h
    split at h
    · simp at h
    · cases h
theorem open_bytes {fuel : Nat} {c : Value} {x : DataW H × List MemPlace} (h : DataW.trod enc Tryd.prog W 0 sp held fuel 26 [c] = some x) (hw : ∀ n ∈ x.1.weights Tryd.prog 26, n ≤ reachBytes) :
    ∃ A b cap, c = .slice A b.length cap ∧ b.length ≤ cap ∧ b.length ≤ 140737488355328 ∧ InB W A b := by
  rcases open_slice1 under_u8s cells_u8 h with ⟨hc, hx⟩ | ⟨a, len, cap, m, n, V, D, Pl, hc, hb, hl, hm, hmm, hx, hall⟩
  · injection hc with hc
    subst hc
    exact ⟨none, [], 0, rfl, by simp, by simp, ⟨by simp [u8s], fun h => by simp at h⟩⟩
  · injection hc with hc
    have hmlen : len ≤ m := by rw [hmm]; split <;> omega
    have hV : ∀ i, i < len → ∃ y : UInt8, V i = .int .u8 (y.toNat : Int) := fun i hi => by
      obtain ⟨h1, h2⟩ := hall i (by omega)
      obtain ⟨n', hn, hx', hwf⟩ := DataW.trod_int under_u8 h2
      injection hn with hn
      have hr : 0 ≤ n' ∧ n' < 256 := by
        have h3 : (decide (IntKind.u8.min ≤ n') && decide (n' ≤ IntKind.u8.max)) = true := hwf
        rw [Bool.and_eq_true, decide_eq_true_eq, decide_eq_true_eq] at h3
        have e1 : IntKind.u8.min = 0 := rfl
        have e2 : IntKind.u8.max = 255 := rfl
        rw [e1, e2] at h3
        omega
      refine ⟨UInt8.ofNat n'.toNat, ?_⟩
      rw [hn, UInt8.toNat_ofNat']
      congr 1
      omega
    let y : Nat → UInt8 := fun i => if h : i < len then Classical.choose (hV i h) else 0
    have hy : ∀ i, i < len → V i = .int .u8 ((y i).toNat : Int) := fun i hi => by
      show V i = .int .u8 ((if h : i < len then Classical.choose (hV i h) else 0 : UInt8).toNat : Int)
      rw [dif_pos hi]
      exact Classical.choose_spec (hV i hi)
    have hlb : ((List.range len).map y).length = len := by simp
    have hwt : len ≤ reachBytes := by
      have := hw ((len + (m - len)) * 1) (by rw [hx]; simp [DataW.weights, bytes_u8])
      omega
    have hreach := reachBytes_lt
    refine ⟨some a, (List.range len).map y, cap, by rw [hlb]; exact hc, by rw [hlb]; exact hl, by rw [hlb]; simp only [Nat.reducePow] at hreach; omega, ⟨by rw [u8s_length, Nat.mul_one], fun hn => ?_⟩⟩
    rw [hlb] at hn
    have h0 := (hall 0 (by omega)).1
    rw [addr_add_zero] at h0
    have ha := spot_of_cell h0
    refine ⟨a.block, a.off, by rw [← ha], fun j u hu => ?_⟩
    have hj : j < len := by
      have := (List.getElem?_eq_some_iff.1 hu).1
      rwa [u8s_length, hlb] at this
    have hcell := (hall j (by omega)).1
    rw [ha, add_lit] at hcell
    rw [u8s_get _ j (by rw [hlb]; exact hj)] at hu
    injection hu with hu
    subst hu
    refine ⟨?_, Nat.zero_le _, (show a.block < W.heap.size from World.block_lt_of_cell? W _ h0)⟩
    rw [hcell, hy j hj]
    simp
end

/-- What the rows' lists give: utf8's two tables. -/
theorem tabs_of_laid {W : World} {l : List (String × DataW Unit)} (h : laidMet Tryd.prog l W) (h1 : ("unicode/utf8.first", Lib.firstData) ∈ l) (h2 : ("unicode/utf8.acceptRanges", Lib.acceptData) ∈ l) : Tabs W :=
  utf8Tabs_of_readsT (U8Types.of196 Tryd.laysValid) ⟨by kernel_rfl, by kernel_rfl, by kernel_rfl, by kernel_rfl, by kernel_rfl, by kernel_rfl, by kernel_rfl⟩ (Lib.laidMet.reads h h1) (Lib.laidMet.reads h h2)
theorem first_pinned : (Rows.laid_unicode_utf8_first : DataW Unit) = Lib.firstData := by kernel_rfl
theorem accept_laid : (Rows.laid_unicode_utf8_acceptRanges : DataW Unit) = Lib.acceptData := by kernel_rfl

/-- A world that meets the rows' lists: the settled one, the two tables laid. -/
noncomputable def laidWorld (os : Os) : World :=
  let w0 := World.holding Tryd.prog os ⟨#[], #[], []⟩
  let put (h : Array Obj) (g : Nat) (cs : Array Value) : Array Obj := h.modify g fun
    | .cells _ t frozen => .cells cs t frozen
    | o => o
  let h1 := put w0.heap 0 (Lib.firstTab.map fun z => Value.int .u8 z).toArray
  let h2 := put h1 1 ((List.range 16).flatMap fun i => [Value.int .u8 (Lib.accLo i), Value.int .u8 (Lib.accHi i)]).toArray
  { w0 with heap := h2 }
theorem laid_met (os : Os) (args : Array Value) : laidMet Tryd.prog [("unicode/utf8.acceptRanges", Lib.acceptData), ("unicode/utf8.first", Lib.firstData)] ((laidWorld os).forCall (fun _ _ => 0) ⟨#[], args, []⟩).memory :=
  (LaidIn.of_run (l := [("unicode/utf8.acceptRanges", Lib.acceptData), ("unicode/utf8.first", Lib.firstData)]) [1, 0] 8 (by kernel_rfl) (by kernel_rfl) (by kernel_rfl) (by kernel_rfl)).met
end Go.Proofs.YtojpeiihkjpeoaaDoor
