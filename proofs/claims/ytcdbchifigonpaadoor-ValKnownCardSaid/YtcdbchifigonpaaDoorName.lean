/- Walks: IsName of the document's answer, and the program's Name. -/
import Derived.Test.YtcdbchifigonpaaDoorUtf
import Derived.Test.YtcdbchifigonpaaDoorPls
import Derived.Test.YtcdbchifigonpaaDoorShelf
import Derived.Lib.ConvBytes
import Derived.Lib.SmallJoins
namespace Go.Proofs.YtcdbchifigonpaaDoor
open Go.RowKit Go.Shelf

theorem conv_bytes (w : World) (s : ByteArray) : ∃ c W, (convert 9 23 (.string s)).run Tryd.prog w = .ok (.slice (some ⟨w.heap.size, 0, none⟩) s.size c) W ∧ Grow w W ∧ InB W (some ⟨w.heap.size, 0, none⟩) s.data.toList := by
  have hg : Grow w (Lib.bytesWorld w 5 s) := Go.Joins.below_bytesWorld _ w _ s (Nat.le_refl _)
  refine ⟨_, _, Lib.run_convert_string_bytes w _ _ 5 s under_string under_u8s under_u8, hg, ?_, ?_⟩
  · simp [u8s]
  · intro h0
    refine ⟨_, _, rfl, fun j u hu => ?_⟩
    have hj : j < s.data.toList.length := by
      have := (List.getElem?_eq_some_iff.1 hu).1
      simpa [u8s] using this
    have hj' : j < s.size := by simpa using hj
    rw [u8s_get _ j hj] at hu
    injection hu with hu
    subst hu
    refine ⟨?_, by simp, by rw [Lib.bytesWorld_size]; simp⟩
    rw [show (0 : Nat) + j = j by omega, Lib.bytesWorld_cell w _ s j hj', List.getD_eq_getElem?_getD, List.getElem?_eq_getElem hj]
    rfl

theorem nameFn_any (x : Nat) (w : World) (hx : x ≤ 1114111) :
    Calls Tryd.prog 92 #[.int .i32 x] w fun e w' => e = .returned (.bool (badRune x)) ∧ w = w' := by
  by_cases h1 : x < 32
  · go_enter Tryd.func92, Tryd.ntmps92
    go_wp2_with fail
    go_ret
    exact ⟨ret_bool (by unfold badRune; apply Bool.eq_iff_iff.2; simp only [decide_eq_true_eq, true_iff]; omega), rfl⟩
  · by_cases h2 : x = 46
    · have h2b : ((x : Int) == 46) = true := by simp; omega
      go_enter Tryd.func92, Tryd.ntmps92
      go_wp2_with fail
      go_ret
      exact ⟨ret_bool (by unfold badRune; apply Bool.eq_iff_iff.2; simp only [decide_eq_true_eq, true_iff]; omega), rfl⟩
    · have h2b : ((x : Int) == 46) = false := by simp; omega
      go_enter Tryd.func92, Tryd.ntmps92
      go_wp2_with fail
      go_ret
      exact ⟨ret_bool (by unfold badRune; apply Bool.eq_iff_iff.2; simp only [decide_eq_true_eq]; omega), rfl⟩

def Tabs (w : World) : Prop := Lib.Utf8Tabs 0 1 w
theorem Tabs.grow {w w' : World} (h : Tabs w) (hg : Grow w w') : Tabs w' := Utf8Tabs_below h hg

set_option maxHeartbeats 1600000 in
theorem name_any (s : ByteArray) (w : World) (hT : Tabs w) :
    Calls Tryd.prog 73 #[.string s] w fun e w' => e = .returned (.bool (V.name s)) ∧ Grow w w' := by
  have hE : s.toList = s.data.toList := ByteArray.toList_eq s
  have hsz : s.data.toList.length = s.size := rfl
  obtain ⟨ANS, hANS⟩ : ∃ A, V.name s = A := ⟨_, rfl⟩
  rw [hANS]
  have HA := hide (hANS.symm.trans (show V.name s = (decide (1 ≤ s.size ∧ s.size ≤ 32) && s.data.toList.all nameByte && Lib.validD s.data.toList) from rfl))
  have HT := hide hT
  clear hANS hT
  by_cases h0 : s.size = 0
  · have hem : s.toList.isEmpty = true := by rw [hE]; exact List.isEmpty_iff.2 (List.eq_nil_of_length_eq_zero (by omega))
    clear hE hsz
    go_enter Tryd.func73, Tryd.ntmps73
    go_wp2_with fail
    go_ret
    exact ⟨ret_bool (by rw [HA.out, decide_eq_false (by omega)]; rfl), Grow.refl _⟩
  · have hem : s.toList.isEmpty = false := by
      rw [hE]
      cases h : s.data.toList with
      | nil => rw [h] at hsz; simp at hsz; omega
      | cons x xs => rfl
    clear hE hsz
    by_cases h1 : s.size ≤ 32
    · have cV : Calls Tryd.prog 90 #[.string s] w _ := Any.utf8_ValidString Tryd.laysValid s w (by omega) HT.out
      obtain ⟨VD, hVD⟩ : ∃ v, Lib.validD s.data.toList = v := ⟨_, rfl⟩
      rw [hVD] at cV
      have H1 := hide cV
      have H2 := hide hVD
      clear cV hVD
      cases VD
      · go_enter Tryd.func73, Tryd.ntmps73
        go_wp2_with fail
        refine H1.out.mono ?_
        rintro e w' ⟨rfl, hg⟩
        have HG := hide hg
        clear hg
        go_wp2_with fail
        go_ret
        exact ⟨ret_bool (by rw [HA.out, H2.out, Bool.and_false]), HG.out⟩
      · go_enter Tryd.func73, Tryd.ntmps73
        go_wp2_with fail
        refine H1.out.mono ?_
        rintro e w' ⟨rfl, hg⟩
        have HG := hide hg
        clear hg
        go_wp2_with fail
        have cF := Any.strings_ContainsFunc_grows Tryd.laysCF 92 #[] (enters_of Tryd.func92 (by kernel_rfl) rfl) badRune s w' (fun W x hx hb => (nameFn_any x W hx).mono fun _ _ h => ⟨h.1, h.2 ▸ Below.refl _ _⟩)
        refine (show Calls Tryd.prog 91 #[.string s, .func (.func 92) #[] #[]] w' _ from cF).mono ?_
        rintro e w2 ⟨rfl, hg2⟩
        have HG2 := hide hg2
        clear hg2 cF
        go_wp2_with fail
        go_ret
        exact ⟨ret_bool (by rw [HA.out, H2.out, Bool.and_true, decide_eq_true (p := 1 ≤ s.size ∧ s.size ≤ 32) (by omega), Bool.true_and]; exact name_of s H2.out), Grow.trans HG.out HG2.out⟩
    · go_enter Tryd.func73, Tryd.ntmps73
      go_wp2_with fail
      go_ret
      exact ⟨ret_bool (by rw [HA.out, decide_eq_false (by omega)]; rfl), Grow.refl _⟩
end Go.Proofs.YtcdbchifigonpaaDoor
