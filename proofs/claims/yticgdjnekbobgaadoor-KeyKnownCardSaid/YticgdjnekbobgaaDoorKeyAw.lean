/- Keys, plainly: what awake asks; values whose parts are few. No program in sight. -/
import Derived.Test.YticgdjnekbobgaaDoorKeyQ
import Derived.Test.YticgdjnekbobgaaDoorTxt
set_option linter.unusedVariables false
set_option linter.unusedSimpArgs false
namespace Go.Proofs.YticgdjnekbobgaaDoor
open V

theorem vA_key : vA.key = [64, 97, 0, 0] := by
  unfold vA
  rw [key_mk]
  decide +kernel
theorem vA_fit : vA.fit := by unfold vA; rw [V.fit]; simp
theorem vA_count : vA.count = 1 := by unfold vA; rw [V.count_mk]; rfl
theorem vA_ofK : ofK vA = ([64, 97, 0, 0], 0) := by
  unfold ofK
  rw [if_neg (by rw [vA_good]; decide), if_neg (by rw [vA_key]; decide), vA_key]
theorem vA_kd : kd false 17 [64, 97, 0, 0] = some (vA, []) := by
  have hp := good_parts vA_good
  have h := kd_key false vA 16 [] vA_fit hp.1 hp.2
  rwa [List.append_nil, vA_key] at h
theorem vA_back : backK (kd false 17) [64, 97, 0, 0] = some vA := by
  unfold backK
  rw [vA_kd]
  simp [vA_ofK]
theorem vA_parts : partsK (kd false 17) [false] [64, 97, 0, 0] = some [vA] := by rw [partsK_one, vA_back]; rfl

/-- A value each of whose parts is not too long. -/
def V.sml : V → Prop
  | mk _ _ b l f => b.length ≤ 1000000000 ∧ l.length ≤ 1000000000 ∧ f.length ≤ 1000000000 ∧ (∀ x ∈ l, sml x) ∧ (∀ x ∈ f, sml x.2)
termination_by v => SizeOf.sizeOf v
decreasing_by
  · exact sizeOf_l ‹_›
  · exact sizeOf_f ‹_›
theorem V.sml_mk {k : Int} {n : Nat} {b : List UInt8} {l : List V} {f : List (ByteArray × V)} : (V.mk k n b l f).sml ↔ b.length ≤ 1000000000 ∧ l.length ≤ 1000000000 ∧ f.length ≤ 1000000000 ∧ (∀ x ∈ l, x.sml) ∧ (∀ x ∈ f, x.2.sml) := by
  rw [V.sml]

theorem kdL_sml {st : Bool} {f : List UInt8 → KGot} {Q : V → Prop} (hf : ∀ bs v r, bs.length ≤ 1000000000 → f bs = some (v, r) → r.length ≤ bs.length ∧ Q v) : ∀ (n : Nat) (bs : List UInt8) (l : List V) (r : List UInt8), bs.length ≤ 1000000000 → kdL st f n bs = some (l, r) → l.length + r.length ≤ bs.length ∧ ∀ x ∈ l, Q x
  | 0, bs, l, r, _, h => by cases h
  | n + 1, [], l, r, _, h => by cases h
  | n + 1, y :: bs, l, r, hb, h => by
    rw [kdL] at h
    rw [List.length_cons] at hb ⊢
    split at h
    · injection h with h; injection h with h1 h2; subst h1 h2; exact ⟨by simp, by simp⟩
    · split at h
      · cases h
      · split at h
        · cases h
        · rename_i v r' hv
          rw [Option.map_eq_some_iff] at h
          obtain ⟨⟨l1, r1⟩, h1, h2⟩ := h
          injection h2 with h2 h3
          subst h2 h3
          obtain ⟨hr, hq⟩ := hf _ _ _ (by omega) hv
          obtain ⟨hl2, hQ⟩ := kdL_sml hf n r' l1 r1 (by omega) h1
          refine ⟨by simp only [List.length_cons]; omega, ?_⟩
          intro x hx
          rcases List.mem_cons.1 hx with rfl | hx
          · exact hq
          · exact hQ x hx
theorem kdF_sml {st : Bool} {f : List UInt8 → KGot} {Q : V → Prop} (hf : ∀ bs v r, bs.length ≤ 1000000000 → f bs = some (v, r) → r.length ≤ bs.length ∧ Q v) : ∀ (n : Nat) (bs : List UInt8) (l : List (ByteArray × V)) (r : List UInt8), bs.length ≤ 1000000000 → kdF st f n bs = some (l, r) → l.length + r.length ≤ bs.length ∧ ∀ x ∈ l, Q x.2
  | 0, bs, l, r, _, h => by cases h
  | n + 1, [], l, r, _, h => by cases h
  | n + 1, y :: bs, l, r, hb, h => by
    rw [kdF] at h
    rw [List.length_cons] at hb ⊢
    split at h
    · injection h with h; injection h with h1 h2; subst h1 h2; exact ⟨by simp, by simp⟩
    · split at h
      · cases h
      · split at h
        · cases h
        · rename_i t r0 ht
          split at h
          · cases h
          · rename_i v r' hv
            rw [Option.map_eq_some_iff] at h
            obtain ⟨⟨l1, r1⟩, h1, h2⟩ := h
            injection h2 with h2 h3
            subst h2 h3
            obtain ⟨p0, hp0, hl0, _⟩ := unesc_tail _ _ _ _ ht
            have hl0' : bs.length = p0.length + r0.length := by rw [hp0, List.length_append]
            obtain ⟨hr, hq⟩ := hf _ _ _ (by omega) hv
            obtain ⟨hl2, hQ⟩ := kdF_sml hf n r' l1 r1 (by omega) h1
            refine ⟨by simp only [List.length_cons]; omega, ?_⟩
            intro x hx
            rcases List.mem_cons.1 hx with rfl | hx
            · exact hq
            · exact hQ x hx
/-- What is read of bytes that are not too many has no part that is too long. -/
theorem kd_sml (st : Bool) (g : Nat) : ∀ (bs : List UInt8) (v : V) (r : List UInt8), bs.length ≤ 1000000000 → kd st g bs = some (v, r) → r.length ≤ bs.length ∧ v.sml := by
  induction g with
  | zero => intro bs v r _ h; cases bs <;> cases h
  | succ g ih =>
    intro bs v r hb h
    have hlen : r.length ≤ bs.length := by
      obtain ⟨⟨p, hp, _⟩, _⟩ := kd_tail _ _ _ _ _ h
      rw [hp, List.length_append]; omega
    refine ⟨hlen, ?_⟩
    cases bs with
    | nil => cases h
    | cons c b =>
      rw [List.length_cons] at hb
      rw [kd_cons] at h
      split at h
      · injection h with h; injection h with h1 h2; subst h1 h2
        rw [V.sml_mk]; simp
      split at h
      · cases b with
        | nil => cases h
        | cons y b =>
          injection h with h; injection h with h1 h2; subst h1 h2
          rw [V.sml_mk]; simp
      split at h
      · cases b with
        | nil => cases h
        | cons y b =>
          rw [kdN] at h
          split at h
          · split at h
            · injection h with h; injection h with h1 h2; subst h1 h2; rw [V.sml_mk]; simp
            · cases h
          · split at h
            · split at h
              · injection h with h; injection h with h1 h2; subst h1 h2; rw [V.sml_mk]; simp
              · split at h
                · split at h
                  · injection h with h; injection h with h1 h2; subst h1 h2; rw [V.sml_mk]; simp
                  · cases h
                · cases h
            · cases h
      split at h
      · rw [Option.map_eq_some_iff] at h
        obtain ⟨⟨t, r1⟩, h1, h2⟩ := h
        obtain ⟨p, hp, _, hl⟩ := unesc_tail _ _ _ _ h1
        have := congrArg List.length hp
        rw [List.length_append] at this
        injection h2 with h2 h3; subst h2 h3
        rw [V.sml_mk]; exact ⟨by show t.length ≤ _; omega, by simp, by simp, by simp, by simp⟩
      split at h
      · rw [Option.map_eq_some_iff] at h
        obtain ⟨⟨t, r1⟩, h1, h2⟩ := h
        obtain ⟨p, hp, _, hl⟩ := unesc_tail _ _ _ _ h1
        have := congrArg List.length hp
        rw [List.length_append] at this
        injection h2 with h2 h3; subst h2 h3
        rw [V.sml_mk]; exact ⟨by show t.length ≤ _; omega, by simp, by simp, by simp, by simp⟩
      split at h
      · rw [Option.map_eq_some_iff] at h
        obtain ⟨⟨t, r1⟩, h1, h2⟩ := h
        obtain ⟨hl, hq⟩ := kdL_sml (Q := V.sml) ih _ _ _ _ (by omega) h1
        injection h2 with h2 h3; subst h2 h3
        rw [V.sml_mk]; exact ⟨by simp, by simp only; omega, by simp, hq, by simp⟩
      split at h
      · rw [Option.map_eq_some_iff] at h
        obtain ⟨⟨t, r1⟩, h1, h2⟩ := h
        obtain ⟨hl, hq⟩ := kdF_sml (Q := V.sml) ih _ _ _ _ (by omega) h1
        injection h2 with h2 h3; subst h2 h3
        rw [V.sml_mk]; exact ⟨by simp, by simp, by simp only; omega, by simp, hq⟩
      · cases h
end Go.Proofs.YticgdjnekbobgaaDoor
