/- Keys, plainly: what awake asks; values whose parts are few. No program in sight. · Keys, plainly: what is read of bytes is no deeper, and its bytes no more, than the bytes allow. No program in sight. -/
import Derived.Test.YtpjhhkndfmcaoaaDoorKeyPQ
import Derived.Test.YtpjhhkndfmcaoaaDoorTxt
import Derived.Test.YtpjhhkndfmcaoaaDoorGood
set_option linter.unusedVariables false
set_option linter.unusedSimpArgs false
namespace Go.Proofs.YtpjhhkndfmcaoaaDoor
open V

theorem vA_key : vA.key = [64, 97, 0, 0] := by
  unfold vA
  rw [key_mk]
  decide +kernel
theorem vA_fit : vA.fit := by unfold vA; rw [V.fit]; simp
theorem vA_count : vA.count = 1 := by unfold vA; rw [V.count_mk]; rfl
theorem vA_ofK : ofK vA = ([64, 97, 0, 0], 0) := by
  unfold ofK
  rw [if_neg (by rw [vA_good]; decide), if_neg (by rw [vA_key]; decide), vA_key]
theorem vA_kd : kd false 17 [64, 97, 0, 0] = some (vA, []) := by
  have hp := good_parts vA_good
  have h := kd_key false vA 16 [] vA_fit hp.1 hp.2
  rwa [List.append_nil, vA_key] at h
theorem vA_back : backK (kd false 17) [64, 97, 0, 0] = some vA := by
  unfold backK
  rw [vA_kd]
  simp [vA_ofK]
theorem vA_parts : partsK (kd false 17) [false] [64, 97, 0, 0] = some [vA] := by rw [partsK_one, vA_back]; rfl

/-- A value each of whose parts is not too long. -/
def V.sml : V → Prop
  | mk _ _ b l f => b.length ≤ 1000000000 ∧ l.length ≤ 1000000000 ∧ f.length ≤ 1000000000 ∧ (∀ x ∈ l, sml x) ∧ (∀ x ∈ f, sml x.2)
termination_by v => SizeOf.sizeOf v
decreasing_by
  · exact sizeOf_l ‹_›
  · exact sizeOf_f ‹_›
theorem V.sml_mk {k : Int} {n : Nat} {b : List UInt8} {l : List V} {f : List (ByteArray × V)} : (V.mk k n b l f).sml ↔ b.length ≤ 1000000000 ∧ l.length ≤ 1000000000 ∧ f.length ≤ 1000000000 ∧ (∀ x ∈ l, x.sml) ∧ (∀ x ∈ f, x.2.sml) := by
  rw [V.sml]

theorem kdL_sml {st : Bool} {f : List UInt8 → KGot} {Q : V → Prop} (hf : ∀ bs v r, bs.length ≤ 1000000000 → f bs = some (v, r) → r.length ≤ bs.length ∧ Q v) : ∀ (n : Nat) (bs : List UInt8) (l : List V) (r : List UInt8), bs.length ≤ 1000000000 → kdL st f n bs = some (l, r) → l.length + r.length ≤ bs.length ∧ ∀ x ∈ l, Q x
  | 0, bs, l, r, _, h => by cases h
  | n + 1, [], l, r, _, h => by cases h
  | n + 1, y :: bs, l, r, hb, h => by
    rw [kdL] at h
    rw [List.length_cons] at hb ⊢
    split at h
    · injection h with h; injection h with h1 h2; subst h1 h2; exact ⟨by simp, by simp⟩
    · split at h
      · cases h
      · split at h
        · cases h
        · rename_i v r' hv
          rw [Option.map_eq_some_iff] at h
          obtain ⟨⟨l1, r1⟩, h1, h2⟩ := h
          injection h2 with h2 h3
          subst h2 h3
          obtain ⟨hr, hq⟩ := hf _ _ _ (by omega) hv
          obtain ⟨hl2, hQ⟩ := kdL_sml hf n r' l1 r1 (by omega) h1
          refine ⟨by simp only [List.length_cons]; omega, ?_⟩
          intro x hx
          rcases List.mem_cons.1 hx with rfl | hx
          · exact hq
          · exact hQ x hx
theorem kdF_sml {st : Bool} {f : List UInt8 → KGot} {Q : V → Prop} (hf : ∀ bs v r, bs.length ≤ 1000000000 → f bs = some (v, r) → r.length ≤ bs.length ∧ Q v) : ∀ (n : Nat) (bs : List UInt8) (l : List (ByteArray × V)) (r : List UInt8), bs.length ≤ 1000000000 → kdF st f n bs = some (l, r) → l.length + r.length ≤ bs.length ∧ ∀ x ∈ l, Q x.2
  | 0, bs, l, r, _, h => by cases h
  | n + 1, [], l, r, _, h => by cases h
  | n + 1, y :: bs, l, r, hb, h => by
    rw [kdF] at h
    rw [List.length_cons] at hb ⊢
    split at h
    · injection h with h; injection h with h1 h2; subst h1 h2; exact ⟨by simp, by simp⟩
    · split at h
      · cases h
      · split at h
        · cases h
        · rename_i t r0 ht
          split at h
          · cases h
          · rename_i v r' hv
            rw [Option.map_eq_some_iff] at h
            obtain ⟨⟨l1, r1⟩, h1, h2⟩ := h
            injection h2 with h2 h3
            subst h2 h3
            obtain ⟨p0, hp0, hl0, _⟩ := unesc_tail _ _ _ _ ht
            have hl0' : bs.length = p0.length + r0.length := by rw [hp0, List.length_append]
            obtain ⟨hr, hq⟩ := hf _ _ _ (by omega) hv
            obtain ⟨hl2, hQ⟩ := kdF_sml hf n r' l1 r1 (by omega) h1
            refine ⟨by simp only [List.length_cons]; omega, ?_⟩
            intro x hx
            rcases List.mem_cons.1 hx with rfl | hx
            · exact hq
            · exact hQ x hx
/-- What is read of bytes that are not too many has no part that is too long. -/
theorem kd_sml (st : Bool) (g : Nat) : ∀ (bs : List UInt8) (v : V) (r : List UInt8), bs.length ≤ 1000000000 → kd st g bs = some (v, r) → r.length ≤ bs.length ∧ v.sml := by
  induction g with
  | zero => intro bs v r _ h; cases bs <;> cases h
  | succ g ih =>
    intro bs v r hb h
    have hlen : r.length ≤ bs.length := by
      obtain ⟨⟨p, hp, _⟩, _⟩ := kd_tail _ _ _ _ _ h
      rw [hp, List.length_append]; omega
    refine ⟨hlen, ?_⟩
    cases bs with
    | nil => cases h
    | cons c b =>
      rw [List.length_cons] at hb
      rw [kd_cons] at h
      split at h
      · injection h with h; injection h with h1 h2; subst h1 h2
        rw [V.sml_mk]; simp
      split at h
      · cases b with
        | nil => cases h
        | cons y b =>
          injection h with h; injection h with h1 h2; subst h1 h2
          rw [V.sml_mk]; simp
      split at h
      · cases b with
        | nil => cases h
        | cons y b =>
          rw [kdN] at h
          split at h
          · split at h
            · injection h with h; injection h with h1 h2; subst h1 h2; rw [V.sml_mk]; simp
            · cases h
          · split at h
            · split at h
              · injection h with h; injection h with h1 h2; subst h1 h2; rw [V.sml_mk]; simp
              · split at h
                · split at h
                  · injection h with h; injection h with h1 h2; subst h1 h2; rw [V.sml_mk]; simp
                  · cases h
                · cases h
            · cases h
      split at h
      · rw [Option.map_eq_some_iff] at h
        obtain ⟨⟨t, r1⟩, h1, h2⟩ := h
        obtain ⟨p, hp, _, hl⟩ := unesc_tail _ _ _ _ h1
        have := congrArg List.length hp
        rw [List.length_append] at this
        injection h2 with h2 h3; subst h2 h3
        rw [V.sml_mk]; exact ⟨by show t.length ≤ _; omega, by simp, by simp, by simp, by simp⟩
      split at h
      · rw [Option.map_eq_some_iff] at h
        obtain ⟨⟨t, r1⟩, h1, h2⟩ := h
        obtain ⟨p, hp, _, hl⟩ := unesc_tail _ _ _ _ h1
        have := congrArg List.length hp
        rw [List.length_append] at this
        injection h2 with h2 h3; subst h2 h3
        rw [V.sml_mk]; exact ⟨by show t.length ≤ _; omega, by simp, by simp, by simp, by simp⟩
      split at h
      · rw [Option.map_eq_some_iff] at h
        obtain ⟨⟨t, r1⟩, h1, h2⟩ := h
        obtain ⟨hl, hq⟩ := kdL_sml (Q := V.sml) ih _ _ _ _ (by omega) h1
        injection h2 with h2 h3; subst h2 h3
        rw [V.sml_mk]; exact ⟨by simp, by simp only; omega, by simp, hq, by simp⟩
      split at h
      · rw [Option.map_eq_some_iff] at h
        obtain ⟨⟨t, r1⟩, h1, h2⟩ := h
        obtain ⟨hl, hq⟩ := kdF_sml (Q := V.sml) ih _ _ _ _ (by omega) h1
        injection h2 with h2 h3; subst h2 h3
        rw [V.sml_mk]; exact ⟨by simp, by simp, by simp only; omega, by simp, hq⟩
      · cases h
end Go.Proofs.YtpjhhkndfmcaoaaDoor

set_option linter.unusedVariables false
set_option linter.unusedSimpArgs false
namespace Go.Proofs.YtpjhhkndfmcaoaaDoor
open V

theorem foldl_max_dp {d : Nat} : ∀ (l : List Nat) (a : Nat), a ≤ d → (∀ x ∈ l, x ≤ d) → l.foldl max a ≤ d
  | [], a, h, _ => h
  | x :: l, a, h, hx => foldl_max_dp l (max a x) (by have := hx x List.mem_cons_self; omega) (fun y hy => hx y (List.mem_cons_of_mem _ hy))
theorem kdL_fit {st : Bool} {f : List UInt8 → KGot} {d : Nat} (hf : ∀ bs v r, f bs = some (v, r) → v.bytes.length + 3 * r.length ≤ 3 * bs.length ∧ v.depth ≤ d) : ∀ (n : Nat) (bs : List UInt8) (l : List V) (r : List UInt8), kdL st f n bs = some (l, r) → (l.map V.bytes).flatten.length + 3 * r.length + 3 ≤ 3 * bs.length ∧ ∀ x ∈ l, x.depth ≤ d
  | 0, bs, l, r, h => by cases h
  | n + 1, [], l, r, h => by cases h
  | n + 1, y :: bs, l, r, h => by
    rw [kdL] at h
    rw [List.length_cons]
    split at h
    · injection h with h; injection h with h1 h2; subst h1 h2; exact ⟨by simp; omega, by simp⟩
    · split at h
      · cases h
      · split at h
        · cases h
        · rename_i v r' hv
          rw [Option.map_eq_some_iff] at h
          obtain ⟨⟨l1, r1⟩, h1, h2⟩ := h
          injection h2 with h2 h3
          subst h2 h3
          obtain ⟨hr, hq⟩ := hf _ _ _ hv
          obtain ⟨hl2, hQ⟩ := kdL_fit hf n r' l1 r1 h1
          refine ⟨by simp only [List.map_cons, List.flatten_cons, List.length_append]; omega, ?_⟩
          intro x hx
          rcases List.mem_cons.1 hx with rfl | hx
          · exact hq
          · exact hQ x hx
theorem kdF_fit {st : Bool} {f : List UInt8 → KGot} {d : Nat} (hf : ∀ bs v r, f bs = some (v, r) → v.bytes.length + 3 * r.length ≤ 3 * bs.length ∧ v.depth ≤ d) : ∀ (n : Nat) (bs : List UInt8) (l : List (ByteArray × V)) (r : List UInt8), kdF st f n bs = some (l, r) → (l.map fun x => V.item x.1 x.2.bytes).flatten.length + 3 * r.length + 3 ≤ 3 * bs.length ∧ ∀ x ∈ l, x.2.depth ≤ d
  | 0, bs, l, r, h => by cases h
  | n + 1, [], l, r, h => by cases h
  | n + 1, y :: bs, l, r, h => by
    rw [kdF] at h
    rw [List.length_cons]
    split at h
    · injection h with h; injection h with h1 h2; subst h1 h2; exact ⟨by simp; omega, by simp⟩
    · split at h
      · cases h
      · split at h
        · cases h
        · rename_i t r0 ht
          split at h
          · cases h
          · rename_i v r' hv
            rw [Option.map_eq_some_iff] at h
            obtain ⟨⟨l1, r1⟩, h1, h2⟩ := h
            injection h2 with h2 h3
            subst h2 h3
            obtain ⟨p0, hp0, hl0, hl1⟩ := unesc_tail _ _ _ _ ht
            have hl0' : bs.length = p0.length + r0.length := by rw [hp0, List.length_append]
            obtain ⟨hr, hq⟩ := hf _ _ _ hv
            obtain ⟨hl2, hQ⟩ := kdF_fit hf n r' l1 r1 h1
            have hi : (V.item (⟨t.toArray⟩ : ByteArray) v.bytes).length = 1 + t.length + v.bytes.length := by
              unfold V.item; simp; omega
            refine ⟨by simp only [List.map_cons, List.flatten_cons, List.length_append, hi]; omega, ?_⟩
            intro x hx
            rcases List.mem_cons.1 hx with rfl | hx
            · exact hq
            · exact hQ x hx
theorem flat_depth (k : Int) (n : Nat) (b : List UInt8) (h : ¬ (k = 7 ∨ k = 8)) : (V.mk k n b [] []).depth = 0 := by
  rw [V.depth_mk, if_neg h]; rfl
theorem kd_fit (st : Bool) (g : Nat) : ∀ (bs : List UInt8) (v : V) (r : List UInt8), kd st g bs = some (v, r) → v.bytes.length + 3 * r.length ≤ 3 * bs.length ∧ v.depth ≤ g := by
  induction g with
  | zero => intro bs v r h; cases bs <;> cases h
  | succ g ih =>
    intro bs v r h
    cases bs with
    | nil => cases h
    | cons c b =>
      rw [List.length_cons]
      rw [kd_cons] at h
      split at h
      · injection h with h; injection h with h1 h2; subst h1 h2
        rw [flat_depth _ _ _ (by decide), V.bytes_mk]; exact ⟨by simp; omega, by omega⟩
      split at h
      · cases b with
        | nil => cases h
        | cons y b =>
          injection h with h; injection h with h1 h2; subst h1 h2
          rw [flat_depth _ _ _ (by decide), V.bytes_mk]; exact ⟨by simp; omega, by omega⟩
      split at h
      · cases b with
        | nil => cases h
        | cons y b =>
          rw [kdN] at h
          split at h
          · split at h
            · injection h with h; injection h with h1 h2; subst h1 h2
              rw [flat_depth _ _ _ (by decide), V.bytes_mk]; exact ⟨by simp [toLe_length]; omega, by omega⟩
            · cases h
          · split at h
            · split at h
              · injection h with h; injection h with h1 h2; subst h1 h2
                rw [flat_depth _ _ _ (by decide), V.bytes_mk]; exact ⟨by simp [toLe_length]; omega, by omega⟩
              · split at h
                · split at h
                  · injection h with h; injection h with h1 h2; subst h1 h2
                    rw [flat_depth _ _ _ (by decide), V.bytes_mk]; exact ⟨by simp [toLe_length]; omega, by omega⟩
                  · cases h
                · cases h
            · cases h
      split at h
      · rw [Option.map_eq_some_iff] at h
        obtain ⟨⟨t, r1⟩, h1, h2⟩ := h
        obtain ⟨p, hp, hp2, hl⟩ := unesc_tail _ _ _ _ h1
        have := congrArg List.length hp
        rw [List.length_append] at this
        injection h2 with h2 h3; subst h2 h3
        rw [flat_depth _ _ _ (by decide), V.bytes_mk]; exact ⟨by simp [toLe_length]; omega, by omega⟩
      split at h
      · rw [Option.map_eq_some_iff] at h
        obtain ⟨⟨t, r1⟩, h1, h2⟩ := h
        obtain ⟨p, hp, hp2, hl⟩ := unesc_tail _ _ _ _ h1
        have := congrArg List.length hp
        rw [List.length_append] at this
        injection h2 with h2 h3; subst h2 h3
        rw [flat_depth _ _ _ (by decide), V.bytes_mk]; exact ⟨by simp [toLe_length]; omega, by omega⟩
      split at h
      · rw [Option.map_eq_some_iff] at h
        obtain ⟨⟨t, r1⟩, h1, h2⟩ := h
        obtain ⟨hl, hq⟩ := kdL_fit ih _ _ _ _ h1
        injection h2 with h2 h3; subst h2 h3
        have hd := foldl_max_dp (t.map V.depth) 0 (Nat.zero_le g) (fun x hx => by obtain ⟨y, hy, rfl⟩ := List.mem_map.1 hx; exact hq y hy)
        rw [V.depth_mk, V.bytes_mk]
        simp only [List.map_nil, List.foldl_nil]
        refine ⟨?_, by split <;> omega⟩
        rw [if_neg (by decide), if_neg (by decide), if_neg (by decide), if_pos trivial]
        simp only [List.length_cons]
        omega
      split at h
      · rw [Option.map_eq_some_iff] at h
        obtain ⟨⟨t, r1⟩, h1, h2⟩ := h
        obtain ⟨hl, hq⟩ := kdF_fit ih _ _ _ _ h1
        injection h2 with h2 h3; subst h2 h3
        have hd := foldl_max_dp (t.map fun x => x.2.depth) 0 (Nat.zero_le g) (fun x hx => by obtain ⟨y, hy, rfl⟩ := List.mem_map.1 hx; exact hq y hy)
        rw [V.depth_mk, V.bytes_mk]
        simp only [List.map_nil, List.foldl_nil]
        refine ⟨?_, by split <;> omega⟩
        rw [if_neg (by decide), if_neg (by decide), if_neg (by decide), if_neg (by decide), if_pos trivial]
        simp only [List.length_cons]
        omega
      · cases h
theorem kd_mild {st : Bool} {g : Nat} {bs : List UInt8} {v : V} {r : List UInt8} (h : kd st g bs = some (v, r)) (hg : g ≤ 1099511627776) (hb : bs.length ≤ 1152921504606846976) : v.mild := by
  obtain ⟨h1, h2⟩ := kd_fit _ _ _ _ _ h
  exact ⟨by omega, fun _ => by omega⟩
end Go.Proofs.YtpjhhkndfmcaoaaDoor
