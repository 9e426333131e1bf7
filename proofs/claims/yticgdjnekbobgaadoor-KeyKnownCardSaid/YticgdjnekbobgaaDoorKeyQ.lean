/- Keys, plainly: what is read of any bytes; keys one behind the other; what is above all that begin so. No program in sight. -/
import Derived.Test.YticgdjnekbobgaaDoorKeyP
set_option linter.unusedVariables false
set_option linter.unusedSimpArgs false
namespace Go.Proofs.YticgdjnekbobgaaDoor
open V

theorem unesc_tail (st : Bool) (b : List UInt8) : ∀ t r, unesc st b = some (t, r) → ∃ p, b = p ++ r ∧ 2 ≤ p.length ∧ t.length ≤ p.length := by
  fun_induction unesc st b with
  | case1 => intro t r h; cases h
  | case2 => intro t r h; cases h
  | case3 r ih =>
    intro t r' h
    rw [Option.map_eq_some_iff] at h
    obtain ⟨⟨t1, r1⟩, h1, h2⟩ := h
    obtain ⟨p, h3, h4, h5⟩ := ih _ _ h1
    injection h2 with h2 h6
    subst h2 h6
    exact ⟨_ :: _ :: p, by rw [h3]; rfl, by simp, by simp; omega⟩
  | case4 => intro t r' h; cases h
  | case5 y r h1 h2 =>
    intro t r' h
    injection h with h
    injection h with h3 h4
    subst h3 h4
    exact ⟨[_, _], rfl, by simp, by simp⟩
  | case6 x y r hx ih =>
    intro t r' h
    rw [Option.map_eq_some_iff] at h
    obtain ⟨⟨t1, r1⟩, h1, h2⟩ := h
    obtain ⟨p, h3, h4, h5⟩ := ih _ _ h1
    injection h2 with h2 h6
    subst h2 h6
    exact ⟨_ :: p, by rw [h3]; rfl, by simp; omega, by simp; omega⟩

theorem kdL_tail {st : Bool} {f : List UInt8 → KGot} {Q : V → Prop} (hf : ∀ bs v r, f bs = some (v, r) → (∃ p, bs = p ++ r) ∧ Q v) : ∀ (n : Nat) (bs : List UInt8) (l : List V) (r : List UInt8), kdL st f n bs = some (l, r) →
    (∃ p, bs = p ++ r ∧ l.length + 1 ≤ p.length) ∧ ∀ x ∈ l, Q x
  | 0, bs, l, r, h => by cases h
  | n + 1, [], l, r, h => by cases h
  | n + 1, y :: bs, l, r, h => by
    rw [kdL] at h
    split at h
    · injection h with h; injection h with h1 h2; subst h1 h2; exact ⟨⟨[y], rfl, by simp⟩, by simp⟩
    · split at h
      · cases h
      · split at h
        · cases h
        · rename_i v r' hv
          rw [Option.map_eq_some_iff] at h
          obtain ⟨⟨l1, r1⟩, h1, h2⟩ := h
          injection h2 with h2 h3
          subst h2 h3
          obtain ⟨⟨p, hp⟩, hq⟩ := hf _ _ _ hv
          obtain ⟨⟨p2, hp2, hl2⟩, hQ⟩ := kdL_tail hf n r' l1 r1 h1
          refine ⟨⟨y :: (p ++ p2), ?_, ?_⟩, ?_⟩
          · rw [hp, hp2]; simp
          · simp only [List.length_cons, List.length_append]; omega
          · intro x hx
            rcases List.mem_cons.1 hx with rfl | hx
            · exact hq
            · exact hQ x hx
theorem kdF_tail {st : Bool} {f : List UInt8 → KGot} {Q : V → Prop} (hf : ∀ bs v r, f bs = some (v, r) → (∃ p, bs = p ++ r) ∧ Q v) : ∀ (n : Nat) (bs : List UInt8) (l : List (ByteArray × V)) (r : List UInt8), kdF st f n bs = some (l, r) →
    (∃ p, bs = p ++ r ∧ l.length + 1 ≤ p.length) ∧ ∀ x ∈ l, Q x.2
  | 0, bs, l, r, h => by cases h
  | n + 1, [], l, r, h => by cases h
  | n + 1, y :: bs, l, r, h => by
    rw [kdF] at h
    split at h
    · injection h with h; injection h with h1 h2; subst h1 h2; exact ⟨⟨[y], rfl, by simp⟩, by simp⟩
    · split at h
      · cases h
      · split at h
        · cases h
        · rename_i t r0 ht
          split at h
          · cases h
          · rename_i v r' hv
            rw [Option.map_eq_some_iff] at h
            obtain ⟨⟨l1, r1⟩, h1, h2⟩ := h
            injection h2 with h2 h3
            subst h2 h3
            obtain ⟨p0, hp0, hl0, _⟩ := unesc_tail _ _ _ _ ht
            obtain ⟨⟨p, hp⟩, hq⟩ := hf _ _ _ hv
            obtain ⟨⟨p2, hp2, hl2⟩, hQ⟩ := kdF_tail hf n r' l1 r1 h1
            refine ⟨⟨y :: (p0 ++ (p ++ p2)), ?_, ?_⟩, ?_⟩
            · rw [hp0, hp, hp2]; simp
            · simp only [List.length_cons, List.length_append]; omega
            · intro x hx
              rcases List.mem_cons.1 hx with rfl | hx
              · exact hq
              · exact hQ x hx
theorem ofBe8 (l : List UInt8) (h : 8 ≤ l.length) : ofBe (l.take 8) < 18446744073709551616 := by
  have := ofBe_lt (l.take 8)
  rw [List.length_take, Nat.min_eq_left h] at this
  simpa using this
theorem backN_lt (n : Nat) (h : n < 18446744073709551616) : backN n < 18446744073709551616 := by unfold backN; split <;> omega
theorem kdN_tail {bs : List UInt8} {v : V} {r : List UInt8} (h : kdN bs = some (v, r)) : (∃ p, bs = p ++ r ∧ 1 ≤ p.length) ∧ v.fit := by
  cases bs with
  | nil => cases h
  | cons y b =>
    rw [kdN] at h
    have hd : ∀ k, ∃ p, y :: b = p ++ b.drop k ∧ 1 ≤ p.length := fun k => ⟨y :: b.take k, by rw [List.cons_append, List.take_append_drop], by simp⟩
    split at h
    · split at h
      · rename_i hl
        injection h with h; injection h with h1 h2; subst h1 h2
        exact ⟨hd 8, by rw [V.fit]; exact ⟨ofBe8 b hl, by simp, by simp⟩⟩
      · cases h
    · split at h
      · rename_i hl
        split at h
        · injection h with h; injection h with h1 h2; subst h1 h2
          exact ⟨hd 11, by rw [V.fit]; exact ⟨backN_lt _ (ofBe8 b (by omega)), by simp, by simp⟩⟩
        · split at h
          · split at h
            · injection h with h; injection h with h1 h2; subst h1 h2
              exact ⟨hd 11, by rw [V.fit]; exact ⟨by omega, by simp, by simp⟩⟩
            · cases h
          · cases h
      · cases h
theorem kd_tail (st : Bool) (g : Nat) : ∀ (bs : List UInt8) (v : V) (r : List UInt8), kd st g bs = some (v, r) → (∃ p, bs = p ++ r ∧ 1 ≤ p.length) ∧ v.fit := by
  induction g with
  | zero => intro bs v r h; cases bs <;> cases h
  | succ g ih =>
    intro bs v r h
    cases bs with
    | nil => cases h
    | cons c b =>
      rw [kd_cons] at h
      have h0 : ∀ {p : List UInt8}, b = p ++ r → ∃ p, c :: b = p ++ r ∧ 1 ≤ p.length := fun {p} e => ⟨c :: p, by rw [e]; rfl, by simp⟩
      split at h
      · injection h with h; injection h with h1 h2; subst h1 h2
        exact ⟨⟨[c], rfl, by simp⟩, by rw [V.fit]; simp⟩
      split at h
      · cases b with
        | nil => cases h
        | cons y b =>
          injection h with h; injection h with h1 h2; subst h1 h2
          exact ⟨⟨[c, y], rfl, by simp⟩, by rw [V.fit]; have := y.toNat_lt; simp; omega⟩
      split at h
      · obtain ⟨⟨p, hp, _⟩, hfit⟩ := kdN_tail h
        exact ⟨h0 hp, hfit⟩
      split at h
      · rw [Option.map_eq_some_iff] at h
        obtain ⟨⟨t, r1⟩, h1, h2⟩ := h
        obtain ⟨p, hp, _⟩ := unesc_tail _ _ _ _ h1
        injection h2 with h2 h3; subst h2 h3
        exact ⟨h0 hp, by rw [V.fit]; simp⟩
      split at h
      · rw [Option.map_eq_some_iff] at h
        obtain ⟨⟨t, r1⟩, h1, h2⟩ := h
        obtain ⟨p, hp, _⟩ := unesc_tail _ _ _ _ h1
        injection h2 with h2 h3; subst h2 h3
        exact ⟨h0 hp, by rw [V.fit]; simp⟩
      have ih' : ∀ bs v r, kd st g bs = some (v, r) → (∃ p, bs = p ++ r) ∧ v.fit := fun bs v r h => by
        obtain ⟨⟨p, hp, _⟩, hf⟩ := ih bs v r h
        exact ⟨⟨p, hp⟩, hf⟩
      split at h
      · rw [Option.map_eq_some_iff] at h
        obtain ⟨⟨t, r1⟩, h1, h2⟩ := h
        obtain ⟨⟨p, hp, _⟩, hq⟩ := kdL_tail (Q := V.fit) ih' _ _ _ _ h1
        injection h2 with h2 h3; subst h2 h3
        exact ⟨h0 hp, by rw [V.fit]; exact ⟨by omega, hq, by simp⟩⟩
      split at h
      · rw [Option.map_eq_some_iff] at h
        obtain ⟨⟨t, r1⟩, h1, h2⟩ := h
        obtain ⟨⟨p, hp, _⟩, hq⟩ := kdF_tail (Q := V.fit) ih' _ _ _ _ h1
        injection h2 with h2 h3; subst h2 h3
        exact ⟨h0 hp, by rw [V.fit]; exact ⟨by omega, by simp, hq⟩⟩
      · cases h

/-! Keys one behind the other. -/

def flip1 (x : UInt8) : UInt8 := UInt8.ofNat (255 - x.toNat)
theorem flip1_flip1 (x : UInt8) : flip1 (flip1 x) = x := by
  apply UInt8.toNat_inj.1
  have := x.toNat_lt
  unfold flip1
  rw [UInt8.toNat_ofNat', UInt8.toNat_ofNat']; omega
/-- The bytes, turned where t says so. -/
def flip (t : Bool) (b : List UInt8) : List UInt8 := if t = true then b.map flip1 else b
theorem flip_flip (t : Bool) (b : List UInt8) : flip t (flip t b) = b := by
  unfold flip
  split
  · rw [List.map_map]; conv => rhs; rw [← List.map_id b]
    congr 1; funext x; exact flip1_flip1 x
  · rfl
theorem flip_append (t : Bool) (a b : List UInt8) : flip t (a ++ b) = flip t a ++ flip t b := by unfold flip; split <;> simp
theorem flip_length (t : Bool) (b : List UInt8) : (flip t b).length = b.length := by unfold flip; split <;> simp
/-- The first fault of values. -/
def allE : List V → Int
  | [] => 0
  | v :: l => if (ofK v).2 ≠ 0 then (ofK v).2 else allE l
def allB : List V → List Bool → List UInt8
  | v :: l, t :: ts => flip t v.key ++ allB l ts
  | _, _ => []
/-- What All tells. -/
def allK (l : List V) (ts : List Bool) : List UInt8 × Int :=
  if l.length ≠ ts.length then ([], 1) else if allE l ≠ 0 then ([], allE l) else if 96 < (allB l ts).length then ([], 14) else (allB l ts, 0)
/-- Keys read one behind the other. -/
def partsRd (kd : List UInt8 → KGot) : List Bool → List UInt8 → Option (List V × List UInt8)
  | [], b => some ([], b)
  | t :: ts, b => match kd (flip t b) with
    | none => none
    | some (v, r) => (partsRd kd ts (flip t r)).map fun p => (v :: p.1, p.2)
/-- What Parts makes of bytes. -/
def partsK (kd : List UInt8 → KGot) (ts : List Bool) (b : List UInt8) : Option (List V) :=
  match partsRd kd ts b with
  | none => none
  | some (l, r) => if r = [] ∧ allK l ts = (b, 0) then some l else none
theorem ofK_good {v : V} (h : (ofK v).2 = 0) : v.good = 0 ∧ v.key.length ≤ 96 := by
  unfold ofK at h
  split at h
  · rename_i h0; exact absurd h h0
  · split at h
    · cases h
    · exact ⟨by omega, by omega⟩
theorem allE_ok : ∀ {l : List V}, allE l = 0 → ∀ v ∈ l, (ofK v).2 = 0
  | [], _, v, hv => by cases hv
  | x :: l, h, v, hv => by
    rw [allE] at h
    split at h
    · rename_i h0; exact absurd h h0
    · rcases List.mem_cons.1 hv with rfl | hv
      · rename_i h0; simpa using h0
      · exact allE_ok h v hv
theorem allK_ok {l : List V} {ts : List Bool} {b : List UInt8} (h : allK l ts = (b, 0)) : l.length = ts.length ∧ (∀ v ∈ l, v.good = 0) ∧ allB l ts = b ∧ b.length ≤ 96 := by
  unfold allK at h
  split at h
  · cases (Prod.ext_iff.1 h).2
  split at h
  · rename_i h0; exact absurd (Prod.ext_iff.1 h).2 h0
  split at h
  · cases (Prod.ext_iff.1 h).2
  · rename_i h0 h1 h2
    have e : allB l ts = b := (Prod.ext_iff.1 h).1
    exact ⟨by omega, fun v hv => (ofK_good (allE_ok (by omega) v hv)).1, e, by rw [← e]; omega⟩
theorem partsRd_all (st : Bool) (g : Nat) (hg : 16 ≤ g) (r : List UInt8) : ∀ (l : List V) (ts : List Bool), l.length = ts.length → (∀ v ∈ l, v.good = 0 ∧ v.fit) →
    partsRd (kd st (g + 1)) ts (allB l ts ++ r) = some (l, r)
  | [], [], _, _ => rfl
  | [], _ :: _, h, _ => by cases h
  | _ :: _, [], h, _ => by cases h
  | v :: l, t :: ts, h, hv => by
    have hp := good_parts (hv v List.mem_cons_self).1
    have ih := partsRd_all st g hg r l ts (by simpa using h) (fun x hx => hv x (List.mem_cons_of_mem _ hx))
    rw [partsRd, allB, List.append_assoc, flip_append, flip_flip, kd_key st v g _ (hv v List.mem_cons_self).2 hp.1 (by omega)]
    simp only [flip_flip, ih]; rfl
theorem partsRd_fit {st : Bool} {g : Nat} : ∀ {ts : List Bool} {b : List UInt8} {l : List V} {r : List UInt8}, partsRd (kd st g) ts b = some (l, r) → ∀ v ∈ l, v.fit
  | [], b, l, r, h, v, hv => by injection h with h; injection h with h1 h2; subst h1; cases hv
  | t :: ts, b, l, r, h, v, hv => by
    rw [partsRd] at h
    split at h
    · cases h
    · rename_i x r1 hx
      rw [Option.map_eq_some_iff] at h
      obtain ⟨⟨l1, r2⟩, h1, h2⟩ := h
      injection h2 with h2 h3; subst h2 h3
      rcases List.mem_cons.1 hv with rfl | hv
      · exact (kd_tail _ _ _ _ _ hx).2
      · exact partsRd_fit h1 v hv
/-- What is read and told again, whatever is left, is all there is. -/
theorem partsK_of {st : Bool} {g : Nat} {ts : List Bool} {b : List UInt8} {l : List V} {r : List UInt8} (h : partsRd (kd st g) ts b = some (l, r)) (hk : allK l ts = (b, 0)) (st' : Bool) (g' : Nat) (hg : 16 ≤ g') :
    partsRd (kd st' (g' + 1)) ts b = some (l, []) := by
  obtain ⟨h1, h2, h3, h4⟩ := allK_ok hk
  have := partsRd_all st' g' hg [] l ts h1 (fun v hv => ⟨h2 v hv, partsRd_fit h v hv⟩)
  rwa [List.append_nil, h3] at this
theorem partsK_same (g : Nat) (hg : 16 ≤ g) (ts : List Bool) (b : List UInt8) : partsK (kd false 17) ts b = partsK (kd true (g + 1)) ts b := by
  have key : ∀ st st' g g', 16 ≤ g' → ∀ l, partsK (kd st g) ts b = some l → partsK (kd st' (g' + 1)) ts b = some l := by
    intro st st' g g' hg' l h
    unfold partsK at h
    split at h
    · cases h
    · rename_i l' r hk
      split at h
      · rename_i hc
        injection h with h
        subst h
        unfold partsK
        rw [partsK_of hk hc.2 st' g' hg']
        simp [hc.2]
      · cases h
  cases h1 : partsK (kd false 17) ts b with
  | some v => exact (key false true 17 g hg v h1).symm
  | none =>
    cases h2 : partsK (kd true (g + 1)) ts b with
    | none => rfl
    | some v => rw [key true false (g + 1) 16 (by omega) v h2] at h1; cases h1
/-- One key. -/
theorem allK_one (v : V) : allK [v] [false] = ofK v := by
  have e : allB [v] [false] = v.key := by simp [allB, flip]
  have e2 : allE [v] = (ofK v).2 := by
    unfold allE allE
    split
    · rfl
    · rename_i h; exact (Decidable.of_not_not h).symm
  unfold allK
  rw [if_neg (by simp), e, e2]
  by_cases h0 : (ofK v).2 = 0
  · have hg := ofK_good h0
    have : ofK v = (v.key, 0) := by unfold ofK; rw [if_neg (by omega), if_neg (by omega)]
    rw [this, if_neg (by simp), if_neg (by omega)]
  · rw [if_pos h0]
    unfold ofK at h0 ⊢
    split
    · rfl
    · rename_i h1
      rw [if_neg h1] at h0
      split
      · rfl
      · rename_i h2; rw [if_neg h2] at h0; exact absurd rfl h0
theorem partsK_one (kd : List UInt8 → KGot) (b : List UInt8) : partsK kd [false] b = (backK kd b).map fun v => [v] := by
  unfold partsK backK
  simp only [partsRd, flip]
  cases hk : kd b with
  | none => simp [hk]
  | some p =>
    obtain ⟨v, r⟩ := p
    simp only [Bool.false_eq_true, if_false, hk, Option.map_some, allK_one]
    split <;> rfl

/-! What is above all that begin so. -/

/-- The bytes without the 255s at their end. -/
def strip (b : List UInt8) : List UInt8 := (b.reverse.dropWhile (· == 255)).reverse
/-- The last byte one higher. -/
def bump : List UInt8 → List UInt8
  | [] => []
  | [x] => [UInt8.ofNat (x.toNat + 1)]
  | x :: r => x :: bump r
def afterK (b : List UInt8) : List UInt8 × Bool := if strip b = [] then ([], false) else (bump (strip b), true)
end Go.Proofs.YticgdjnekbobgaaDoor
