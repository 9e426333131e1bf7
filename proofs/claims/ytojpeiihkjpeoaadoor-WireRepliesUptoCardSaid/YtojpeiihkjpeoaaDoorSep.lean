/- Values that lie in memory of their own, part by part apart: no program in sight. -/
import Derived.Test.YtojpeiihkjpeoaaDoorSpec
set_option linter.unusedVariables false
set_option linter.unusedSimpArgs false
namespace Go.Proofs.YtojpeiihkjpeoaaDoor
open Go.RowKit

/-- The cell holds u and may be written. -/
def CF (w : World) (p : Addr) (u : Value) : Prop := w.cell? p = some u ∧ w.frozen? p = false
theorem CF.block {w w' : World} {p : Addr} {u : Value} (h : CF w p u) (e : w'.heap[p.block]? = w.heap[p.block]?) : CF w' p u :=
  ⟨(World.cell?_of_block e).trans h.1, (World.frozen?_of_block e).trans h.2⟩
theorem frozen_setCell (w : World) (a : Addr) (v : Value) (p : Addr) : (w.setCell a v).frozen? p = w.frozen? p := by
  unfold World.frozen? World.setCell
  simp only [Array.getElem?_modify]
  by_cases e : a.block = p.block
  · rw [if_pos e]
    cases h : w.heap[p.block]? with
    | none => rfl
    | some o => cases o <;> rfl
  · rw [if_neg e]

/-- The value v lies in blocks of S alone, its parts in blocks of their own. -/
def IsS (C : Addr → Value → Prop) : V → Cv → (Nat → Prop) → Prop
  | .mk k n b l f, c, S => c.k = k ∧ c.n = (n : Int) ∧ c.nB = b.length ∧ c.nL = l.length ∧ c.nF = f.length ∧
      -9223372036854775808 ≤ k ∧ k ≤ 9223372036854775807 ∧ n < 18446744073709551616 ∧
      b.length ≤ c.cB ∧ b.length ≤ 140737488355328 ∧ l.length ≤ c.cL ∧ l.length ≤ 140737488355328 ∧ f.length ≤ c.cF ∧ f.length ≤ 140737488355328 ∧
      Reads (fun p u => C p u ∧ S p.block) 1 c.aB b.length (u8s b) ∧
      (∃ T : Nat → Nat → Prop, (∀ i (h : i < l.length), ∃ bk o x, c.aL = some ⟨bk, o, none⟩ ∧ S bk ∧ ¬ T i bk ∧ (∀ q, T i q → S q) ∧ At5 C bk (o + i * 5) x ∧ IsS C l[i] x (T i)) ∧
        (∀ i j, i < j → j < l.length → ∀ q, T i q → ¬ T j q)) ∧
      (∃ T : Nat → Nat → Prop, (∀ i (h : i < f.length), ∃ bk o x, c.aF = some ⟨bk, o, none⟩ ∧ S bk ∧ ¬ T i bk ∧ (∀ q, T i q → S q) ∧ C ⟨bk, o + i * 6, none⟩ (.string f[i].1) ∧ f[i].1.size ≤ 140737488355328 ∧ At5 C bk (o + i * 6 + 1) x ∧ IsS C f[i].2 x (T i)) ∧
        (∀ i j, i < j → j < f.length → ∀ q, T i q → ¬ T j q))
termination_by v => SizeOf.sizeOf v
decreasing_by
  · exact V.sizeOf_l (List.getElem_mem _)
  · exact V.sizeOf_f (List.getElem_mem _)

theorem At5.mono' {C C' : Addr → Value → Prop} {bk o : Nat} {c : Cv} (h : ∀ p u, C p u → p.block = bk → C' p u) (hc : At5 C bk o c) : At5 C' bk o c :=
  ⟨h _ _ hc.1 rfl, h _ _ hc.2.1 rfl, h _ _ hc.2.2.1 rfl, h _ _ hc.2.2.2.1 rfl, h _ _ hc.2.2.2.2 rfl⟩

theorem IsS.mono {C C' : Addr → Value → Prop} (v : V) : ∀ (c : Cv) (S S' : Nat → Prop), (∀ p u, C p u → S p.block → C' p u) → (∀ q, S q → S' q) → IsS C v c S → IsS C' v c S' := by
  induction v using V.ind with
  | h k n b l f hl hf =>
    intro c S S' hC hS hv
    rw [IsS] at hv ⊢
    obtain ⟨e1, e2, e3, e4, e5, h1, h2, h3, h4, h5, h6, h7, h8, h9, hb, ⟨T, hL, hLd⟩, ⟨U, hF, hFd⟩⟩ := hv
    refine ⟨e1, e2, e3, e4, e5, h1, h2, h3, h4, h5, h6, h7, h8, h9, hb.mono (fun p u h => ⟨hC p u h.1 h.2, hS _ h.2⟩), ⟨T, fun i hi => ?_, hLd⟩, ⟨U, fun i hi => ?_, hFd⟩⟩
    · obtain ⟨bk, o, x, e, s, nt, ts, k0, kv⟩ := hL i hi
      exact ⟨bk, o, x, e, hS _ s, nt, fun q hq => hS _ (ts q hq), k0.mono' (fun p u h e => hC p u h (e ▸ s)), hl _ (List.getElem_mem hi) _ _ _ (fun p u h hq => hC p u h (ts _ hq)) (fun q h => h) kv⟩
    · obtain ⟨bk, o, x, e, s, nt, ts, ks, kz, k0, kv⟩ := hF i hi
      exact ⟨bk, o, x, e, hS _ s, nt, fun q hq => hS _ (ts q hq), hC _ _ ks s, kz, k0.mono' (fun p u h e => hC p u h (e ▸ s)), hf _ (List.getElem_mem hi) _ _ _ (fun p u h hq => hC p u h (ts _ hq)) (fun q h => h) kv⟩

theorem IsS.isV {C : Addr → Value → Prop} (v : V) : ∀ (c : Cv) (S : Nat → Prop), IsS C v c S → IsV (fun p u => C p u ∧ S p.block) v c := by
  induction v using V.ind with
  | h k n b l f hl hf =>
    intro c S hv
    rw [IsS] at hv
    rw [IsV]
    obtain ⟨e1, e2, e3, e4, e5, h1, h2, h3, h4, h5, h6, h7, h8, h9, hb, ⟨T, hL, hLd⟩, ⟨U, hF, hFd⟩⟩ := hv
    refine ⟨e1, e2, e3, e4, e5, h1, h2, h3, h4, h5, h6, h7, h8, h9, hb, fun i hi => ?_, fun i hi => ?_⟩
    · obtain ⟨bk, o, x, e, s, nt, ts, k0, kv⟩ := hL i hi
      exact ⟨bk, o, x, e, k0.mono' (fun p u h e => ⟨h, e ▸ s⟩), IsV.mono (fun p u h => ⟨h.1, ts _ h.2⟩) _ _ (hl _ (List.getElem_mem hi) _ _ kv)⟩
    · obtain ⟨bk, o, x, e, s, nt, ts, ks, kz, k0, kv⟩ := hF i hi
      exact ⟨bk, o, x, e, ⟨ks, s⟩, kz, k0.mono' (fun p u h e => ⟨h, e ▸ s⟩), IsV.mono (fun p u h => ⟨h.1, ts _ h.2⟩) _ _ (hf _ (List.getElem_mem hi) _ _ kv)⟩

/-- A value that holds none. -/
theorem IsS.flat {C C' : Addr → Value → Prop} {v : V} {c : Cv} {S : Nat → Prop} (h0 : v.l = [] ∧ v.f = []) (hC : ∀ p u, C p u → C' p u ∧ S p.block) (hv : IsV C v c) : IsS C' v c S := by
  obtain ⟨k, n, b, l, f⟩ := v
  obtain ⟨e, e'⟩ := h0
  simp only [V.l] at e
  simp only [V.f] at e'
  subst e e'
  rw [IsV] at hv
  rw [IsS]
  obtain ⟨e1, e2, e3, e4, e5, h1, h2, h3, h4, h5, h6, h7, h8, h9, hb, _, _⟩ := hv
  exact ⟨e1, e2, e3, e4, e5, h1, h2, h3, h4, h5, h6, h7, h8, h9, hb.mono hC, ⟨fun _ _ => False, fun i hi => absurd hi (by simp), fun _ _ _ _ _ h => h.elim⟩, ⟨fun _ _ => False, fun i hi => absurd hi (by simp), fun _ _ _ _ _ h => h.elim⟩⟩

/-- The value lies in blocks lo .. hi-1 of the world, its parts apart, and may be written. -/
def InS (w : World) (lo hi : Nat) (v : V) (c : Cv) : Prop := hi ≤ w.heap.size ∧ IsS (CF w) v c (fun q => lo ≤ q ∧ q < hi)
theorem InS.atW {w : World} {lo hi : Nat} {v : V} {c : Cv} (h : InS w lo hi v c) : IsV (AtW w lo hi) v c :=
  IsV.mono (fun _ _ h => ⟨h.1.1, h.2.1, h.2.2⟩) _ _ (h.2.isV v c _)
theorem InS.in_ {w : World} {lo hi : Nat} {v : V} {c : Cv} (h : InS w lo hi v c) : In w v c :=
  IsV.mono (fun _ _ q => ⟨q.1, Nat.zero_le _, Nat.lt_of_lt_of_le q.2.2 h.1⟩) _ _ h.atW
theorem InS.blocks {w w' : World} {lo hi : Nat} {v : V} {c : Cv} (h : InS w lo hi v c) (hz : w.heap.size ≤ w'.heap.size) (hb : ∀ k, lo ≤ k → k < hi → w'.heap[k]? = w.heap[k]?) : InS w' lo hi v c :=
  ⟨Nat.le_trans h.1 hz, IsS.mono v c _ _ (fun _ _ q s => q.block (hb _ s.1 s.2)) (fun _ q => q) h.2⟩
theorem InS.grow {w w' : World} {lo hi : Nat} {v : V} {c : Cv} (h : InS w lo hi v c) (hg : Grow w w') : InS w' lo hi v c :=
  h.blocks hg.size (fun k _ hk => hg.below.block k (Nat.lt_of_lt_of_le hk h.1))
theorem InS.wider {w : World} {lo hi lo' hi' : Nat} {v : V} {c : Cv} (h : InS w lo hi v c) (h1 : lo' ≤ lo) (h2 : hi ≤ hi') (h3 : hi' ≤ w.heap.size) : InS w lo' hi' v c :=
  ⟨h3, IsS.mono v c _ _ (fun _ _ q _ => q) (fun _ q => ⟨Nat.le_trans h1 q.1, Nat.lt_of_lt_of_le q.2 h2⟩) h.2⟩
end Go.Proofs.YtojpeiihkjpeoaaDoor
