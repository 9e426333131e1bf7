/- Memory in which only the blocks of a set may turn: no program in sight. -/
import Derived.Test.YtpjhhkndfmcaoaaDoorPls
set_option linter.unusedVariables false
set_option linter.unusedSimpArgs false
namespace Go.Proofs.YtpjhhkndfmcaoaaDoor
open Go.RowKit

/-- All blocks but those of S stay; there may be more. -/
structure Kept (S : Nat → Prop) (w w' : World) : Prop where
  os : w'.os = w.os
  tape : w'.tape = w.tape
  output : w'.output = w.output
  size : w.heap.size ≤ w'.heap.size
  block : ∀ k, k < w.heap.size → ¬ S k → w'.heap[k]? = w.heap[k]?

theorem Kept.refl (S : Nat → Prop) (w : World) : Kept S w w := ⟨rfl, rfl, rfl, Nat.le_refl _, fun _ _ _ => rfl⟩
theorem Kept.trans {S : Nat → Prop} {a b c : World} (h : Kept S a b) (k : Kept S b c) : Kept S a c :=
  ⟨k.os.trans h.os, k.tape.trans h.tape, k.output.trans h.output, Nat.le_trans h.size k.size, fun i hi hs => (k.block i (Nat.lt_of_lt_of_le hi h.size) hs).trans (h.block i hi hs)⟩
theorem Kept.mono {S S' : Nat → Prop} {a b : World} (h : Kept S a b) (hs : ∀ q, S q → S' q) : Kept S' a b :=
  ⟨h.os, h.tape, h.output, h.size, fun k hk hn => h.block k hk (fun q => hn (hs k q))⟩
theorem Kept.grow {S : Nat → Prop} {a b : World} (h : Grow a b) : Kept S a b := ⟨h.os, h.tape, h.output, h.size, fun k hk _ => h.below.block k hk⟩
theorem Kept.set {S : Nat → Prop} {a w : World} (h : Kept S a w) {p : Addr} (hp : S p.block) (u : Value) : Kept S a (w.setCell p u) :=
  ⟨h.os, h.tape, h.output, by rw [show (w.setCell p u).heap.size = w.heap.size by simp [World.setCell]]; exact h.size, fun k hk hs => (Below.heap_setCell w p u k (fun e => hs (e ▸ hp))).trans (h.block k hk hs)⟩
theorem Kept.set_new {S : Nat → Prop} {a w : World} (h : Kept S a w) {p : Addr} (hp : a.heap.size ≤ p.block) (u : Value) : Kept S a (w.setCell p u) :=
  ⟨h.os, h.tape, h.output, by rw [show (w.setCell p u).heap.size = w.heap.size by simp [World.setCell]]; exact h.size, fun k hk hs => (Below.heap_setCell w p u k (fun e => by omega)).trans (h.block k hk hs)⟩
theorem Kept.alloc {S : Nat → Prop} {a w : World} (h : Kept S a w) (o : Obj) : Kept S a (w.alloc o) := h.trans (Kept.grow ((Grow.refl w).alloc o))
theorem Kept.drew {S : Nat → Prop} {a w : World} (h : Kept S a w) : Kept S a w.drew := h.trans (Kept.grow (Grow.refl w).drew)
/-- What lies below all that may turn stays. -/
theorem Kept.below {S : Nat → Prop} {a b : World} {B : Nat} (h : Kept S a b) (hB : B ≤ a.heap.size) (hs : ∀ q, S q → B ≤ q) : Below B a b :=
  ⟨h.os, h.tape, h.output, h.size, fun k hk => h.block k (by omega) (fun q => by have := hs k q; omega)⟩
theorem Kept.blk {S : Nat → Prop} {a b : World} {g : Nat} {t : TypeId} {cs : Array Value} (h : Kept S a b) (hb : Blk a g t cs) (hs : ¬ S g) : Blk b g t cs := (h.block g hb.lt hs).trans hb

theorem CF.lt {w : World} {p : Addr} {u : Value} (h : CF w p u) : p.block < w.heap.size := World.block_lt_of_cell? _ _ h.1
theorem CF.kept {S : Nat → Prop} {w w' : World} {p : Addr} {u : Value} (h : CF w p u) (hk : Kept S w w') (hs : ¬ S p.block) : CF w' p u := h.block (hk.block _ h.lt hs)
theorem CF.set_far {w : World} {p q : Addr} {u v : Value} (h : CF w p u) (hne : p ≠ q) : CF (w.setCell q v) p u :=
  ⟨(World.cell?_setCell_other _ _ _ _ (fun e => hne e.symm)).trans h.1, (frozen_setCell w q v p).trans h.2⟩
theorem IsS.kept {S T : Nat → Prop} {w w' : World} {v : V} {c : Cv} (h : IsS (CF w) v c T) (hk : Kept S w w') (hd : ∀ q, T q → ¬ S q) : IsS (CF w') v c T :=
  IsS.mono v c T T (fun p u h s => h.kept hk (hd _ s)) (fun q h => h) h

/-- A list in memory of its own, opened. -/
theorem IsS.openL {C : Addr → Value → Prop} {l : List V} {c : Cv} {S : Nat → Prop} (h : IsS C (.mk 7 0 [] l []) c S) :
    ∃ (aB aL aF : Option Addr) (cB cL cF : Nat) (T : Nat → Nat → Prop) (bk o : Nat), c = ⟨7, 0, aB, 0, cB, aL, l.length, cL, aF, 0, cF⟩ ∧ l.length ≤ cL ∧ l.length ≤ 140737488355328 ∧ (0 < l.length → aL = some ⟨bk, o, none⟩ ∧ S bk) ∧
      (∀ i (h : i < l.length), ¬ T i bk ∧ (∀ q, T i q → S q) ∧ ∃ x, At5 C bk (o + i * 5) x ∧ IsS C l[i] x (T i)) ∧ (∀ i j, i < j → j < l.length → ∀ q, T i q → ¬ T j q) := by
  rw [IsS] at h
  obtain ⟨c1, c2, aB, c3, cB, aL, c4, cL, aF, c5, cF⟩ := c
  obtain ⟨e1, e2, e3, e4, e5, h1, h2, h3, h4, h5, h6, h7, h8, h9, hb, ⟨T, hL, hLd⟩, _⟩ := h
  dsimp only at *
  subst e1 e2 e3 e4 e5
  rcases Nat.eq_zero_or_pos l.length with h0 | h0
  · exact ⟨aB, aL, aF, cB, cL, cF, T, 0, 0, rfl, h6, h7, fun h => by omega, fun i hi => by omega, hLd⟩
  · obtain ⟨bk, o, x, ha, hs, _⟩ := hL 0 h0
    refine ⟨aB, aL, aF, cB, cL, cF, T, bk, o, rfl, h6, h7, fun _ => ⟨ha, hs⟩, fun i hi => ?_, hLd⟩
    obtain ⟨bk', o', x', ha', hs', ht, hts, k5, kv⟩ := hL i hi
    rw [ha] at ha'
    injection ha' with ha'
    injection ha' with q1 q2
    subst q1 q2
    exact ⟨ht, hts, x', k5, kv⟩
/-- A document in memory of its own, opened. -/
theorem IsS.openF {C : Addr → Value → Prop} {f : List (ByteArray × V)} {c : Cv} {S : Nat → Prop} (h : IsS C (.mk 8 0 [] [] f) c S) :
    ∃ (aB aL aF : Option Addr) (cB cL cF : Nat) (T : Nat → Nat → Prop) (bk o : Nat), c = ⟨8, 0, aB, 0, cB, aL, 0, cL, aF, f.length, cF⟩ ∧ f.length ≤ cF ∧ f.length ≤ 140737488355328 ∧ (0 < f.length → aF = some ⟨bk, o, none⟩ ∧ S bk) ∧
      (∀ i (h : i < f.length), ¬ T i bk ∧ (∀ q, T i q → S q) ∧ C ⟨bk, o + i * 6, none⟩ (.string f[i].1) ∧ ∃ x, At5 C bk (o + i * 6 + 1) x ∧ IsS C f[i].2 x (T i)) ∧ (∀ i j, i < j → j < f.length → ∀ q, T i q → ¬ T j q) := by
  rw [IsS] at h
  obtain ⟨c1, c2, aB, c3, cB, aL, c4, cL, aF, c5, cF⟩ := c
  obtain ⟨e1, e2, e3, e4, e5, h1, h2, h3, h4, h5, h6, h7, h8, h9, hb, _, ⟨T, hF, hFd⟩⟩ := h
  dsimp only at *
  subst e1 e2 e3 e4 e5
  rcases Nat.eq_zero_or_pos f.length with h0 | h0
  · exact ⟨aB, aL, aF, cB, cL, cF, T, 0, 0, rfl, h8, h9, fun h => by omega, fun i hi => by omega, hFd⟩
  · obtain ⟨bk, o, x, ha, hs, _⟩ := hF 0 h0
    refine ⟨aB, aL, aF, cB, cL, cF, T, bk, o, rfl, h8, h9, fun _ => ⟨ha, hs⟩, fun i hi => ?_, hFd⟩
    obtain ⟨bk', o', x', ha', hs', ht, hts, ks, kz, k5, kv⟩ := hF i hi
    rw [ha] at ha'
    injection ha' with ha'
    injection ha' with q1 q2
    subst q1 q2
    exact ⟨ht, hts, ks, x', k5, kv⟩
/-- A value without parts, opened. -/
theorem IsS.openB {C : Addr → Value → Prop} {k : Int} {n : Nat} {b : List UInt8} {c : Cv} {S : Nat → Prop} (h : IsS C (.mk k n b [] []) c S) :
    ∃ (aB aL aF : Option Addr) (cB cL cF : Nat), c = ⟨k, n, aB, b.length, cB, aL, 0, cL, aF, 0, cF⟩ ∧ -9223372036854775808 ≤ k ∧ k ≤ 9223372036854775807 ∧ n < 18446744073709551616 ∧ b.length ≤ cB ∧ b.length ≤ 140737488355328 ∧ Reads (fun p u => C p u ∧ S p.block) 1 aB b.length (u8s b) := by
  rw [IsS] at h
  obtain ⟨c1, c2, aB, c3, cB, aL, c4, cL, aF, c5, cF⟩ := c
  obtain ⟨e1, e2, e3, e4, e5, h1, h2, h3, h4, h5, h6, h7, h8, h9, hb, _, _⟩ := h
  dsimp only at *
  subst e1 e2 e3 e4 e5
  exact ⟨aB, aL, aF, cB, cL, cF, rfl, h1, h2, h3, h4, h5, hb⟩
end Go.Proofs.YtpjhhkndfmcaoaaDoor
