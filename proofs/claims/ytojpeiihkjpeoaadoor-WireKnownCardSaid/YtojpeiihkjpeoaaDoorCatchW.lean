/- Walks: the deferred closures of wire.read: a thrown error is caught. Written by wip/tools/gen_getw.py. -/
import Derived.Test.YtojpeiihkjpeoaaDoorCatch
import Derived.Test.YtojpeiihkjpeoaaDoorStore
set_option linter.unusedVariables false
set_option linter.unusedSimpArgs false
namespace Go.Proofs.YtojpeiihkjpeoaaDoor
open Go.RowKit

/-- The world behind the catching of an error: the result's block holds noughts, the error's block the error; all else stays. -/
def Caught (w w' : World) (vb eb : Nat) (ty : TypeId) (zs : Array Value) (e : Int) : Prop :=
  ∃ W1 W2, Grow w W1 ∧ W1.grownBy W2 (some vb) ∧ W2.grownBy w' (some eb) ∧ Blk w' vb ty zs ∧ Blk w' eb 22 #[.int .i64 e]
theorem Caught.grow {a w w' : World} {vb eb : Nat} {ty : TypeId} {zs : Array Value} {e : Int} (h : Caught w w' vb eb ty zs e) (hg : Grow a w) (h1 : a.heap.size ≤ vb) (h2 : a.heap.size ≤ eb) : Grow a w' := by
  obtain ⟨W1, W2, g1, g2, g3, _, _⟩ := h
  exact ((hg.trans g1).grown g2 (fun k e => by injection e with e; omega)).grown g3 (fun k e => by injection e with e; omega)
theorem Caught.vb {w w' : World} {vb eb : Nat} {ty : TypeId} {zs : Array Value} {e : Int} (h : Caught w w' vb eb ty zs e) : Blk w' vb ty zs := by
  obtain ⟨W1, W2, g1, g2, g3, h, _⟩ := h; exact h
theorem Caught.eb {w w' : World} {vb eb : Nat} {ty : TypeId} {zs : Array Value} {e : Int} (h : Caught w w' vb eb ty zs e) : Blk w' eb 22 #[.int .i64 e] := by
  obtain ⟨W1, W2, g1, g2, g3, _, h⟩ := h; exact h

set_option maxRecDepth 100000 in
set_option maxHeartbeats 1600000 in
theorem catchP_panicking (vb eb : Nat) (e : Int) (cs : Array Value) (x : Value) (older : List PanicEntry) (w : World) (hv : Blk w vb 25 cs) (hcs : cs.size = 4) (he : Blk w eb 22 #[x]) (hne : vb ≠ eb) :
    CallsD Tryd.prog 84 #[.pointer (some ⟨vb, 0, none⟩), .pointer (some ⟨eb, 0, none⟩)] (.panicking ({ v := .iface 22 (.int .i64 e), recovered := false } :: older)) w fun r u' w' =>
      r = .returned (.tuple #[]) ∧ u' = .panicking ({ v := .iface 22 (.int .i64 e), recovered := true } :: older) ∧ Caught w w' vb eb 25 zeroP e := by
  have HV := hide (hv.alloc (.cells zeroP 25))
  have HN := hide (Blk.new w 25 zeroP)
  have HE := hide (he.alloc (.cells zeroP 25))
  have HG := hide ((Grow.refl w).alloc (.cells zeroP 25))
  have HS := hide hcs
  have hta := assert_yes
  clear hv he hcs
  refine callsD_of_wpS Tryd.func84 rfl fun c₀ cs' hu => ?_
  apply wpS_seq
  apply wpS_region
  simp [wpOpsS, go_sem, recoverD, hu, Tryd.ntmps84, Exit.thenS]
  simp only [Array.replicate, List.replicate, Array.setIfInBounds]
  refine wpS_of_wp ?_
  clear hu
  go_wp2_with (first
    | (with_reducible refine at_load 25 ?_; refine load_blk (g := w.heap.size) (n := 4) (cells := zeroP) Tryd.underlying25 rfl rfl HN.out info_rP rfl ?_)
    | (with_reducible refine at_store 25 ?_; refine store_blk (g := vb) (n := 4) (cells := zeroP) rfl rfl HV.out info_rP HS.out rfl zeroP_one ?_; intro W2 hB2 hg2 hz2; have hE2 := HE.out.own hg2 (fun k e => by injection e with e; omega); have hec := hE2.cell; have hef := hE2.frozen; have HB2 := hide hB2; have HG2 := hide hg2; have HE2 := hide hE2; clear hB2 hg2 hE2 hz2))
  simp [bodyPostS, results, Tryd.results84, go_sem]
  exact ⟨_, W2, HG.out, HG2.out, grown_set W2 eb 0 (.int .i64 e), HB2.out.own (grown_set W2 eb 0 (.int .i64 e)) (fun k h => by injection h with h; omega), HE2.out.set_ 0 _⟩
set_option maxRecDepth 100000 in
set_option maxHeartbeats 400000 in
theorem catchP_idle (vb eb : Nat) (w : World) :
    CallsD Tryd.prog 84 #[.pointer (some ⟨vb, 0, none⟩), .pointer (some ⟨eb, 0, none⟩)] .returning w fun r u' w' =>
      r = .returned (.tuple #[]) ∧ u' = .returning ∧ w' = w := by
  have hta := assert_nil
  refine callsD_of_wpS Tryd.func84 rfl fun c₀ cs hu => ?_
  apply wpS_seq
  apply wpS_region
  simp [wpOpsS, go_sem, recoverD, hu, Tryd.ntmps84, Exit.thenS]
  simp only [Array.replicate, List.replicate, Array.setIfInBounds]
  refine wpS_of_wp ?_
  go_wp2_with fail
  cases c₀
  simp_all [bodyPostS, results, Tryd.results84, go_sem]

set_option maxRecDepth 100000 in
set_option maxHeartbeats 1600000 in
theorem catchQ_panicking (vb eb : Nat) (e : Int) (cs : Array Value) (x : Value) (older : List PanicEntry) (w : World) (hv : Blk w vb 49 cs) (hcs : cs.size = 26) (he : Blk w eb 22 #[x]) (hne : vb ≠ eb) :
    CallsD Tryd.prog 96 #[.pointer (some ⟨vb, 0, none⟩), .pointer (some ⟨eb, 0, none⟩)] (.panicking ({ v := .iface 22 (.int .i64 e), recovered := false } :: older)) w fun r u' w' =>
      r = .returned (.tuple #[]) ∧ u' = .panicking ({ v := .iface 22 (.int .i64 e), recovered := true } :: older) ∧ Caught w w' vb eb 49 zeroQ e := by
  have HV := hide (hv.alloc (.cells zeroQ 49))
  have HN := hide (Blk.new w 49 zeroQ)
  have HE := hide (he.alloc (.cells zeroQ 49))
  have HG := hide ((Grow.refl w).alloc (.cells zeroQ 49))
  have HS := hide hcs
  have hta := assert_yes
  clear hv he hcs
  refine callsD_of_wpS Tryd.func96 rfl fun c₀ cs' hu => ?_
  apply wpS_seq
  apply wpS_region
  simp [wpOpsS, go_sem, recoverD, hu, Tryd.ntmps96, Exit.thenS]
  simp only [Array.replicate, List.replicate, Array.setIfInBounds]
  refine wpS_of_wp ?_
  clear hu
  go_wp2_with (first
    | (with_reducible refine at_load 49 ?_; refine load_blk (g := w.heap.size) (n := 26) (cells := zeroQ) Tryd.underlying49 rfl rfl HN.out info_rQ rfl ?_)
    | (with_reducible refine at_store 49 ?_; refine store_blk (g := vb) (n := 26) (cells := zeroQ) rfl rfl HV.out info_rQ HS.out rfl zeroQ_one ?_; intro W2 hB2 hg2 hz2; have hE2 := HE.out.own hg2 (fun k e => by injection e with e; omega); have hec := hE2.cell; have hef := hE2.frozen; have HB2 := hide hB2; have HG2 := hide hg2; have HE2 := hide hE2; clear hB2 hg2 hE2 hz2))
  simp [bodyPostS, results, Tryd.results96, go_sem]
  exact ⟨_, W2, HG.out, HG2.out, grown_set W2 eb 0 (.int .i64 e), HB2.out.own (grown_set W2 eb 0 (.int .i64 e)) (fun k h => by injection h with h; omega), HE2.out.set_ 0 _⟩
set_option maxRecDepth 100000 in
set_option maxHeartbeats 400000 in
theorem catchQ_idle (vb eb : Nat) (w : World) :
    CallsD Tryd.prog 96 #[.pointer (some ⟨vb, 0, none⟩), .pointer (some ⟨eb, 0, none⟩)] .returning w fun r u' w' =>
      r = .returned (.tuple #[]) ∧ u' = .returning ∧ w' = w := by
  have hta := assert_nil
  refine callsD_of_wpS Tryd.func96 rfl fun c₀ cs hu => ?_
  apply wpS_seq
  apply wpS_region
  simp [wpOpsS, go_sem, recoverD, hu, Tryd.ntmps96, Exit.thenS]
  simp only [Array.replicate, List.replicate, Array.setIfInBounds]
  refine wpS_of_wp ?_
  go_wp2_with fail
  cases c₀
  simp_all [bodyPostS, results, Tryd.results96, go_sem]
end Go.Proofs.YtojpeiihkjpeoaaDoor
