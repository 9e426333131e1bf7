/- Walk of bytes.Compare. -/
import Derived.Test.YtcdbchifigonpaaDoorLibs
import Derived.Lib.BytesEntry
import Derived.Lib.Bytealg
set_option linter.unusedVariables false
set_option linter.unusedSimpArgs false
namespace Go.Proofs.YtcdbchifigonpaaDoor
open Go.RowKit
theorem bytesOf_u8V (l : List UInt8) : Lib.bytesOf (l.map fun b => (b.toNat : Int)) = l := by
  induction l with
  | nil => rfl
  | cons x l ih => simp only [Lib.bytesOf, List.map_cons, List.map_map] at ih ⊢; rw [ih]; simp
theorem run_bytes_inV {w : World} {A : Option Addr} {b : List UInt8} (c : Nat) (h : InB w A b) : (Extern.Bytes.bytesOf (.slice A b.length c)).run Tryd.prog w = .ok ⟨b.toArray⟩ w := by
  rcases A with _ | ad
  · rcases Nat.eq_zero_or_pos b.length with h0 | h0
    · have : b = [] := List.eq_nil_of_length_eq_zero h0
      subst this; rfl
    · obtain ⟨_, _, e, _⟩ := h.2 h0; cases e
  · have hl := Lib.run_loadBytesX (P := Tryd.prog) w (b.map fun x => (x.toNat : Int)) ad .empty (fun j x hj => by
      rw [List.getElem?_map] at hj
      cases hb : b[j]? with
      | none => rw [hb] at hj; cases hj
      | some y =>
        rw [hb] at hj
        have hjl : j < b.length := (List.getElem?_eq_some_iff.1 hb).1
        obtain ⟨bk, o, e, hc⟩ := h.2 (by omega)
        injection e with e
        subst e
        rw [add_lit]
        cases hj
        exact (hc j _ (by rw [u8s, List.getElem?_map, hb]; rfl)).1)
    rw [List.length_map, bytesOf_u8V] at hl
    show (Extern.Bytes.loadBytes ad b.length .empty).run Tryd.prog w = _
    rw [hl]; simp
theorem run_cmp_inV {w : World} {A B : Option Addr} {a b : List UInt8} (c d : Nat) (h : InB w A a) (g : InB w B b) :
    (Extern.BytealgCompare.compare #[.slice A a.length c, .slice B b.length d]).run Tryd.prog w = .ok (.int .i64 (Lib.compareBytes a b)) w := by
  change Sem.run Tryd.prog (do pure (goInt (Extern.BytealgCompare.cmp (← Extern.Bytes.bytesOf (.slice A a.length c)) (← Extern.Bytes.bytesOf (.slice B b.length d))))) w = _
  simp only [Sem.run_bind, run_bytes_inV c h, run_bytes_inV d g, Sem.run_pure, Result.andThen]
  rw [Lib.cmp_eq]
  rfl
theorem cmp_selfV : ∀ a : List UInt8, Lib.compareBytes a a = 0
  | [] => rfl
  | x :: a => by unfold Lib.compareBytes; simp [cmp_selfV a]
set_option maxRecDepth 100000 in
set_option maxHeartbeats 1600000 in
theorem balg_anyV (a b : List UInt8) (A B : Option Addr) (c d : Nat) (w : World) (h : InB w A a) (g : InB w B b) :
    Calls Tryd.prog 86 #[.slice A a.length c, .slice B b.length d] w fun e w' => e = .returned (.int .i64 (Lib.compareBytes a b)) ∧ w' = w := by
  go_enter Tryd.func86, Tryd.ntmps86
  go_wp2_with fail
  rw [run_callFunc_extern (P := Tryd.prog) (f := 104) (fn := Tryd.f104) (by kernel_rfl) (by kernel_rfl) (by kernel_rfl) (by kernel_rfl) (e := Extern.BytealgCompare.compare) (by kernel_rfl), run_cmp_inV c d h g]
  simp only [Result.andThen]
  rw [Oper.upon_value]
  go_wp2_with fail
  go_ret
  exact ⟨rfl, rfl⟩
end Go.Proofs.YtcdbchifigonpaaDoor
