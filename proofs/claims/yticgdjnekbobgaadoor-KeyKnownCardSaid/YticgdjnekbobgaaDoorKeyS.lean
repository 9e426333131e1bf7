/- Walks: the reader of keys: texts. -/
import Derived.Test.YticgdjnekbobgaaDoorKeyN
set_option linter.unusedVariables false
set_option linter.unusedSimpArgs false
namespace Go.Proofs.YticgdjnekbobgaaDoor
open Go.RowKit Go.Shelf Go.WideShapes

theorem unesc_ne {x : UInt8} (hx : x ≠ 0) (r : List UInt8) : unesc false (x :: r) = (unesc false r).map fun p => (x :: p.1, p.2) := by
  cases r with
  | nil => rfl
  | cons y r => rw [unesc, if_neg hx]
theorem unesc_zero (y : UInt8) (r : List UInt8) : unesc false (0 :: y :: r) = if y = 255 then (unesc false r).map (fun p => (0 :: p.1, p.2)) else some ([], r) := by
  rw [unesc, if_pos rfl]
  split
  · rfl
  · rw [if_neg (by simp)]
/-- What the reader of texts tells. -/
def KStr (w : World) (pb : Nat) (t : Bool) (got : Option (List UInt8 × List UInt8)) (r : Ending) (w' : World) : Prop :=
  match got with
  | some (b, rest) => ∃ A c, r = .returned (.slice A b.length c) ∧ Row w' w.heap.size (.slice A b.length c) b.length b ∧ Kr w' pb t rest ∧ GB w w' pb
  | none => KP w pb r w'
theorem KStr.some_ {w w' : World} {pb : Nat} {t : Bool} {got : Option (List UInt8 × List UInt8)} {b rest : List UInt8} {A : Option Addr} {c : Nat} (h : got = some (b, rest)) (hr : Row w' w.heap.size (.slice A b.length c) b.length b) (hk : Kr w' pb t rest) (hg : GB w w' pb) :
    KStr w pb t got (.returned (.slice A b.length c)) w' := by
  subst h; exact ⟨A, c, rfl, hr, hk, hg⟩
theorem KStr.none_ {w w' : World} {pb : Nat} {t : Bool} {got : Option (List UInt8 × List UInt8)} {r : Ending} (h : got = none) (hk : KP w pb r w') : KStr w pb t got r w' := by
  subst h; exact hk
theorem Row.gb {w w' : World} {base m pb : Nat} {v : Value} {xs : List UInt8} (h : Row w base v m xs) (hg : GB w w' pb) (hp : pb < base) : Row w' base v m xs := by
  rcases h.2 with h0 | ⟨g, cap, cur, rfl, hb, hgg, hr⟩
  · exact ⟨h.1, .inl h0⟩
  · exact ⟨h.1, .inr ⟨g, cap, cur, rfl, hb, Blk.own (t := 5) (cs := cur) hgg hg (fun k e => by injection e with e; omega), hr⟩⟩
theorem GB.size {w w' : World} {pb : Nat} (h : GB w w' pb) : w.heap.size ≤ w'.heap.size := World.grownBy.size h

set_option maxRecDepth 100000 in
set_option maxHeartbeats 6400000 in
theorem kstr_any (pb : Nat) (t : Bool) (bs : List UInt8) (w : World) (h : Kr w pb t bs) (hl : bs.length ≤ 140737488000000) : Calls Tryd.prog 148 #[.pointer (some ⟨pb, 0, none⟩)] w (KStr w pb t (unesc false bs)) := by
  have H := hide h
  have hlt := h.lt
  clear h
  go_enter Tryd.func148, Tryd.ntmps148
  go_wp2_with fail
  go_loopg [3, 4] (bs.length + 1) (fun gk o _ wr => ∃ (rest xs : List UInt8) (A : Option Addr) (c : Nat), gk = rest.length + 1 ∧ xs.length + rest.length ≤ bs.length ∧ o = .slice A xs.length c ∧ Row wr w.heap.size (.slice A xs.length c) xs.length xs ∧ Kr wr pb t rest ∧ GB w wr pb ∧
    unesc false bs = (unesc false rest).map fun p => (xs ++ p.1, p.2))
  case atStart => exact ⟨bs, [], none, 0, rfl, by simp, rfl, World.ownsRow_nil _ _ _ _, H.out, GB.refl _ _, by cases unesc false bs <;> rfl⟩
  case round =>
    obtain ⟨rest, xs, A, c, rfl, hxl, rfl, hr, hk, hg, he⟩ := hrel
    have HR := hide hr
    have HG := hide hg
    have HE := hide he
    have hzw := GB.size hg
    clear hr hg he
    cases rest with
    | nil =>
      have HK := hide hk
      clear hk
      go_wp2_with fail
      refine (kbyte_no pb t _ HK.out).mono ?_
      rintro e w2 ⟨rfl, rfl⟩
      go_wp2_with fail
      exact ⟨rfl, KStr.none_ (by rw [HE.out]; rfl) ⟨rfl, HG.out⟩⟩
    | cons x r =>
      have HK := hide hk
      clear hk
      rw [List.length_cons] at hxl
      have hxlt := x.toNat_lt
      by_cases hx : x = 0
      · subst hx
        go_wp2_with fail
        refine (kbyte_yes pb t 0 r _ HK.out).mono ?_
        rintro e w2 ⟨rfl, hk2, hg2, hz2⟩
        have HR2 := hide (HR.out.gb hg2 hlt)
        have HG2 := hide (HG.out.trans hg2)
        have hz2' : wr.heap.size ≤ w2.heap.size := by omega
        cases r with
        | nil =>
          have HK2 := hide hk2
          clear hk2 hg2 hz2
          go_wp2_with fail
          refine (kbyte_no pb t _ HK2.out).mono ?_
          rintro e w3 ⟨rfl, rfl⟩
          go_wp2_with fail
          exact ⟨rfl, KStr.none_ (by rw [HE.out]; rfl) ⟨rfl, HG2.out⟩⟩
        | cons y r =>
          have HK2 := hide hk2
          clear hk2 hg2 hz2
          rw [List.length_cons] at hxl
          have hylt := y.toNat_lt
          rw [unesc_zero] at HE
          by_cases hy : y = 255
          · rw [if_pos hy] at HE
            subst hy
            go_wp2_with fail
            refine (kbyte_yes pb t 255 r _ HK2.out).mono ?_
            rintro e w3 ⟨rfl, hk3, hg3, hz3⟩
            have HR3 := hide (HR2.out.gb hg3 hlt)
            have HG3 := hide (HG2.out.trans hg3)
            have hz3' : w2.heap.size ≤ w3.heap.size := by omega
            have HK3 := hide hk3
            clear hk3 hg3 hz3
            go_wp2_with (at_builtin; refine app_src (ys := [0]) rfl (.tmp 15) (.tmp 17) _ rfl rfl (HR3.out.alloc _) _ rfl (src_one 0 rfl (Blk.new w3 _ _)) (by simp only [List.length_cons, List.length_nil]; omega) (by simp; omega) ?_; intro A4 c4 w4 hr4 hg4; have HR4 := hide hr4; have HG4 := hide (HG3.out.grow ((Grow.refl w3).alloc (.cells #[.int .u8 0] 5)) |>.own hg4.grow (fun k hk => by have := World.ownsRow.lt HR3.out k hk; omega)); have HK4 := hide ((HK3.out.grow ((Grow.refl w3).alloc (.cells #[.int .u8 0] 5))).own hg4.grow (fun k hk => by have := World.ownsRow.lt HR3.out k hk; omega)); clear hr4 hg4)
            go_roundg (r.length + 1)
            case measure => simp
            case rel =>
              have hn : (xs ++ [(0 : UInt8)]).length = xs.length + [(0 : UInt8)].length := List.length_append
              refine ⟨r, xs ++ [0], A4, c4, rfl, by rw [hn]; simp only [List.length_cons, List.length_nil]; omega, by rw [hn]; rfl, by rw [hn]; exact HR4.out, HK4.out, HG4.out, ?_⟩
              rw [HE.out]
              cases unesc false r <;> simp
          · rw [if_neg hy] at HE
            have hyn : ((y.toNat : Int) != 255) = true := by
              have : y.toNat ≠ 255 := fun e => hy (UInt8.toNat_inj.1 e)
              simp; omega
            clear hy
            go_wp2_with fail
            refine (kbyte_yes pb t y r _ HK2.out).mono ?_
            rintro e w3 ⟨rfl, hk3, hg3, hz3⟩
            have HR3 := hide (HR2.out.gb hg3 hlt)
            have HG3 := hide (HG2.out.trans hg3)
            have HK3 := hide hk3
            clear hk3 hg3 hz3
            go_wp2_with fail
            go_ret
            exact KStr.some_ (b := xs) (by rw [HE.out]; simp) HR3.out HK3.out HG3.out
      · have hxn : ((x.toNat : Int) == 0) = false := by
          have : x.toNat ≠ 0 := fun e => hx (UInt8.toNat_inj.1 e)
          simp; omega
        rw [unesc_ne hx] at HE
        clear hx
        go_wp2_with fail
        refine (kbyte_yes pb t x r _ HK.out).mono ?_
        rintro e w3 ⟨rfl, hk3, hg3, hz3⟩
        have HR3 := hide (HR.out.gb hg3 hlt)
        have HG3 := hide (HG.out.trans hg3)
        have hz3' : wr.heap.size ≤ w3.heap.size := by omega
        have HK3 := hide hk3
        clear hk3 hg3 hz3
        go_wp2_with (at_builtin; refine app_src (ys := [x]) rfl (.tmp 15) (.tmp 17) _ rfl rfl (HR3.out.alloc _) _ rfl (src_one x rfl (Blk.new w3 _ _)) (by simp only [List.length_cons, List.length_nil]; omega) (by simp; omega) ?_; intro A4 c4 w4 hr4 hg4; have HR4 := hide hr4; have HG4 := hide (HG3.out.grow ((Grow.refl w3).alloc (.cells #[.int .u8 (x.toNat : Int)] 5)) |>.own hg4.grow (fun k hk => by have := World.ownsRow.lt HR3.out k hk; omega)); have HK4 := hide ((HK3.out.grow ((Grow.refl w3).alloc (.cells #[.int .u8 (x.toNat : Int)] 5))).own hg4.grow (fun k hk => by have := World.ownsRow.lt HR3.out k hk; omega)); clear hr4 hg4)
        go_roundg (r.length + 1)
        case measure => simp
        case rel =>
          have hn : (xs ++ [x]).length = xs.length + [x].length := List.length_append
          refine ⟨r, xs ++ [x], A4, c4, rfl, by rw [hn]; simp only [List.length_cons, List.length_nil]; omega, by rw [hn]; rfl, by rw [hn]; exact HR4.out, HK4.out, HG4.out, ?_⟩
          rw [HE.out]
          cases unesc false r <;> simp
end Go.Proofs.YticgdjnekbobgaaDoor
