/- Walks: the deferred closure of the program's Get: a thrown error is caught; where nothing was thrown it does nothing. · Walks: the program's Get: what is read of any bytes. -/
import Derived.Test.YtcdbchifigonpaaDoorLibs
import Derived.Recover
import Derived.Test.YtcdbchifigonpaaDoorRead5
import Derived.Test.YtcdbchifigonpaaDoorPls
set_option linter.unusedVariables false
set_option linter.unusedSimpArgs false
namespace Go.Proofs.YtcdbchifigonpaaDoor
open Go.RowKit

theorem assert_yes (W : World) (v : Value) : (Instr.typeAssert (.iface 26 v) 20 26 true).run Tryd.prog W = .ok (.tuple #[v, .bool true]) W := by kernel_rfl
theorem assert_nil (W : World) : (Instr.typeAssert .nilIface 20 26 true).run Tryd.prog W = .ok (.tuple #[.int .i64 0, .bool false]) W := by kernel_rfl

/-- The world behind the catching of an error. -/
def caught (w : World) (vb eb : Nat) (e : Int) : World :=
  (((((w.setCell ⟨vb, 0, none⟩ (.int .i64 0)).setCell ⟨vb, 1, none⟩ (.int .u64 0)).setCell ⟨vb, 2, none⟩ (.slice none 0 0)).setCell ⟨vb, 3, none⟩ (.slice none 0 0)).setCell ⟨vb, 4, none⟩ (.slice none 0 0)).setCell ⟨eb, 0, none⟩ (.int .i64 e)

set_option maxRecDepth 100000 in
set_option maxHeartbeats 400000 in
theorem catch_panicking (vb eb : Nat) (e : Int) (c0 c1 c2 c3 c4 : Value) (x : Value) (older : List PanicEntry) (w : World) (hv : Blk w vb 37 #[c0, c1, c2, c3, c4]) (he : Blk w eb 26 #[x]) (hne : vb ≠ eb) :
    CallsD Tryd.prog 62 #[.pointer (some ⟨vb, 0, none⟩), .pointer (some ⟨eb, 0, none⟩)] (.panicking ({ v := .iface 26 (.int .i64 e), recovered := false } :: older)) w fun r u' w' =>
      r = .returned (.tuple #[]) ∧ u' = .panicking ({ v := .iface 26 (.int .i64 e), recovered := true } :: older) ∧ w' = caught w vb eb e := by
  have hvc := hv.cell
  have hvf := hv.frozen
  have hec := he.cell
  have hef := he.frozen
  have hta := assert_yes
  clear hv he
  refine callsD_of_wpS Tryd.func62 rfl fun c₀ cs hu => ?_
  apply wpS_seq
  apply wpS_region
  simp [wpOpsS, go_sem, recoverD, hu, Tryd.ntmps62, Exit.thenS]
  simp only [Array.replicate, List.replicate, Array.setIfInBounds]
  refine wpS_of_wp ?_
  clear hu
  go_wp2_with fail
  simp [bodyPostS, results, Tryd.results62, go_sem, caught]

set_option maxRecDepth 100000 in
set_option maxHeartbeats 400000 in
theorem catch_idle (vb eb : Nat) (w : World) :
    CallsD Tryd.prog 62 #[.pointer (some ⟨vb, 0, none⟩), .pointer (some ⟨eb, 0, none⟩)] .returning w fun r u' w' =>
      r = .returned (.tuple #[]) ∧ u' = .returning ∧ w' = w := by
  have hta := assert_nil
  refine callsD_of_wpS Tryd.func62 rfl fun c₀ cs hu => ?_
  apply wpS_seq
  apply wpS_region
  simp [wpOpsS, go_sem, recoverD, hu, Tryd.ntmps62, Exit.thenS]
  simp only [Array.replicate, List.replicate, Array.setIfInBounds]
  refine wpS_of_wp ?_
  go_wp2_with fail
  cases c₀
  simp_all [bodyPostS, results, Tryd.results62, go_sem]
end Go.Proofs.YtcdbchifigonpaaDoor

set_option linter.unusedVariables false
set_option linter.unusedSimpArgs false
namespace Go.Proofs.YtcdbchifigonpaaDoor
open Go.RowKit Go.Shelf

theorem Tabs.lt {w : World} (h : Tabs w) : 1 < w.heap.size := by
  have h1 := World.block_lt_of_cell? w _ (h.1 0 (by decide))
  have h2 := World.block_lt_of_cell? w _ (h.2 0 (by decide)).1
  simp at h1 h2
  omega

theorem value_any (g : Nat) : ∀ (above pb : Nat), g + above = 16 → 1 < pb → ValF (rd g) above pb := by
  induction g with
  | zero =>
    intro above pb ha hp w bs hT hr
    cases bs with
    | nil => exact value_none above pb w hr
    | cons k bs =>
      by_cases h7 : k.toNat = 7
      · rw [rd, rdStep, if_pos h7]; exact value_7a above pb k h7 bs w (by omega) hr
      · by_cases h8 : k.toNat = 8
        · rw [rd, rdStep, if_neg h7, if_pos h8]; exact value_8a above pb k h8 bs w (by omega) hr
        · rw [rd_flat _ _ _ h7 h8]; exact value_flat above pb k bs w h7 h8 hT hp hr
  | succ g ih =>
    intro above pb ha hp w bs hT hr
    cases bs with
    | nil => exact value_none above pb w hr
    | cons k bs =>
      by_cases h7 : k.toNat = 7
      · rw [rd_list _ _ _ h7]
        cases bs with
        | nil => exact value_7b above pb k h7 [] w (by omega) rfl hr
        | cons y r =>
          rw [rdM]
          by_cases hy : y.toNat ≤ 64
          · rw [if_pos hy]
            exact value_7d above pb k h7 y y.toNat rfl r w (rd g) (ih (above + 1) pb (by omega) hp) hT hp (by omega) hy hr
          · rw [if_neg hy]
            exact value_7c above pb k h7 (y :: r) w (by omega) y r rfl (by omega) hr
      · by_cases h8 : k.toNat = 8
        · rw [rd_doc _ _ _ h8]
          cases bs with
          | nil => exact value_8b above pb k h8 [] w (by omega) rfl hr
          | cons y r =>
            rw [rdM]
            by_cases hy : y.toNat ≤ 64
            · rw [if_pos hy]
              exact value_8d above pb k h8 y y.toNat rfl r w (rd g) (ih (above + 1) pb (by omega) hp) hT hp (by omega) hy hr
            · rw [if_neg hy]
              exact value_8c above pb k h8 (y :: r) w (by omega) y r rfl (by omega) hr
        · rw [rd_flat _ _ _ h7 h8]; exact value_flat above pb k bs w h7 h8 hT hp hr

/-- What Get tells. -/
def GetC (w : World) (got : Except Int V) (e : Ending) (w' : World) : Prop :=
  match got with
  | .error x => e = .returned (.tuple #[Cv.zero.agg, .int .i64 x]) ∧ Grow w w'
  | .ok v => ∃ c : Cv, e = .returned (.tuple #[c.agg, .int .i64 0]) ∧ InS w' w.heap.size w'.heap.size v c ∧ Grow w w'

theorem set5_from {W : World} {vb : Nat} {t : TypeId} {c : Cv} {c0 c1 c2 c3 c4 : Value} (h : Blk W vb t #[c0, c1, c2, c3, c4]) : Blk (set5 W vb c) vb t c.cells := by
  have := ((((h.set_ 0 (.int .i64 c.k)).set_ 1 (.int .u64 c.n)).set_ 2 (.slice c.aB c.nB c.cB)).set_ 3 (.slice c.aL c.nL c.cL)).set_ 4 (.slice c.aF c.nF c.cF)
  exact this
theorem get_results {W : World} {vb eb : Nat} {tmps : Array Value} (h2 : tmps.getD 2 undef = .pointer (some ⟨vb, 0, none⟩)) (h3 : tmps.getD 3 undef = .pointer (some ⟨eb, 0, none⟩)) (c : Cv) (e : Int) (hv : Blk W vb 37 c.cells) (he : Blk W eb 26 #[.int .i64 e]) :
    (results Tryd.f37 tmps).run Tryd.prog W = .ok (.tuple #[c.agg, .int .i64 e]) W := by
  have hvc := hv.cell
  have hec := he.cell
  have h2' : tmps[2]?.getD undef = .pointer (some ⟨vb, 0, none⟩) := by simpa using h2
  have h3' : tmps[3]?.getD undef = .pointer (some ⟨eb, 0, none⟩) := by simpa using h3
  simp [results, Tryd.results37, go_sem, h2', h3', hvc, hec]

set_option maxRecDepth 100000 in
set_option maxHeartbeats 1600000 in
theorem get_any (bs : List UInt8) (A : Option Addr) (cap : Nat) (w : World) (hT : Tabs w) (hb : InB w A bs) (hl : bs.length ≤ 140737488355328) (hcap : bs.length ≤ cap) :
    Calls Tryd.prog 37 #[.slice A bs.length cap] w (GetC w (rdAll bs)) := by
  have hmf : ∀ (fn : Fn) (first cap : Array Value) (w : World), (Instr.makeFunc fn first cap).run Tryd.prog w = .ok (.func fn first cap) w := fun _ _ _ _ => rfl
  have HT := hide hT
  have HB := hide hb
  have hTl := hT.lt
  clear hT hb
  obtain ⟨got, hgot⟩ : ∃ g, rdAll bs = g := ⟨_, rfl⟩
  rw [hgot]
  have HG := hide hgot
  clear hgot
  by_cases h4 : 4096 < bs.length
  · have hres : got = .error 2 := by rw [← HG.out, rdAll, if_pos h4]
    subst hres
    go_enter_defers Tryd.func37, Tryd.ntmps37
    go_wp2_with fail
    exact ⟨_, get_results rfl rfl Cv.zero 2 ((Blk.new w _ _).alloc _) (Blk.new' (by simp) _ _), rfl, ((Grow.refl w).alloc _).alloc _⟩
  · have hF := value_any 16 0 (w.heap.size + 1 + 1) rfl (by omega)
    obtain ⟨W3, hW3⟩ : ∃ W, W = ((w.alloc (.cells #[.int .i64 0, .int .u64 0, .slice none 0 0, .slice none 0 0, .slice none 0 0] 37)).alloc (.cells #[.int .i64 0] 26)).alloc (.cells #[.slice A bs.length cap] 106) := ⟨_, rfl⟩
    have hG3 : Grow w W3 := by rw [hW3]; exact (((Grow.refl w).alloc _).alloc _).alloc _
    have hV3 : Blk W3 w.heap.size 37 #[.int .i64 0, .int .u64 0, .slice none 0 0, .slice none 0 0, .slice none 0 0] := by rw [hW3]; exact ((Blk.new w _ _).alloc _).alloc _
    have hE3 : Blk W3 (w.heap.size + 1) 26 #[.int .i64 0] := by rw [hW3]; exact (Blk.new' (by simp) _ _).alloc _
    have hP3 : Blk W3 (w.heap.size + 1 + 1) 106 #[.slice A bs.length cap] := by rw [hW3]; exact Blk.new' (by simp) _ _
    have hR3 : Rd W3 (w.heap.size + 1 + 1) bs := ⟨A, cap, hP3, hcap, hl, Reads.mono (AtW.below hG3.below (Nat.le_refl _) (Nat.le_refl _) (by omega)) HB.out⟩
    have hcall := hF W3 bs (HT.out.grow hG3) hR3
    have HG3 := hide hG3
    have HV3 := hide hV3
    have HE3 := hide hE3
    have HW3 := hide hW3
    clear hF hG3 hV3 hE3 hP3 hR3 hW3
    cases hrd : rd 16 bs with
    | error ee =>
      have hres : got = .error ee := by rw [← HG.out, rdAll, if_neg h4, hrd]
      subst hres
      rw [hrd, HW3.out] at hcall
      have HC := hide hcall
      clear hcall hrd
      go_enter_defers Tryd.func37, Tryd.ntmps37
      go_wp2_with fail
      refine HC.out.mono ?_
      rintro e' W4 ⟨rfl, hg⟩
      rw [← HW3.out] at hg
      have HV4 := hide (Blk.grownBy HV3.out hg (by omega))
      have HE4 := hide (Blk.grownBy HE3.out hg (by omega))
      have HG4 := hide (HG3.out.grown hg (fun k e => by injection e with e; omega))
      clear hg
      go_wp2_with fail
      refine leaves_cons (f := 62) (args := #[.pointer (some ⟨w.heap.size, 0, none⟩), .pointer (some ⟨w.heap.size + 1, 0, none⟩)]) (by simp) (by simp [go_sem]) ?_
      refine (catch_panicking w.heap.size (w.heap.size + 1) ee _ _ _ _ _ _ [] _ HV4.out HE4.out (by omega)).mono ?_
      rintro r u' w'' ⟨rfl, rfl, rfl⟩
      exact ⟨_, get_results rfl rfl Cv.zero ee ((((((HV4.out.set_ 0 _).set_ 1 _).set_ 2 _).set_ 3 _).set_ 4 _).far (by simp) _) (((((((HE4.out.far (by simp) _).far (by simp) _).far (by simp) _).far (by simp) _).far (by simp) _)).set_ 0 _), rfl, ((((((HG4.out.setCell (by simp) _).setCell (by simp) _).setCell (by simp) _).setCell (by simp) _).setCell (by simp) _).setCell (by simp) _)⟩
    | ok vr =>
      obtain ⟨v, r⟩ := vr
      rw [hrd, HW3.out] at hcall
      have HC := hide hcall
      have HRD := hide hrd
      clear hcall hrd
      go_enter_defers Tryd.func37, Tryd.ntmps37
      go_wp2_with fail
      refine HC.out.mono ?_
      rintro e' W4 ⟨c, rfl, hin, hr, hg⟩
      rw [← HW3.out] at hg hin
      obtain ⟨A', c', hb', _, _, _⟩ := hr
      have hV4 := Blk.grownBy HV3.out hg (by omega)
      have hvc := hV4.cell
      have hvf := hV4.frozen
      have hE4 := Blk.grownBy HE3.out hg (by omega)
      have hec := hE4.cell
      have hef := hE4.frozen
      have hpc := hb'.cell
      have HV4 := hide hV4
      have HE4 := hide hE4
      have HG4 := hide (HG3.out.grown hg (fun k e => by injection e with e; omega))
      have HI := hide hin
      clear hg hin hV4 hE4 hb'
      cases r with
      | nil =>
        have hres : got = .ok v := by rw [← HG.out, rdAll, if_neg h4, HRD.out]; rfl
        subst hres
        go_wp2_with fail
        have hs5 := set5_grown W4 w.heap.size c
        have HV5 := hide (set5_from (c := c) HV4.out)
        have HE5 := hide (HE4.out.own hs5 (fun k e => by injection e with e; omega))
        have HG5 := hide (HG4.out.grown hs5 (fun k e => by injection e with e; omega))
        have HI5 := hide (HI.out.blocks hs5.size (fun k h1 h2 => hs5.block k (Nat.lt_of_lt_of_le h2 HI.out.1) (fun e => by injection e with e; have := HV3.out.lt; omega)))
        change Calls _ _ _ (set5 W4 w.heap.size c) _
        generalize set5 W4 w.heap.size c = W5 at HV5 HE5 HG5 HI5 ⊢
        clear hs5 hvc hvf hec hef hpc
        have hvc := HV5.out.cell
        have hvf := HV5.out.frozen
        have hec := HE5.out.cell
        have hef := HE5.out.frozen
        refine (must_yes _ _).mono ?_
        rintro e w5 ⟨rfl, rfl⟩
        go_wp2_with fail
        refine leaves_cons (f := 62) (args := #[.pointer (some ⟨w.heap.size, 0, none⟩), .pointer (some ⟨w.heap.size + 1, 0, none⟩)]) (by simp) (by simp [go_sem]) ?_
        refine (catch_idle w.heap.size (w.heap.size + 1) _).mono ?_
        rintro r u' w'' ⟨rfl, rfl, rfl⟩
        have hs6 := set5_grown W5 w.heap.size c
        have hs7 := grown_set (set5 W5 w.heap.size c) (w.heap.size + 1) 0 (.int .i64 0)
        have h3l := HE3.out.lt
        have hI7 := (HI5.out.blocks hs6.size (fun k h1 h2 => hs6.block k (Nat.lt_of_lt_of_le h2 HI5.out.1) (fun e => by injection e with e; omega)))
        have hI8 := (hI7.blocks hs7.size (fun k h1 h2 => hs7.block k (Nat.lt_of_lt_of_le h2 hI7.1) (fun e => by injection e with e; omega)))
        exact ⟨_, get_results rfl rfl c 0 ((set5_blk HV5.out).far (by simp) _) (Blk.set_ (HE5.out.own hs6 (fun k e => by injection e with e; omega)) 0 _), c, rfl, hI8.wider (by have := HG3.out.size; omega) (Nat.le_trans HI5.out.1 (Nat.le_trans hs6.size hs7.size)) (Nat.le_refl _), (HG5.out.grown hs6 (fun k e => by injection e with e; omega)).grown hs7 (fun k e => by injection e with e; omega)⟩
      | cons a r' =>
        have hres : got = .error 4 := by rw [← HG.out, rdAll, if_neg h4, HRD.out]; rfl
        subst hres
        have hnz : ((r'.length : Int) + 1 == 0) = false := by simp; omega
        go_wp2_with fail
        have hs5 := set5_grown W4 w.heap.size c
        have HV5 := hide (set5_from (c := c) HV4.out)
        have HE5 := hide (HE4.out.own hs5 (fun k e => by injection e with e; omega))
        have HG5 := hide (HG4.out.grown hs5 (fun k e => by injection e with e; omega))
        change Calls _ _ _ (set5 W4 w.heap.size c) _
        generalize set5 W4 w.heap.size c = W5 at HV5 HE5 HG5 ⊢
        clear hs5 hvc hvf hec hef hpc
        refine (must_no _ _).mono ?_
        rintro e w5 ⟨rfl, rfl⟩
        go_wp2_with fail
        refine leaves_cons (f := 62) (args := #[.pointer (some ⟨w.heap.size, 0, none⟩), .pointer (some ⟨w.heap.size + 1, 0, none⟩)]) (by simp) (by simp [go_sem]) ?_
        refine (catch_panicking w.heap.size (w.heap.size + 1) 4 _ _ _ _ _ _ [] _ HV5.out HE5.out (by omega)).mono ?_
        rintro r u' w'' ⟨rfl, rfl, rfl⟩
        exact ⟨_, get_results rfl rfl Cv.zero 4 ((((((HV5.out.set_ 0 _).set_ 1 _).set_ 2 _).set_ 3 _).set_ 4 _).far (by simp) _) (((((((HE5.out.far (by simp) _).far (by simp) _).far (by simp) _).far (by simp) _).far (by simp) _)).set_ 0 _), rfl, ((((((HG5.out.setCell (by simp) _).setCell (by simp) _).setCell (by simp) _).setCell (by simp) _).setCell (by simp) _).setCell (by simp) _)⟩
end Go.Proofs.YtcdbchifigonpaaDoor
