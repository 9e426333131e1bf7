/- Walks: the document's answer: get: what holds no values. Written by wip/tools/gen_rget.py. -/
import Derived.Test.YthjjmndjfoebgaaDoorGet
set_option linter.unusedVariables false
set_option linter.unusedSimpArgs false
namespace Go.Proofs.YthjjmndjfoebgaaDoor
open Go.RowKit Go.Shelf

/-- What the document's reader tells, from a place on. -/
def RefC (w : World) (b : List UInt8) (got : Got) (e : Ending) (w' : World) : Prop :=
  match got with
  | .error x => e = .returned (.tuple #[Cv.zero.agg, .int .i64 0, .int .i64 x]) ∧ Grow w w'
  | .ok (v, r) => ∃ (c : Cv) (p : Nat), e = .returned (.tuple #[c.agg, .int .i64 (p : Int), .int .i64 0]) ∧ InS w' w.heap.size w'.heap.size v c ∧ Grow w w' ∧ r = b.drop p ∧ p ≤ b.length

theorem refres {W : World} {vb : Nat} {tmps : Array Value} {a e : Int} (h6 : tmps.getD 6 undef = .pointer (some ⟨vb, 0, none⟩)) (h7 : tmps.getD 7 undef = .int .i64 a) (h8 : tmps.getD 8 undef = .int .i64 e) (c : Cv) (hv : Blk W vb 27 c.cells) :
    (results Tryd.f145 tmps).run Tryd.prog W = .ok (.tuple #[c.agg, .int .i64 a, .int .i64 e]) W := by
  have hvc := hv.cell
  have h6' : tmps[6]?.getD undef = .pointer (some ⟨vb, 0, none⟩) := by simpa using h6
  have h7' : tmps[7]?.getD undef = .int .i64 a := by simpa using h7
  have h8' : tmps[8]?.getD undef = .int .i64 e := by simpa using h8
  simp [results, Tryd.results145, go_sem, h6', h7', h8', hvc]
/-- The ways out. -/
theorem ref_err {w W : World} {b : List UInt8} {tmps : Array Value} {vb : Nat} {x : Int} (h6 : tmps.getD 6 undef = .pointer (some ⟨vb, 0, none⟩)) (h7 : tmps.getD 7 undef = .int .i64 0) (h8 : tmps.getD 8 undef = .int .i64 x) (hB : Blk W vb 27 Cv.zero.cells) (hg : Grow w W) :
    bodyPost Tryd.prog Tryd.f145 (RefC w b (.error x)) .ret { tmps := tmps, defers := [] } W :=
  bodyPost_ret (refres h6 h7 h8 Cv.zero hB) rfl ⟨rfl, hg⟩
theorem ref_ok {w W : World} {b : List UInt8} {tmps : Array Value} {vb p : Nat} {c : Cv} {v : V} {r : List UInt8} (h6 : tmps.getD 6 undef = .pointer (some ⟨vb, 0, none⟩)) (h7 : tmps.getD 7 undef = .int .i64 (p : Int)) (h8 : tmps.getD 8 undef = .int .i64 0) (hB : Blk W vb 27 c.cells) (hg : Grow w W)
    (hin : InS W w.heap.size W.heap.size v c) (hr : r = b.drop p) (hp : p ≤ b.length) :
    bodyPost Tryd.prog Tryd.f145 (RefC w b (.ok (v, r))) .ret { tmps := tmps, defers := [] } W :=
  bodyPost_ret (refres h6 h7 h8 c hB) rfl ⟨c, p, rfl, hin, hg, hr, hp⟩
theorem InS.flat0 {w : World} {lo hi : Nat} {v : V} {c : Cv} (hz : hi ≤ w.heap.size) (h0 : v.l = [] ∧ v.f = []) (hv : IsV (fun _ _ => False) v c) : InS w lo hi v c :=
  ⟨hz, IsS.flat h0 (fun _ _ h => h.elim) hv⟩

set_option maxRecDepth 100000 in
set_option maxHeartbeats 1600000 in
theorem rget_none (above at_ : Nat) (b : List UInt8) (A : Option Addr) (cap : Nat) (w : World) (hb : InB w A b) (hl : b.length ≤ 140737488355328) (hcap : b.length ≤ cap) (hat : at_ = b.length) :
    Calls Tryd.prog 145 #[.slice A b.length cap, .int .i64 at_, .int .i64 above] w (RefC w b (.error 4)) := by
  have hge : b.length ≤ at_ := by omega
  clear hat hb
  go_enter Tryd.func145, Tryd.ntmps145
  go_wp2_with fail
  exact ref_err rfl rfl rfl ((Blk.new w _ _).alloc _) (((Grow.refl w).alloc _).alloc _)
set_option maxRecDepth 100000 in
set_option maxHeartbeats 1600000 in
theorem rget_low (above at_ : Nat) (b : List UInt8) (A : Option Addr) (cap : Nat) (w : World) (hb : InB w A b) (hl : b.length ≤ 140737488355328) (hcap : b.length ≤ cap) (hat : at_ < b.length) (k : Nat) (hk : b[at_].toNat = k) (hk1 : k < 1) :
    Calls Tryd.prog 145 #[.slice A b.length cap, .int .i64 at_, .int .i64 above] w (RefC w b (.error 4)) := by
  have HB := hide hb
  obtain ⟨bk, o, rfl, hbk, e0⟩ := hb.at_ at_ (by omega)
  rw [hk] at e0
  clear hb hk
  go_enter Tryd.func145, Tryd.ntmps145
  go_wp2_with fail
  exact ref_err rfl rfl rfl ((Blk.new w _ _).alloc _) (((Grow.refl w).alloc _).alloc _)
set_option maxRecDepth 100000 in
set_option maxHeartbeats 1600000 in
theorem rget_high (above at_ : Nat) (b : List UInt8) (A : Option Addr) (cap : Nat) (w : World) (hb : InB w A b) (hl : b.length ≤ 140737488355328) (hcap : b.length ≤ cap) (hat : at_ < b.length) (k : Nat) (hk : b[at_].toNat = k) (hk1 : 8 < k) :
    Calls Tryd.prog 145 #[.slice A b.length cap, .int .i64 at_, .int .i64 above] w (RefC w b (.error 4)) := by
  have HB := hide hb
  obtain ⟨bk, o, rfl, hbk, e0⟩ := hb.at_ at_ (by omega)
  rw [hk] at e0
  clear hb hk
  go_enter Tryd.func145, Tryd.ntmps145
  go_wp2_with fail
  exact ref_err rfl rfl rfl ((Blk.new w _ _).alloc _) (((Grow.refl w).alloc _).alloc _)
set_option maxRecDepth 100000 in
set_option maxHeartbeats 1600000 in
theorem rget_1 (above at_ : Nat) (b : List UInt8) (A : Option Addr) (cap : Nat) (w : World) (hb : InB w A b) (hl : b.length ≤ 140737488355328) (hcap : b.length ≤ cap) (hat : at_ < b.length) (hk : b[at_].toNat = 1) :
    Calls Tryd.prog 145 #[.slice A b.length cap, .int .i64 at_, .int .i64 above] w (RefC w b (.ok (.mk 1 0 [] [] [], b.drop (at_ + 1)))) := by
  have HB := hide hb
  obtain ⟨bk, o, rfl, hbk, e0⟩ := hb.at_ at_ (by omega)
  rw [hk] at e0
  clear hb hk
  go_enter Tryd.func145, Tryd.ntmps145
  go_wp2_with fail
  exact ref_ok (p := at_ + 1) (c := ⟨1, 0, none, 0, 0, none, 0, 0, none, 0, 0⟩) rfl (by go_num) rfl (((Blk.new w _ _).alloc _).alloc _) ((((Grow.refl w).alloc _).alloc _).alloc _) (InS.flat0 (Nat.le_refl _) ⟨rfl, rfl⟩ (by rw [IsV]; simp [Reads, u8s])) rfl (by omega)
set_option maxRecDepth 100000 in
set_option maxHeartbeats 1600000 in
theorem rget_2a (above at_ : Nat) (b : List UInt8) (A : Option Addr) (cap : Nat) (w : World) (hb : InB w A b) (hl : b.length ≤ 140737488355328) (hcap : b.length ≤ cap) (hat : at_ + 1 = b.length) (hk : b[at_].toNat = 2) :
    Calls Tryd.prog 145 #[.slice A b.length cap, .int .i64 at_, .int .i64 above] w (RefC w b (.error 4)) := by
  have HB := hide hb
  obtain ⟨bk, o, rfl, hbk, e0⟩ := hb.at_ at_ (by omega)
  rw [hk] at e0
  clear hb hk
  have hge : b.length ≤ at_ + 1 := by omega
  have hlt : at_ < b.length := by omega
  clear hat
  go_enter Tryd.func145, Tryd.ntmps145
  go_wp2_with fail
  exact ref_err rfl rfl rfl (((Blk.new w _ _).alloc _).alloc _) ((((Grow.refl w).alloc _).alloc _).alloc _)
set_option maxRecDepth 100000 in
set_option maxHeartbeats 1600000 in
theorem rget_2b (above at_ : Nat) (b : List UInt8) (A : Option Addr) (cap : Nat) (w : World) (hb : InB w A b) (hl : b.length ≤ 140737488355328) (hcap : b.length ≤ cap) (hat : at_ + 1 < b.length) (hk : b[at_].toNat = 2) (x : Nat) (hx : b[at_ + 1].toNat = x) (hx1 : x ≤ 1) :
    Calls Tryd.prog 145 #[.slice A b.length cap, .int .i64 at_, .int .i64 above] w (RefC w b (.ok (.mk 2 x [] [] [], b.drop (at_ + 2)))) := by
  have HB := hide hb
  obtain ⟨bk, o, rfl, hbk, e0⟩ := hb.at_ at_ (by omega)
  rw [hk] at e0
  clear hb hk
  obtain ⟨p, hp⟩ : ∃ p, p = at_ + 1 := ⟨_, rfl⟩
  have hpp : (at_ : Int) + 1 = (p : Int) := by omega
  obtain ⟨bk', o', e', hbk', e1⟩ := HB.out.at_ p (by omega)
  injection e' with e'
  injection e' with e1' e2'
  subst e1' e2'
  have hx2 : b[p].toNat = x := by subst hp; exact hx
  rw [hx2] at e1
  have e1 := (((((Grow.refl w).alloc (.cells Cv.zero.cells 27)).alloc (.cells Cv.zero.cells 27)).alloc (.cells (Cv.cells ⟨2, 0, none, 0, 0, none, 0, 0, none, 0, 0⟩) 27)).below.cell (p := ⟨bk, o + p, none⟩) hbk).trans e1
  have HP := hide hp
  have hpl : p < b.length := by omega
  clear hx hx2 hp
  go_enter Tryd.func145, Tryd.ntmps145
  go_wp2_with fail
  exact ref_ok (p := p + 1) (c := ⟨2, x, none, 0, 0, none, 0, 0, none, 0, 0⟩) rfl (by go_num) rfl (((Blk.new w _ _).alloc _).alloc _) ((((Grow.refl w).alloc _).alloc _).alloc _) (InS.flat0 (Nat.le_refl _) ⟨rfl, rfl⟩ (by rw [IsV]; simp [Reads, u8s]; omega)) (by rw [HP.out]) (by omega)
set_option maxRecDepth 100000 in
set_option maxHeartbeats 1600000 in
theorem rget_2c (above at_ : Nat) (b : List UInt8) (A : Option Addr) (cap : Nat) (w : World) (hb : InB w A b) (hl : b.length ≤ 140737488355328) (hcap : b.length ≤ cap) (hat : at_ + 1 < b.length) (hk : b[at_].toNat = 2) (x : Nat) (hx : b[at_ + 1].toNat = x) (hx1 : 1 < x) :
    Calls Tryd.prog 145 #[.slice A b.length cap, .int .i64 at_, .int .i64 above] w (RefC w b (.error 4)) := by
  have HB := hide hb
  obtain ⟨bk, o, rfl, hbk, e0⟩ := hb.at_ at_ (by omega)
  rw [hk] at e0
  clear hb hk
  obtain ⟨p, hp⟩ : ∃ p, p = at_ + 1 := ⟨_, rfl⟩
  have hpp : (at_ : Int) + 1 = (p : Int) := by omega
  obtain ⟨bk', o', e', hbk', e1⟩ := HB.out.at_ p (by omega)
  injection e' with e'
  injection e' with e1' e2'
  subst e1' e2'
  have hx2 : b[p].toNat = x := by subst hp; exact hx
  rw [hx2] at e1
  have e1 := (((((Grow.refl w).alloc (.cells Cv.zero.cells 27)).alloc (.cells Cv.zero.cells 27)).alloc (.cells (Cv.cells ⟨2, 0, none, 0, 0, none, 0, 0, none, 0, 0⟩) 27)).below.cell (p := ⟨bk, o + p, none⟩) hbk).trans e1
  have HP := hide hp
  have hpl : p < b.length := by omega
  clear hx hx2 hp
  go_enter Tryd.func145, Tryd.ntmps145
  go_wp2_with fail
  exact ref_err rfl rfl rfl (((Blk.new w _ _).alloc _).alloc _) ((((Grow.refl w).alloc _).alloc _).alloc _)
set_option maxRecDepth 100000 in
set_option maxHeartbeats 1600000 in
theorem rget_3a (above at_ : Nat) (b : List UInt8) (A : Option Addr) (cap : Nat) (w : World) (hb : InB w A b) (hl : b.length ≤ 140737488355328) (hcap : b.length ≤ cap) (hat : at_ < b.length) (hat2 : b.length < at_ + 1 + 8) (hk : b[at_].toNat = 3) :
    Calls Tryd.prog 145 #[.slice A b.length cap, .int .i64 at_, .int .i64 above] w (RefC w b (.error 4)) := by
  have HB := hide hb
  obtain ⟨bk, o, rfl, hbk, e0⟩ := hb.at_ at_ (by omega)
  rw [hk] at e0
  clear hb hk
  go_enter Tryd.func145, Tryd.ntmps145
  go_wp2_with fail
  exact ref_err rfl rfl rfl (((Blk.new w _ _).alloc _).alloc _) ((((Grow.refl w).alloc _).alloc _).alloc _)
set_option maxRecDepth 100000 in
set_option maxHeartbeats 1600000 in
theorem rget_3b (above at_ : Nat) (b : List UInt8) (A : Option Addr) (cap : Nat) (w : World) (hb : InB w A b) (hl : b.length ≤ 140737488355328) (hcap : b.length ≤ cap) (hat : at_ + 1 + 8 ≤ b.length) (hk : b[at_].toNat = 3) :
    Calls Tryd.prog 145 #[.slice A b.length cap, .int .i64 at_, .int .i64 above] w (RefC w b (.ok (.mk 3 (le ((b.drop (at_ + 1)).take 8)) [] [] [], b.drop (at_ + 1 + 8)))) := by
  have HB := hide hb
  obtain ⟨bk, o, rfl, hbk, e0⟩ := hb.at_ at_ (by omega)
  rw [hk] at e0
  clear hb hk
  have hlt := le_lt ((b.drop (at_ + 1)).take 8)
  rw [show ((b.drop (at_ + 1)).take 8).length = 8 by rw [List.length_take, List.length_drop]; omega] at hlt
  obtain ⟨n, hn⟩ : ∃ n, le ((b.drop (at_ + 1)).take 8) = n := ⟨_, rfl⟩
  rw [hn] at hlt ⊢
  have HN := hide hn
  have HLT := hide (show n < 18446744073709551616 from by simpa using hlt)
  clear hn hlt
  have hc8 := refGet_any b (some ⟨bk, o, none⟩) cap (at_ + 1) 8 _ (HB.out.grow ((((Grow.refl w).alloc (.cells Cv.zero.cells 27)).alloc (.cells Cv.zero.cells 27)).alloc (.cells (Cv.cells ⟨3, 0, none, 0, 0, none, 0, 0, none, 0, 0⟩) 27))) (by omega) hat hl
  rw [HN.out, show (((at_ + 1 : Nat)) : Int) = (at_ : Int) + 1 by omega] at hc8
  have HC := hide hc8
  clear hc8
  go_enter Tryd.func145, Tryd.ntmps145
  go_wp2_with fail
  refine HC.out.mono ?_
  rintro e w' ⟨rfl, rfl⟩
  go_wp2_with fail
  exact ref_ok (p := at_ + 1 + 8) (c := ⟨3, n, none, 0, 0, none, 0, 0, none, 0, 0⟩) rfl (by go_num) rfl (((Blk.new w _ _).alloc _).alloc _) ((((Grow.refl w).alloc _).alloc _).alloc _) (InS.flat0 (Nat.le_refl _) ⟨rfl, rfl⟩ (by rw [IsV]; simp [Reads, u8s]; exact HLT.out)) rfl (by omega)
set_option maxRecDepth 100000 in
set_option maxHeartbeats 1600000 in
theorem rget_4a (above at_ : Nat) (b : List UInt8) (A : Option Addr) (cap : Nat) (w : World) (hb : InB w A b) (hl : b.length ≤ 140737488355328) (hcap : b.length ≤ cap) (hat : at_ < b.length) (hat2 : b.length < at_ + 1 + 8) (hk : b[at_].toNat = 4) :
    Calls Tryd.prog 145 #[.slice A b.length cap, .int .i64 at_, .int .i64 above] w (RefC w b (.error 4)) := by
  have HB := hide hb
  obtain ⟨bk, o, rfl, hbk, e0⟩ := hb.at_ at_ (by omega)
  rw [hk] at e0
  clear hb hk
  go_enter Tryd.func145, Tryd.ntmps145
  go_wp2_with fail
  exact ref_err rfl rfl rfl (((Blk.new w _ _).alloc _).alloc _) ((((Grow.refl w).alloc _).alloc _).alloc _)
set_option maxRecDepth 100000 in
set_option maxHeartbeats 1600000 in
theorem rget_4b (above at_ : Nat) (b : List UInt8) (A : Option Addr) (cap : Nat) (w : World) (hb : InB w A b) (hl : b.length ≤ 140737488355328) (hcap : b.length ≤ cap) (hat : at_ + 1 + 8 ≤ b.length) (hk : b[at_].toNat = 4) :
    Calls Tryd.prog 145 #[.slice A b.length cap, .int .i64 at_, .int .i64 above] w (RefC w b (.ok (.mk 4 (le ((b.drop (at_ + 1)).take 8)) [] [] [], b.drop (at_ + 1 + 8)))) := by
  have HB := hide hb
  obtain ⟨bk, o, rfl, hbk, e0⟩ := hb.at_ at_ (by omega)
  rw [hk] at e0
  clear hb hk
  have hlt := le_lt ((b.drop (at_ + 1)).take 8)
  rw [show ((b.drop (at_ + 1)).take 8).length = 8 by rw [List.length_take, List.length_drop]; omega] at hlt
  obtain ⟨n, hn⟩ : ∃ n, le ((b.drop (at_ + 1)).take 8) = n := ⟨_, rfl⟩
  rw [hn] at hlt ⊢
  have HN := hide hn
  have HLT := hide (show n < 18446744073709551616 from by simpa using hlt)
  clear hn hlt
  have hc8 := refGet_any b (some ⟨bk, o, none⟩) cap (at_ + 1) 8 _ (HB.out.grow ((((Grow.refl w).alloc (.cells Cv.zero.cells 27)).alloc (.cells Cv.zero.cells 27)).alloc (.cells (Cv.cells ⟨4, 0, none, 0, 0, none, 0, 0, none, 0, 0⟩) 27))) (by omega) hat hl
  rw [HN.out, show (((at_ + 1 : Nat)) : Int) = (at_ : Int) + 1 by omega] at hc8
  have HC := hide hc8
  clear hc8
  go_enter Tryd.func145, Tryd.ntmps145
  go_wp2_with fail
  refine HC.out.mono ?_
  rintro e w' ⟨rfl, rfl⟩
  go_wp2_with fail
  exact ref_ok (p := at_ + 1 + 8) (c := ⟨4, n, none, 0, 0, none, 0, 0, none, 0, 0⟩) rfl (by go_num) rfl (((Blk.new w _ _).alloc _).alloc _) ((((Grow.refl w).alloc _).alloc _).alloc _) (InS.flat0 (Nat.le_refl _) ⟨rfl, rfl⟩ (by rw [IsV]; simp [Reads, u8s]; exact HLT.out)) rfl (by omega)
end Go.Proofs.YthjjmndjfoebgaaDoor
