/- Walks: the reader of values: must, take, byte, many. -/
import Derived.Test.YtojpeiihkjpeoaaDoorLib1
namespace Go.Proofs.YtojpeiihkjpeoaaDoor
open Go.RowKit

/-- What a thrown error is. -/
abbrev thrown (e : Int) : List PanicEntry := [{ v := .iface 22 (.int .i64 e), recovered := false }]

/-- The reader at block pb stands ahead of the bytes bs. -/
def Rd (w : World) (pb : Nat) (bs : List UInt8) : Prop :=
  ∃ A c, Blk w pb 146 #[.slice A bs.length c] ∧ bs.length ≤ c ∧ bs.length ≤ 140737488355328 ∧ Reads (AtW w 0 pb) 1 A bs.length (u8s bs)

theorem u8s_take (b : List UInt8) (n : Nat) : u8s (b.take n) = (u8s b).take n := by simp [u8s]
theorem u8s_drop (b : List UInt8) (n : Nat) : u8s (b.drop n) = (u8s b).drop n := by simp [u8s]

theorem AtW.grownBy {w w' : World} {lo hi pb : Nat} (hg : w.grownBy w' (some pb)) (h1 : hi ≤ pb) (p : Addr) (u : Value) (h : AtW w lo hi p u) : AtW w' lo hi p u :=
  ⟨World.grownBy.cell hg h.1 (fun e => by have := h.2.2; injection e with e; omega), h.2⟩
theorem Rd.grow {w w' : World} {pb : Nat} {bs : List UInt8} (h : Rd w pb bs) (hg : Grow w w') : Rd w' pb bs := by
  obtain ⟨A, c, hb, h1, h2, hr⟩ := h
  exact ⟨A, c, hb.grow hg, h1, h2, hr.mono (AtW.below hg.below (Nat.le_refl _) (Nat.le_of_lt hb.lt) (Nat.le_refl _))⟩
theorem Rd.lt {w : World} {pb : Nat} {bs : List UInt8} (h : Rd w pb bs) : pb < w.heap.size := by
  obtain ⟨A, c, hb, _⟩ := h; exact hb.lt

theorem Reads.take_ {C : Addr → Value → Prop} {A : Option Addr} {n : Nat} {xs : List Value} (h : Reads C 1 A n xs) (k : Nat) (hk : k ≤ n) : Reads C 1 A k (xs.take k) := by
  refine ⟨by rw [List.length_take, h.1, Nat.mul_one, Nat.mul_one]; omega, fun hn => ?_⟩
  obtain ⟨bk, o, e, hc⟩ := h.2 (by omega)
  refine ⟨bk, o, e, fun j u hu => hc j u ?_⟩
  rw [List.getElem?_take] at hu
  split at hu
  · exact hu
  · cases hu
theorem Reads.drop_ {C : Addr → Value → Prop} {A : Option Addr} {n : Nat} {xs : List Value} (h : Reads C 1 A n xs) (k cap : Nat) (hk : k ≤ n) (hc : n ≤ cap) : Reads C 1 (if cap = k then A else A.map (·.add k)) (n - k) (xs.drop k) := by
  refine ⟨by rw [List.length_drop, h.1, Nat.mul_one, Nat.mul_one], fun hn => ?_⟩
  obtain ⟨bk, o, rfl, hcell⟩ := h.2 (by omega)
  rw [if_neg (by omega)]
  refine ⟨bk, o + k, by simp [add_lit], fun j u hu => ?_⟩
  rw [List.getElem?_drop] at hu
  rw [Nat.add_assoc]
  exact hcell _ u hu

set_option maxHeartbeats 400000 in
theorem must_yes (e : Int) (w : World) :
    Calls Tryd.prog 104 #[.bool true, .int .i64 e] w fun e w' => e = .returned (.tuple #[]) ∧ w = w' := by
  go_enter Tryd.func104, Tryd.ntmps104
  go_wp2
  go_end0
  exact ⟨rfl, rfl⟩
set_option maxHeartbeats 400000 in
theorem must_no (e : Int) (w : World) :
    Calls Tryd.prog 104 #[.bool false, .int .i64 e] w fun r w' => r = .panicked (thrown e) ∧ w = w' := by
  go_enter Tryd.func104, Tryd.ntmps104
  go_wp2
  exact ⟨rfl, rfl, rfl⟩

set_option maxHeartbeats 400000 in
theorem take_no0 (pb : Nat) (A : Option Addr) (len cap : Nat) (n : Nat) (w : World) (hB : Blk w pb 146 #[.slice A len cap]) (hn : len < n) :
    Calls Tryd.prog 119 #[.pointer (some ⟨pb, 0, none⟩), .int .i64 n] w fun r w' => r = .panicked (thrown 4) ∧ w = w' := by
  have hp := hB.cell 0
  have hd : decide (n ≤ len) = false := by simp; omega
  clear hB
  go_enter Tryd.func119, Tryd.ntmps119
  go_wp2_with (go_at_call 104; refine (must_no _ _).mono ?_; rintro e w' ⟨rfl, rfl⟩)
  exact ⟨rfl, rfl, rfl⟩
set_option maxHeartbeats 400000 in
theorem take_yes0 (pb : Nat) (A : Option Addr) (len cap : Nat) (n : Nat) (w : World) (hB : Blk w pb 146 #[.slice A len cap]) (hc : len ≤ cap) (hn : n ≤ len) :
    Calls Tryd.prog 119 #[.pointer (some ⟨pb, 0, none⟩), .int .i64 n] w fun r w' => r = .returned (.slice A n n) ∧ w.setCell ⟨pb, 0, none⟩ (.slice (if cap = n then A else A.map (·.add n)) (len - n) (cap - n)) = w' := by
  have hp := hB.cell 0
  have hf := hB.frozen 0
  have hd : decide (n ≤ len) = true := by simp; omega
  clear hB
  go_enter Tryd.func119, Tryd.ntmps119
  go_wp2_with (go_at_call 104; refine (must_yes _ _).mono ?_; rintro e w' ⟨rfl, rfl⟩)
  all_goals
    go_ret
    exact ⟨rfl, rfl⟩

theorem take_no (pb n : Nat) (bs : List UInt8) (w : World) (h : Rd w pb bs) (hn : bs.length < n) :
    Calls Tryd.prog 119 #[.pointer (some ⟨pb, 0, none⟩), .int .i64 n] w fun r w' => r = .panicked (thrown 4) ∧ w = w' := by
  obtain ⟨A, c, hb, h1, h2, hr⟩ := h
  exact take_no0 pb A _ c n w hb hn
theorem take_yes (pb n : Nat) (bs : List UInt8) (w : World) (h : Rd w pb bs) (hn : n ≤ bs.length) :
    Calls Tryd.prog 119 #[.pointer (some ⟨pb, 0, none⟩), .int .i64 n] w fun r w' =>
      ∃ A, r = .returned (.slice A n n) ∧ Reads (AtW w' 0 pb) 1 A n (u8s (bs.take n)) ∧ Rd w' pb (bs.drop n) ∧ w.grownBy w' (some pb) ∧ w'.heap.size = w.heap.size := by
  obtain ⟨A, c, hb, h1, h2, hr⟩ := h
  refine (take_yes0 pb A _ c n w hb h1 hn).mono ?_
  rintro r w' ⟨rfl, rfl⟩
  have hg : w.grownBy (w.setCell ⟨pb, 0, none⟩ (.slice (if c = n then A else A.map (·.add n)) (bs.length - n) (c - n))) (some pb) :=
    ⟨rfl, rfl, rfl, by simp [World.setCell], fun k _ hk => Below.heap_setCell w ⟨pb, 0, none⟩ _ k (fun e => hk (by rw [e]))⟩
  have hr' := hr.mono (AtW.grownBy hg (Nat.le_refl _))
  have hlen : (bs.drop n).length = bs.length - n := List.length_drop
  have hR : Rd (w.setCell ⟨pb, 0, none⟩ (.slice (if c = n then A else A.map (·.add n)) (bs.length - n) (c - n))) pb (bs.drop n) := by
    refine ⟨if c = n then A else A.map (·.add n), c - n, ?_, by omega, by omega, ?_⟩
    · rw [hlen]; exact hb.set_ 0 _
    · rw [hlen, u8s_drop]; exact hr'.drop_ n c hn h1
  exact ⟨A, rfl, by rw [u8s_take]; exact hr'.take_ n hn, hR, hg, by simp [World.setCell]⟩

set_option maxHeartbeats 400000 in
theorem byte_no (pb : Nat) (w : World) (h : Rd w pb []) :
    Calls Tryd.prog 118 #[.pointer (some ⟨pb, 0, none⟩)] w fun r w' => r = .panicked (thrown 4) ∧ w = w' := by
  have H := hide h
  clear h
  go_enter Tryd.func118, Tryd.ntmps118
  go_wp2_with fail
  refine (take_no pb 1 [] w H.out (by simp)).mono ?_
  rintro e w' ⟨rfl, rfl⟩
  go_wp2_with fail
  exact ⟨rfl, rfl, rfl⟩
set_option maxHeartbeats 400000 in
theorem byte_yes (pb : Nat) (x : UInt8) (bs : List UInt8) (w : World) (h : Rd w pb (x :: bs)) :
    Calls Tryd.prog 118 #[.pointer (some ⟨pb, 0, none⟩)] w fun r w' => r = .returned (.int .i64 (x.toNat : Int)) ∧ Rd w' pb bs ∧ w.grownBy w' (some pb) ∧ w'.heap.size = w.heap.size := by
  have H := hide h
  have hx := x.toNat_lt
  clear h
  go_enter Tryd.func118, Tryd.ntmps118
  go_wp2_with fail
  refine (take_yes pb 1 (x :: bs) w H.out (by simp)).mono ?_
  rintro e w' ⟨A, rfl, hr, hd, hg, hz⟩
  obtain ⟨bk, o, rfl, hc⟩ := hr.2 (by omega)
  have hc0 : w'.cell? ⟨bk, o, none⟩ = some (.int .u8 (x.toNat : Int)) := (hc 0 _ (by simp [u8s])).1
  have HD := hide hd
  have HG := hide hg
  have HZ := hide hz
  clear hr hd hg hc hz
  go_wp2_with fail
  go_ret
  exact ⟨ret_int (by omega), HD.out, HG.out, HZ.out⟩

set_option maxHeartbeats 400000 in
theorem many_no (pb : Nat) (w : World) (h : Rd w pb []) :
    Calls Tryd.prog 120 #[.pointer (some ⟨pb, 0, none⟩)] w fun r w' => r = .panicked (thrown 4) ∧ w = w' := by
  have H := hide h
  clear h
  go_enter Tryd.func120, Tryd.ntmps120
  go_wp2_with fail
  refine (byte_no pb w H.out).mono ?_
  rintro e w' ⟨rfl, rfl⟩
  go_wp2_with fail
  exact ⟨rfl, rfl, rfl⟩
set_option maxHeartbeats 400000 in
theorem many_over (pb : Nat) (x : UInt8) (bs : List UInt8) (w : World) (h : Rd w pb (x :: bs)) (hx : 64 < x.toNat) :
    Calls Tryd.prog 120 #[.pointer (some ⟨pb, 0, none⟩)] w fun r w' => r = .panicked (thrown 19) ∧ w.grownBy w' (some pb) := by
  have H := hide h
  clear h
  have hd : decide ((x.toNat : Int) ≤ 64) = false := by simp; omega
  go_enter Tryd.func120, Tryd.ntmps120
  go_wp2_with fail
  refine (byte_yes pb x bs w H.out).mono ?_
  rintro e w' ⟨rfl, hd, hg, hz⟩
  have HG := hide hg
  clear hd hg hz
  go_wp2_with fail
  refine (must_no _ _).mono ?_
  rintro e w2 ⟨rfl, rfl⟩
  go_wp2_with fail
  exact ⟨rfl, rfl, HG.out⟩
set_option maxHeartbeats 400000 in
theorem many_yes (pb : Nat) (x : UInt8) (bs : List UInt8) (w : World) (h : Rd w pb (x :: bs)) (hx : x.toNat ≤ 64) :
    Calls Tryd.prog 120 #[.pointer (some ⟨pb, 0, none⟩)] w fun r w' => r = .returned (.int .i64 (x.toNat : Int)) ∧ Rd w' pb bs ∧ w.grownBy w' (some pb) ∧ w'.heap.size = w.heap.size := by
  have H := hide h
  clear h
  have hd : decide ((x.toNat : Int) ≤ 64) = true := by simp; omega
  go_enter Tryd.func120, Tryd.ntmps120
  go_wp2_with fail
  refine (byte_yes pb x bs w H.out).mono ?_
  rintro e w' ⟨rfl, hd, hg, hz⟩
  have HG := hide hg
  have HD := hide hd
  have HZ := hide hz
  clear hd hg hz
  go_wp2_with fail
  refine (must_yes _ _).mono ?_
  rintro e w2 ⟨rfl, rfl⟩
  go_wp2_with fail
  go_ret
  exact ⟨rfl, HD.out, HG.out, HZ.out⟩
end Go.Proofs.YtojpeiihkjpeoaaDoor
