/- Walks: the sum of bytes: of the program and of the document's answer. · Walks: the frame at some bytes' beginning, by the program and by the document's answer; how many there are. · Walks: how many frames stand at some bytes' beginning, by the program and by the document's answer. -/
import Derived.Test.YtcdbchifigonpaaDoorLibG
import Derived.Test.YtcdbchifigonpaaDoorLibs
import Derived.Test.YtcdbchifigonpaaDoorWirePl
import Derived.Deep.DeepBigQuietO
import Derived.IntWalk
set_option linter.unusedVariables false
set_option linter.unusedSimpArgs false
namespace Go.Proofs.YtcdbchifigonpaaDoor
open Go.RowKit

theorem crcMore_take (r : Nat) (b : List UInt8) (j : Nat) (h : j < b.length) : crcMore r (b.take (j + 1)) = crcBits 8 (crcMore r (b.take j) ^^^ b[j].toNat) := by
  unfold crcMore
  rw [take_snoc b j h, List.foldl_append]; rfl

theorem and_one (r : Nat) (h : r < 4294967296) : bits .and .u32 (r : Int) 1 = ((r % 2 : Nat) : Int) := by
  have := u32_and_nat r 1 h (by decide)
  rw [Nat.and_one_is_mod] at this
  exact this
theorem xor_poly (r : Nat) (h : r < 4294967296) : bits .xor .u32 ((r : Int) / 2) 3988292384 = (((r / 2) ^^^ 3988292384 : Nat) : Int) := by
  have := u32_xor_nat (r / 2) 3988292384 (by omega) (by decide)
  rw [show ((r / 2 : Nat) : Int) = (r : Int) / 2 by omega] at this
  exact this
theorem xor_byte (r : Nat) (h : r < 4294967296) (x : UInt8) : bits .xor .u32 (r : Int) ((x.toNat : Int) % 4294967296) = ((r ^^^ x.toNat : Nat) : Int) := by
  have hx := x.toNat_lt
  rw [show (x.toNat : Int) % 4294967296 = (x.toNat : Int) by omega]
  exact u32_xor_nat r _ h (by omega)
theorem crcBit_odd (r : Nat) (h : r % 2 = 1) : crcBit r = (r / 2) ^^^ 3988292384 := by rw [crcBit, if_pos h]
theorem crcBit_even (r : Nat) (h : ¬ r % 2 = 1) : crcBit r = r / 2 := by rw [crcBit, if_neg h]

set_option maxHeartbeats 800000 in
theorem sumMore_any (s : Nat) (hs : s < 4294967296) (b : List UInt8) (A : Option Addr) (cap : Nat) (w : World) (hb : InB w A b) (hl : b.length ≤ 140737488400000) :
    Calls Tryd.prog 74 #[.int .u32 s, .slice A b.length cap] w fun e w' => e = .returned (.int .u32 ((crcMore (s ^^^ 4294967295) b ^^^ 4294967295 : Nat) : Int)) ∧ w = w' := by
  have HB := hide hb
  have hr0 : s ^^^ 4294967295 < 4294967296 := xor_lt32 hs (by decide)
  have hx0 := u32_xor_nat s 4294967295 hs (by decide)
  obtain ⟨R0, hR0⟩ : ∃ R, s ^^^ 4294967295 = R := ⟨_, rfl⟩
  rw [hR0] at hr0 hx0 ⊢
  have HX0 := hide hx0
  clear hb hR0 hx0
  go_enter Tryd.func74, Tryd.ntmps74
  go_wp2_with fail
  go_loopg [5, 12] (b.length + 1) (fun gk r i wr => w = wr ∧ ∃ j : Nat, j ≤ b.length ∧ gk + j = b.length + 1 ∧ i = .int .i64 j ∧ r = .int .u32 (crcMore R0 (b.take j) : Nat))
  case atStart => exact ⟨rfl, 0, by omega, by omega, rfl, congrArg _ HX0.out⟩
  case round =>
    obtain ⟨rfl, j, hj, hg, rfl, rfl⟩ := hrel
    obtain ⟨gk', rfl⟩ : ∃ g, gk = g + 1 := ⟨gk - 1, by omega⟩
    have hrl := crcMore_lt (b.take j) hr0
    by_cases hlt : j < b.length
    · obtain ⟨bk, o, rfl, hbk, e0⟩ := HB.out.at_ j hlt
      have HT := hide (crcMore_take R0 b j hlt)
      have hxb := xor_byte _ hrl b[j]
      have hxl := xor_lt32 hrl (show b[j].toNat < 4294967296 by have := b[j].toNat_lt; omega)
      obtain ⟨R1, hR1⟩ : ∃ R, crcMore R0 (b.take j) ^^^ b[j].toNat = R := ⟨_, rfl⟩
      rw [hR1] at hxb hxl
      have HR1 := hide hR1
      have HXB := hide hxb
      clear hR1 hxb
      go_wp2_with fail
      go_loopg [5, 20] 9 (fun gk2 r i wr => w = wr ∧ ∃ k : Nat, k ≤ 8 ∧ gk2 + k = 9 ∧ i = .int .i64 k ∧ r = .int .u32 (crcBits k R1 : Nat))
      case atStart => exact ⟨rfl, 0, by omega, by omega, rfl, congrArg _ HXB.out⟩
      case round =>
        obtain ⟨rfl, k, hk, hg2, rfl, rfl⟩ := hrel
        obtain ⟨gk2', rfl⟩ : ∃ g, gk = g + 1 := ⟨gk - 1, by omega⟩
        have HS := hide (crcBits_succ k R1)
        have hl2 := crcBits_lt k hxl
        obtain ⟨R, hR⟩ : ∃ R, crcBits k R1 = R := ⟨_, rfl⟩
        rw [hR] at hl2 HS ⊢
        have HR := hide hR
        clear hR
        by_cases hk8 : k < 8
        · have ha := and_one R hl2
          by_cases hodd : R % 2 = 1
          · rw [hodd] at ha
            have HO := hide (crcBit_odd R hodd)
            have HP := hide (xor_poly R hl2)
            clear hodd
            go_wp2_with fail
            go_roundg gk2'
            case measure => omega
            case rel => exact ⟨rfl, k + 1, by omega, by omega, by go_num, congrArg _ (by rw [HS.out, HO.out]; exact HP.out)⟩
          · rw [show R % 2 = 0 by omega] at ha
            have HO := hide (crcBit_even R hodd)
            clear hodd
            go_wp2_with fail
            go_roundg gk2'
            case measure => omega
            case rel => exact ⟨rfl, k + 1, by omega, by omega, by go_num, congrArg _ (by rw [HS.out, HO.out]; omega)⟩
        · obtain rfl : k = 8 := by omega
          clear hg2 hk8
          go_wp2_with fail
          go_roundg gk'
          case measure => omega
          case rel => exact ⟨rfl, j + 1, by omega, by omega, by go_num, congrArg _ (by rw [HT.out, HR1.out, HR.out])⟩
    · obtain rfl : j = b.length := by omega
      rw [List.take_length] at hrl ⊢
      have HF := hide (u32_xor_nat _ 4294967295 hrl (by decide))
      clear hg hlt
      go_wp2_with fail
      go_ret
      exact ⟨ret_int HF.out, rfl⟩
theorem sumOf_any (b : List UInt8) (A : Option Addr) (cap : Nat) (w : World) (hb : InB w A b) (hl : b.length ≤ 140737488400000) :
    Calls Tryd.prog 53 #[.slice A b.length cap] w fun e w' => e = .returned (.int .u32 (crc b : Nat)) ∧ w = w' := by
  have HB := hide hb
  clear hb
  go_enter Tryd.func53, Tryd.ntmps53
  go_wp2_with fail
  refine (sumMore_any 0 (by decide) b A cap w HB.out hl).mono ?_
  rintro e w' ⟨rfl, rfl⟩
  go_wp2_with fail
  go_ret
  exact ⟨rfl, rfl⟩
end Go.Proofs.YtcdbchifigonpaaDoor

set_option linter.unusedVariables false
set_option linter.unusedSimpArgs false
namespace Go.Proofs.YtcdbchifigonpaaDoor
open Go.RowKit

theorem pre_yes {b : List UInt8} (h0 : ∀ h : 0 < b.length, b[0].toNat = 77) (h1 : ∀ h : 1 < b.length, b[1].toNat = 68) : (b.take 2).isPrefixOf [77, 68] = true := by
  match b, h0, h1 with
  | [], _, _ => rfl
  | [x], h0, _ =>
    have : x = 77 := UInt8.toNat_inj.1 (h0 (by simp))
    subst this; rfl
  | x :: y :: r, h0, h1 =>
    have e0 : x = 77 := UInt8.toNat_inj.1 (h0 (by simp))
    have e1 : y = 68 := UInt8.toNat_inj.1 (h1 (by simp))
    subst e0 e1; rfl
theorem pre_no0 {b : List UInt8} (h : 0 < b.length) (h0 : b[0].toNat ≠ 77) : (b.take 2).isPrefixOf [77, 68] = false := by
  match b, h, h0 with
  | x :: r, h, h0 =>
    have : x ≠ 77 := fun e => h0 (by rw [show (x :: r)[0] = x from rfl, e]; rfl)
    match r with
    | [] => show (x == 77 && _) = false; rw [beq_false_of_ne this]; rfl
    | y :: r => show (x == 77 && _) = false; rw [beq_false_of_ne this]; rfl
theorem pre_no1 {b : List UInt8} (h : 1 < b.length) (h0 : b[1].toNat ≠ 68) : (b.take 2).isPrefixOf [77, 68] = false := by
  match b, h, h0 with
  | x :: y :: r, h, h0 =>
    have : y ≠ 68 := fun e => h0 (by rw [show (x :: y :: r)[1] = y from rfl, e]; rfl)
    show (x == 77 && (y == 68 && _)) = false; rw [beq_false_of_ne this]; simp
theorem head_4 {b : List UInt8} (h : (b.take 2).isPrefixOf [77, 68] = false) : head b = (0, 4) := by rw [head, if_pos h]
theorem head_17 {b : List UInt8} (h : (b.take 2).isPrefixOf [77, 68] = true) (hl : b.length < 4) : head b = (0, 17) := by rw [head, h, if_neg (by decide), if_pos hl]
theorem head_2 {b : List UInt8} (h : (b.take 2).isPrefixOf [77, 68] = true) (hl : 4 ≤ b.length) (hn : 12000 < headN b) : head b = (0, 2) := by rw [head, h, if_neg (by decide), if_neg (by omega), if_pos hn]
theorem head_17b {b : List UInt8} (h : (b.take 2).isPrefixOf [77, 68] = true) (hl : 4 ≤ b.length) (hn : headN b ≤ 12000) (hm : b.length < headN b + 8) : head b = (0, 17) := by rw [head, h, if_neg (by decide), if_neg (by omega), if_neg (by omega), if_pos hm]
theorem head_all {b : List UInt8} (h : (b.take 2).isPrefixOf [77, 68] = true) (hl : 4 ≤ b.length) (hn : headN b ≤ 12000) (hm : headN b + 8 ≤ b.length) : head b = (headN b + 8, if le ((b.drop (headN b + 4)).take 4) = crc (b.take (headN b + 4)) then 0 else 8) := by rw [head, h, if_neg (by decide), if_neg (by omega), if_neg (by omega), if_neg (by omega)]
theorem headN_lt (b : List UInt8) : headN b < 65536 := by
  have h := le_lt ((b.drop 2).take 2)
  have : ((b.drop 2).take 2).length ≤ 2 := by rw [List.length_take]; omega
  have h2 : (256 : Nat) ^ ((b.drop 2).take 2).length ≤ 256 ^ 2 := Nat.pow_le_pow_right (by omega) this
  unfold headN
  omega

/-- A part of bytes. -/
theorem InB.part {w : World} {A : Option Addr} {b : List UInt8} (h : InB w A b) (k n : Nat) (hk : k < b.length) : ∃ bk o, A = some ⟨bk, o, none⟩ ∧ InB w (some ⟨bk, o + k, none⟩) ((b.drop k).take n) := by
  obtain ⟨bk, o, e, hc⟩ := h.2 (by omega)
  refine ⟨bk, o, e, by simp [u8s], fun _ => ⟨bk, o + k, rfl, fun j u hu => ?_⟩⟩
  unfold u8s at hu
  rw [List.map_take, List.map_drop, List.getElem?_take] at hu
  split at hu
  · rw [List.getElem?_drop] at hu
    have := hc (k + j) u hu
    rwa [← Nat.add_assoc] at this
  · cases hu
theorem InB.drewN {w : World} {A : Option Addr} {b : List UInt8} (h : InB w A b) (n : Nat) : InB (w.drewN n) A b := h.grow ((Grow.refl w).drewN n)

/-- What a frame tells. -/
def FrameC (w : World) (A0 : Option Addr) (b : List UInt8) (e : Ending) (w' : World) : Prop :=
  ∃ A m, e = .returned (.tuple #[.slice A m m, .int .i64 ((head b).1 : Nat), .int .i64 (head b).2]) ∧ Grow w w' ∧
    ((head b).2 = 0 → m = (head b).1 - 8 ∧ ((b.drop 4).take ((head b).1 - 8)).length = m ∧ ∀ w0, InB w0 A0 b → InB w0 A ((b.drop 4).take ((head b).1 - 8)))

theorem FrameC.bad {w w' : World} {A0 : Option Addr} {b : List UInt8} {n : Nat} {e : Int} (h : head b = (n, e)) (he : e ≠ 0) (hg : Grow w w') : FrameC w A0 b (.returned (.tuple #[.slice none 0 0, .int .i64 n, .int .i64 e])) w' :=
  ⟨none, 0, by rw [h], hg, fun h0 => absurd (by rw [h] at h0; exact h0) he⟩

theorem FrameC.good {w w' : World} {A0 : Option Addr} {b : List UInt8} {n : Nat} {A : Option Addr} (h : head b = (n + 8, 0)) (hl : ((b.drop 4).take n).length = n) (hi : ∀ w0, InB w0 A0 b → InB w0 A ((b.drop 4).take n)) (hg : Grow w w') : FrameC w A0 b (.returned (.tuple #[.slice A n n, .int .i64 ((n + 8 : Nat) : Int), .int .i64 0])) w' :=
  ⟨A, n, by rw [h], hg, fun _ => by rw [h]; exact ⟨(Nat.add_sub_cancel n 8).symm, by simpa using hl, by simpa using hi⟩⟩
theorem idx_0 (w : World) : (Instr.index 94 (.agg #[.int .u8 77, .int .u8 68]) (.int .i64 0)).run Tryd.prog w = .ok (.int .u8 77) w := by kernel_rfl
theorem idx_1 (w : World) : (Instr.index 94 (.agg #[.int .u8 77, .int .u8 68]) (.int .i64 1)).run Tryd.prog w = .ok (.int .u8 68) w := by kernel_rfl
theorem ret_sii {A : Option Addr} {m n : Nat} {a b c d : Int} (h : a = c) (h' : b = d) : Ending.returned (.tuple #[.slice A m n, .int .i64 a, .int .i64 b]) = .returned (.tuple #[.slice A m n, .int .i64 c, .int .i64 d]) := by rw [h, h']

set_option maxRecDepth 100000 in
set_option maxHeartbeats 1600000 in
theorem frame_any (b : List UInt8) (A : Option Addr) (cap : Nat) (w : World) (hb : InB w A b) (hl : b.length ≤ 140737488400000) (hcap : b.length ≤ cap) :
    Calls Tryd.prog 33 #[.slice A b.length cap] w (FrameC w A b) := by
  have HB := hide hb
  have hi0 := idx_0
  have hi1 := idx_1
  clear hb
  go_enter Tryd.func33, Tryd.ntmps33
  go_wp2_with fail
  go_loopg [9] 3 (fun gk i wr => w = wr ∧ ∃ j : Nat, j ≤ 2 ∧ gk + j = 3 ∧ i = .int .i64 j ∧ (∀ h : 0 < b.length, 0 < j → b[0].toNat = 77) ∧ (∀ h : 1 < b.length, 1 < j → b[1].toNat = 68))
  case atStart => exact ⟨rfl, 0, by omega, by omega, rfl, fun _ h => by omega, fun _ h => by omega⟩
  case round =>
    obtain ⟨rfl, j, hj, hg, rfl, hp0, hp1⟩ := hrel
    obtain ⟨gk', rfl⟩ : ∃ g, gk = g + 1 := ⟨gk - 1, by omega⟩
    have HP0 := hide hp0
    have HP1 := hide hp1
    clear hp0 hp1
    have hj3 : j = 0 ∨ j = 1 ∨ j = 2 := by omega
    rcases hj3 with rfl | rfl | rfl
    · by_cases h0 : 0 < b.length
      · obtain ⟨bk, o, rfl, hbk, e0⟩ := HB.out.at_ 0 h0
        rw [Nat.add_zero] at e0
        by_cases hx : b[0].toNat = 77
        · rw [hx] at e0
          have HX := hide hx
          clear hx
          go_wp2_with fail
          go_roundg gk'
          case measure => omega
          case rel => exact ⟨rfl, 1, by omega, by omega, by go_num, fun _ _ => HX.out, fun _ h => by omega⟩
        · have hx2 : ((b[0].toNat : Int) == 77) = false := by simp; omega
          have HX := hide (head_4 (pre_no0 h0 hx))
          go_wp2_with fail
          go_ret3
          exact FrameC.bad HX.out (by decide) (Grow.refl w)
      · have hz : b.length = 0 := by omega
        go_wp2_with fail
        go_roundg gk'
        case measure => omega
        case rel => exact ⟨rfl, 1, by omega, by omega, by go_num, fun h => absurd h h0, fun _ h => by omega⟩
    · by_cases h0 : 1 < b.length
      · obtain ⟨bk, o, rfl, hbk, e0⟩ := HB.out.at_ 1 h0
        by_cases hx : b[1].toNat = 68
        · rw [hx] at e0
          have HX := hide hx
          clear hx
          go_wp2_with fail
          go_roundg gk'
          case measure => omega
          case rel => exact ⟨rfl, 2, by omega, by omega, by go_num, fun h _ => HP0.out h (by omega), fun _ _ => HX.out⟩
        · have hx2 : ((b[1].toNat : Int) == 68) = false := by simp; omega
          have HX := hide (head_4 (pre_no1 h0 hx))
          go_wp2_with fail
          go_ret3
          exact FrameC.bad HX.out (by decide) (Grow.refl w)
      · go_wp2_with fail
        go_roundg gk'
        case measure => omega
        case rel => exact ⟨rfl, 2, by omega, by omega, by go_num, fun h _ => HP0.out h (by omega), fun h => absurd h h0⟩
    · have HP := hide (pre_yes (fun h => HP0.out h (by omega)) (fun h => HP1.out h (by omega)))
      clear HP0 HP1
      by_cases h4 : b.length < 4
      · have HX := hide (head_17 HP.out h4)
        go_wp2_with fail
        go_ret3
        exact FrameC.bad HX.out (by decide) (Grow.refl w)
      obtain ⟨bk, o, rfl, hin2⟩ := HB.out.part 2 2 (by omega)
      have hl2 : ((b.drop 2).take 2).length = 2 := by rw [List.length_take, List.length_drop]; omega
      have HI2 := hide hin2
      have hn := headN_lt b
      obtain ⟨n, hnn⟩ : ∃ n, headN b = n := ⟨_, rfl⟩
      rw [hnn] at hn
      have HN := hide hnn
      clear hin2 hnn
      have hw := word_any ((b.drop 2).take 2) _ (cap - 2) w HI2.out (by omega)
      rw [hl2, show le ((b.drop 2).take 2) = n from HN.out] at hw
      have HW := hide hw
      clear hw hl2
      go_wp2_with fail
      refine HW.out.mono ?_
      rintro e w' ⟨rfl, rfl⟩
      by_cases h12 : 12000 < n
      · have HX := hide (head_2 HP.out (by omega) (by rw [HN.out]; exact h12))
        go_wp2_with fail
        go_ret3
        exact FrameC.bad HX.out (by decide) (Grow.refl w)
      by_cases hm : b.length < n + 8
      · have HX := hide (head_17b HP.out (by omega) (by rw [HN.out]; omega) (by rw [HN.out]; omega))
        go_wp2_with fail
        go_ret3
        exact FrameC.bad HX.out (by decide) (Grow.refl w)
      have hX := head_all HP.out (by omega) (by rw [HN.out]; omega) (by rw [HN.out]; omega)
      rw [HN.out] at hX
      obtain ⟨q, hq⟩ : ∃ q, n + 4 = q := ⟨_, rfl⟩
      obtain ⟨m, hm2⟩ : ∃ m, q + 4 = m := ⟨_, rfl⟩
      rw [hq] at hX
      obtain ⟨bk', o', e', hin3⟩ := HB.out.part q 4 (by omega)
      injection e' with e'
      injection e' with e1 e2
      subst e1 e2
      have hl3 : ((b.drop q).take 4).length = 4 := by rw [List.length_take, List.length_drop]; omega
      have hl4 : (b.take q).length = q := by rw [List.length_take]; omega
      have hin4 : InB w (some ⟨bk, o, none⟩) (b.take q) := by
        have := HB.out.part 0 q (by omega)
        obtain ⟨bk', o', e', h⟩ := this
        injection e' with e'
        injection e' with e1 e2
        subst e1 e2
        exact h
      have hk1 : ∀ p, Calls Tryd.prog 54 #[.slice (some ⟨bk, o + q, none⟩) 4 (cap - q)] (w.drewN p) fun e w' => e = .returned (.int .u64 (le ((b.drop q).take 4) : Nat)) ∧ w' = w.drewN p := fun p => by
        have := word_any ((b.drop q).take 4) _ (cap - q) (w.drewN p) (hin3.drewN p) (by omega)
        rw [hl3] at this
        exact this.mono fun e w' h => ⟨h.1, h.2.symm⟩
      have hk2 : ∀ p, Calls Tryd.prog 53 #[.slice (some ⟨bk, o, none⟩) q cap] (w.drewN p) fun e w' => e = .returned (.int .u32 (crc (b.take q) : Nat)) ∧ w' = w.drewN p := fun p => by
        have := sumOf_any (b.take q) _ cap (w.drewN p) (hin4.drewN p) (by omega)
        rw [hl4] at this
        exact this.mono fun e w' h => ⟨h.1, h.2.symm⟩
      have hc1 : le ((b.drop q).take 4) < 4294967296 := by have := le_lt ((b.drop q).take 4); rw [hl3] at this; exact this
      have hc2 := crc_lt (b.take q)
      obtain ⟨L, hL⟩ : ∃ L, le ((b.drop q).take 4) = L := ⟨_, rfl⟩
      obtain ⟨C, hC⟩ : ∃ C, crc (b.take q) = C := ⟨_, rfl⟩
      rw [hL] at hk1 hc1
      rw [hC] at hk2 hc2
      rw [hL, hC] at hX
      have HX := hide hX
      have K1 := hide hk1
      have K2 := hide hk2
      have hqi : (4 : Int) + (n : Int) = (q : Int) := by omega
      have hmi : (q : Int) + 4 = (m : Int) := by omega
      have hmq : (m : Int) - 4 = (q : Int) := by omega
      have hmb : m ≤ b.length := by omega
      have hqm : m - q = 4 := by omega
      have HQ := hide hq
      have HM := hide hm2
      clear hX hin3 hin4 hl3 hl4 hL hC hk1 hk2 hq hm2 hm
      have hml : ¬ ((b.length : Int) < (m : Int)) := by omega
      go_wp2_with fail
      go_big_quiet (first | (go_at_call 54; with_reducible refine Calls.quiet_of_same (K1.out _)) | (go_at_call 53; with_reducible refine Calls.quiet_of_same (K2.out _)))
      have hg1 : Grow w (w.drewN nq) := (Grow.refl w).drewN nq
      by_cases hLC : L = C
      · have hne : ((L : Int) != (C : Int)) = false := by simp [hLC]
        rw [if_pos hLC] at HX
        have hlb : ((b.drop 4).take n).length = n := by rw [List.length_take, List.length_drop]; omega
        by_cases hn0 : n = 0
        · subst hn0
          have hin5 : ∀ A', InB (w.drewN nq) A' ((b.drop 4).take 0) := fun A' => ⟨rfl, fun h => by simp at h⟩
          have HI5 := hide hin5
          have hm8 : m = 8 := by have := HM.out; have := HQ.out; omega
          subst hm8
          clear hin5
          go_wp2_with fail
          go_ret3
          exact FrameC.good HX.out hlb (fun w0 _ => ⟨rfl, fun h => by simp at h⟩) hg1
        · have hin5 : ∀ w0, InB w0 (some ⟨bk, o, none⟩) b → InB w0 (some ⟨bk, o + 4, none⟩) ((b.drop 4).take n) := fun w0 h0 => by
            obtain ⟨bk', o', e', hin5⟩ := h0.part 4 n (by omega)
            injection e' with e'
            injection e' with e1 e2
            subst e1 e2
            exact hin5
          have HI5 := hide hin5
          have hm8 : m = n + 8 := by have := HM.out; have := HQ.out; omega
          have hq4 : q = n + 4 := HQ.out.symm
          have hqn : q - 4 = n := by omega
          have hq0 : ¬ q = 4 := by omega
          have HM8 := hide hm8
          clear hin5 hm8 hq4
          go_wp2_with fail
          go_ret3
          have hfin := FrameC.good HX.out hlb HI5.out hg1
          rw [← HM8.out] at hfin
          exact hfin
      · have hne : ((L : Int) != (C : Int)) = true := by simp; omega
        rw [if_neg hLC] at HX
        have HM8 := hide (show m = n + 8 by have := HM.out; have := HQ.out; omega)
        go_wp2_with fail
        go_ret3
        have hfin := FrameC.bad (A0 := some ⟨bk, o, none⟩) HX.out (by decide) hg1
        rw [← HM8.out] at hfin
        exact hfin
end Go.Proofs.YtcdbchifigonpaaDoor

set_option linter.unusedVariables false
set_option linter.unusedSimpArgs false
namespace Go.Proofs.YtcdbchifigonpaaDoor
open Go.RowKit

theorem InB.take {w : World} {A : Option Addr} {b : List UInt8} (h : InB w A b) (k : Nat) : InB w A (b.take k) := by
  refine ⟨by simp [u8s], fun h0 => ?_⟩
  obtain ⟨bk, o, e, hc⟩ := h.2 (by rw [List.length_take] at h0; omega)
  refine ⟨bk, o, e, fun j u hu => hc j u ?_⟩
  unfold u8s at hu ⊢
  rw [List.map_take] at hu
  rw [List.getElem?_take] at hu
  split at hu
  · exact hu
  · cases hu
/-- The bytes from a place on. -/
theorem InB.rest {w : World} {A : Option Addr} {b : List UInt8} (h : InB w A b) (k cap : Nat) (hk : k ≤ b.length) (hc : b.length ≤ cap) : InB w (if cap = k then A else A.map (·.add k)) (b.drop k) := by
  have := Reads.drop_ h k cap hk hc
  unfold InB
  rw [List.length_drop, u8s_drop]
  exact this

/-- So far k frames have been met; the rest tells the whole. -/
def SplitTo (b : List UInt8) (k : Nat) (rest : List UInt8) : Prop := split b = (k + (split rest).1, (split rest).2)
theorem SplitTo.start (b : List UInt8) : SplitTo b 0 b := by unfold SplitTo; rw [Nat.zero_add]
theorem SplitTo.step {b rest : List UInt8} {k : Nat} (h : SplitTo b k rest) (hr : 0 < rest.length) (h0 : (head rest).2 = 0) : SplitTo b (k + 1) (rest.drop (head rest).1) := by
  unfold SplitTo at h ⊢
  rw [h, split_step (List.length_pos_iff.1 hr) h0]
  simp only [Prod.mk.injEq, and_true]
  omega
theorem SplitTo.stop {b rest : List UInt8} {k n : Nat} {e : Int} (h : SplitTo b k rest) (hr : 0 < rest.length) (hh : head rest = (n, e)) (h0 : e ≠ 0) : split b = (k, rest.length, e) := by
  rw [h, split_end (List.length_pos_iff.1 hr) (by rw [hh]; exact h0), hh]; rfl
theorem SplitTo.done {b rest : List UInt8} {k : Nat} (h : SplitTo b k rest) (hr : rest.length = 0) : split b = (k, 0, 0) := by
  rw [List.length_eq_zero_iff.1 hr] at h
  rw [h, split_nil]; rfl

def SplitC (w : World) (b : List UInt8) (e : Ending) (w' : World) : Prop :=
  e = .returned (.tuple #[.int .i64 ((split b).1 : Nat), .int .i64 ((split b).2.1 : Nat), .int .i64 (split b).2.2]) ∧ Grow w w'
theorem SplitC.of {w w' : World} {b : List UInt8} {k m : Nat} {e : Int} (h : split b = (k, m, e)) (hg : Grow w w') : SplitC w b (.returned (.tuple #[.int .i64 k, .int .i64 m, .int .i64 e])) w' := by
  unfold SplitC; rw [h]; exact ⟨rfl, hg⟩

set_option maxRecDepth 100000 in
set_option maxHeartbeats 1600000 in
theorem split_any (b : List UInt8) (A : Option Addr) (cap : Nat) (w : World) (hb : InB w A b) (hl : b.length ≤ 140737488355328) (hcap : b.length ≤ cap) :
    Calls Tryd.prog 10 #[.slice A b.length cap] w (SplitC w b) := by
  have HB := hide hb
  clear hb
  go_enter Tryd.func10, Tryd.ntmps10
  go_wp2_with fail
  go_loopg [0, 2] (b.length + 1) (fun gk s n wr => Grow w wr ∧ ∃ (k : Nat) (rest : List UInt8) (A' : Option Addr) (c' : Nat), s = .slice A' rest.length c' ∧ n = .int .i64 k ∧ rest.length < gk ∧ k + rest.length ≤ b.length ∧ rest.length ≤ c' ∧ InB wr A' rest ∧ SplitTo b k rest)
  case atStart => exact ⟨Grow.refl w, 0, b, A, cap, rfl, rfl, by omega, by omega, hcap, HB.out, SplitTo.start b⟩
  case round =>
    obtain ⟨hgr, k, rest, A', c', rfl, rfl, hg, hk, hc', hin, hst⟩ := hrel
    have HG := hide hgr
    have HI := hide hin
    have HS := hide hst
    clear hgr hin hst
    by_cases hr : 0 < rest.length
    · go_wp2_with fail
      refine (frame_any rest A' c' wr HI.out (by omega) hc').mono ?_
      rintro e w2 ⟨A2, m, rfl, hg2, _⟩
      have HG2 := hide (HG.out.trans hg2)
      have HI2 := hide (HI.out.grow hg2)
      clear hg2
      obtain ⟨n, hn⟩ : ∃ n, head rest = n := ⟨_, rfl⟩
      obtain ⟨n, e⟩ := n
      rw [hn]
      simp only
      by_cases he : e = 0
      · subst he
        have hst := HS.out.step hr (by rw [hn])
        have hfit := head_fit (b := rest) (by rw [hn])
        rw [hn] at hst hfit
        simp only at hst hfit
        have HS2 := hide hst
        have HI3 := hide (HI2.out.rest n c' (by omega) hc')
        have hdl : (rest.drop n).length = rest.length - n := List.length_drop
        clear hst hn
        have hnn : n ≤ rest.length := hfit.2
        have hn8 : 8 ≤ n := hfit.1
        have hk1 : IntKind.i64.wrap ((k : Int) + 1) = (k : Int) + 1 := IntWalk.i64_in _ (by omega)
        clear hfit
        by_cases hcn : c' = n
        · rw [if_pos hcn] at HI3
          go_wp2_with fail
          go_big_quiet (fail)
          go_wp2_with fail
          go_roundg (rest.length - n + 1)
          case measure => omega
          case rel => exact ⟨HG2.out.drewN nq, k + 1, rest.drop n, A', 0, by rw [hdl], by go_num, by omega, by omega, by omega, HI3.out.drewN nq, HS2.out⟩
        · rw [if_neg hcn] at HI3
          go_wp2_with fail
          go_big_quiet (fail)
          go_wp2_with fail
          go_roundg (rest.length - n + 1)
          case measure => omega
          case rel => exact ⟨HG2.out.drewN nq, k + 1, rest.drop n, _, c' - n, by rw [hdl], by go_num, by omega, by omega, by omega, HI3.out.drewN nq, HS2.out⟩
      · have hsp := HS.out.stop hr hn he
        have HSP := hide hsp
        have hne : (e == 0) = false := by simpa using he
        clear hsp hn
        go_wp2_with fail
        go_ret3
        exact SplitC.of HSP.out HG2.out
    · have hsp := HS.out.done (by omega)
      have HSP := hide hsp
      clear hsp
      go_wp2_with fail
      go_ret3
      exact SplitC.of HSP.out HG.out

/-- What the document's Head tells. -/
def HeadC (w : World) (b : List UInt8) (e : Ending) (w' : World) : Prop :=
  e = .returned (.tuple #[.int .i64 ((head b).1 : Nat), .int .i64 (head b).2]) ∧ Grow w w'
theorem HeadC.of {w w' : World} {b : List UInt8} {m : Nat} {e : Int} (h : head b = (m, e)) (hg : Grow w w') : HeadC w b (.returned (.tuple #[.int .i64 m, .int .i64 e])) w' := by
  unfold HeadC; rw [h]; exact ⟨rfl, hg⟩

end Go.Proofs.YtcdbchifigonpaaDoor
