/- Walks: the sum of bytes: of the program and of the document's answer. -/
import Derived.Test.YtojpeiihkjpeoaaDoorLib1
import Derived.Test.YtojpeiihkjpeoaaDoorFrameP
set_option linter.unusedVariables false
set_option linter.unusedSimpArgs false
namespace Go.Proofs.YtojpeiihkjpeoaaDoor
open Go.RowKit

theorem crcMore_take (r : Nat) (b : List UInt8) (j : Nat) (h : j < b.length) : crcMore r (b.take (j + 1)) = crcBits 8 (crcMore r (b.take j) ^^^ b[j].toNat) := by
  unfold crcMore
  rw [take_snoc b j h, List.foldl_append]; rfl

theorem and_one (r : Nat) (h : r < 4294967296) : bits .and .u32 (r : Int) 1 = ((r % 2 : Nat) : Int) := by
  have := u32_and_nat r 1 h (by decide)
  rw [Nat.and_one_is_mod] at this
  exact this
theorem xor_poly (r : Nat) (h : r < 4294967296) : bits .xor .u32 ((r : Int) / 2) 3988292384 = (((r / 2) ^^^ 3988292384 : Nat) : Int) := by
  have := u32_xor_nat (r / 2) 3988292384 (by omega) (by decide)
  rw [show ((r / 2 : Nat) : Int) = (r : Int) / 2 by omega] at this
  exact this
theorem xor_byte (r : Nat) (h : r < 4294967296) (x : UInt8) : bits .xor .u32 (r : Int) ((x.toNat : Int) % 4294967296) = ((r ^^^ x.toNat : Nat) : Int) := by
  have hx := x.toNat_lt
  rw [show (x.toNat : Int) % 4294967296 = (x.toNat : Int) by omega]
  exact u32_xor_nat r _ h (by omega)
theorem crcBit_odd (r : Nat) (h : r % 2 = 1) : crcBit r = (r / 2) ^^^ 3988292384 := by rw [crcBit, if_pos h]
theorem crcBit_even (r : Nat) (h : ¬ r % 2 = 1) : crcBit r = r / 2 := by rw [crcBit, if_neg h]

set_option maxHeartbeats 800000 in
theorem sumMore_any (s : Nat) (hs : s < 4294967296) (b : List UInt8) (A : Option Addr) (cap : Nat) (w : World) (hb : InB w A b) (hl : b.length ≤ 140737488355328) :
    Calls Tryd.prog 113 #[.int .u32 s, .slice A b.length cap] w fun e w' => e = .returned (.int .u32 ((crcMore (s ^^^ 4294967295) b ^^^ 4294967295 : Nat) : Int)) ∧ w = w' := by
  have HB := hide hb
  have hr0 : s ^^^ 4294967295 < 4294967296 := xor_lt32 hs (by decide)
  have hx0 := u32_xor_nat s 4294967295 hs (by decide)
  obtain ⟨R0, hR0⟩ : ∃ R, s ^^^ 4294967295 = R := ⟨_, rfl⟩
  rw [hR0] at hr0 hx0 ⊢
  have HX0 := hide hx0
  clear hb hR0 hx0
  go_enter Tryd.func113, Tryd.ntmps113
  go_wp2_with fail
  go_loopg [5, 12] (b.length + 1) (fun gk r i wr => w = wr ∧ ∃ j : Nat, j ≤ b.length ∧ gk + j = b.length + 1 ∧ i = .int .i64 j ∧ r = .int .u32 (crcMore R0 (b.take j) : Nat))
  case atStart => exact ⟨rfl, 0, by omega, by omega, rfl, congrArg _ HX0.out⟩
  case round =>
    obtain ⟨rfl, j, hj, hg, rfl, rfl⟩ := hrel
    obtain ⟨gk', rfl⟩ : ∃ g, gk = g + 1 := ⟨gk - 1, by omega⟩
    have hrl := crcMore_lt (b.take j) hr0
    by_cases hlt : j < b.length
    · obtain ⟨bk, o, rfl, hbk, e0⟩ := HB.out.at_ j hlt
      have HT := hide (crcMore_take R0 b j hlt)
      have hxb := xor_byte _ hrl b[j]
      have hxl := xor_lt32 hrl (show b[j].toNat < 4294967296 by have := b[j].toNat_lt; omega)
      obtain ⟨R1, hR1⟩ : ∃ R, crcMore R0 (b.take j) ^^^ b[j].toNat = R := ⟨_, rfl⟩
      rw [hR1] at hxb hxl
      have HR1 := hide hR1
      have HXB := hide hxb
      clear hR1 hxb
      go_wp2_with fail
      go_loopg [5, 20] 9 (fun gk2 r i wr => w = wr ∧ ∃ k : Nat, k ≤ 8 ∧ gk2 + k = 9 ∧ i = .int .i64 k ∧ r = .int .u32 (crcBits k R1 : Nat))
      case atStart => exact ⟨rfl, 0, by omega, by omega, rfl, congrArg _ HXB.out⟩
      case round =>
        obtain ⟨rfl, k, hk, hg2, rfl, rfl⟩ := hrel
        obtain ⟨gk2', rfl⟩ : ∃ g, gk = g + 1 := ⟨gk - 1, by omega⟩
        have HS := hide (crcBits_succ k R1)
        have hl2 := crcBits_lt k hxl
        obtain ⟨R, hR⟩ : ∃ R, crcBits k R1 = R := ⟨_, rfl⟩
        rw [hR] at hl2 HS ⊢
        have HR := hide hR
        clear hR
        by_cases hk8 : k < 8
        · have ha := and_one R hl2
          by_cases hodd : R % 2 = 1
          · rw [hodd] at ha
            have HO := hide (crcBit_odd R hodd)
            have HP := hide (xor_poly R hl2)
            clear hodd
            go_wp2_with fail
            go_roundg gk2'
            case measure => omega
            case rel => exact ⟨rfl, k + 1, by omega, by omega, by go_num, congrArg _ (by rw [HS.out, HO.out]; exact HP.out)⟩
          · rw [show R % 2 = 0 by omega] at ha
            have HO := hide (crcBit_even R hodd)
            clear hodd
            go_wp2_with fail
            go_roundg gk2'
            case measure => omega
            case rel => exact ⟨rfl, k + 1, by omega, by omega, by go_num, congrArg _ (by rw [HS.out, HO.out]; omega)⟩
        · obtain rfl : k = 8 := by omega
          clear hg2 hk8
          go_wp2_with fail
          go_roundg gk'
          case measure => omega
          case rel => exact ⟨rfl, j + 1, by omega, by omega, by go_num, congrArg _ (by rw [HT.out, HR1.out, HR.out])⟩
    · obtain rfl : j = b.length := by omega
      rw [List.take_length] at hrl ⊢
      have HF := hide (u32_xor_nat _ 4294967295 hrl (by decide))
      clear hg hlt
      go_wp2_with fail
      go_ret
      exact ⟨ret_int HF.out, rfl⟩
set_option maxHeartbeats 800000 in
theorem refMore_any (s : Nat) (hs : s < 4294967296) (b : List UInt8) (A : Option Addr) (cap : Nat) (w : World) (hb : InB w A b) (hl : b.length ≤ 140737488355328) :
    Calls Tryd.prog 116 #[.int .u32 s, .slice A b.length cap] w fun e w' => e = .returned (.int .u32 ((crcMore (s ^^^ 4294967295) b ^^^ 4294967295 : Nat) : Int)) ∧ w = w' := by
  have HB := hide hb
  have hr0 : s ^^^ 4294967295 < 4294967296 := xor_lt32 hs (by decide)
  have hx0 := u32_xor_nat s 4294967295 hs (by decide)
  obtain ⟨R0, hR0⟩ : ∃ R, s ^^^ 4294967295 = R := ⟨_, rfl⟩
  rw [hR0] at hr0 hx0 ⊢
  have HX0 := hide hx0
  clear hb hR0 hx0
  go_enter Tryd.func116, Tryd.ntmps116
  go_wp2_with fail
  go_loopg [5, 6] (b.length + 1) (fun gk r i wr => w = wr ∧ ∃ j : Nat, j ≤ b.length ∧ gk + j = b.length + 1 ∧ i = .int .i64 j ∧ r = .int .u32 (crcMore R0 (b.take j) : Nat))
  case atStart => exact ⟨rfl, 0, by omega, by omega, rfl, congrArg _ HX0.out⟩
  case round =>
    obtain ⟨rfl, j, hj, hg, rfl, rfl⟩ := hrel
    obtain ⟨gk', rfl⟩ : ∃ g, gk = g + 1 := ⟨gk - 1, by omega⟩
    have hrl := crcMore_lt (b.take j) hr0
    by_cases hlt : j < b.length
    · obtain ⟨bk, o, rfl, hbk, e0⟩ := HB.out.at_ j hlt
      have HT := hide (crcMore_take R0 b j hlt)
      have hxb := xor_byte _ hrl b[j]
      have hxl := xor_lt32 hrl (show b[j].toNat < 4294967296 by have := b[j].toNat_lt; omega)
      obtain ⟨R1, hR1⟩ : ∃ R, crcMore R0 (b.take j) ^^^ b[j].toNat = R := ⟨_, rfl⟩
      rw [hR1] at hxb hxl
      have HR1 := hide hR1
      have HXB := hide hxb
      clear hR1 hxb
      go_wp2_with fail
      go_loopg [5, 7] 9 (fun gk2 r i wr => w = wr ∧ ∃ k : Nat, k ≤ 8 ∧ gk2 + k = 9 ∧ i = .int .i64 k ∧ r = .int .u32 (crcBits k R1 : Nat))
      case atStart => exact ⟨rfl, 0, by omega, by omega, rfl, congrArg _ HXB.out⟩
      case round =>
        obtain ⟨rfl, k, hk, hg2, rfl, rfl⟩ := hrel
        obtain ⟨gk2', rfl⟩ : ∃ g, gk = g + 1 := ⟨gk - 1, by omega⟩
        have HS := hide (crcBits_succ k R1)
        have hl2 := crcBits_lt k hxl
        obtain ⟨R, hR⟩ : ∃ R, crcBits k R1 = R := ⟨_, rfl⟩
        rw [hR] at hl2 HS ⊢
        have HR := hide hR
        clear hR
        by_cases hk8 : k < 8
        · have ha := and_one R hl2
          by_cases hodd : R % 2 = 1
          · rw [hodd] at ha
            have HO := hide (crcBit_odd R hodd)
            have HP := hide (xor_poly R hl2)
            clear hodd
            go_wp2_with fail
            go_roundg gk2'
            case measure => omega
            case rel => exact ⟨rfl, k + 1, by omega, by omega, by go_num, congrArg _ (by rw [HS.out, HO.out]; exact HP.out)⟩
          · rw [show R % 2 = 0 by omega] at ha
            have HO := hide (crcBit_even R hodd)
            clear hodd
            go_wp2_with fail
            go_roundg gk2'
            case measure => omega
            case rel => exact ⟨rfl, k + 1, by omega, by omega, by go_num, congrArg _ (by rw [HS.out, HO.out]; omega)⟩
        · obtain rfl : k = 8 := by omega
          clear hg2 hk8
          go_wp2_with fail
          go_roundg gk'
          case measure => omega
          case rel => exact ⟨rfl, j + 1, by omega, by omega, by go_num, congrArg _ (by rw [HT.out, HR1.out, HR.out])⟩
    · obtain rfl : j = b.length := by omega
      rw [List.take_length] at hrl ⊢
      have HF := hide (u32_xor_nat _ 4294967295 hrl (by decide))
      clear hg hlt
      go_wp2_with fail
      go_ret
      exact ⟨ret_int HF.out, rfl⟩
theorem sumOf_any (b : List UInt8) (A : Option Addr) (cap : Nat) (w : World) (hb : InB w A b) (hl : b.length ≤ 140737488355328) :
    Calls Tryd.prog 83 #[.slice A b.length cap] w fun e w' => e = .returned (.int .u32 (crc b : Nat)) ∧ w = w' := by
  have HB := hide hb
  clear hb
  go_enter Tryd.func83, Tryd.ntmps83
  go_wp2_with fail
  refine (sumMore_any 0 (by decide) b A cap w HB.out hl).mono ?_
  rintro e w' ⟨rfl, rfl⟩
  go_wp2_with fail
  go_ret
  exact ⟨rfl, rfl⟩
theorem refOf_any (b : List UInt8) (A : Option Addr) (cap : Nat) (w : World) (hb : InB w A b) (hl : b.length ≤ 140737488355328) :
    Calls Tryd.prog 91 #[.slice A b.length cap] w fun e w' => e = .returned (.int .u32 (crc b : Nat)) ∧ w = w' := by
  have HB := hide hb
  clear hb
  go_enter Tryd.func91, Tryd.ntmps91
  go_wp2_with fail
  refine (refMore_any 0 (by decide) b A cap w HB.out hl).mono ?_
  rintro e w' ⟨rfl, rfl⟩
  go_wp2_with fail
  go_ret
  exact ⟨rfl, rfl⟩
end Go.Proofs.YtojpeiihkjpeoaaDoor
