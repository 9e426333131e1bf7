/- Walks: unicode/utf8.word of bytes: the number that the first eight bytes spell. -/
import Derived.Test.YtcdbchifigonpaaDoorLibs
import Derived.Shelf.Unicode.WordAny
import Derived.Deep.DeepBigQuietO
namespace Go.Proofs.YtcdbchifigonpaaDoor
open Go.RowKit Go.Shelf

set_option maxHeartbeats 8000000 in
set_option maxRecDepth 100000 in
theorem utf8word_any (x0 x1 x2 x3 x4 x5 x6 x7 : UInt8) (bk o n cap : Nat) (w : World) (hn : 8 ≤ n)
    (c0 : w.cell? ⟨bk, o, none⟩ = some (.int .u8 (x0.toNat : Int)))
    (c1 : w.cell? ⟨bk, o + 1, none⟩ = some (.int .u8 (x1.toNat : Int)))
    (c2 : w.cell? ⟨bk, o + 2, none⟩ = some (.int .u8 (x2.toNat : Int)))
    (c3 : w.cell? ⟨bk, o + 3, none⟩ = some (.int .u8 (x3.toNat : Int)))
    (c4 : w.cell? ⟨bk, o + 4, none⟩ = some (.int .u8 (x4.toNat : Int)))
    (c5 : w.cell? ⟨bk, o + 5, none⟩ = some (.int .u8 (x5.toNat : Int)))
    (c6 : w.cell? ⟨bk, o + 6, none⟩ = some (.int .u8 (x6.toNat : Int)))
    (c7 : w.cell? ⟨bk, o + 7, none⟩ = some (.int .u8 (x7.toNat : Int))) :
    Calls Tryd.prog 89 #[.slice (some ⟨bk, o, none⟩) n cap] w fun e w' => e = .returned (.int .u64 (Lib.leNat [x0, x1, x2, x3, x4, x5, x6, x7])) ∧ ∃ q, w' = w.drewN q := by
  have h0 := x0.toNat_lt
  have h1 := x1.toNat_lt
  have h2 := x2.toNat_lt
  have h3 := x3.toNat_lt
  have h4 := x4.toNat_lt
  have h5 := x5.toNat_lt
  have h6 := x6.toNat_lt
  have h7 := x7.toNat_lt
  have hv : ((Lib.leNat [x0, x1, x2, x3, x4, x5, x6, x7] : Nat) : Int) = (x0.toNat : Int) + (x1.toNat : Int) * 256 + (x2.toNat : Int) * 65536 + (x3.toNat : Int) * 16777216 + (x4.toNat : Int) * 4294967296 + (x5.toNat : Int) * 1099511627776 + (x6.toNat : Int) * 281474976710656 + (x7.toNat : Int) * 72057594037927936 := by
    simp only [Lib.leNat]
    push_cast
    omega
  go_enter Tryd.func89, Tryd.ntmps89
  go_wp2_with fail
  go_quiet (fail)
  go_wp2
  go_ret
  refine ⟨?_, _, rfl⟩
  simp (disch := omega) only [u64_or8, u64_or16, u64_or24, u64_or32, u64_or40, u64_or48, u64_or56]
  rw [hv]
  rfl
end Go.Proofs.YtcdbchifigonpaaDoor
