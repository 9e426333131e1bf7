/- Part 2 of the proof of pindexes_card. -/
import Derived.Test.YtndjopkdbdcmdaaGreatDoorPix1
import Derived.Test.YtndjopkdbdcmdaaGreatDoorProg
import Derived.Ground.NamesProg
import Derived.WalkMore
import Derived.Below
import Derived.Shelf.Unicode.ValidAny
import Derived.Shelf.Strings.FuncGrows
import Derived.Laws.FloatArith
import Derived.KernelRfl
import Derived.Shelf.Strings.SplitShaped
import Derived.Ground.SlsfProg
import Derived.Shelf.SlSortCmp.KitK
set_option linter.unusedVariables false
set_option linter.unusedSimpArgs false
set_option maxRecDepth 100000
set_option maxHeartbeats 12800000
namespace Go.Proofs.YtndjopkdbdcmdaaGreatDoor
end Go.Proofs.YtndjopkdbdcmdaaGreatDoor
namespace Go.Proofs
open Go.Shelf
def Tryz.laysValid_ren : Go.Shelf.Ren := ⟨fun | 196 => 130 | 259 => 174 | n => n,fun | 9 => 9 | 4 => 4 | 3 => 3 | 5 => 5 | 12 => 12 | 119 => 176 | 0 => 0 | 46 => 180 | 139 => 179 | 138 => 178 | 53 => 22 | n => n,fun | 3 => 0 | 4 => 1 | n => n⟩
theorem Tryz.laysValid : Go.Proofs.Lays.n196 Tryz.prog Tryz.laysValid_ren := {
 mixed := by kernel_rfl
 f196 := Tryz.func130.trans (congrArg some (by kernel_rfl))
 f259 := Tryz.func174.trans (congrArg some (by kernel_rfl))
 t0 := Tryz.underlying0
 a0 := Tryz.isAgg0
 z0 := Tryz.sizeOf0
 v0 := Tryz.zeroValue0
 t3 := Tryz.underlying3
 a3 := Tryz.isAgg3
 z3 := Tryz.sizeOf3
 v3 := Tryz.zeroValue3
 t4 := Tryz.underlying4
 a4 := Tryz.isAgg4
 z4 := Tryz.sizeOf4
 v4 := Tryz.zeroValue4
 t5 := Tryz.underlying5
 a5 := Tryz.isAgg5
 z5 := Tryz.sizeOf5
 v5 := Tryz.zeroValue5
 t9 := Tryz.underlying9
 a9 := Tryz.isAgg9
 z9 := Tryz.sizeOf9
 v9 := Tryz.zeroValue9
 t12 := Tryz.underlying12
 a12 := Tryz.isAgg12
 z12 := Tryz.sizeOf12
 v12 := Tryz.zeroValue12
 t46 := Tryz.underlying180
 a46 := Tryz.isAgg180
 z46 := Tryz.sizeOf180
 v46 := Tryz.zeroValue180
 t53 := Tryz.underlying22
 a53 := Tryz.isAgg22
 z53 := Tryz.sizeOf22
 v53 := Tryz.zeroValue22
 t119 := Tryz.underlying176
 a119 := Tryz.isAgg176
 z119 := Tryz.sizeOf176
 t138 := Tryz.underlying178
 a138 := Tryz.isAgg178
 z138 := Tryz.sizeOf178
 v138 := Tryz.zeroValue178
 t139 := Tryz.underlying179
 a139 := Tryz.isAgg179
 z139 := Tryz.sizeOf179
 v139 := Tryz.zeroValue179
 g3 := by kernel_rfl
 g4 := by kernel_rfl }
def Tryz.laysCF_ren : Go.Shelf.Ren := ⟨fun | 17 => 131 | 15 => 175 | 20 => 198 | n => n,fun | 9 => 9 | 23 => 182 | 4 => 4 | 3 => 3 | 0 => 0 | 21 => 21 | n => n,fun | n => n⟩
theorem Tryz.laysCF : Go.Proofs.LaysGw.n17 Tryz.prog Tryz.laysCF_ren := {
 mixed := by kernel_rfl
 f15 := Tryz.func175.trans (congrArg some (by kernel_rfl))
 f17 := Tryz.func131.trans (congrArg some (by kernel_rfl))
 f20 := Tryz.func198.trans (congrArg some (by kernel_rfl))
 t0 := Tryz.underlying0
 a0 := Tryz.isAgg0
 z0 := Tryz.sizeOf0
 v0 := Tryz.zeroValue0
 i0 := by kernel_rfl
 t3 := Tryz.underlying3
 a3 := Tryz.isAgg3
 z3 := Tryz.sizeOf3
 v3 := Tryz.zeroValue3
 i3 := by kernel_rfl
 t4 := Tryz.underlying4
 a4 := Tryz.isAgg4
 z4 := Tryz.sizeOf4
 v4 := Tryz.zeroValue4
 i4 := by kernel_rfl
 t9 := Tryz.underlying9
 a9 := Tryz.isAgg9
 z9 := Tryz.sizeOf9
 v9 := Tryz.zeroValue9
 i9 := by kernel_rfl
 t21 := Tryz.underlying21
 a21 := Tryz.isAgg21
 z21 := Tryz.sizeOf21
 v21 := Tryz.zeroValue21
 i21 := by kernel_rfl
 t23 := Tryz.underlying182
 a23 := Tryz.isAgg182
 z23 := Tryz.sizeOf182
 v23 := Tryz.zeroValue182
 i23 := by kernel_rfl }
end Go.Proofs
namespace Go.Proofs.YtndjopkdbdcmdaaGreatDoor
section
open Ieee Go
theorem dbl_sign : Ieee.double.signWeight = 9223372036854775808 := by decide
theorem dbl_binade : Ieee.double.binade = 4503599627370496 := by decide
theorem dbl_inf : Ieee.double.infRung = 9218868437227405312 := by decide
theorem dbl_least : Ieee.double.leastPlace = -1074 := by decide
theorem word_lo (r : Nat) (h : r < 9223372036854775808) (neg : Bool) : Ieee.double.word neg r % 9223372036854775808 = r := by
 unfold Format.word;rw [dbl_sign];cases neg
 ·simp;omega
 simp;omega
theorem word_hi (r : Nat) (h : r < 9223372036854775808) (neg : Bool) : (Ieee.double.word neg r / 9223372036854775808 % 2 == 1) = neg := by
 unfold Format.word;rw [dbl_sign];cases neg
 ·simp;omega
 simp;omega
theorem read_rung (neg : Bool) (e m : Nat) (h1 : 1 ≤ e) (h2 : e ≤ 2046) (hm : m < 4503599627370496) :
 Ieee.double.read (Ieee.double.word neg (e * 4503599627370496 + m)) = .number neg (4503599627370496 + m) ((e : Int) - 1075) := by
 have hr : e * 4503599627370496 + m < 9223372036854775808 := by omega
 unfold Format.read;simp only [dbl_sign,dbl_binade,dbl_inf,dbl_least,word_lo _ hr,word_hi _ hr];rw [if_neg (by omega),if_pos (by omega)];have e1 : (e * 4503599627370496 + m) % 4503599627370496 = m := by omega
 have e2 : (e * 4503599627370496 + m) / 4503599627370496 = e := by omega
 rw [e1,e2];congr 1;omega
theorem shl_one (k : Nat) : (1 : Nat) <<< k = 2 ^ k := by rw [Nat.shiftLeft_eq,Nat.one_mul]
theorem cut_zero_drop (way : Toward) (neg : Bool) (n : Nat) : way.cut neg n 0 = n := by
 unfold Toward.cut;have : (1 : Nat) <<< min 0 (n.log2 + 2) = 1 := by simp
 rw [this];simp only [Nat.div_one,Nat.mod_one]
 cases way <;> simp
theorem pow53 : (2 : Nat) ^ 53 = 9007199254740992 := by decide
theorem nearest_eq (neg : Bool) (mag : Nat) (h0 : mag ≠ 0) (last : Int) (h : max ((0 : Int) + (mag.log2 : Int) - 52) (-1074) = last) :
 Ieee.double.nearest neg mag 0 = Ieee.double.word neg (min ((last - -1074).toNat * 4503599627370496 + Toward.even.cut neg (mag <<< (0 - last).toNat) (last - 0).toNat) 9218868437227405312) := by
 have hf : ((Ieee.double.fractionBits : Nat) : Int) = 52 := rfl;unfold Format.nearest;rw [if_neg h0,dbl_least,dbl_binade,dbl_inf,hf,h]
theorem word_min (neg : Bool) (a b : Nat) (h : a = b) (hb : b ≤ 9218868437227405312) : Ieee.double.word neg (min a 9218868437227405312) = Ieee.double.word neg b := by
 subst h;rw [Nat.min_eq_left hb]
theorem nearest_small (neg : Bool) (mag : Nat) (h0 : mag ≠ 0) (hL : mag.log2 ≤ 52) :
 Ieee.double.nearest neg mag 0 = Ieee.double.word neg ((mag.log2 + 1022) * 4503599627370496 + mag * 2 ^ (52 - mag.log2)) := by
 rw [nearest_eq neg mag h0 ((mag.log2 : Int) - 52) (by omega)];have e1 : ((0 : Int) - ((mag.log2 : Int) - 52)).toNat = 52 - mag.log2 := by omega
 have e2 : ((mag.log2 : Int) - 52 - 0).toNat = 0 := by omega
 have e3 : ((mag.log2 : Int) - 52 - -1074).toNat = mag.log2 + 1022 := by omega
 rw [e1,e2,e3,cut_zero_drop,Nat.shiftLeft_eq];have hlt := Nat.lt_log2_self (n := mag);have h3 : mag * 2 ^ (52 - mag.log2) < 2 ^ (mag.log2 + 1) * 2 ^ (52 - mag.log2) := Nat.mul_lt_mul_of_pos_right hlt (Nat.pow_pos (by omega));rw [← Nat.pow_add,show mag.log2 + 1 + (52 - mag.log2) = 53 by omega,pow53] at h3;generalize mag * 2 ^ (52 - mag.log2) = x at h3 ⊢;generalize mag.log2 = L at hL ⊢;exact word_min _ _ _ rfl (by omega)
def up (mag d : Nat) : Bool := decide (2 ^ d < 2 * (mag % 2 ^ d)) || (2 ^ d == 2 * (mag % 2 ^ d) && mag / 2 ^ d % 2 == 1)
theorem cut_even (neg : Bool) (mag d : Nat) (h : d ≤ mag.log2 + 2) : Toward.even.cut neg mag d = mag / 2 ^ d + (up mag d).toNat := by
 unfold Toward.cut;have : min d (mag.log2 + 2) = d := by omega
 simp only [this,shl_one,up]
theorem nearest_great (neg : Bool) (mag d : Nat) (h0 : mag ≠ 0) (hd : 1 ≤ d) (hL : mag.log2 = 52 + d) (hd2 : d ≤ 11) :
 Ieee.double.nearest neg mag 0 = Ieee.double.word neg ((d + 1074) * 4503599627370496 + (mag / 2 ^ d + (up mag d).toNat)) := by
 rw [nearest_eq neg mag h0 (d : Int) (by omega)];have e1 : ((0 : Int) - (d : Int)).toNat = 0 := by omega
 have e2 : ((d : Int) - 0).toNat = d := by omega
 have e3 : ((d : Int) - -1074).toNat = d + 1074 := by omega
 rw [e1,e2,e3,Nat.shiftLeft_zero,cut_even neg mag d (by omega)];have hlt := Nat.lt_log2_self (n := mag);have hlt2 : mag / 2 ^ d < 2 ^ 53 := by
  rw [Nat.div_lt_iff_lt_mul (Nat.pow_pos (by omega)),← Nat.pow_add];have : mag.log2 + 1 = 53 + d := by omega
  rwa [this] at hlt
 rw [pow53] at hlt2;have hu : (up mag d).toNat ≤ 1 := Bool.toNat_le _;generalize mag / 2 ^ d = x at hlt2 ⊢;generalize (up mag d).toNat = y at hu ⊢;exact word_min _ _ _ rfl (by omega)
theorem num_congr {neg : Bool} {a b : Nat} {p q : Int} (h1 : a = b) (h2 : p = q) : Datum.number neg a p = .number neg b q := by subst h1 h2;rfl
theorem pow52 : (2 : Nat) ^ 52 = 4503599627370496 := by decide
theorem read_t (neg : Bool) (d t : Nat) (hd : d ≤ 11) (h1 : 4503599627370496 ≤ t) (h2 : t < 9007199254740992) :
 Ieee.double.read (Ieee.double.word neg ((d + 1074) * 4503599627370496 + t)) = .number neg t (d : Int) := by
 have := read_rung neg (d + 1075) (t - 4503599627370496) (by omega) (by omega) (by omega);rw [show (d + 1074) * 4503599627370496 + t = (d + 1075) * 4503599627370496 + (t - 4503599627370496) by omega,this];exact num_congr (by omega) (by omega)
theorem read_top (neg : Bool) (d : Nat) (hd : d ≤ 11) :
 Ieee.double.read (Ieee.double.word neg ((d + 1074) * 4503599627370496 + 9007199254740992)) = .number neg 4503599627370496 ((d : Int) + 1) := by
 have := read_rung neg (d + 1076) 0 (by omega) (by omega) (by omega);rw [show (d + 1074) * 4503599627370496 + 9007199254740992 = (d + 1076) * 4503599627370496 + 0 by omega,this];exact num_congr rfl (by omega)
theorem read_small (neg : Bool) (L t : Nat) (hd : L ≤ 52) (h1 : 4503599627370496 ≤ t) (h2 : t < 9007199254740992) :
 Ieee.double.read (Ieee.double.word neg ((L + 1022) * 4503599627370496 + t)) = .number neg t ((L : Int) - 52) := by
 have := read_rung neg (L + 1023) (t - 4503599627370496) (by omega) (by omega) (by omega);rw [show (L + 1022) * 4503599627370496 + t = (L + 1023) * 4503599627370496 + (t - 4503599627370496) by omega,this];exact num_congr (by omega) (by omega)
theorem toInt_up (neg : Bool) (m : Nat) (d : Nat) : (Datum.number neg m (d : Int)).toInt .zero = some (if neg then -((m * 2 ^ d : Nat) : Int) else ((m * 2 ^ d : Nat) : Int)) := by
 unfold Datum.toInt Datum.integral;simp only [show (-(d : Int)).toNat = 0 by omega,Int.toNat_natCast,cut_zero_drop,signed,Nat.shiftLeft_eq,Nat.pow_zero,Nat.mul_one]
theorem cut_exact (neg : Bool) (mag q : Nat) (h0 : mag ≠ 0) : Toward.zero.cut neg (mag * 2 ^ q) q = mag := by
 have hp : 0 < 2 ^ q := Nat.pow_pos (by omega);have hle : q ≤ (mag * 2 ^ q).log2 := by
  rw [Nat.le_log2 (by have := Nat.mul_pos (Nat.pos_of_ne_zero h0) hp;omega)];exact Nat.le_mul_of_pos_left _ (Nat.pos_of_ne_zero h0)
 unfold Toward.cut;have : min q ((mag * 2 ^ q).log2 + 2) = q := by omega
 simp only [this,shl_one,Nat.mul_div_cancel _ hp,Bool.toNat_false,Nat.add_zero]
theorem toInt_down (neg : Bool) (mag q : Nat) (h0 : mag ≠ 0) (p : Int) (hp : p = -(q : Int)) : (Datum.number neg (mag * 2 ^ q) p).toInt .zero = some (if neg then -(mag : Int) else (mag : Int)) := by
 subst hp;unfold Datum.toInt Datum.integral;simp only [show (-(q : Int)).toNat = 0 by omega,Int.neg_neg,Int.toNat_natCast,Nat.shiftLeft_zero,cut_exact neg mag q h0,signed]
theorem read63 : Ieee.double.read 4890909195324358656 = .number false 4503599627370496 11 := by
 have := read_t false 11 4503599627370496 (by omega) (by omega) (by omega);rw [show Ieee.double.word false ((11 + 1074) * 4503599627370496 + 4503599627370496) = 4890909195324358656 by unfold Format.word;decide] at this;exact this
theorem ordInt_lt {a b : Int} (h : a < b) : compare a b = .lt := by simp [compare,compareOfLessAndEq,h]
theorem ordInt_eq {a b : Int} (h : a = b) : compare a b = .eq := by subst h;simp [compare,compareOfLessAndEq]
theorem ordInt_gt {a b : Int} (h : b < a) : compare a b = .gt := by
 have h1 : ¬ a < b := by omega
 have h2 : ¬ a = b := by omega
 simp [compare,compareOfLessAndEq,h1,h2]
theorem order63 {f : Nat} {s : Bool} {m : Nat} {p : Int} (h : Ieee.double.read f = .number s m p) (hp : p ≤ 11) :
 Ieee.double.order f 4890909195324358656 = some (compare (if s then -(m : Int) else (m : Int)) ((4503599627370496 * 2 ^ (11 - p).toNat : Nat) : Int)) := by
 unfold Format.order;rw [h,read63];unfold Datum.order;simp only [show min p 11 = p by omega,show (p - p).toNat = 0 by omega,signed,Nat.shiftLeft_eq,Nat.pow_zero,Nat.mul_one,Bool.false_eq_true,if_false]
theorem order_self {f : Nat} {s : Bool} {m : Nat} {p : Int} (h : Ieee.double.read f = .number s m p) : Ieee.double.order f f = some .eq := by
 unfold Format.order;rw [h];unfold Datum.order;simp
theorem read_ninf : Ieee.double.read 18442240474082181120 = .infinity true := by decide
theorem read_zero : Ieee.double.read 0 = .number false 0 (-1074) := by decide
theorem order_ninf {f : Nat} {s : Bool} {m : Nat} {p : Int} (h : Ieee.double.read f = .number s m p) : Ieee.double.order f 18442240474082181120 = some .gt ∧ Ieee.double.order 18442240474082181120 f = some .lt := by
 unfold Format.order;rw [h,read_ninf];exact ⟨rfl,rfl⟩
theorem order_zero {f : Nat} {s : Bool} {m : Nat} {p : Int} (h : Ieee.double.read f = .number s m p) (hm : m ≠ 0) (hp : -1074 ≤ p) : Ieee.double.order f 0 = some (if s then .lt else .gt) := by
 unfold Format.order;rw [h,read_zero];unfold Datum.order;have hpos : 0 < m * 2 ^ (p - -1074).toNat := Nat.mul_pos (Nat.pos_of_ne_zero hm) (Nat.pow_pos (by omega));simp only [show min p (-1074) = -1074 by omega,signed,Nat.shiftLeft_eq];generalize m * 2 ^ (p - -1074).toNat = x at hpos ⊢
 cases s
 ·simp only [Bool.false_eq_true,if_false];rw [ordInt_gt];omega
 simp only [if_true];rw [ordInt_lt];simp;omega
def sh (m : Nat) : Nat := m.log2 - 52
def fl (i : Int) : Nat × Nat :=
 if 0 ≤ i then (Ieee.double.nearest false (i.toNat / 2 ^ sh i.toNat * 2 ^ sh i.toNat) 0,i.toNat % 2 ^ sh i.toNat)
 else (Ieee.double.nearest true ((i.natAbs + (2 ^ sh i.natAbs - 1)) / 2 ^ sh i.natAbs * 2 ^ sh i.natAbs) 0,(i.natAbs + (2 ^ sh i.natAbs - 1)) / 2 ^ sh i.natAbs * 2 ^ sh i.natAbs - i.natAbs)
theorem log2_mul (t d : Nat) (h1 : 4503599627370496 ≤ t) (h2 : t < 9007199254740992) : (t * 2 ^ d).log2 = 52 + d := by
 have hp : 0 < 2 ^ d := Nat.pow_pos (by omega);have h0 : t * 2 ^ d ≠ 0 := by have := Nat.mul_pos (show 0 < t by omega) hp;omega
 have ha : 52 + d ≤ (t * 2 ^ d).log2 := by
  rw [Nat.le_log2 h0,Nat.pow_add,pow52];exact Nat.mul_le_mul_right _ h1
 have hb : (t * 2 ^ d).log2 < 52 + d + 1 := by
  rw [Nat.log2_lt h0,show 52 + d + 1 = 53 + d by omega,Nat.pow_add,pow53];exact Nat.mul_lt_mul_of_pos_right h2 hp
 omega
theorem up_exact (t d : Nat) : up (t * 2 ^ d) d = false := by
 have hp : 0 < 2 ^ d := Nat.pow_pos (by omega);unfold up;rw [Nat.mul_mod_left];simp
theorem nearest_exact (neg : Bool) (t d : Nat) (hd1 : 1 ≤ d) (hd2 : d ≤ 10) (h1 : 4503599627370496 ≤ t) (h2 : t ≤ 9007199254740992) :
 Ieee.double.nearest neg (t * 2 ^ d) 0 = Ieee.double.word neg ((d + 1074) * 4503599627370496 + t) := by
 have hp : ∀ d : Nat,0 < 2 ^ d := fun d => Nat.pow_pos (by omega)
 rcases Nat.lt_or_eq_of_le h2 with h2 | rfl
 ·rw [nearest_great neg _ d (by have := Nat.mul_pos (show 0 < t by omega) (hp d);omega) hd1 (log2_mul t d h1 h2) (by omega),up_exact,Nat.mul_div_cancel _ (hp d)];rfl
 rw [show 9007199254740992 * 2 ^ d = 4503599627370496 * 2 ^ (d + 1) by rw [Nat.pow_succ];omega,
  nearest_great neg _ (d + 1) (by have := Nat.mul_pos (show 0 < 4503599627370496 by omega) (hp (d + 1));omega) (by omega) (log2_mul _ _ (by omega) (by omega)) (by omega),up_exact,Nat.mul_div_cancel _ (hp (d + 1))]
 refine congrArg (Ieee.double.word neg) ?_;simp only [Bool.toNat_false];omega
theorem exact_facts (neg : Bool) (t d : Nat) (hd2 : d ≤ 10) (h1 : 4503599627370496 ≤ t) (h2 : t ≤ 9007199254740992) :
 ∃ m p,Ieee.double.read (Ieee.double.word neg ((d + 1074) * 4503599627370496 + t)) = .number neg m p ∧ m ≠ 0 ∧ -1074 ≤ p ∧ p ≤ 11 ∧ m * 2 ^ p.toNat = t * 2 ^ d ∧ 0 ≤ p ∧
  (Datum.number neg m p).toInt .zero = some (if neg then -((t * 2 ^ d : Nat) : Int) else ((t * 2 ^ d : Nat) : Int)) := by
 rcases Nat.lt_or_eq_of_le h2 with h2 | rfl
 ·exact ⟨t,d,read_t neg d t (by omega) h1 h2,by omega,by omega,by omega,by rw [Int.toNat_natCast],by omega,toInt_up neg t d⟩
 have e : 9007199254740992 * 2 ^ d = 4503599627370496 * 2 ^ (d + 1) := by rw [Nat.pow_succ];omega
 refine ⟨4503599627370496,((d + 1 : Nat) : Int),read_top neg d (by omega),by omega,by omega,by omega,by rw [Int.toNat_natCast,e],by omega,?_⟩;rw [toInt_up neg _ (d + 1),e]
theorem toIntVal_of {f : Nat} {s : Bool} {m : Nat} {p n : Int} (h : Ieee.double.read f = .number s m p) (ht : (Datum.number s m p).toInt .zero = some n) (h1 : -9223372036854775808 ≤ n) (h2 : n ≤ 9223372036854775807) :
 floatToIntVal .f64 f .i64 = some n := by
 unfold floatToIntVal;rw [show FloatKind.f64.decode f = .number s m p from h,ht];exact if_pos ⟨h1,h2⟩
def Step (i : Int) (f0 g : Nat) : Prop :=
 f0 = g ∨
 (0 < i ∧ f0 = g + 1 ∧ (Ieee.double.order f0 4890909195324358656 = some .eq ∨ (Ieee.double.order f0 4890909195324358656 = some .lt ∧ ∃ n',floatToIntVal .f64 f0 .i64 = some n' ∧ i < n')) ∧
  ∃ s m p,Ieee.double.read f0 = .number s m p ∧ m ≠ 0 ∧ -1074 ≤ p ∧ s = false) ∨
 (i < 0 ∧ f0 + 1 = g ∧ (Ieee.double.order f0 4890909195324358656 = some .lt ∧ ∃ n',floatToIntVal .f64 f0 .i64 = some n' ∧ i < n') ∧
  ∃ s m p,Ieee.double.read f0 = .number s m p ∧ m ≠ 0 ∧ -1074 ≤ p ∧ s = true)
structure FloorC (i : Int) (f0 g rest : Nat) (n : Int) : Prop where
 eq : n = i - (rest : Int)
 small : rest < 2048
 lo : -9223372036854775808 ≤ n
 hi : n ≤ i
 val : floatToIntVal .f64 g .i64 = some n
 lt : Ieee.double.order g 4890909195324358656 = some .lt
 ge : Ieee.double.order g 14114281232179134464 = some .gt ∨ Ieee.double.order g 14114281232179134464 = some .eq
 bits : g < 18446744073709551616
 step : Step i f0 g
theorem read_n63 : Ieee.double.read 14114281232179134464 = .number true 4503599627370496 11 := by
 have := read_t true 11 4503599627370496 (by omega) (by omega) (by omega);rw [show Ieee.double.word true ((11 + 1074) * 4503599627370496 + 4503599627370496) = 14114281232179134464 by unfold Format.word;decide] at this;exact this
theorem ordern63 {f : Nat} {s : Bool} {m : Nat} {p : Int} (h : Ieee.double.read f = .number s m p) (hp : p ≤ 11) :
 Ieee.double.order f 14114281232179134464 = some (compare (if s then -(m : Int) else (m : Int)) (-((4503599627370496 * 2 ^ (11 - p).toNat : Nat) : Int))) := by
 unfold Format.order;rw [h,read_n63];unfold Datum.order;simp only [show min p 11 = p by omega,show (p - p).toNat = 0 by omega,signed,Nat.shiftLeft_eq,Nat.pow_zero,Nat.mul_one,if_true]
theorem word_lt64 (neg : Bool) (r : Nat) (h : r < 9223372036854775808) : Ieee.double.word neg r < 18446744073709551616 := by
 unfold Format.word;rw [dbl_sign];cases neg <;> simp <;> omega
theorem word_succ (neg : Bool) (r : Nat) : Ieee.double.word neg (r + 1) = Ieee.double.word neg r + 1 := by
 unfold Format.word;cases neg <;> simp <;> omega
theorem scale (p : Int) (h0 : 0 ≤ p) (h : p ≤ 11) : 4503599627370496 * 2 ^ (11 - p).toNat * 2 ^ p.toNat = 9223372036854775808 := by
 rw [Nat.mul_assoc,← Nat.pow_add,show (11 - p).toNat + p.toNat = 11 by omega]
theorem below63 {m x : Nat} {p : Int} (h0 : 0 ≤ p) (h : p ≤ 11) (e : m * 2 ^ p.toNat = x) : (m < 4503599627370496 * 2 ^ (11 - p).toNat ↔ x < 9223372036854775808) ∧ (m = 4503599627370496 * 2 ^ (11 - p).toNat ↔ x = 9223372036854775808) := by
 have hp : 0 < 2 ^ p.toNat := Nat.pow_pos (by omega);rw [← e,← scale p h0 h];exact ⟨(Nat.mul_lt_mul_right hp).symm,⟨fun h => by rw [h],fun h => Nat.eq_of_mul_eq_mul_right hp h⟩⟩
theorem val_facts (neg : Bool) (t d : Nat) (hd2 : d ≤ 10) (h1 : 4503599627370496 ≤ t) (h2 : t ≤ 9007199254740992) (h3 : t * 2 ^ d ≤ 9223372036854775808) (x : Nat) (hx : t * 2 ^ d = x) (g : Nat) (hg : g = Ieee.double.word neg ((d + 1074) * 4503599627370496 + t)) :
 (∃ s m p,Ieee.double.read g = .number s m p ∧ m ≠ 0 ∧ -1074 ≤ p ∧ s = neg) ∧ g < 18446744073709551616 ∧
 (neg = true → floatToIntVal .f64 g .i64 = some (-(x : Int)) ∧ Ieee.double.order g 4890909195324358656 = some .lt ∧ (Ieee.double.order g 14114281232179134464 = some .gt ∨ Ieee.double.order g 14114281232179134464 = some .eq)) ∧
 (neg = false → (x = 9223372036854775808 → Ieee.double.order g 4890909195324358656 = some .eq) ∧
  (x < 9223372036854775808 → floatToIntVal .f64 g .i64 = some (x : Int) ∧ Ieee.double.order g 4890909195324358656 = some .lt ∧ Ieee.double.order g 14114281232179134464 = some .gt)) := by
 obtain ⟨m,p,hr,hm,hp1,hp2,he,hp0,hti⟩ := exact_facts neg t d hd2 h1 h2;rw [hx] at hti he h3;rw [← hg] at hr;obtain ⟨b1,b2⟩ := below63 hp0 hp2 he;have ho := order63 hr hp2;have hn := ordern63 hr hp2;refine ⟨⟨neg,m,p,hr,hm,hp1,rfl⟩,?_,fun e => ?_,fun e => ⟨fun ex => ?_,fun ex => ?_⟩⟩
 ·rw [hg];exact word_lt64 _ _ (by omega)
 ·subst e;simp only [if_true] at ho hn hti;refine ⟨toIntVal_of hr hti (by omega) (by omega),?_,?_⟩
  ·rw [ho,ordInt_lt];omega
  rcases Nat.lt_or_eq_of_le h3 with h | h
  ·left;rw [hn,ordInt_gt];have := b1.2 h;omega
  right;rw [hn,ordInt_eq];have := b2.2 h;omega
 ·subst e;rw [ho,ordInt_eq];have := b2.2 ex;simp only [Bool.false_eq_true,if_false];omega
 subst e;simp only [Bool.false_eq_true,if_false] at ho hn hti;have := b1.2 ex;refine ⟨toIntVal_of hr hti (by omega) (by omega),?_,?_⟩
 ·rw [ho,ordInt_lt];omega
 rw [hn,ordInt_gt];omega
theorem small_facts (neg : Bool) (mag : Nat) (h0 : mag ≠ 0) (hL : mag.log2 ≤ 52) (g : Nat) (hg : g = Ieee.double.nearest neg mag 0) (i : Int) (hi : i = if neg then -(mag : Int) else (mag : Int)) :
 g < 18446744073709551616 ∧ floatToIntVal .f64 g .i64 = some i ∧ Ieee.double.order g 4890909195324358656 = some .lt ∧ Ieee.double.order g 14114281232179134464 = some .gt := by
 have hlt := Nat.lt_log2_self (n := mag);have hge := Nat.log2_self_le h0;have hp : 0 < 2 ^ (52 - mag.log2) := Nat.pow_pos (by omega);have ha : 4503599627370496 ≤ mag * 2 ^ (52 - mag.log2) := by
  have := Nat.mul_le_mul_right (2 ^ (52 - mag.log2)) hge;rwa [← Nat.pow_add,show mag.log2 + (52 - mag.log2) = 52 by omega,pow52] at this
 have hb : mag * 2 ^ (52 - mag.log2) < 9007199254740992 := by
  have := Nat.mul_lt_mul_of_pos_right hlt hp;rwa [← Nat.pow_add,show mag.log2 + 1 + (52 - mag.log2) = 53 by omega,pow53] at this
 have hm : mag < 9007199254740992 := Nat.lt_of_le_of_lt (Nat.le_mul_of_pos_right _ hp) hb;rw [nearest_small neg mag h0 hL] at hg;have hr := read_small neg mag.log2 _ hL ha hb;rw [← hg] at hr;have hti := toInt_down neg mag (52 - mag.log2) h0 ((mag.log2 : Int) - 52) (by omega);have ho := order63 hr (by omega);have hn := ordern63 hr (by omega);have hbig : 9007199254740992 ≤ 4503599627370496 * 2 ^ (11 - ((mag.log2 : Int) - 52)).toNat := by
  have : 2 ^ 1 ≤ 2 ^ (11 - ((mag.log2 : Int) - 52)).toNat := Nat.pow_le_pow_right (by omega) (by omega);omega
 rw [← hi] at hti;refine ⟨by rw [hg];exact word_lt64 _ _ (by omega),toIntVal_of hr hti ?_ ?_,?_,?_⟩
 ·rw [hi];split <;> omega
 ·rw [hi];split <;> omega
 ·rw [ho,ordInt_lt];split <;> omega
 rw [hn,ordInt_gt];split <;> omega
theorem floor_cases (i : Int) (h1 : -9223372036854775808 ≤ i) (h2 : i ≤ 9223372036854775807) :
 FloorC i (FloatKind.f64.nearest i) (fl i).1 (fl i).2 (i - (fl i).2) := by
 have hf0 : FloatKind.f64.nearest i = Ieee.double.nearest (decide (i < 0)) i.natAbs 0 := rfl;by_cases hz : i = 0
 ·subst hz;have e1 : fl 0 = (0,0) := by decide
  have e2 : FloatKind.f64.nearest 0 = 0 := by decide
  rw [e1,e2];refine ⟨rfl,by omega,by simp,by simp,?_,by decide,.inl (by decide),by simp,.inl rfl⟩;exact toIntVal_of read_zero (by decide) (by simp) (by simp)
 by_cases hmin : i = -9223372036854775808
 ·subst hmin;have e1 : fl (-9223372036854775808) = (14114281232179134464,0) := by kernel_rfl
  have e2 : FloatKind.f64.nearest (-9223372036854775808) = 14114281232179134464 := by kernel_rfl
  rw [e1,e2];refine ⟨rfl,by omega,by simp,by simp,?_,by kernel_rfl,.inr (by kernel_rfl),by simp,.inl rfl⟩;exact toIntVal_of read_n63 (by kernel_rfl) (by simp) (by simp)
 have hm0 : i.natAbs ≠ 0 := by omega
 by_cases hL : i.natAbs.log2 ≤ 52
 ·have hsh : sh i.natAbs = 0 := by unfold sh;omega
  have hfl : fl i = (FloatKind.f64.nearest i,0) := by
   unfold fl;by_cases hi : 0 ≤ i
   ·have e : i.toNat = i.natAbs := by omega
    rw [if_pos hi,e,hsh,hf0];simp only [Nat.pow_zero,Nat.div_one,Nat.mul_one,Nat.mod_one,decide_eq_false (show ¬ i < 0 by omega)]
   rw [if_neg hi,hsh,hf0];simp only [Nat.pow_zero,Nat.div_one,Nat.mul_one,Nat.sub_self,Nat.add_zero,decide_eq_true (show i < 0 by omega)]
  have hs := small_facts (decide (i < 0)) i.natAbs hm0 hL (FloatKind.f64.nearest i) hf0 i (by by_cases hi : i < 0 <;> simp [hi] <;> omega);rw [hfl];exact ⟨rfl,by omega,by simp;omega,by simp,by simpa using hs.2.1,hs.2.2.1,.inl hs.2.2.2,hs.1,.inl rfl⟩
 obtain ⟨d,hd⟩ : ∃ d,i.natAbs.log2 = 52 + d := ⟨i.natAbs.log2 - 52,by omega⟩;have hsh : sh i.natAbs = d := by unfold sh;omega
 have hlt := Nat.lt_log2_self (n := i.natAbs);have hge := Nat.log2_self_le hm0;have hd1 : 1 ≤ d := by omega
 have hd2 : d ≤ 11 := by
  rcases Nat.lt_or_ge d 12 with h | h
  ·omega
  have : 2 ^ 64 ≤ 2 ^ i.natAbs.log2 := Nat.pow_le_pow_right (by omega) (by omega);have e : (2 : Nat) ^ 64 = 18446744073709551616 := by decide
  omega
 have hp : 0 < 2 ^ d := Nat.pow_pos (by omega);obtain ⟨t,ht⟩ : ∃ t,i.natAbs / 2 ^ d = t := ⟨_,rfl⟩;obtain ⟨r,hr⟩ : ∃ r,i.natAbs % 2 ^ d = r := ⟨_,rfl⟩;have hdm : i.natAbs = t * 2 ^ d + r := by rw [← ht,← hr,Nat.mul_comm];exact (Nat.div_add_mod _ _).symm
 have hrl : r < 2 ^ d := by rw [← hr];exact Nat.mod_lt _ hp
 have hp11 : 2 ^ d ≤ 2 ^ 11 := Nat.pow_le_pow_right (by omega) hd2;have e11 : (2 : Nat) ^ 11 = 2048 := by decide
 have ht1 : 4503599627370496 ≤ t := by
  rw [← ht,Nat.le_div_iff_mul_le hp,← pow52,← Nat.pow_add,← hd];exact hge
 have ht2 : t < 9007199254740992 := by
  rw [← ht,Nat.div_lt_iff_lt_mul hp,← pow53,← Nat.pow_add,show 53 + d = i.natAbs.log2 + 1 by omega];exact hlt
 have hng := fun neg => nearest_great neg i.natAbs d hm0 hd1 hd hd2
 rw [ht] at hng;have hup : up i.natAbs d = true → r ≠ 0 := by
  intro hu hr0;rw [hdm,hr0,Nat.add_zero,up_exact] at hu
  cases hu
 have hd10 : d ≤ 10 := by
  rcases Nat.lt_or_ge d 11 with h | h
  ·omega
  have : 2 ^ 63 ≤ 2 ^ i.natAbs.log2 := Nat.pow_le_pow_right (by omega) (by omega);have e : (2 : Nat) ^ 63 = 9223372036854775808 := by decide
  omega
 have h63 : (t + 1) * 2 ^ d ≤ 9223372036854775808 := by
  have e : (9223372036854775808 : Nat) = 2 ^ (63 - d) * 2 ^ d := by rw [← Nat.pow_add,show 63 - d + d = 63 by omega]
  have h3 : t * 2 ^ d < 9223372036854775808 := by omega
  rw [e] at h3 ⊢;exact Nat.mul_le_mul_right _ (Nat.lt_of_mul_lt_mul_right h3)
 have e1 : (t + 1) * 2 ^ d = t * 2 ^ d + 2 ^ d := Nat.succ_mul _ _;rw [hf0];by_cases hi : 0 ≤ i
 ·have e : i.toNat = i.natAbs := by omega
  have hfl : fl i = (Ieee.double.word false ((d + 1074) * 4503599627370496 + t),r) := by
   unfold fl;rw [if_pos hi,e,hsh,ht,hr,nearest_exact false t d hd1 hd10 ht1 (by omega)]
  rw [hfl,decide_eq_false (show ¬ i < 0 by omega),hng];obtain ⟨⟨s,m,p,a1,a2,a3,a4⟩,v2,-,v4⟩ := val_facts false t d hd10 ht1 (by omega) (by omega) _ rfl _ rfl;have hv := (v4 rfl).2 (by omega);have en : i - (r : Int) = ((t * 2 ^ d : Nat) : Int) := by omega
  refine ⟨rfl,by omega,by simp only;omega,by simp only;omega,by simp only;rw [en];exact hv.1,hv.2.1,.inl hv.2.2,v2,?_⟩
  cases hu : up i.natAbs d with
  | false => exact .inl rfl
  | true =>
   refine .inr (.inl ⟨by omega,?_,?_⟩)
   ·rw [← word_succ,Bool.toNat_true,Nat.add_assoc]
   obtain ⟨w1,w2,-,w4⟩ := val_facts false (t + 1) d hd10 (by omega) (by omega) h63 _ rfl _ rfl;rw [Bool.toNat_true];refine ⟨?_,w1⟩;rcases Nat.lt_or_eq_of_le h63 with h | h
   ·have hw := (w4 rfl).2 h;exact .inr ⟨hw.2.1,_,hw.1,by omega⟩
   exact .inl ((w4 rfl).1 h)
 obtain ⟨u,hu⟩ : ∃ u,(i.natAbs + (2 ^ d - 1)) / 2 ^ d = u := ⟨_,rfl⟩;have hu2 : u = if r = 0 then t else t + 1 := by
  rw [← hu,hdm,show t * 2 ^ d + r + (2 ^ d - 1) = (r + (2 ^ d - 1)) + t * 2 ^ d by omega,Nat.add_mul_div_right _ _ hp];split
  ·rw [Nat.div_eq_of_lt (by omega)];omega
  rw [Nat.div_eq_of_lt_le (k := 1) (by omega) (by omega)];omega
 have hut : t ≤ u ∧ u ≤ t + 1 := by rw [hu2];split <;> omega
 have hu63 : u * 2 ^ d ≤ 9223372036854775808 := Nat.le_trans (Nat.mul_le_mul_right _ hut.2) h63;have hfl : fl i = (Ieee.double.word true ((d + 1074) * 4503599627370496 + u),u * 2 ^ d - i.natAbs) := by
  unfold fl;rw [if_neg hi,hsh,hu,nearest_exact true u d hd1 hd10 (by omega) (by omega)]
 have hum : i.natAbs ≤ u * 2 ^ d ∧ u * 2 ^ d < i.natAbs + 2048 := by
  rw [hu2];split
  ·rename_i h;rw [h] at hdm;omega
  omega
 rw [hfl,decide_eq_true (show i < 0 by omega),hng];obtain ⟨v1,v2,v3,-⟩ := val_facts true u d hd10 (by omega) (by omega) hu63 _ rfl _ rfl;have hv := v3 rfl;have en : i - ((u * 2 ^ d - i.natAbs : Nat) : Int) = -((u * 2 ^ d : Nat) : Int) := by omega
 refine ⟨rfl,by simp only;omega,by simp only;omega,by simp only;omega,by simp only;rw [en];exact hv.1,hv.2.1,hv.2.2,v2,?_⟩
 cases hup2 : up i.natAbs d with
 | true =>
  left;have := hup hup2;rw [hu2,if_neg this];rfl
 | false =>
  by_cases hr0 : r = 0
  ·left;rw [hu2,if_pos hr0];simp only [Bool.toNat_false,Nat.add_zero]
  refine .inr (.inr ⟨by omega,?_,?_⟩)
  ·rw [hu2,if_neg hr0];simp only [Bool.toNat_false,Nat.add_zero];rw [← word_succ,Nat.add_assoc]
  obtain ⟨w1,w2,w3,-⟩ := val_facts true t d hd10 (by omega) (by omega) (by omega) _ rfl _ rfl;rw [Bool.toNat_false];have hw := w3 rfl;exact ⟨⟨hw.2.1,_,hw.1,by omega⟩,w1⟩
end
end Go.Proofs.YtndjopkdbdcmdaaGreatDoor
namespace Go.Proofs
open Go.Shelf
def Tryz.laysSplit_ren : Go.Shelf.Ren := ⟨fun | 146 => 47 | 221 => 90 | 268 => 133 | 138 => 134 | 143 => 135 | 195 => 176 | 197 => 177 | 218 => 178 | 219 => 179 | 260 => 199 | 217 => 200 | 225 => 201 | 224 => 202 | 267 => 203 | 266 => 212 | 314 => 213 | n => n,fun | 9 => 9 | 31 => 103 | 3 => 3 | 4 => 4 | 0 => 0 | 105 => 212 | 21 => 21 | 5 => 5 | 46 => 180 | 119 => 176 | 139 => 179 | 138 => 178 | 146 => 232 | 51 => 231 | n => n,fun | 1 => 2 | 3 => 0 | 4 => 1 | n => n⟩
theorem Tryz.laysSplit : Go.Proofs.LaysM.n146 Tryz.prog Tryz.laysSplit_ren := {
 mixed := by kernel_rfl
 f138 := Tryz.func134.trans (congrArg some (by kernel_rfl))
 f143 := Tryz.func135.trans (congrArg some (by kernel_rfl))
 f146 := Tryz.func47.trans (congrArg some (by kernel_rfl))
 f195 := Tryz.func176.trans (congrArg some (by kernel_rfl))
 f197 := Tryz.func177.trans (congrArg some (by kernel_rfl))
 f217 := Tryz.func200.trans (congrArg some (by kernel_rfl))
 f218 := Tryz.func178.trans (congrArg some (by kernel_rfl))
 f219 := Tryz.func179.trans (congrArg some (by kernel_rfl))
 f221 := Tryz.func90.trans (congrArg some (by kernel_rfl))
 f224 := Tryz.func202.trans (congrArg some (by kernel_rfl))
 f225 := Tryz.func201.trans (congrArg some (by kernel_rfl))
 f260 := Tryz.func199.trans (congrArg some (by kernel_rfl))
 f266 := Tryz.func212.trans (congrArg some (by kernel_rfl))
 f267 := Tryz.func203.trans (congrArg some (by kernel_rfl))
 f268 := Tryz.func133.trans (congrArg some (by kernel_rfl))
 f314 := Tryz.func213.trans (congrArg some (by kernel_rfl))
 t0 := Tryz.underlying0
 a0 := Tryz.isAgg0
 z0 := Tryz.sizeOf0
 v0 := Tryz.zeroValue0
 t3 := Tryz.underlying3
 a3 := Tryz.isAgg3
 z3 := Tryz.sizeOf3
 v3 := Tryz.zeroValue3
 t4 := Tryz.underlying4
 a4 := Tryz.isAgg4
 z4 := Tryz.sizeOf4
 v4 := Tryz.zeroValue4
 t5 := Tryz.underlying5
 a5 := Tryz.isAgg5
 z5 := Tryz.sizeOf5
 v5 := Tryz.zeroValue5
 t9 := Tryz.underlying9
 a9 := Tryz.isAgg9
 z9 := Tryz.sizeOf9
 v9 := Tryz.zeroValue9
 t21 := Tryz.underlying21
 a21 := Tryz.isAgg21
 z21 := Tryz.sizeOf21
 v21 := Tryz.zeroValue21
 t31 := Tryz.underlying103
 a31 := Tryz.isAgg103
 z31 := Tryz.sizeOf103
 v31 := Tryz.zeroValue103
 t46 := Tryz.underlying180
 a46 := Tryz.isAgg180
 z46 := Tryz.sizeOf180
 v46 := Tryz.zeroValue180
 t51 := Tryz.underlying231
 a51 := Tryz.isAgg231
 z51 := Tryz.sizeOf231
 v51 := Tryz.zeroValue231
 t105 := Tryz.underlying212
 a105 := Tryz.isAgg212
 z105 := Tryz.sizeOf212
 v105 := Tryz.zeroValue212
 t119 := Tryz.underlying176
 a119 := Tryz.isAgg176
 z119 := Tryz.sizeOf176
 t138 := Tryz.underlying178
 a138 := Tryz.isAgg178
 z138 := Tryz.sizeOf178
 v138 := Tryz.zeroValue178
 t139 := Tryz.underlying179
 a139 := Tryz.isAgg179
 z139 := Tryz.sizeOf179
 v139 := Tryz.zeroValue179
 t146 := Tryz.underlying232
 a146 := Tryz.isAgg232
 z146 := Tryz.sizeOf232
 v146 := Tryz.zeroValue232
 g1 := by kernel_rfl
 g3 := by kernel_rfl
 g4 := by kernel_rfl
 i0 := by kernel_rfl
 i3 := by kernel_rfl
 i4 := by kernel_rfl
 i5 := by kernel_rfl
 i9 := by kernel_rfl
 i21 := by kernel_rfl
 i31 := by kernel_rfl
 i46 := by kernel_rfl
 i51 := by kernel_rfl
 i105 := by kernel_rfl
 i138 := by kernel_rfl
 i139 := by kernel_rfl
 i146 := by kernel_rfl
 m1 := by kernel_rfl
 s1_3 := fun w h => Go.Proofs.cell_of_shapedOpen_int (zero := #[.int .i64 0]) (t := 3) h (of_decide_eq_true (by kernel_rfl)) (by kernel_rfl) rfl (by kernel_rfl) (by kernel_rfl) Tryz.underlying3
 m3 := by kernel_rfl
 m4 := by kernel_rfl }
end Go.Proofs
namespace Go.Proofs.YtndjopkdbdcmdaaGreatDoor
end Go.Proofs.YtndjopkdbdcmdaaGreatDoor
namespace Go.Proofs
open Go.Shelf
def Tryz.laysIns_ren : Go.Shelf.Ren := ⟨fun | 20 => 190 | n => n,fun | 24 => 115 | 22 => 111 | 3 => 3 | 25 => 154 | 4 => 4 | 0 => 0 | n => n,fun | n => n⟩
theorem Tryz.laysIns : Go.Proofs.SlLaysF0.n20 Tryz.prog Tryz.laysIns_ren := {
 mixed := by kernel_rfl
 f20 := ⟨Tryz.f190.name,by decide,Tryz.func190.trans (congrArg some (by kernel_rfl))⟩
 t0 := Tryz.underlying0
 a0 := Tryz.isAgg0
 z0 := Tryz.sizeOf0
 v0 := Tryz.zeroValue0
 t3 := Tryz.underlying3
 a3 := Tryz.isAgg3
 z3 := Tryz.sizeOf3
 v3 := Tryz.zeroValue3
 t4 := Tryz.underlying4
 a4 := Tryz.isAgg4
 z4 := Tryz.sizeOf4
 v4 := Tryz.zeroValue4
 t22 := Tryz.underlying111
 a22 := Tryz.isAgg111
 z22 := Tryz.sizeOf111
 v22 := Tryz.zeroValue111
 t25 := Tryz.underlying154
 a25 := Tryz.isAgg154
 z25 := Tryz.sizeOf154
 v25 := Tryz.zeroValue154 }
end Go.Proofs
namespace Go.Proofs.YtndjopkdbdcmdaaGreatDoor
end Go.Proofs.YtndjopkdbdcmdaaGreatDoor
