/- Part 8 of the proof of pindexes_card. -/
import Derived.Test.YtndjopkdbdcmdaaGreatDoorPix4
import Derived.Test.YtndjopkdbdcmdaaGreatDoorPix5
import Derived.Laws.Rows
import Derived.Deep.RegionHeld
import Derived.Deep.MidRow
import Derived.Great.BuildSlice
set_option linter.unusedVariables false
set_option linter.unusedSimpArgs false
set_option maxRecDepth 100000
set_option maxHeartbeats 12800000
namespace Go.Proofs.YtndjopkdbdcmdaaGreatDoor
section
open Go.RowKit Go.Shelf
theorem run_from (w : World) (b : Int) : (callFunc 138 #[.int .u64 b]).run Tryz.prog w = .ok (.value (.float .f64 b.toNat)) w := by kernel_rfl
theorem isnan_any (b : Nat) (w : World) : Calls Tryz.prog 140 #[.float .f64 b] w fun e w' => e = .returned (.bool (nanB b)) ∧ w = w' := by
 go_enter Tryz.func140,Tryz.ntmps140;go_wp2;go_ret;exact ⟨rfl,rfl⟩
theorem conv_fi (f : Nat) (n : Int) (h : floatToIntVal .f64 f .i64 = some n) (w : World) : (convert 186 2 (.float .f64 f)).run Tryz.prog w = .ok (.int .i64 n) w :=
 run_convert_float_int (P := Tryz.prog) w 186 2 .f64 .i64 f n (by kernel_rfl) (by kernel_rfl) h
end
section
open Go.RowKit
structure Kept (S : Nat → Prop) (w w' : World) : Prop where
 os : w'.os = w.os
 tape : w'.tape = w.tape
 output : w'.output = w.output
 size : w.heap.size ≤ w'.heap.size
 block : ∀ k,k < w.heap.size → ¬ S k → w'.heap[k]? = w.heap[k]?
theorem Kept.refl (S : Nat → Prop) (w : World) : Kept S w w := ⟨rfl,rfl,rfl,Nat.le_refl _,fun _ _ _ => rfl⟩
theorem Kept.trans {S : Nat → Prop} {a b c : World} (h : Kept S a b) (k : Kept S b c) : Kept S a c :=
 ⟨k.os.trans h.os,k.tape.trans h.tape,k.output.trans h.output,Nat.le_trans h.size k.size,fun i hi hs => (k.block i (Nat.lt_of_lt_of_le hi h.size) hs).trans (h.block i hi hs)⟩
theorem Kept.mono {S S' : Nat → Prop} {a b : World} (h : Kept S a b) (hs : ∀ q,S q → S' q) : Kept S' a b :=
 ⟨h.os,h.tape,h.output,h.size,fun k hk hn => h.block k hk (fun q => hn (hs k q))⟩
theorem Kept.grow {S : Nat → Prop} {a b : World} (h : Grow a b) : Kept S a b := ⟨h.os,h.tape,h.output,h.size,fun k hk _ => h.below.block k hk⟩
theorem Kept.set {S : Nat → Prop} {a w : World} (h : Kept S a w) {p : Addr} (hp : S p.block) (u : Value) : Kept S a (w.setCell p u) :=
 ⟨h.os,h.tape,h.output,by rw [show (w.setCell p u).heap.size = w.heap.size by simp [World.setCell]];exact h.size,fun k hk hs => (Below.heap_setCell w p u k (fun e => hs (e ▸ hp))).trans (h.block k hk hs)⟩
theorem Kept.below {S : Nat → Prop} {a b : World} {B : Nat} (h : Kept S a b) (hB : B ≤ a.heap.size) (hs : ∀ q,S q → B ≤ q) : Below B a b :=
 ⟨h.os,h.tape,h.output,h.size,fun k hk => h.block k (by omega) (fun q => by have := hs k q;omega)⟩
theorem Kept.blk {S : Nat → Prop} {a b : World} {g : Nat} {t : TypeId} {cs : Array Value} (h : Kept S a b) (hb : Blk a g t cs) (hs : ¬ S g) : Blk b g t cs := (h.block g hb.lt hs).trans hb
end
section
open Go.RowKit
abbrev cells2 (c d : Cv) : Array Value := #[.int .i64 c.k,.int .u64 c.n,.slice c.aB c.nB c.cB,.slice c.aL c.nL c.cL,.slice c.aF c.nF c.cF,.int .i64 d.k,.int .u64 d.n,.slice d.aB d.nB d.cB,.slice d.aL d.nL d.cL,.slice d.aF d.nF d.cF]
theorem InL.row2 {w : World} {u v : V} {c d : Cv} (h : In w u c) (k : In w v d) : InL (w.alloc (.cells (cells2 c d) 27)) (some ⟨w.heap.size,0,none⟩) 2 [u,v] := by
 have hg := (Grow.refl w).alloc (.cells (cells2 c d) 27);have hB := Blk.new w 27 (cells2 c d);have h' := h.grow hg;have k' := k.grow hg;have hlt := hB.lt;unfold InL In;rw [IsV];refine ⟨rfl,rfl,rfl,rfl,rfl,by decide,by decide,by decide,by simp,by simp,by simp,by simp,by simp,by simp,⟨rfl,fun h => by simp at h⟩,fun i hi => ?_,fun i hi => by simp at hi⟩;have hi2 : i = 0 ∨ i = 1 := by simp at hi;omega
 rcases hi2 with rfl | rfl
 ·exact ⟨w.heap.size,0,c,rfl,⟨⟨hB.cell 0,Nat.zero_le _,hlt⟩,⟨hB.cell 1,Nat.zero_le _,hlt⟩,⟨hB.cell 2,Nat.zero_le _,hlt⟩,⟨hB.cell 3,Nat.zero_le _,hlt⟩,⟨hB.cell 4,Nat.zero_le _,hlt⟩⟩,h'⟩
 exact ⟨w.heap.size,0,d,rfl,⟨⟨hB.cell 5,Nat.zero_le _,hlt⟩,⟨hB.cell 6,Nat.zero_le _,hlt⟩,⟨hB.cell 7,Nat.zero_le _,hlt⟩,⟨hB.cell 8,Nat.zero_le _,hlt⟩,⟨hB.cell 9,Nat.zero_le _,hlt⟩⟩,k'⟩
end
section
open Ieee Go
def sg (a b : Int) : Int := if a < b then -1 else if b < a then 1 else 0
theorem sg_lt {a b : Int} (h : a < b) : sg a b = -1 := by unfold sg;rw [if_pos h]
theorem sg_gt {a b : Int} (h : b < a) : sg a b = 1 := by unfold sg;rw [if_neg (by omega),if_pos h]
theorem sg_eq {a b : Int} (h : a = b) : sg a b = 0 := by unfold sg;rw [if_neg (by omega),if_neg (by omega)]
noncomputable def mixC (i : Int) (f : Nat) : Int := if i * (U1 : Int) < sv f then -1 else if sv f < i * (U1 : Int) then 1 else if f = 9223372036854775808 then 1 else -1
noncomputable def numC (k : Int) (n : Nat) (k' : Int) (n' : Nat) : Int :=
 if k = 3 then (if k' = 3 then sg (i64 n) (i64 n') else if nanB n' = true then 1 else mixC (i64 n) n')
 else if nanB n = true then (if k' = 3 then -1 else if nanB n' = true then sg n n' else -1)
 else if k' = 3 then -(mixC (i64 n') n)
 else if nanB n' = true then 1
 else if sv n < sv n' then -1 else if sv n' < sv n then 1 else sg ((n' / 9223372036854775808 : Nat) : Int) ((n / 9223372036854775808 : Nat) : Int)
def orC (a b : Int) : Int := if a = 0 then b else a
def foldC : List Int → Int
 | [] => 0
 | x :: r => orC x (foldC r)
def cls (k : Int) : Int := if k = 4 then 3 else k
namespace V
noncomputable def cmp : V → V → Int
 | mk k n b l f,mk k' n' b' l' f' =>
  if cls k ≠ cls k' then sg (cls k) (cls k')
  else if k = 2 then sg n n'
  else if k = 3 ∨ k = 4 then numC k n k' n'
  else if k = 5 ∨ k = 6 then Lib.compareBytes b b'
  else orC (orC (foldC (((l.attach).zip l').map fun p => cmp p.1.1 p.2)) (foldC (((f.attach).zip f').map fun p => orC (Lib.compareBytes p.1.1.1.data.toList p.2.1.data.toList) (cmp p.1.1.2 p.2.2)))) (sg ((l.length + f.length : Nat) : Int) ((l'.length + f'.length : Nat) : Int))
termination_by v => SizeOf.sizeOf v
decreasing_by
 ·exact sizeOf_l p.1.2
 exact sizeOf_f p.1.2
noncomputable def cmpL (l l' : List V) : Int := foldC ((l.zip l').map fun p => cmp p.1 p.2)
noncomputable def cmpP (x y : ByteArray × V) : Int := orC (Lib.compareBytes x.1.data.toList y.1.data.toList) (cmp x.2 y.2)
noncomputable def cmpF (f f' : List (ByteArray × V)) : Int := foldC ((f.zip f').map fun p => cmpP p.1 p.2)
theorem attach_zip {α β γ : Type} (g : α → β → γ) (l : List α) (l' : List β) : ((l.attach.zip l').map fun p => g p.1.1 p.2) = (l.zip l').map fun p => g p.1 p.2 := by
 have h : l.zip l' = (l.attach.map Subtype.val).zip l' := by rw [List.attach_map_subtype_val]
 rw [h,List.zip_map_left,List.map_map];rfl
theorem cmp_mk (k : Int) (n : Nat) (b : List UInt8) (l : List V) (f : List (ByteArray × V)) (k' : Int) (n' : Nat) (b' : List UInt8) (l' : List V) (f' : List (ByteArray × V)) : cmp (mk k n b l f) (mk k' n' b' l' f') =
 if cls k ≠ cls k' then sg (cls k) (cls k')
 else if k = 2 then sg n n'
 else if k = 3 ∨ k = 4 then numC k n k' n'
 else if k = 5 ∨ k = 6 then Lib.compareBytes b b'
 else orC (orC (cmpL l l') (cmpF f f')) (sg ((l.length + f.length : Nat) : Int) ((l'.length + f'.length : Nat) : Int)) := by
 rw [cmp];have e1 : (((l.attach).zip l').map fun p => cmp p.1.1 p.2) = (l.zip l').map fun p => cmp p.1 p.2 := attach_zip cmp l l'
 have e2 : (((f.attach).zip f').map fun p => orC (Lib.compareBytes p.1.1.1.data.toList p.2.1.data.toList) (cmp p.1.1.2 p.2.2)) = (f.zip f').map fun p => cmpP p.1 p.2 := attach_zip cmpP f f'
 rw [e1,e2];rfl
end V
def Diff (c : Int) (a b : List UInt8) : Prop := ∃ p x y a' b',a = p ++ x :: a' ∧ b = p ++ y :: b' ∧ x ≠ y ∧ c = sg (x.toNat : Int) (y.toNat : Int)
theorem Diff.right {c : Int} {a b : List UInt8} (h : Diff c a b) (r s : List UInt8) : Diff c (a ++ r) (b ++ s) := by
 obtain ⟨p,x,y,a',b',rfl,rfl,h1,h2⟩ := h;exact ⟨p,x,y,a' ++ r,b' ++ s,by simp,by simp,h1,h2⟩
theorem Diff.left {c : Int} {a b : List UInt8} (h : Diff c a b) (q : List UInt8) : Diff c (q ++ a) (q ++ b) := by
 obtain ⟨p,x,y,a',b',rfl,rfl,h1,h2⟩ := h;exact ⟨q ++ p,x,y,a',b',by simp,by simp,h1,h2⟩
theorem Diff.cons {c : Int} {a b : List UInt8} (h : Diff c a b) (q : UInt8) : Diff c (q :: a) (q :: b) := h.left [q]
theorem Diff.here {x y : UInt8} (h : x ≠ y) (a b : List UInt8) : Diff (sg (x.toNat : Int) (y.toNat : Int)) (x :: a) (y :: b) := ⟨[],x,y,a,b,rfl,rfl,h,rfl⟩
theorem toNat_ne {x y : UInt8} (h : x ≠ y) : x.toNat ≠ y.toNat := fun e => h (UInt8.toNat_inj.1 e)
theorem sg_swap (a b : Int) : sg b a = -(sg a b) := by unfold sg;repeat' split
                                                       all_goals omega
theorem sg_ne {a b : Int} (h : a ≠ b) : sg a b ≠ 0 := by unfold sg;repeat' split
                                                         all_goals omega
theorem sg_vals (a b : Int) : sg a b = -1 ∨ sg a b = 0 ∨ sg a b = 1 := by unfold sg;repeat' split
                                                                          all_goals omega
theorem Diff.swap {c : Int} {a b : List UInt8} (h : Diff c a b) : Diff (-c) b a := by
 obtain ⟨p,x,y,a',b',rfl,rfl,h1,rfl⟩ := h;exact ⟨p,y,x,b',a',rfl,rfl,fun e => h1 e.symm,(sg_swap _ _).symm⟩
theorem Diff.ne0 {c : Int} {a b : List UInt8} (h : Diff c a b) : c ≠ 0 := by
 obtain ⟨p,x,y,a',b',rfl,rfl,h1,rfl⟩ := h;have := toNat_ne h1;exact sg_ne (by omega)
theorem cmpB_left (p a b : List UInt8) : Lib.compareBytes (p ++ a) (p ++ b) = Lib.compareBytes a b := by
 induction p with
 | nil => rfl
 | cons x p ih => rw [List.cons_append,List.cons_append,Lib.compareBytes,if_neg (by simp),if_neg (by simp),ih]
theorem Diff.cmp {c : Int} {a b : List UInt8} (h : Diff c a b) : Lib.compareBytes a b = c := by
 obtain ⟨p,x,y,a',b',rfl,rfl,h1,rfl⟩ := h;rw [cmpB_left,Lib.compareBytes];have := toNat_ne h1;simp only [UInt8.lt_iff_toNat_lt];by_cases h : x.toNat < y.toNat
 ·rw [if_pos h,sg_lt (by omega)]
 rw [if_neg h,if_pos (show y.toNat < x.toNat by omega),sg_gt (by omega)]
theorem Diff.uniq {c c' : Int} {a b : List UInt8} (h : Diff c a b) (h' : Diff c' a b) : c = c' := h.cmp.symm.trans h'.cmp
theorem Diff.irrefl {c : Int} {a : List UInt8} (h : Diff c a a) : False := by
 obtain ⟨p,x,y,a',b',e1,e2,h1,rfl⟩ := h;rw [e1] at e2;have := List.append_cancel_left e2;injection this with h _;exact h1 h
theorem flip1_nat (x : UInt8) : (flip1 x).toNat = 255 - x.toNat := by unfold flip1;exact ofNat_toNat8 _ (by have := x.toNat_lt;omega)
theorem flip1_ne {x y : UInt8} (h : x ≠ y) : flip1 x ≠ flip1 y := by
 intro e;have := congrArg UInt8.toNat e;rw [flip1_nat,flip1_nat] at this;have h1 := x.toNat_lt;have h2 := y.toNat_lt;have := toNat_ne h;omega
theorem Diff.flip {c : Int} {a b : List UInt8} (h : Diff c a b) : Diff (-c) (a.map flip1) (b.map flip1) := by
 obtain ⟨p,x,y,a',b',rfl,rfl,h1,rfl⟩ := h;refine ⟨p.map flip1,flip1 x,flip1 y,a'.map flip1,b'.map flip1,by simp,by simp,flip1_ne h1,?_⟩;rw [flip1_nat,flip1_nat];have h1 := x.toNat_lt;have h2 := y.toNat_lt;unfold sg
 repeat' split
 all_goals omega
theorem be_mod (k a : Nat) : be k (a % 256 ^ k) = be k a := by
 unfold be toLe;congr 1;refine List.map_congr_left fun i hi => ?_
 have hik : i < k := List.mem_range.1 hi;apply UInt8.toNat_inj.1;rw [UInt8.toNat_ofNat',UInt8.toNat_ofNat'];have e : 256 ^ k = 256 ^ i * 256 ^ (k - i) := by rw [← Nat.pow_add,show i + (k - i) = k by omega]
 rw [e,Nat.mod_mul_right_div_self];have e2 : 256 ^ (k - i) = 256 * 256 ^ (k - i - 1) := by rw [Nat.mul_comm,← Nat.pow_succ,show (k - i - 1).succ = k - i by omega]
 show a / 256 ^ i % 256 ^ (k - i) % 256 = a / 256 ^ i % 256;rw [e2,Nat.mod_mul_right_mod]
theorem be_diff : ∀ (k a b : Nat),a < 256 ^ k → b < 256 ^ k → a < b → Diff (-1) (be k a) (be k b)
 | 0,a,b,ha,hb,h => by simp at ha hb;omega
 | k + 1,a,b,ha,hb,h => by
  rw [be_succ,be_succ];have hp : 0 < 256 ^ k := Nat.pow_pos (by omega);have h1 : a / 256 ^ k < 256 := by rw [Nat.div_lt_iff_lt_mul hp,Nat.mul_comm,← Nat.pow_succ];exact ha
  have h2 : b / 256 ^ k < 256 := by rw [Nat.div_lt_iff_lt_mul hp,Nat.mul_comm,← Nat.pow_succ];exact hb
  have hle : a / 256 ^ k ≤ b / 256 ^ k := Nat.div_le_div_right (by omega);have ea := Nat.div_add_mod a (256 ^ k);have eb := Nat.div_add_mod b (256 ^ k);by_cases he : a / 256 ^ k = b / 256 ^ k
  ·rw [he];have hm : a % 256 ^ k < b % 256 ^ k := by rw [he] at ea;omega
   have ih := be_diff k (a % 256 ^ k) (b % 256 ^ k) (Nat.mod_lt _ hp) (Nat.mod_lt _ hp) hm;rw [be_mod,be_mod] at ih;exact ih.cons _
  have hlt : a / 256 ^ k < b / 256 ^ k := by omega
  have e1 : (UInt8.ofNat (a / 256 ^ k)).toNat = a / 256 ^ k := ofNat_toNat8 _ h1;have e2 : (UInt8.ofNat (b / 256 ^ k)).toNat = b / 256 ^ k := ofNat_toNat8 _ h2;have hd := Diff.here (x := UInt8.ofNat (a / 256 ^ k)) (y := UInt8.ofNat (b / 256 ^ k)) (fun e => by have := congrArg UInt8.toNat e;omega) (be k a) (be k b);rw [e1,e2,sg_lt (by omega)] at hd;exact hd
theorem be_cmp (k a b : Nat) (ha : a < 256 ^ k) (hb : b < 256 ^ k) (h : a ≠ b) : Diff (sg a b) (be k a) (be k b) := by
 rcases Nat.lt_or_ge a b with h1 | h1
 ·rw [sg_lt (by omega)];exact be_diff k a b ha hb h1
 rw [sg_gt (by omega)];have := (be_diff k b a hb ha (by omega)).swap;simpa using this
theorem pow8 : (256 : Nat) ^ 8 = 18446744073709551616 := by decide
theorem nanB_eq {n : Nat} (hn : n < 18446744073709551616) : nanB n = decide (9218868437227405312 < n % 9223372036854775808) := by
 unfold nanB;by_cases h : 9218868437227405312 < n % 9223372036854775808
 ·rw [order_nan_l h,decide_eq_true h];rfl
 rw [order_sv hn hn (by omega) (by omega),ordInt_eq rfl,decide_eq_false h];rfl
theorem turn_sm {a b : Nat} (ha : a < 18446744073709551616) (hb : b < 18446744073709551616) (h : sm a < sm b) : turnN a < turnN b := by
 unfold sm at h;unfold turnN
 repeat' split
 all_goals (repeat' split at h)
 all_goals omega
theorem sm_eq {a b : Nat} (ha : a < 18446744073709551616) (hb : b < 18446744073709551616) (h : sm a = sm b) (hne : a ≠ b) : (a = 9223372036854775808 ∧ b = 0) ∨ (a = 0 ∧ b = 9223372036854775808) := by
 unfold sm at h
 repeat' split at h
 all_goals omega
theorem turn_diff {a b : Nat} (ha : a < 18446744073709551616) (hb : b < 18446744073709551616) (hlt : turnN a < turnN b) : Diff (-1) (be 8 (turnN a)) (be 8 (turnN b)) :=
 be_diff 8 _ _ (by rw [pow8];exact turn_lt a ha) (by rw [pow8];exact turn_lt b hb) hlt
theorem turn_diff' {a b : Nat} (ha : a < 18446744073709551616) (hb : b < 18446744073709551616) (hlt : turnN b < turnN a) : Diff 1 (be 8 (turnN a)) (be 8 (turnN b)) := by
 have := (turn_diff hb ha hlt).swap;simpa using this
theorem sv_neg0 : sv 9223372036854775808 = 0 := by unfold sv;rw [if_neg (by omega)];decide
theorem turn_neg0 : turnN 9223372036854775808 < turnN 0 := by decide
theorem fl_pos (i : Int) (h : 0 ≤ i) : (fl i).1 < 9223372036854775808 := by
 unfold fl;rw [if_pos h];show Ieee.double.nearest false _ 0 < _;unfold Format.nearest;split
 ·unfold Format.word;simp
 unfold Format.word;simp only [Bool.false_eq_true,if_false,dbl_inf];exact Nat.lt_of_le_of_lt (Nat.min_le_right _ _) (by omega)
theorem mul_pos_lt {i j : Int} (h : i < j) : i * (U1 : Int) < j * (U1 : Int) := Int.mul_lt_mul_of_pos_right h (by have := U1_pos;omega)
theorem mul_inj {i j : Int} (h : i * (U1 : Int) = j * (U1 : Int)) : i = j := by
 rcases Int.lt_trichotomy i j with h1 | h1 | h1
 ·have := mul_pos_lt h1;omega
 ·exact h1
 have := mul_pos_lt h1;omega
theorem fl_nz (i : Int) (h1 : -9223372036854775808 ≤ i) (h2 : i ≤ 9223372036854775807) : (fl i).1 ≠ 9223372036854775808 := by
 intro e;by_cases h : 0 ≤ i
 ·have := fl_pos i h;omega
 have hu := fl_under i h1 h2;have hv := hu.val;rw [e,sv_neg0] at hv;have := mul_inj (i := 0) (j := i - ((fl i).2 : Int)) (by rw [Int.zero_mul];exact hv);omega
theorem int_diff (a b : Nat) (ha : a < 18446744073709551616) (hb : b < 18446744073709551616) (h : i64 a < i64 b) : Diff (-1) (keyInt a) (keyInt b) := by
 have ra := i64_range a ha;have rb := i64_range b hb;have ua := fl_under _ ra.1 ra.2;have ub := fl_under _ rb.1 rb.2;have na := fl_nz _ ra.1 ra.2;have nb := fl_nz _ rb.1 rb.2;have sa := (floor_cases _ ra.1 ra.2).small;have sb := (floor_cases _ rb.1 rb.2).small;unfold keyInt;generalize (fl (i64 a)).1 = F at ua na ⊢;generalize (fl (i64 a)).2 = r at ua sa ⊢;generalize (fl (i64 b)).1 = G at ub nb ⊢;generalize (fl (i64 b)).2 = s at ub sb ⊢;refine Diff.cons ?_ 1;have h1 : sv F ≤ sv G := ub.top F (by rw [ua.val];have := mul_pos_lt h;have : (i64 a - (r : Int)) * (U1 : Int) ≤ i64 a * (U1 : Int) := Int.mul_le_mul_of_nonneg_right (by omega) (by omega);omega);rcases Int.lt_or_eq_of_le h1 with h1 | h1
 ·exact (turn_diff ua.bits ub.bits (turn_sm ua.bits ub.bits ((sv_lt _ _).1 h1))).right _ _
 have hFG : F = G := by
  refine Decidable.byContradiction fun hne => ?_
  rcases sm_eq ua.bits ub.bits ((sv_eq _ _).1 h1) hne with ⟨e,_⟩ | ⟨_,e⟩
  ·exact na e
  exact nb e
 subst hFG;have e := mul_inj (ua.val.symm.trans ub.val);refine Diff.left (Diff.right (be_diff 2 r s (by omega) (by omega) (by omega)) _ _) _
theorem mix_diff (a f : Nat) (ha : a < 18446744073709551616) (hf : f < 18446744073709551616) : Diff (mixC (i64 a) f) (keyInt a) (1 :: (be 8 (turnN f) ++ [0,0,1])) := by
 have ra := i64_range a ha;have ua := fl_under _ ra.1 ra.2;have na := fl_nz _ ra.1 ra.2;have sa := (floor_cases _ ra.1 ra.2).small;unfold keyInt;generalize i64 a = i at ua na sa ra ⊢;generalize (fl i).1 = F at ua na ⊢;generalize (fl i).2 = r at ua sa ⊢;refine Diff.cons ?_ 1;have hle : sv F ≤ i * (U1 : Int) := by rw [ua.val];exact Int.mul_le_mul_of_nonneg_right (by omega) (by omega)
 unfold mixC;by_cases c1 : i * (U1 : Int) < sv f
 ·rw [if_pos c1];exact (turn_diff ua.bits hf (turn_sm ua.bits hf ((sv_lt _ _).1 (by omega)))).right _ _
 rw [if_neg c1];have hfF := ua.top f (by omega);by_cases c2 : sv f < sv F
 ·have hd := (turn_diff' ua.bits hf (turn_sm hf ua.bits ((sv_lt _ _).1 c2)));rw [if_pos (by omega)];exact hd.right _ _
 have heq : sv f = sv F := by omega
 by_cases c3 : f = F
 ·subst c3;by_cases hr : r = 0
  ·subst hr;have : sv f = i * (U1 : Int) := by rw [ua.val];simp
   rw [if_neg (by omega),if_neg na];have e : (be 2 0 ++ [0] : List UInt8) = [0,0] ++ [0] := by decide
   rw [e];exact Diff.left (Diff.left (Diff.here (x := 0) (y := 1) (by decide) [] []) [0,0]) _
  have hlt : sv f < i * (U1 : Int) := by rw [ua.val];exact mul_pos_lt (by omega)
  rw [if_pos hlt];have hd := (be_diff 2 0 r (by omega) (by omega) (by omega)).swap;have e : be 2 0 = [0,0] := by decide
  rw [e] at hd;have := (Diff.right hd [0] [1]).left (be 8 (turnN f));simpa using this
 rcases sm_eq hf ua.bits ((sv_eq _ _).1 heq) c3 with ⟨e1,e2⟩ | ⟨_,e⟩
 ·subst e1 e2;have hd := (turn_diff' ua.bits hf turn_neg0).right (be 2 r ++ [0]) [0,0,1];split
  ·exact hd
  rw [if_pos rfl];exact hd
 exact absurd e na
theorem float_diff (a b : Nat) (ha : a < 18446744073709551616) (hb : b < 18446744073709551616) (hne : a ≠ b) :
 Diff (if sv a < sv b then -1 else if sv b < sv a then 1 else sg ((b / 9223372036854775808 : Nat) : Int) ((a / 9223372036854775808 : Nat) : Int)) (be 8 (turnN a) ++ [0,0,1]) (be 8 (turnN b) ++ [0,0,1]) := by
 by_cases c1 : sv a < sv b
 ·rw [if_pos c1];exact (turn_diff ha hb (turn_sm ha hb ((sv_lt _ _).1 c1))).right _ _
 rw [if_neg c1];by_cases c2 : sv b < sv a
 ·rw [if_pos c2];exact (turn_diff' ha hb (turn_sm hb ha ((sv_lt _ _).1 c2))).right _ _
 rw [if_neg c2];rcases sm_eq ha hb ((sv_eq _ _).1 (by omega)) hne with ⟨e1,e2⟩ | ⟨e1,e2⟩
 ·subst e1 e2;exact (turn_diff ha hb turn_neg0).right _ _
 subst e1 e2;exact (turn_diff' ha hb turn_neg0).right _ _
def numKey (k : Int) (n : Nat) : List UInt8 := if k = 3 then keyInt n else keyFloat n
theorem i64_inj {a b : Nat} (ha : a < 18446744073709551616) (hb : b < 18446744073709551616) (h : i64 a = i64 b) : a = b := by
 unfold i64 at h
 repeat' split at h
 all_goals omega
theorem num_diff (k k' : Int) (a b : Nat) (hk : k = 3 ∨ k = 4) (hk' : k' = 3 ∨ k' = 4) (ha : a < 18446744073709551616) (hb : b < 18446744073709551616) :
 (k = k' ∧ a = b ∧ numC k a k' b = 0) ∨ Diff (numC k a k' b) (numKey k a) (numKey k' b) := by
 have h43 : ¬ (4 : Int) = 3 := by decide
 have hneg : sg 1 0 = 1 := by decide
 unfold numC numKey;rcases hk with rfl | rfl
 ·simp only [if_true];rcases hk' with rfl | rfl
  ·simp only [if_true];rcases Int.lt_trichotomy (i64 a) (i64 b) with h | h | h
   ·rw [sg_lt h];exact .inr (int_diff a b ha hb h)
   ·exact .inl ⟨trivial,i64_inj ha hb h,sg_eq h⟩
   rw [sg_gt h];right;have := (int_diff b a hb ha h).swap;simpa using this
  simp only [if_neg h43];right;unfold keyFloat
  by_cases hn : nanB b = true
  ·simp only [if_pos hn];exact Diff.here (x := 1) (y := 0) (by decide) _ _
  simp only [if_neg hn];exact mix_diff a b ha hb
 simp only [if_neg h43];unfold keyFloat
 by_cases hn : nanB a = true
 ·simp only [if_pos hn];rcases hk' with rfl | rfl
  ·simp only [if_true];right;exact Diff.here (x := 0) (y := 1) (by decide) _ _
  simp only [if_neg h43];by_cases hm : nanB b = true
  ·simp only [if_pos hm];by_cases hab : a = b
   ·subst hab;exact .inl ⟨trivial,rfl,sg_eq rfl⟩
   right;exact (be_cmp 8 a b (by rw [pow8];exact ha) (by rw [pow8];exact hb) hab).cons 0
  simp only [if_neg hm];right;exact Diff.here (x := 0) (y := 1) (by decide) _ _
 simp only [if_neg hn];rcases hk' with rfl | rfl
 ·simp only [if_true];right;exact (mix_diff b a hb ha).swap
 simp only [if_neg h43];by_cases hm : nanB b = true
 ·simp only [if_pos hm];right;exact Diff.here (x := 1) (y := 0) (by decide) _ _
 simp only [if_neg hm];by_cases hab : a = b
 ·subst hab;refine .inl ⟨trivial,rfl,?_⟩;rw [if_neg (by omega),if_neg (by omega)];exact sg_eq rfl
 right;exact (float_diff a b ha hb hab).cons 1
theorem orC_0 (b : Int) : orC 0 b = b := rfl
theorem orC_n {a : Int} (b : Int) (h : a ≠ 0) : orC a b = a := by unfold orC;rw [if_neg h]
theorem cmpB_self : ∀ a : List UInt8,Lib.compareBytes a a = 0
 | [] => rfl
 | x :: a => by rw [Lib.compareBytes,if_neg (by simp),if_neg (by simp),cmpB_self a]
theorem esc_diff : ∀ (a b : List UInt8),a ≠ b → Diff (Lib.compareBytes a b) (esc a) (esc b)
 | [],[],h => absurd rfl h
 | [],y :: b,_ => by
  have e : esc ([] : List UInt8) = [0,0] := rfl;rw [e];unfold esc;rw [escB];split
  ·rename_i h;subst h;exact (Diff.here (x := 0) (y := 255) (by decide) [] _).cons 0
  rename_i h;have hy : 0 < y.toNat := Nat.pos_of_ne_zero (fun e => h (UInt8.toNat_inj.1 e));have := Diff.here (x := 0) (y := y) (fun e => h e.symm) [0] (escB b ++ [0,0]);rw [show ((0 : UInt8).toNat : Int) = 0 from rfl,sg_lt (by omega)] at this;exact this
 | x :: a,[],_ => by
  have e : esc ([] : List UInt8) = [0,0] := rfl;rw [e];unfold esc;rw [escB];split
  ·rename_i h;subst h;exact (Diff.here (x := 255) (y := 0) (by decide) _ []).cons 0
  rename_i h;have hy : 0 < x.toNat := Nat.pos_of_ne_zero (fun e => h (UInt8.toNat_inj.1 e));have := Diff.here (x := x) (y := 0) h (escB a ++ [0,0]) [0];rw [show ((0 : UInt8).toNat : Int) = 0 from rfl,sg_gt (by omega)] at this;exact this
 | x :: a,y :: b,h => by
  by_cases hxy : x = y
  ·subst hxy;have hab : a ≠ b := fun e => h (by rw [e])
   have ih := esc_diff a b hab;have e : Lib.compareBytes (x :: a) (x :: b) = Lib.compareBytes a b := cmpB_left [x] a b;rw [e];unfold esc at ih ⊢;rw [escB,escB];split
   ·exact (ih.cons 255).cons 0
   exact ih.cons x
  have hc : Lib.compareBytes (x :: a) (y :: b) = sg (x.toNat : Int) (y.toNat : Int) := (Diff.here hxy a b).cmp;rw [hc];unfold esc;rw [escB,escB];by_cases hx : x = 0
  ·subst hx;rw [if_pos rfl,if_neg (fun e => hxy e.symm)];exact Diff.here hxy _ _
  rw [if_neg hx];by_cases hy : y = 0
  ·subst hy;rw [if_pos rfl];exact Diff.here hxy _ _
  rw [if_neg hy];exact Diff.here hxy _ _
namespace V
def KD (u v : V) : Prop := (u = v ∧ cmp u v = 0) ∨ Diff (cmp u v) u.key v.key
theorem list_diff : ∀ (l l' : List V),(∀ x ∈ l,∀ y ∈ l',KD x y) →
 (l = l' ∧ cmpL l l' = 0) ∨ Diff (orC (cmpL l l') (sg (l.length : Int) (l'.length : Int))) ((l.map keyL).flatten ++ [0]) ((l'.map keyL).flatten ++ [0])
 | [],[],_ => .inl ⟨rfl,rfl⟩
 | [],y :: l',_ => by
  right;have e : orC (cmpL [] (y :: l')) (sg (([] : List V).length : Int) ((y :: l').length : Int)) = -1 := by
   show orC 0 _ = _;rw [orC_0];exact sg_lt (by simp)
  rw [e];exact Diff.here (x := 0) (y := 1) (by decide) [] _
 | x :: l,[],_ => by
  right;have e : orC (cmpL (x :: l) []) (sg ((x :: l).length : Int) (([] : List V).length : Int)) = 1 := by
   show orC 0 _ = _;rw [orC_0];exact sg_gt (by simp)
  rw [e];exact Diff.here (x := 1) (y := 0) (by decide) _ []
 | x :: l,y :: l',h => by
  have e : cmpL (x :: l) (y :: l') = orC (cmp x y) (cmpL l l') := rfl;have k1 : ((x :: l).map keyL).flatten ++ [0] = 1 :: (x.key ++ ((l.map keyL).flatten ++ [0])) := by simp [keyL]
  have k2 : ((y :: l').map keyL).flatten ++ [0] = 1 :: (y.key ++ ((l'.map keyL).flatten ++ [0])) := by simp [keyL]
  rw [e,k1,k2];rcases h x List.mem_cons_self y List.mem_cons_self with ⟨rfl,h0⟩ | hd
  ·rw [h0,orC_0];rcases list_diff l l' (fun a ha b hb => h a (List.mem_cons_of_mem _ ha) b (List.mem_cons_of_mem _ hb)) with ⟨rfl,h1⟩ | hd
   ·exact .inl ⟨rfl,h1⟩
   right;have e : sg ((x :: l).length : Int) ((x :: l').length : Int) = sg (l.length : Int) (l'.length : Int) := by unfold sg;simp
   rw [e];exact (hd.left x.key).cons 1
  right;rw [orC_n _ hd.ne0,orC_n _ hd.ne0];exact (hd.right _ _).cons 1
theorem toList_inj {a b : ByteArray} (h : a.data.toList = b.data.toList) : a = b := by
 cases a;cases b;simp at h;rw [h]
theorem doc_diff : ∀ (l l' : List (ByteArray × V)),(∀ x ∈ l,∀ y ∈ l',KD x.2 y.2) →
 (l = l' ∧ cmpF l l' = 0) ∨ Diff (orC (cmpF l l') (sg (l.length : Int) (l'.length : Int))) ((l.map keyFd).flatten ++ [0]) ((l'.map keyFd).flatten ++ [0])
 | [],[],_ => .inl ⟨rfl,rfl⟩
 | [],y :: l',_ => by
  right;have e : orC (cmpF [] (y :: l')) (sg (([] : List (ByteArray × V)).length : Int) ((y :: l').length : Int)) = -1 := by
   show orC 0 _ = _;rw [orC_0];exact sg_lt (by simp)
  rw [e];exact Diff.here (x := 0) (y := 1) (by decide) [] _
 | x :: l,[],_ => by
  right;have e : orC (cmpF (x :: l) []) (sg ((x :: l).length : Int) (([] : List (ByteArray × V)).length : Int)) = 1 := by
   show orC 0 _ = _;rw [orC_0];exact sg_gt (by simp)
  rw [e];exact Diff.here (x := 1) (y := 0) (by decide) _ []
 | (s,x) :: l,(t,y) :: l',h => by
  have e : cmpF ((s,x) :: l) ((t,y) :: l') = orC (orC (Lib.compareBytes s.data.toList t.data.toList) (cmp x y)) (cmpF l l') := rfl;have k1 : (((s,x) :: l).map keyFd).flatten ++ [0] = 1 :: (esc s.data.toList ++ (x.key ++ ((l.map keyFd).flatten ++ [0]))) := by simp [keyFd]
  have k2 : (((t,y) :: l').map keyFd).flatten ++ [0] = 1 :: (esc t.data.toList ++ (y.key ++ ((l'.map keyFd).flatten ++ [0]))) := by simp [keyFd]
  rw [e,k1,k2];by_cases hst : s.data.toList = t.data.toList
  ·obtain rfl := toList_inj hst;rw [cmpB_self,orC_0];rcases h (s,x) List.mem_cons_self (s,y) List.mem_cons_self with ⟨h00,h0⟩ | hd
   ·simp only at h00 h0;subst h00;rw [h0,orC_0];rcases doc_diff l l' (fun a ha b hb => h a (List.mem_cons_of_mem _ ha) b (List.mem_cons_of_mem _ hb)) with ⟨rfl,h1⟩ | hd
    ·exact .inl ⟨rfl,h1⟩
    right;have e : sg (((s,x) :: l).length : Int) (((s,x) :: l').length : Int) = sg (l.length : Int) (l'.length : Int) := by unfold sg;simp
    rw [e];exact ((hd.left x.key).left (esc s.data.toList)).cons 1
   right;simp only at hd;rw [orC_n _ hd.ne0,orC_n _ hd.ne0];exact ((hd.right _ _).left (esc s.data.toList)).cons 1
  right;have hd := esc_diff _ _ hst;rw [orC_n (cmp x y) hd.ne0,orC_n _ hd.ne0,orC_n _ hd.ne0];exact (hd.right _ _).cons 1
theorem head_diff {x y : UInt8} {a b : List UInt8} {c : Int} (h : x ≠ y) (hc : c = sg (x.toNat : Int) (y.toNat : Int)) : Diff c (x :: a) (y :: b) := hc ▸ Diff.here h a b
theorem ofNat8_inj {a b : Nat} (ha : a < 256) (hb : b < 256) (h : UInt8.ofNat a = UInt8.ofNat b) : a = b := by
 have := congrArg UInt8.toNat h;rwa [ofNat_toNat8 a ha,ofNat_toNat8 b hb] at this
def hd (k : Int) : UInt8 := if k = 1 then 16 else if k = 2 then 32 else if k = 3 then 48 else if k = 4 then 48 else if k = 5 then 64 else if k = 6 then 80 else if k = 7 then 96 else 112
theorem key_hd {k : Int} {n : Nat} {b : List UInt8} {l : List V} {f : List (ByteArray × V)} (h : (mk k n b l f).formed = true) : (1 ≤ k ∧ k ≤ 8) ∧ ∃ r,(mk k n b l f).key = hd k :: r := by
 rcases formed_cases h with h | ⟨n',hn',h⟩ | ⟨n',h⟩ | ⟨n',h⟩ | ⟨b',hb',h⟩ | ⟨b',h⟩ | ⟨l',hl',h⟩ | ⟨f',hf',hnd,h⟩ <;> cases h <;> exact ⟨by decide,_,by rw [key_mk];rfl⟩
theorem hd_cls {k k' : Int} (h : 1 ≤ k ∧ k ≤ 8) (h' : 1 ≤ k' ∧ k' ≤ 8) (hne : cls k ≠ cls k') : hd k ≠ hd k' ∧ sg (cls k) (cls k') = sg ((hd k).toNat : Int) ((hd k').toNat : Int) := by
 have a : k = 1 ∨ k = 2 ∨ k = 3 ∨ k = 4 ∨ k = 5 ∨ k = 6 ∨ k = 7 ∨ k = 8 := by omega
 have b : k' = 1 ∨ k' = 2 ∨ k' = 3 ∨ k' = 4 ∨ k' = 5 ∨ k' = 6 ∨ k' = 7 ∨ k' = 8 := by omega
 rcases a with rfl | rfl | rfl | rfl | rfl | rfl | rfl | rfl <;> rcases b with rfl | rfl | rfl | rfl | rfl | rfl | rfl | rfl <;> first | exact absurd rfl hne | exact ⟨by decide,by decide⟩
theorem number_key {k : Int} (hk : k = 3 ∨ k = 4) (n : Nat) : (mk k n [] [] []).key = 48 :: numKey k n := by
 rcases hk with rfl | rfl
 ·rw [key_mk];rfl
 rw [key_mk];rfl
theorem number_cmp {k k' : Int} (hk : k = 3 ∨ k = 4) (hk' : k' = 3 ∨ k' = 4) (n n' : Nat) : cmp (mk k n [] [] []) (mk k' n' [] [] []) = numC k n k' n' := by
 rw [cmp_mk,if_neg,if_neg (by omega),if_pos hk];rcases hk with rfl | rfl <;> rcases hk' with rfl | rfl <;> decide
theorem number_KD {k k' : Int} (hk : k = 3 ∨ k = 4) (hk' : k' = 3 ∨ k' = 4) {n n' : Nat} (ha : n < 18446744073709551616) (hb : n' < 18446744073709551616) : KD (mk k n [] [] []) (mk k' n' [] [] []) := by
 unfold KD;rw [number_key hk,number_key hk',number_cmp hk hk'];rcases num_diff k k' n n' hk hk' ha hb with ⟨rfl,rfl,h⟩ | h
 ·exact .inl ⟨rfl,h⟩
 exact .inr (h.cons 48)
theorem flat_KD {k : Int} (hk : k = 5 ∨ k = 6) (b b' : List UInt8) : KD (mk k 0 b [] []) (mk k 0 b' [] []) := by
 have e : ∀ b,(mk k 0 b [] []).key = hd k :: esc b := by intro b;rcases hk with rfl | rfl <;> rw [key_mk] <;> rfl
 have c : cmp (mk k 0 b [] []) (mk k 0 b' [] []) = Lib.compareBytes b b' := by
  rw [cmp_mk,if_neg (by simp),if_neg (by omega),if_neg (by omega),if_pos hk]
 unfold KD;rw [e,e,c];by_cases h : b = b'
 ·subst h;exact .inl ⟨rfl,cmpB_self b⟩
 exact .inr ((esc_diff b b' h).cons _)
theorem key_diff (u : V) : ∀ v : V,u.formed = true → u.fit → v.formed = true → v.fit → KD u v := by
 induction u using V.ind with
 | h k n b l f hl hf =>
  intro v hu fu hv fv;obtain ⟨k',n',b',l',f'⟩ := v;by_cases hcl : cls k ≠ cls k'
  ·obtain ⟨r1,q1,e1⟩ := key_hd hu;obtain ⟨r2,q2,e2⟩ := key_hd hv;obtain ⟨h1,h2⟩ := hd_cls r1 r2 hcl;right;rw [cmp_mk,if_pos hcl,e1,e2];exact head_diff h1 h2
  have hcl : cls k = cls k' := Decidable.byContradiction hcl;have hu' := hu;have hv' := hv;rw [V.fit] at fu fv;rcases formed_cases hu with h | ⟨m,hm,h⟩ | ⟨m,h⟩ | ⟨m,h⟩ | ⟨m,hm,h⟩ | ⟨m,h⟩ | ⟨m,hm,h⟩ | ⟨m,hm,hnd,h⟩ <;> cases h <;>
  rcases formed_cases hv with h | ⟨m',hm',h⟩ | ⟨m',h⟩ | ⟨m',h⟩ | ⟨m',hm',h⟩ | ⟨m',h⟩ | ⟨m',hm',h⟩ | ⟨m',hm',hnd',h⟩ <;> cases h <;>
  first
  | exact absurd hcl (by decide)
  | exact number_KD (by decide) (by decide) fu.1 fv.1
  | exact flat_KD (by decide) _ _
  | skip
  ·exact .inl ⟨rfl,by rw [cmp_mk];rfl⟩
  ·have e : ∀ n : Nat,(mk 2 n [] [] []).key = [32,UInt8.ofNat n] := by intro n;rw [key_mk];rfl
   have c : cmp (mk 2 n [] [] []) (mk 2 n' [] [] []) = sg n n' := by rw [cmp_mk];rfl
   unfold KD;rw [e,e,c];by_cases h : n = n'
   ·subst h;exact .inl ⟨rfl,sg_eq rfl⟩
   right;refine Diff.cons (head_diff (fun e => h (ofNat8_inj (by omega) (by omega) e)) ?_) 32;rw [ofNat_toNat8 n (by omega),ofNat_toNat8 n' (by omega)]
  ·have e : ∀ l : List V,(mk 7 0 [] l []).key = 96 :: ((l.map keyL).flatten ++ [0]) := by intro l;rw [key_mk];rfl
   have c : cmp (mk 7 0 [] l []) (mk 7 0 [] l' []) = orC (cmpL l l') (sg (l.length : Int) (l'.length : Int)) := by
    rw [cmp_mk,if_neg (by simp),if_neg (by decide),if_neg (by decide),if_neg (by decide)];have : cmpF [] [] = 0 := rfl;rw [this];simp only [List.length_nil,Nat.add_zero];congr 1;unfold orC;split <;> simp_all
   unfold KD;rw [e,e,c];rcases list_diff l l' (fun x hx y hy => hl x hx y (hm x hx) (fu.2.1 x hx) (hm' y hy) (fv.2.1 y hy)) with ⟨rfl,h⟩ | h
   ·left;refine ⟨rfl,?_⟩;rw [h,orC_0];exact sg_eq rfl
   exact .inr (h.cons 96)
  have e : ∀ l : List (ByteArray × V),(mk 8 0 [] [] l).key = 112 :: ((l.map keyFd).flatten ++ [0]) := by intro l;rw [key_mk];rfl
  have c : cmp (mk 8 0 [] [] f) (mk 8 0 [] [] f') = orC (cmpF f f') (sg (f.length : Int) (f'.length : Int)) := by
   rw [cmp_mk,if_neg (by simp),if_neg (by decide),if_neg (by decide),if_neg (by decide)];have : cmpL [] [] = 0 := rfl;rw [this,orC_0];simp only [List.length_nil,Nat.zero_add]
  unfold KD;rw [e,e,c];rcases doc_diff f f' (fun x hx y hy => hf x hx y.2 (hm x hx).2 (fu.2.2 x hx) (hm' y hy).2 (fv.2.2 y hy)) with ⟨rfl,h⟩ | h
  ·left;refine ⟨rfl,?_⟩;rw [h,orC_0];exact sg_eq rfl
  exact .inr (h.cons 112)
end V
end
section
open Go.RowKit Go.Shelf
theorem nani_any (a : Int) (w : World) : Calls Tryz.prog 136 #[.int .i64 a] w fun e w' => e = .returned (.bool false) ∧ w = w' := by
 go_enter Tryz.func136,Tryz.ntmps136;go_wp2;go_ret;exact ⟨by simp,rfl⟩
theorem nani64_any (a : Int) (w : World) : Calls Tryz.prog 180 #[.int .i64 a] w fun e w' => e = .returned (.bool false) ∧ w = w' := by
 go_enter Tryz.func180,Tryz.ntmps180;go_wp2;go_ret;exact ⟨by simp,rfl⟩
theorem nanu64_any (a : Int) (w : World) : Calls Tryz.prog 137 #[.int .u64 a] w fun e w' => e = .returned (.bool false) ∧ w = w' := by
 go_enter Tryz.func137,Tryz.ntmps137;go_wp2;go_ret;exact ⟨by simp,rfl⟩
theorem nanf_any (a : Nat) (w : World) : Calls Tryz.prog 181 #[.float .f64 a] w fun e w' => e = .returned (.bool (nanB a)) ∧ w = w' := by
 go_enter Tryz.func181,Tryz.ntmps181;go_wp2;go_ret;exact ⟨rfl,rfl⟩
theorem cmpi_any (a b : Int) (w : World) : Calls Tryz.prog 92 #[.int .i64 a,.int .i64 b] w fun e w' => e = .returned (.int .i64 (sg a b)) ∧ w = w' := by
 rcases Int.lt_trichotomy a b with h | h | h
 ·rw [sg_lt h];go_enter Tryz.func92,Tryz.ntmps92;go_wp2_with (go_at_call 136;refine (nani_any _ _).mono ?_;rintro e w' ⟨rfl,rfl⟩);go_ret;exact ⟨rfl,rfl⟩
 ·rw [sg_eq h];subst h;go_enter Tryz.func92,Tryz.ntmps92;go_wp2_with (go_at_call 136;refine (nani_any _ _).mono ?_;rintro e w' ⟨rfl,rfl⟩);go_ret;exact ⟨rfl,rfl⟩
 rw [sg_gt h];have h2 : ¬ a < b := by omega
 go_enter Tryz.func92,Tryz.ntmps92;go_wp2_with (go_at_call 136;refine (nani_any _ _).mono ?_;rintro e w' ⟨rfl,rfl⟩);go_ret;exact ⟨rfl,rfl⟩
theorem cmpi64_any (a b : Int) (w : World) : Calls Tryz.prog 139 #[.int .i64 a,.int .i64 b] w fun e w' => e = .returned (.int .i64 (sg a b)) ∧ w = w' := by
 rcases Int.lt_trichotomy a b with h | h | h
 ·rw [sg_lt h];go_enter Tryz.func139,Tryz.ntmps139;go_wp2_with (go_at_call 180;refine (nani64_any _ _).mono ?_;rintro e w' ⟨rfl,rfl⟩);go_ret;exact ⟨rfl,rfl⟩
 ·rw [sg_eq h];subst h;go_enter Tryz.func139,Tryz.ntmps139;go_wp2_with (go_at_call 180;refine (nani64_any _ _).mono ?_;rintro e w' ⟨rfl,rfl⟩);go_ret;exact ⟨rfl,rfl⟩
 rw [sg_gt h];have h2 : ¬ a < b := by omega
 go_enter Tryz.func139,Tryz.ntmps139;go_wp2_with (go_at_call 180;refine (nani64_any _ _).mono ?_;rintro e w' ⟨rfl,rfl⟩);go_ret;exact ⟨rfl,rfl⟩
theorem cmpu64_any (a b : Int) (w : World) : Calls Tryz.prog 94 #[.int .u64 a,.int .u64 b] w fun e w' => e = .returned (.int .i64 (sg a b)) ∧ w = w' := by
 rcases Int.lt_trichotomy a b with h | h | h
 ·rw [sg_lt h];go_enter Tryz.func94,Tryz.ntmps94;go_wp2_with (go_at_call 137;refine (nanu64_any _ _).mono ?_;rintro e w' ⟨rfl,rfl⟩);go_ret;exact ⟨rfl,rfl⟩
 ·rw [sg_eq h];subst h;go_enter Tryz.func94,Tryz.ntmps94;go_wp2_with (go_at_call 137;refine (nanu64_any _ _).mono ?_;rintro e w' ⟨rfl,rfl⟩);go_ret;exact ⟨rfl,rfl⟩
 rw [sg_gt h];have h2 : ¬ a < b := by omega
 go_enter Tryz.func94,Tryz.ntmps94;go_wp2_with (go_at_call 137;refine (nanu64_any _ _).mono ?_;rintro e w' ⟨rfl,rfl⟩);go_ret;exact ⟨rfl,rfl⟩
structure Num (x : Nat) : Prop where
 bits : x < 18446744073709551616
 le : x % 9223372036854775808 ≤ 9218868437227405312
theorem Num.of {x : Nat} (h : x < 18446744073709551616) (hn : nanB x = false) : Num x := by
 rw [nanB_eq h] at hn;exact ⟨h,by simpa using hn⟩
theorem Num.nan {x : Nat} (h : Num x) : nanB x = false := by rw [nanB_eq h.bits];exact decide_eq_false (by have := h.le;omega)
theorem Num.lt {x y : Nat} (h : Num x) (k : Num y) (hl : sv x < sv y) : FloatKind.f64.format.order x y = some Ordering.lt := (order_sv h.bits k.bits h.le k.le).trans (by rw [ordInt_lt hl])
theorem Num.eq {x y : Nat} (h : Num x) (k : Num y) (hl : sv x = sv y) : FloatKind.f64.format.order x y = some Ordering.eq := (order_sv h.bits k.bits h.le k.le).trans (by rw [ordInt_eq hl])
theorem Num.gt {x y : Nat} (h : Num x) (k : Num y) (hl : sv y < sv x) : FloatKind.f64.format.order x y = some Ordering.gt := (order_sv h.bits k.bits h.le k.le).trans (by rw [ordInt_gt hl])
theorem cmpf_any (x y : Nat) (hx : Num x) (hy : Num y) (w : World) : Calls Tryz.prog 141 #[.float .f64 x,.float .f64 y] w fun e w' => e = .returned (.int .i64 (sg (sv x) (sv y))) ∧ w = w' := by
 have n1 := hx.nan;have n2 := hy.nan;rcases Int.lt_trichotomy (sv x) (sv y) with h | h | h
 ·rw [sg_lt h];have ho := hx.lt hy h;clear h;go_enter Tryz.func141,Tryz.ntmps141;go_wp2_with (first | (go_at_call 181;refine (nanf_any x _).mono ?_;rintro e w' ⟨rfl,rfl⟩) | (go_at_call 181;refine (nanf_any y _).mono ?_;rintro e w' ⟨rfl,rfl⟩));go_ret;exact ⟨rfl,rfl⟩
 ·rw [sg_eq h];have ho := hx.eq hy h;clear h;go_enter Tryz.func141,Tryz.ntmps141;go_wp2_with (first | (go_at_call 181;refine (nanf_any x _).mono ?_;rintro e w' ⟨rfl,rfl⟩) | (go_at_call 181;refine (nanf_any y _).mono ?_;rintro e w' ⟨rfl,rfl⟩));go_ret;exact ⟨rfl,rfl⟩
 rw [sg_gt h];have ho := hx.gt hy h;clear h;go_enter Tryz.func141,Tryz.ntmps141;go_wp2_with (first | (go_at_call 181;refine (nanf_any x _).mono ?_;rintro e w' ⟨rfl,rfl⟩) | (go_at_call 181;refine (nanf_any y _).mono ?_;rintro e w' ⟨rfl,rfl⟩));go_ret;exact ⟨rfl,rfl⟩
theorem floor_ext (f : Nat) (s : Bool) (m : Nat) (p : Int) (h : Ieee.double.read f = .number s m p) (w : World) : (Extern.MathFloor.toIntegral "math.archFloor" .down #[.float .f64 f]).run Tryz.prog w = .ok (.float .f64 (floorF f)) w := by
 have hd : FloatKind.f64.decode f = .number s m p := h;change Sem.run Tryz.prog (match FloatKind.f64.decode f with
  | .nan s t =>
   if FloatKind.f64.format.quiet t = t then pure (Value.float .f64 f) else do
   let kept ← choose (.extern "math.Floor,Ceil,Trunc,RoundToEven.signallingNaN kept" 2);pure (Value.float .f64 (if kept == 1 then f else FloatKind.f64.encode (.nan s (FloatKind.f64.format.quiet t))))
  | d => pure (Value.float .f64 (FloatKind.f64.encode (d.integral .down)))) w = _
 rw [hd];unfold floorF;rw [h];rfl
theorem mfloor_any (f : Nat) (hf : f < 18446744073709551616) (fin : f % 9223372036854775808 < 9218868437227405312) (w : World) : Calls Tryz.prog 182 #[.float .f64 f] w fun e w' => e = .returned (.float .f64 (floorF f)) ∧ w = w' := by
 obtain ⟨m, p, hr, -⟩ := read_num hf fin;have HX := hide (floor_ext f _ m p hr);clear hr;go_enter Tryz.func182, Tryz.ntmps182;go_wp2_with fail;rw [run_callFunc_extern (P := Tryz.prog) (f := 204) (fn := Tryz.f204) (by kernel_rfl) (by kernel_rfl) (by kernel_rfl) (by kernel_rfl) (e := Extern.MathFloor.toIntegral "math.archFloor" .down) (by kernel_rfl), HX.out];simp only [Result.andThen];rw [Oper.upon_value];go_wp2_with fail;go_ret;exact ⟨rfl, rfl⟩
theorem sv_hi : sv 4890909195324358656 = 9223372036854775808 * (U1 : Int) := by
 have h := exact_sv false 4503599627370496 11 (by omega) (by omega) (by omega);rw [show Ieee.double.word false ((11 + 1074) * 4503599627370496 + 4503599627370496) = 4890909195324358656 by unfold Ieee.Format.word;decide,if_neg (by decide),Int.natCast_mul] at h;rw [h];rfl
theorem sv_lo : sv 14114281232179134464 = -9223372036854775808 * (U1 : Int) := by
 have h := exact_sv true 4503599627370496 11 (by omega) (by omega) (by omega);rw [show Ieee.double.word true ((11 + 1074) * 4503599627370496 + 4503599627370496) = 14114281232179134464 by unfold Ieee.Format.word;decide,if_pos rfl,Int.natCast_mul] at h;rw [h,← Int.neg_mul];rfl
theorem num_hi : Num 4890909195324358656 := ⟨by decide,by decide⟩
theorem num_lo : Num 14114281232179134464 := ⟨by decide,by decide⟩
noncomputable def wholeC (i : Int) (f : Nat) : Int := if i * (U1 : Int) < sv f then -1 else if sv f < i * (U1 : Int) then 1 else 0
theorem mixC_whole (i : Int) (f : Nat) : mixC i f = if wholeC i f ≠ 0 then wholeC i f else if f = 9223372036854775808 then 1 else -1 := by
 unfold mixC wholeC
 repeat' split
 all_goals first | rfl | contradiction | omega
inductive Ways (i : Int) (f : Nat) : Int → Prop
 | high (h : FloatKind.f64.format.order f 4890909195324358656 = some Ordering.gt ∨ FloatKind.f64.format.order f 4890909195324358656 = some Ordering.eq) : Ways i f (-1)
 | low (h1 : FloatKind.f64.format.order f 4890909195324358656 = some Ordering.lt) (h2 : FloatKind.f64.format.order f 14114281232179134464 = some Ordering.lt) : Ways i f 1
 | mid (r k : Int) (fin : f % 9223372036854775808 < 9218868437227405312) (h1 : FloatKind.f64.format.order f 4890909195324358656 = some Ordering.lt) (h2 : FloatKind.f64.format.order f 14114281232179134464 = some Ordering.gt ∨ FloatKind.f64.format.order f 14114281232179134464 = some Ordering.eq)
  (hk : floatToIntVal .f64 (floorF f) .i64 = some k) (h3 : (i < k ∧ r = -1) ∨ (k < i ∧ r = 1) ∨ (i = k ∧ ((FloatKind.f64.format.order f (floorF f) = some Ordering.gt ∧ FloatKind.f64.format.order (floorF f) f = some Ordering.lt ∧ r = -1) ∨ (FloatKind.f64.format.order f (floorF f) = some Ordering.eq ∧ FloatKind.f64.format.order (floorF f) f = some Ordering.eq ∧ r = 0)))) : Ways i f r
theorem ways (i : Int) (f : Nat) (hf : Num f) (h1 : -9223372036854775808 ≤ i) (h2 : i ≤ 9223372036854775807) : Ways i f (wholeC i f) := by
 have hu := U1_pos;by_cases a : sv f < 9223372036854775808 * (U1 : Int)
 ·by_cases b : sv f < -9223372036854775808 * (U1 : Int)
  ·have e : wholeC i f = 1 := by
    have : -9223372036854775808 * (U1 : Int) ≤ i * (U1 : Int) := Int.mul_le_mul_of_nonneg_right h1 (by omega);unfold wholeC;rw [if_neg (by omega),if_pos (by omega)]
   rw [e];exact .low (hf.lt num_hi (by rw [sv_hi];exact a)) (hf.lt num_lo (by rw [sv_lo];exact b))
  have fin : f % 9223372036854775808 < 9218868437227405312 := by
   rcases Nat.lt_or_eq_of_le hf.le with h | h
   ·exact h
   exfalso;have hs := sv_read hf.bits;rw [h] at hs;have hi := sv_hi;have hl := rv_mono (show 4890909195324358656 < 9218868437227405312 by decide);have e1 : sv 4890909195324358656 = (rv 4890909195324358656 : Int) := by unfold sv;rw [if_pos (by decide)]
   split at hs <;> omega
  obtain ⟨k,w1,w2,w3,w4,w5,w6⟩ := floor_facts f hf.bits fin (by omega) a;have nf : Num (floorF f) := ⟨w1,by omega⟩;refine .mid _ k fin (hf.lt num_hi (by rw [sv_hi];exact a)) ?_ w4 ?_
  ·rcases Int.lt_or_eq_of_le (Int.not_lt.1 b) with h | h
   ·exact .inl (hf.gt num_lo (by rw [sv_lo];exact h))
   exact .inr (hf.eq num_lo (by rw [sv_lo];exact h.symm))
  rcases Int.lt_trichotomy i k with h | h | h
  ·left;refine ⟨h,?_⟩;have := mul_pos_lt h;unfold wholeC;rw [if_pos (by omega)]
  ·right;right;subst h;refine ⟨rfl,?_⟩;rcases Int.lt_or_eq_of_le w5 with h | h
   ·left;refine ⟨hf.gt nf (by omega),nf.lt hf (by omega),?_⟩;unfold wholeC;rw [if_pos h]
   right;refine ⟨hf.eq nf (by omega),nf.eq hf (by omega),?_⟩;unfold wholeC;rw [if_neg (by omega),if_neg (by omega)]
  right;left;refine ⟨h,?_⟩;have : (k + 1) * (U1 : Int) ≤ i * (U1 : Int) := Int.mul_le_mul_of_nonneg_right (by omega) (by omega);unfold wholeC;rw [if_neg (by omega),if_pos (by omega)]
 have e : wholeC i f = -1 := by
  have : i * (U1 : Int) < 9223372036854775808 * (U1 : Int) := mul_pos_lt (by omega);unfold wholeC;rw [if_pos (by omega)]
 rw [e];refine .high ?_;rcases Int.lt_or_eq_of_le (Int.not_lt.1 a) with h | h
 ·exact .inl (hf.gt num_hi (by rw [sv_hi];exact h))
 exact .inr (hf.eq num_hi (by rw [sv_hi];exact h.symm))
theorem whole_any (i : Int) (f : Nat) (hf : Num f) (h1 : -9223372036854775808 ≤ i) (h2 : i ≤ 9223372036854775807) (w : World) : Calls Tryz.prog 142 #[.int .i64 i,.float .f64 f] w fun e w' => e = .returned (.int .i64 (wholeC i f)) ∧ w = w' := by
 have hw := ways i f hf h1 h2;have hb := hf.bits;obtain ⟨r,hr⟩ : ∃ r,wholeC i f = r := ⟨_,rfl⟩;rw [hr] at hw ⊢;clear hr hf
 cases hw with
 | high h =>
  rcases h with h | h
  all_goals
   go_enter Tryz.func142,Tryz.ntmps142
   go_wp2_with fail
   go_ret
   exact ⟨rfl,rfl⟩
 | low h1 h2 =>
  go_enter Tryz.func142,Tryz.ntmps142;go_wp2_with fail;go_ret;exact ⟨rfl,rfl⟩
 | mid _ k fin h1 h2 hk h3 =>
  have hv := conv_fi (floorF f) k hk;have HFL := hide (fun w => mfloor_any f hb fin w);clear hk fin;obtain ⟨F,hF⟩ : ∃ F,floorF f = F := ⟨_,rfl⟩;rw [hF] at hv h3 HFL;clear hF hb;rcases h2 with h2 | h2 <;> rcases h3 with ⟨h3,rfl⟩ | ⟨h3,rfl⟩ | ⟨rfl,⟨h3,h4,rfl⟩ | ⟨h3,h4,rfl⟩⟩
  all_goals
   go_enter Tryz.func142,Tryz.ntmps142
   first
   | have hs : sg i k = -1 := sg_lt h3
   | have hs : sg i k = 1 := sg_gt h3
   | have hs : sg i i = 0 := sg_eq rfl
   go_wp2_with (first | (go_at_call 182;refine (HFL.out _).mono ?_;rintro e w' ⟨rfl,rfl⟩) | (go_at_call 139;refine (cmpi64_any _ _ _).mono ?_;rintro e w' ⟨rfl,rfl⟩;rw [hs]))
   go_ret
   exact ⟨rfl,rfl⟩
end
section
open Go.RowKit Go.Shelf
theorem neg_wrap {c : Int} (h : c = -1 ∨ c = 0 ∨ c = 1) : IntKind.i64.wrap (-c) = -c := by rcases h with rfl | rfl | rfl <;> decide
theorem wholeC_vals (i : Int) (f : Nat) : wholeC i f = -1 ∨ wholeC i f = 0 ∨ wholeC i f = 1 := by
 unfold wholeC;repeat' split
 all_goals omega
theorem numbers_ff (c c' : Cv) (n n' : Nat) (w : World) (hk : c.k = 4) (hn : c.n = (n : Int)) (hk' : c'.k = 4) (hn' : c'.n = (n' : Int)) (h1 : n < 18446744073709551616) (h2 : n' < 18446744073709551616) :
 Calls Tryz.prog 95 #[c.agg,c'.agg] w fun e w' => e = .returned (.int .i64 (numC 4 n 4 n')) ∧ Grow w w' := by
 obtain ⟨ck,cn,a1,a2,a3,a4,a5,a6,a7,a8,a9⟩ := c;obtain ⟨dk,dn,b1,b2,b3,b4,b5,b6,b7,b8,b9⟩ := c';dsimp only at hk hn hk' hn';subst hk hn hk' hn';have hb := run_from
 have HNN := hide (Num.of h1);have HNM := hide (Num.of h2);have HG := hide (((Grow.refl w).alloc (.cells (Cv.mk 4 n a1 a2 a3 a4 a5 a6 a7 a8 a9).cells 27)).alloc (.cells (Cv.mk 4 n' b1 b2 b3 b4 b5 b6 b7 b8 b9).cells 27));have HI := hide (fun w => isnan_any n w);have HJ := hide (fun w => isnan_any n' w);by_cases hx : nanB n = true
 ·by_cases hy : nanB n' = true
  ·have HC := hide (show sg (n : Int) (n' : Int) = numC 4 n 4 n' by unfold numC;rw [if_neg (by decide),if_pos hx,if_neg (by decide),if_pos hy]);rw [hx] at HI;rw [hy] at HJ;go_enter Tryz.func95,Tryz.ntmps95;go_wp2_with fail;go_quiet (fail);go_wp2_with (first | (go_at_call 140;refine (HI.out _).mono ?_;rintro e w' ⟨rfl,rfl⟩) | (go_at_call 140;refine (HJ.out _).mono ?_;rintro e w' ⟨rfl,rfl⟩) | (go_at_call 94;refine (cmpu64_any _ _ _).mono ?_;rintro e w' ⟨rfl,rfl⟩));go_ret;exact ⟨ret_int HC.out,HG.out.drewN _⟩
  have hy : nanB n' = false := by simpa using hy
  have HC := hide (show -1 = numC 4 n 4 n' by unfold numC;rw [if_neg (by decide),if_pos hx,if_neg (by decide),if_neg (by rw [hy];decide)]);rw [hx] at HI;rw [hy] at HJ;go_enter Tryz.func95,Tryz.ntmps95;go_wp2_with fail;go_quiet (fail);go_wp2_with (first | (go_at_call 140;refine (HI.out _).mono ?_;rintro e w' ⟨rfl,rfl⟩) | (go_at_call 140;refine (HJ.out _).mono ?_;rintro e w' ⟨rfl,rfl⟩));go_ret;exact ⟨ret_int HC.out,HG.out.drewN _⟩
 have hx : nanB n = false := by simpa using hx
 rw [hx] at HI;by_cases hy : nanB n' = true
 ·have HC := hide (show 1 = numC 4 n 4 n' by unfold numC;rw [if_neg (by decide),if_neg (by rw [hx];decide),if_neg (by decide),if_pos hy]);rw [hy] at HJ;go_enter Tryz.func95,Tryz.ntmps95;go_wp2_with fail;go_quiet (fail);go_wp2_with (first | (go_at_call 140;refine (HI.out _).mono ?_;rintro e w' ⟨rfl,rfl⟩) | (go_at_call 140;refine (HJ.out _).mono ?_;rintro e w' ⟨rfl,rfl⟩));go_ret;exact ⟨ret_int HC.out,HG.out.drewN _⟩
 have hy : nanB n' = false := by simpa using hy
 rw [hy] at HJ;have fx := HNN.out hx;have fy := HNM.out hy;have hC : numC 4 n 4 n' = if sv n < sv n' then -1 else if sv n' < sv n then 1 else sg ((n' / 9223372036854775808 : Nat) : Int) ((n / 9223372036854775808 : Nat) : Int) := by
  unfold numC;rw [if_neg (by decide),if_neg (by rw [hx];decide),if_neg (by decide),if_neg (by rw [hy];decide)]
 rcases Int.lt_trichotomy (sv n) (sv n') with h | h | h
 ·have ho := fx.lt fy h;have HS := hide (fun w => cmpf_any n n' fx fy w);rw [sg_lt h] at HS;have HC := hide (show -1 = numC 4 n 4 n' by rw [hC,if_pos h]);clear h hC fx fy;go_enter Tryz.func95,Tryz.ntmps95;go_wp2_with fail;go_quiet (fail);go_wp2_with (first | (go_at_call 140;refine (HI.out _).mono ?_;rintro e w' ⟨rfl,rfl⟩) | (go_at_call 140;refine (HJ.out _).mono ?_;rintro e w' ⟨rfl,rfl⟩) | (go_at_call 141;refine (HS.out _).mono ?_;rintro e w' ⟨rfl,rfl⟩));go_ret;exact ⟨ret_int HC.out,HG.out.drewN _⟩
 ·have ho := fx.eq fy h;have HC := hide (show sg ((n' / 9223372036854775808 : Nat) : Int) ((n / 9223372036854775808 : Nat) : Int) = numC 4 n 4 n' by rw [hC,if_neg (by omega),if_neg (by omega)]);clear h hC fx fy;go_enter Tryz.func95,Tryz.ntmps95;go_wp2_with fail;go_quiet (fail);go_wp2_with (first | (go_at_call 140;refine (HI.out _).mono ?_;rintro e w' ⟨rfl,rfl⟩) | (go_at_call 140;refine (HJ.out _).mono ?_;rintro e w' ⟨rfl,rfl⟩) | (go_at_call 94;refine (cmpu64_any _ _ _).mono ?_;rintro e w' ⟨rfl,rfl⟩));go_ret;exact ⟨ret_int (by rw [← HC.out];rfl),HG.out.drewN _⟩
 have ho := fx.gt fy h;have HS := hide (fun w => cmpf_any n n' fx fy w);rw [sg_gt h] at HS;have HC := hide (show 1 = numC 4 n 4 n' by rw [hC,if_neg (by omega),if_pos h]);clear h hC fx fy;go_enter Tryz.func95,Tryz.ntmps95;go_wp2_with fail;go_quiet (fail);go_wp2_with (first | (go_at_call 140;refine (HI.out _).mono ?_;rintro e w' ⟨rfl,rfl⟩) | (go_at_call 140;refine (HJ.out _).mono ?_;rintro e w' ⟨rfl,rfl⟩) | (go_at_call 141;refine (HS.out _).mono ?_;rintro e w' ⟨rfl,rfl⟩));go_ret;exact ⟨ret_int HC.out,HG.out.drewN _⟩
theorem i64_conv (n : Nat) (h : n < 18446744073709551616) : IntKind.i64.wrap (n : Int) = i64 n := by
 unfold i64;rw [IntKind.wrap_i64];split <;> omega
theorem numbers_fi (c c' : Cv) (n n' : Nat) (w : World) (hk : c.k = 4) (hn : c.n = (n : Int)) (hk' : c'.k = 3) (hn' : c'.n = (n' : Int)) (h1 : n < 18446744073709551616) (h2 : n' < 18446744073709551616) :
 Calls Tryz.prog 95 #[c.agg,c'.agg] w fun e w' => e = .returned (.int .i64 (numC 4 n 3 n')) ∧ Grow w w' := by
 obtain ⟨ck,cn,a1,a2,a3,a4,a5,a6,a7,a8,a9⟩ := c;obtain ⟨dk,dn,b1,b2,b3,b4,b5,b6,b7,b8,b9⟩ := c';dsimp only at hk hn hk' hn';subst hk hn hk' hn';have hb := run_from
 have HG := hide (((Grow.refl w).alloc (.cells (Cv.mk 4 n a1 a2 a3 a4 a5 a6 a7 a8 a9).cells 27)).alloc (.cells (Cv.mk 3 n' b1 b2 b3 b4 b5 b6 b7 b8 b9).cells 27));have HI := hide (fun w => isnan_any n w);have hcv := i64_conv n' h2;by_cases hx : nanB n = true
 ·have HC := hide (show -1 = numC 4 n 3 n' by unfold numC;rw [if_neg (by decide),if_pos hx,if_pos rfl]);rw [hx] at HI;go_enter Tryz.func95,Tryz.ntmps95;go_wp2_with fail;go_quiet (fail);go_wp2_with (go_at_call 140;refine (HI.out _).mono ?_;rintro e w' ⟨rfl,rfl⟩);go_ret;exact ⟨ret_int HC.out,HG.out.drewN _⟩
 have hx : nanB n = false := by simpa using hx
 rw [hx] at HI;have fx := Num.of h1 hx;have hr := i64_range n' h2;have hC : numC 4 n 3 n' = -(mixC (i64 n') n) := by unfold numC;rw [if_neg (by decide),if_neg (by rw [hx];decide),if_pos rfl]
 rw [mixC_whole] at hC;have HW := hide (fun w => whole_any (i64 n') n fx hr.1 hr.2 w);rcases wholeC_vals (i64 n') n with h | h | h
 ·rw [h] at hC HW;have HC := hide hC;clear hC h hr fx;go_enter Tryz.func95,Tryz.ntmps95;go_wp2_with fail;go_quiet (fail);go_wp2_with (first | (go_at_call 140;refine (HI.out _).mono ?_;rintro e w' ⟨rfl,rfl⟩) | (go_at_call 142;refine (HW.out _).mono ?_;rintro e w' ⟨rfl,rfl⟩));go_ret;exact ⟨ret_int (by rw [HC.out];simp),HG.out.drewN _⟩
 ·rw [h] at hC HW;have HC := hide hC;clear hC h hr fx;by_cases hz : n = 9223372036854775808
  ·subst hz;go_enter Tryz.func95,Tryz.ntmps95;go_wp2_with fail;go_quiet (fail);go_wp2_with (first | (go_at_call 140;refine (HI.out _).mono ?_;rintro e w' ⟨rfl,rfl⟩) | (go_at_call 142;refine (HW.out _).mono ?_;rintro e w' ⟨rfl,rfl⟩));go_ret;exact ⟨ret_int (by rw [HC.out];simp),HG.out.drewN _⟩
  have hzq : ((n : Int) == 9223372036854775808) = false := by simp;omega
  have HZ := hide hz;clear hz;go_enter Tryz.func95,Tryz.ntmps95;go_wp2_with fail;go_quiet (fail);go_wp2_with (first | (go_at_call 140;refine (HI.out _).mono ?_;rintro e w' ⟨rfl,rfl⟩) | (go_at_call 142;refine (HW.out _).mono ?_;rintro e w' ⟨rfl,rfl⟩));go_ret;exact ⟨ret_int (by rw [HC.out];simp [HZ.out]),HG.out.drewN _⟩
 rw [h] at hC HW;have HC := hide hC;clear hC h hr fx;go_enter Tryz.func95,Tryz.ntmps95;go_wp2_with fail;go_quiet (fail);go_wp2_with (first | (go_at_call 140;refine (HI.out _).mono ?_;rintro e w' ⟨rfl,rfl⟩) | (go_at_call 142;refine (HW.out _).mono ?_;rintro e w' ⟨rfl,rfl⟩));go_ret;exact ⟨ret_int (by rw [HC.out];simp),HG.out.drewN _⟩
theorem numbers_ii (c c' : Cv) (n n' : Nat) (w : World) (hk : c.k = 3) (hn : c.n = (n : Int)) (hk' : c'.k = 3) (hn' : c'.n = (n' : Int)) (h1 : n < 18446744073709551616) (h2 : n' < 18446744073709551616) :
 Calls Tryz.prog 95 #[c.agg,c'.agg] w fun e w' => e = .returned (.int .i64 (numC 3 n 3 n')) ∧ Grow w w' := by
 obtain ⟨ck,cn,a1,a2,a3,a4,a5,a6,a7,a8,a9⟩ := c;obtain ⟨dk,dn,b1,b2,b3,b4,b5,b6,b7,b8,b9⟩ := c';dsimp only at hk hn hk' hn';subst hk hn hk' hn';have hb := run_from
 have HG := hide (((Grow.refl w).alloc (.cells (Cv.mk 3 n a1 a2 a3 a4 a5 a6 a7 a8 a9).cells 27)).alloc (.cells (Cv.mk 3 n' b1 b2 b3 b4 b5 b6 b7 b8 b9).cells 27));have hcv := i64_conv n h1;have hcv2 := i64_conv n' h2;have HC := hide (show sg (i64 n) (i64 n') = numC 3 n 3 n' by unfold numC;rw [if_pos rfl,if_pos rfl]);go_enter Tryz.func95,Tryz.ntmps95;go_wp2_with fail;go_quiet (fail);go_wp2_with (go_at_call 139;refine (cmpi64_any _ _ _).mono ?_;rintro e w' ⟨rfl,rfl⟩);go_ret;exact ⟨ret_int HC.out,HG.out.drewN _⟩
theorem numC_vals (k k' : Int) (n n' : Nat) : numC k n k' n' = -1 ∨ numC k n k' n' = 0 ∨ numC k n k' n' = 1 := by
 have hm : ∀ i f,mixC i f = -1 ∨ mixC i f = 1 := by
  intro i f;unfold mixC;repeat' split
  all_goals omega
 unfold numC
 repeat' split
 all_goals first | exact sg_vals _ _ | omega | (have := hm (i64 n) n';omega) | (have := hm (i64 n') n;omega)
theorem numC_swap_if (n n' : Nat) : numC 3 n 4 n' = -(numC 4 n' 3 n) := by
 unfold numC;have h43 : ¬ (4 : Int) = 3 := by decide
 simp only [if_true,if_neg h43];by_cases h : nanB n' = true
 ·simp only [if_pos h];rfl
 simp only [if_neg h];omega
theorem numbers_if (c c' : Cv) (n n' : Nat) (w : World) (hk : c.k = 3) (hn : c.n = (n : Int)) (hk' : c'.k = 4) (hn' : c'.n = (n' : Int)) (h1 : n < 18446744073709551616) (h2 : n' < 18446744073709551616) :
 Calls Tryz.prog 95 #[c.agg,c'.agg] w fun e w' => e = .returned (.int .i64 (numC 3 n 4 n')) ∧ Grow w w' := by
 have HR := hide (fun w => numbers_fi c' c n' n w hk' hn' hk hn h2 h1);have HWR := hide (neg_wrap (numC_vals 4 3 n' n));rw [numC_swap_if];obtain ⟨ck,cn,a1,a2,a3,a4,a5,a6,a7,a8,a9⟩ := c;obtain ⟨dk,dn,b1,b2,b3,b4,b5,b6,b7,b8,b9⟩ := c';dsimp only at hk hn hk' hn';subst hk hn hk' hn';obtain ⟨z,hz⟩ : ∃ z,numC 4 n' 3 n = z := ⟨_,rfl⟩;rw [hz] at HR HWR ⊢;have hwr := HWR.out;clear hz;have hb := run_from
 have HG := hide (((Grow.refl w).alloc (.cells (Cv.mk 3 n a1 a2 a3 a4 a5 a6 a7 a8 a9).cells 27)).alloc (.cells (Cv.mk 4 n' b1 b2 b3 b4 b5 b6 b7 b8 b9).cells 27));go_enter Tryz.func95,Tryz.ntmps95;go_wp2_with fail;go_quiet (fail);go_wp2_with fail;refine (HR.out _).mono ?_;rintro e w' ⟨rfl,hg⟩;have HG2 := hide ((HG.out.drewN _).trans hg);clear hg;go_wp2_with fail;go_ret;exact ⟨rfl,HG2.out⟩
theorem numbers_any (k k' : Int) (n n' : Nat) (c c' : Cv) (w : World) (hk : k = 3 ∨ k = 4) (hk' : k' = 3 ∨ k' = 4) (h : In w (.mk k n [] [] []) c) (h' : In w (.mk k' n' [] [] []) c') :
 Calls Tryz.prog 95 #[c.agg,c'.agg] w fun e w' => e = .returned (.int .i64 (numC k n k' n')) ∧ Grow w w' := by
 obtain ⟨aB,aL,aF,cB,cL,cF,rfl,-,-,h3,-⟩ := h.open;obtain ⟨bB,bL,bF,dB,dL,dF,rfl,-,-,k3,-⟩ := h'.open;rcases hk with rfl | rfl <;> rcases hk' with rfl | rfl
 ·exact numbers_ii _ _ n n' w rfl rfl rfl rfl h3 k3
 ·exact numbers_if _ _ n n' w rfl rfl rfl rfl h3 k3
 ·exact numbers_fi _ _ n n' w rfl rfl rfl rfl h3 k3
 exact numbers_ff _ _ n n' w rfl rfl rfl rfl h3 k3
end
section
open Go.RowKit Go.Shelf
theorem class_any (k : Int) (w : World) : Calls Tryz.prog 93 #[.int .i64 k] w fun e w' => e = .returned (.int .i64 (cls k)) ∧ w = w' := by
 by_cases h : k = 4
 ·subst h;go_enter Tryz.func93,Tryz.ntmps93;go_wp2_with fail;go_ret;exact ⟨rfl,rfl⟩
 have hq : (k == 4) = false := by simpa using h
 have HC := hide (show cls k = k by unfold cls;rw [if_neg h]);clear h;go_enter Tryz.func93,Tryz.ntmps93;go_wp2_with fail;go_ret;exact ⟨ret_int HC.out.symm,rfl⟩
theorem scmps_any (a b : ByteArray) (w : World) : Calls Tryz.prog 143 #[.string a,.string b] w fun e w' => e = .returned (.int .i64 (Lib.compareBytes a.data.toList b.data.toList)) ∧ w = w' := by
 go_enter Tryz.func143,Tryz.ntmps143;go_wp2_with fail;rw [run_callFunc_extern (P := Tryz.prog) (f := 183) (fn := Tryz.f183) (by kernel_rfl) (by kernel_rfl) (by kernel_rfl) (by kernel_rfl) (e := Extern.BytealgCompare.compare) (by kernel_rfl),Lib.run_compareString];simp only [Result.andThen];rw [Oper.upon_value];go_wp2_with fail;go_ret;exact ⟨rfl,rfl⟩
theorem scmp_any (a b : ByteArray) (w : World) : Calls Tryz.prog 97 #[.string a,.string b] w fun e w' => e = .returned (.int .i64 (Lib.compareBytes a.data.toList b.data.toList)) ∧ w = w' := by
 go_enter Tryz.func97,Tryz.ntmps97;go_wp2_with (go_at_call 143;refine (scmps_any a b _).mono ?_;rintro e w' ⟨rfl,rfl⟩);go_ret;exact ⟨rfl,rfl⟩
theorem or2_any (a b : Int) (g cap : Nat) (t : TypeId) (w : World) (hB : Blk w g t #[.int .i64 a,.int .i64 b]) : Calls Tryz.prog 96 #[.slice (some ⟨g,0,none⟩) 2 cap] w fun e w' => e = .returned (.int .i64 (orC a b)) ∧ w = w' := by
 have hc := hB.cell;have hlt := hB.lt;clear hB;have hc0 := hc 0;have hc1 := hc 1;clear hc;by_cases ha : a = 0
 ·subst ha;rw [orC_0];by_cases hb : b = 0
  ·subst hb;go_enter Tryz.func96,Tryz.ntmps96;go_wp2_with fail;go_loopg [5,8] 3 (fun gk x i wr => w = wr ∧ ∃ j : Nat,j ≤ 2 ∧ gk + j = 3 ∧ i = .int .i64 j)
   case atStart => exact ⟨rfl,0,by omega,by omega,rfl⟩
   case round =>
    obtain ⟨rfl,j,hj,hg,rfl⟩ := hrel;obtain ⟨gk',rfl⟩ := gk_ gk (by omega);rcases j with _ | _ | _ | j
    ·go_wp2_with fail;go_roundg gk'
     case measure => omega
     case rel => exact ⟨rfl,1,by omega,by omega,rfl⟩
    ·go_wp2_with fail;go_roundg gk'
     case measure => omega
     case rel => exact ⟨rfl,2,by omega,by omega,rfl⟩
    ·go_wp2_with fail;go_ret;exact ⟨rfl,rfl⟩
    omega
  have hbq : (b != 0) = true := by simpa using hb
  clear hb;go_enter Tryz.func96,Tryz.ntmps96;go_wp2_with fail;go_loopg [5,8] 3 (fun gk x i wr => w = wr ∧ ∃ j : Nat,j ≤ 1 ∧ gk + j = 3 ∧ i = .int .i64 j)
  case atStart => exact ⟨rfl,0,by omega,by omega,rfl⟩
  case round =>
   obtain ⟨rfl,j,hj,hg,rfl⟩ := hrel;obtain ⟨gk',rfl⟩ := gk_ gk (by omega);rcases j with _ | _ | j
   ·go_wp2_with fail;go_roundg gk'
    case measure => omega
    case rel => exact ⟨rfl,1,by omega,by omega,rfl⟩
   ·go_wp2_with fail;go_ret;exact ⟨rfl,rfl⟩
   omega
 rw [orC_n b ha];have haq : (a != 0) = true := by simpa using ha
 clear ha;go_enter Tryz.func96,Tryz.ntmps96;go_wp2_with fail;go_loopg [5,8] 3 (fun gk x i wr => w = wr ∧ i = .int .i64 0)
 case atStart => exact ⟨rfl,rfl⟩
 case round =>
  obtain ⟨rfl,rfl⟩ := hrel;go_wp2_with fail;go_ret;exact ⟨rfl,rfl⟩
theorem ore_any (a b : Int) (g cap : Nat) (t : TypeId) (w : World) (hB : Blk w g t #[.int .i64 a,.int .i64 b]) : Calls Tryz.prog 49 #[.slice (some ⟨g,0,none⟩) 2 cap] w fun e w' => e = .returned (.int .i64 (orC a b)) ∧ w = w' := by
 have hc := hB.cell;have hlt := hB.lt;clear hB;have hc0 := hc 0;have hc1 := hc 1;clear hc;by_cases ha : a = 0
 ·subst ha;rw [orC_0];by_cases hb : b = 0
  ·subst hb;go_enter Tryz.func49,Tryz.ntmps49;go_wp2_with fail;go_loopg [5,8] 3 (fun gk x i wr => w = wr ∧ ∃ j : Nat,j ≤ 2 ∧ gk + j = 3 ∧ i = .int .i64 j)
   case atStart => exact ⟨rfl,0,by omega,by omega,rfl⟩
   case round =>
    obtain ⟨rfl,j,hj,hg,rfl⟩ := hrel;obtain ⟨gk',rfl⟩ := gk_ gk (by omega);rcases j with _ | _ | _ | j
    ·go_wp2_with fail;go_roundg gk'
     case measure => omega
     case rel => exact ⟨rfl,1,by omega,by omega,rfl⟩
    ·go_wp2_with fail;go_roundg gk'
     case measure => omega
     case rel => exact ⟨rfl,2,by omega,by omega,rfl⟩
    ·go_wp2_with fail;go_ret;exact ⟨rfl,rfl⟩
    omega
  have hbq : (b != 0) = true := by simpa using hb
  clear hb;go_enter Tryz.func49,Tryz.ntmps49;go_wp2_with fail;go_loopg [5,8] 3 (fun gk x i wr => w = wr ∧ ∃ j : Nat,j ≤ 1 ∧ gk + j = 3 ∧ i = .int .i64 j)
  case atStart => exact ⟨rfl,0,by omega,by omega,rfl⟩
  case round =>
   obtain ⟨rfl,j,hj,hg,rfl⟩ := hrel;obtain ⟨gk',rfl⟩ := gk_ gk (by omega);rcases j with _ | _ | j
   ·go_wp2_with fail;go_roundg gk'
    case measure => omega
    case rel => exact ⟨rfl,1,by omega,by omega,rfl⟩
   ·go_wp2_with fail;go_ret;exact ⟨rfl,rfl⟩
   omega
 rw [orC_n b ha];have haq : (a != 0) = true := by simpa using ha
 clear ha;go_enter Tryz.func49,Tryz.ntmps49;go_wp2_with fail;go_loopg [5,8] 3 (fun gk x i wr => w = wr ∧ i = .int .i64 0)
 case atStart => exact ⟨rfl,rfl⟩
 case round =>
  obtain ⟨rfl,rfl⟩ := hrel;go_wp2_with fail;go_ret;exact ⟨rfl,rfl⟩
end
section
open Go.RowKit Go.Shelf
theorem foldC_at : ∀ (l : List Int) (j : Nat) (h : j < l.length),(∀ i (hi : i < l.length),i < j → l[i] = 0) → l[j] ≠ 0 → foldC l = l[j]
 | [],j,h,_,_ => by simp at h
 | x :: l,0,h,_,hn => by simp only [List.getElem_cons_zero] at hn ⊢;rw [foldC,orC_n _ hn]
 | x :: l,j + 1,h,h0,hn => by
  have hx : x = 0 := h0 0 (by simp) (by omega);simp only [List.getElem_cons_succ] at hn ⊢;rw [foldC,hx,orC_0];exact foldC_at l j (by simpa using h) (fun i hi hij => h0 (i + 1) (by simpa using hi) (by omega)) hn
theorem foldC_0 : ∀ (l : List Int),(∀ i (hi : i < l.length),l[i] = 0) → foldC l = 0
 | [],_ => rfl
 | x :: l,h => by
  have hx : x = 0 := h 0 (by simp);rw [foldC,hx,orC_0];exact foldC_0 l (fun i hi => h (i + 1) (by simpa using hi))
namespace V
theorem cmpL_at {l l' : List V} {j : Nat} (h1 : j < l.length) (h2 : j < l'.length) (h : ∀ i (h1 : i < l.length) (h2 : i < l'.length),i < j → cmp l[i] l'[i] = 0) (hn : cmp l[j] l'[j] ≠ 0) : cmpL l l' = cmp l[j] l'[j] := by
 unfold cmpL;have hl : ((l.zip l').map fun p => cmp p.1 p.2).length = min l.length l'.length := by simp
 rw [foldC_at _ j (by rw [hl];omega) (fun i hi hij => ?_) (by simpa using hn)]
 ·simp
 rw [hl] at hi;have := h i (by omega) (by omega) hij;simpa using this
theorem cmpL_0 {l l' : List V} (h : ∀ i (h1 : i < l.length) (h2 : i < l'.length),cmp l[i] l'[i] = 0) : cmpL l l' = 0 := by
 unfold cmpL;refine foldC_0 _ (fun i hi => ?_);have hl : ((l.zip l').map fun p => cmp p.1 p.2).length = min l.length l'.length := by simp
 rw [hl] at hi;have := h i (by omega) (by omega);simpa using this
theorem cmpF_at {l l' : List (ByteArray × V)} {j : Nat} (h1 : j < l.length) (h2 : j < l'.length) (h : ∀ i (h1 : i < l.length) (h2 : i < l'.length),i < j → cmpP l[i] l'[i] = 0) (hn : cmpP l[j] l'[j] ≠ 0) : cmpF l l' = cmpP l[j] l'[j] := by
 unfold cmpF;have hl : ((l.zip l').map fun p => cmpP p.1 p.2).length = min l.length l'.length := by simp
 rw [foldC_at _ j (by rw [hl];omega) (fun i hi hij => ?_) (by simpa using hn)]
 ·simp
 rw [hl] at hi;have := h i (by omega) (by omega) hij;simpa using this
theorem cmpF_0 {l l' : List (ByteArray × V)} (h : ∀ i (h1 : i < l.length) (h2 : i < l'.length),cmpP l[i] l'[i] = 0) : cmpF l l' = 0 := by
 unfold cmpF;refine foldC_0 _ (fun i hi => ?_);have hl : ((l.zip l').map fun p => cmpP p.1 p.2).length = min l.length l'.length := by simp
 rw [hl] at hi;have := h i (by omega) (by omega);simpa using this
end V
theorem orC_assoc (a b c : Int) : orC (orC a b) c = orC a (orC b c) := by unfold orC;split <;> simp_all
def CmpC (x y : V) : Prop := ∀ (w : World) (c c' : Cv),In w x c → In w y c' →
 Calls Tryz.prog 50 #[c.agg,c'.agg] w fun e w' => e = .returned (.int .i64 (V.cmp x y)) ∧ Grow w w'
theorem vcompare_diff (x y : V) (h : cls x.k ≠ cls y.k) : CmpC x y := by
 intro w c c' hx hy;obtain ⟨k,n,b,l,f⟩ := x;obtain ⟨k',n',b',l',f'⟩ := y;change cls k ≠ cls k' at h;have HE := hide (show sg (cls k) (cls k') = V.cmp (.mk k n b l f) (.mk k' n' b' l' f') by rw [V.cmp_mk,if_pos h]);obtain ⟨aB,aL,aF,cB,cL,cF,rfl,-⟩ := hx.open;obtain ⟨bB,bL,bF,dB,dL,dF,rfl,-⟩ := hy.open;have HG := hide (((Grow.refl w).alloc (.cells (Cv.mk k n aB b.length cB aL l.length cL aF f.length cF).cells 27)).alloc (.cells (Cv.mk k' n' bB b'.length dB bL l'.length dL bF f'.length dF).cells 27));have HA := hide (fun w => class_any k w);have HB := hide (fun w => class_any k' w);have HC := hide (fun w => cmpi_any (cls k) (cls k') w);have hz : (sg (cls k) (cls k') != 0) = true := by have := sg_ne h;simpa using this
 obtain ⟨z,hzz⟩ : ∃ z,sg (cls k) (cls k') = z := ⟨_,rfl⟩;rw [hzz] at hz HC HE;rw [← HE.out];clear hx hy h hzz;go_enter Tryz.func50,Tryz.ntmps50;go_wp2_with fail;go_quiet ((first | (go_at_call 93;exact Calls.quiet_of_same ((HA.out _).mono fun e w' h => ⟨h.1,h.2.symm⟩)) | (go_at_call 93;exact Calls.quiet_of_same ((HB.out _).mono fun e w' h => ⟨h.1,h.2.symm⟩)) | (go_at_call 92;exact Calls.quiet_of_same ((HC.out _).mono fun e w' h => ⟨h.1,h.2.symm⟩))));go_wp2_with fail;go_ret;exact ⟨rfl,HG.out.drewN _⟩
theorem vcompare_tail (k : Int) (n n' : Nat) (b b' : List UInt8) (l l' : List V) (f f' : List (ByteArray × V)) (c c' : Cv) (w : World) (hk2 : (k == 2) = false) (hk3 : (k == 3) = false) (hk4 : (k == 4) = false) (hk5 : (k == 5) = false) (hk6 : (k == 6) = false)
 (hv : In w (.mk k n b l f) c) (hv' : In w (.mk k n' b' l' f') c') (hl : ∀ x ∈ l,∀ y ∈ l',CmpC x y) (hf : ∀ x ∈ f,∀ y ∈ f',CmpC x.2 y.2) :
 Calls Tryz.prog 50 #[c.agg,c'.agg] w fun e w' => e = .returned (.int .i64 (orC (V.cmpL l l') (orC (V.cmpF f f') (orC (sg (l.length : Int) (l'.length : Int)) (sg (f.length : Int) (f'.length : Int)))))) ∧ Grow w w' := by
 obtain ⟨aB,aL,aF,cB,cL,cF,rfl,h1,h2,h3,h4,h5,h6,h7,h8,h9,hb⟩ := hv.open;obtain ⟨aB',aL',aF',cB',cL',cF',rfl,h1',h2',h3',h4',h5',h6',h7',h8',h9',hb'⟩ := hv'.open;have HV := hide hv;have HV' := hide hv';have Hl := hide hl;have Hf := hide hf;have HA := hide (fun w => class_any k w);have HC := hide (fun w => cmpi_any (cls k) (cls k) w);rw [sg_eq rfl] at HC;obtain ⟨M,hM⟩ : ∃ M,min l.length l'.length = M := ⟨_,rfl⟩;have hMi : min (l.length : Int) (l'.length : Int) = (M : Int) := by omega
 obtain ⟨M2,hM2⟩ : ∃ M,min f.length f'.length = M := ⟨_,rfl⟩;have hMi2 : min (f.length : Int) (f'.length : Int) = (M2 : Int) := by omega
 have hMa : M ≤ l.length := by omega
 have hMb : M ≤ l'.length := by omega
 have hMc : M2 ≤ f.length := by omega
 have hMd : M2 ≤ f'.length := by omega
 have HM := hide hM;have HM2 := hide hM2;clear hv hv' hb hb' h1 h2 h3 h4 h5 h6 h8 h1' h2' h3' h4' h5' h6' h8' hl hf hM hM2;go_enter Tryz.func50,Tryz.ntmps50;go_wp2_with fail;go_quiet ((first | (go_at_call 93;exact Calls.quiet_of_same ((HA.out _).mono fun e w' h => ⟨h.1,h.2.symm⟩)) | (go_at_call 92;exact Calls.quiet_of_same ((HC.out _).mono fun e w' h => ⟨h.1,h.2.symm⟩))));go_wp2_with fail;go_loopg [50] (M + 1) (fun gk i wr => ∃ j : Nat,j ≤ M ∧ gk + j = M + 1 ∧ i = .int .i64 j ∧ (∀ i (h1 : i < l.length) (h2 : i < l'.length),i < j → V.cmp l[i] l'[i] = 0) ∧ Grow w wr ∧
  Blk wr w.heap.size 27 (Cv.cells ⟨k,(n : Int),aB,b.length,cB,aL,l.length,cL,aF,f.length,cF⟩) ∧ Blk wr (w.heap.size + 1) 27 (Cv.cells ⟨k,(n' : Int),aB',b'.length,cB',aL',l'.length,cL',aF',f'.length,cF'⟩))
 case atStart => exact ⟨0,by omega,by omega,rfl,fun i _ _ h => absurd h (by omega),(((Grow.refl w).alloc _).alloc _).drewN _,((Blk.new _ _ _).alloc _).drewN _,(Blk.new' (by simp) _ _).drewN _⟩
 case round =>
  obtain ⟨j,hj,hg,rfl,heq,hw,hB,hB'⟩ := hrel;obtain ⟨gk',rfl⟩ := gk_ gk (by omega);have hc3 := hB.cell;have hc3' := hB'.cell;have HW := hide hw;have HEQ := hide heq;have HB := hide hB;have HB' := hide hB';by_cases hlt : j < M
  ·have hlt1 : j < l.length := by omega
   have hlt' : j < l'.length := by omega
   obtain ⟨bk,o,x,ha,hbk,e0,e1,e2,e3,e4,hx⟩ := (HV.out.grow hw).elemL j hlt1;obtain ⟨bk',o',x',ha',hbk',e0',e1',e2',e3',e4',hx'⟩ := (HV'.out.grow hw).elemL j hlt';dsimp only at ha ha';subst ha ha';have HX := hide hx;have HX' := hide hx';have Hlj := hide (Hl.out _ (List.getElem_mem hlt1) _ (List.getElem_mem hlt'));clear hw hx hx' hB hB' heq;have hz0 : w.heap.size < wr.heap.size := HB.out.lt;have hz1 : w.heap.size + 1 < wr.heap.size := HB'.out.lt;obtain ⟨z,hz⟩ : ∃ z,V.cmp l[j] l'[j] = z := ⟨_,rfl⟩;have HJ := hide (fun w2 (hgr : Grow wr w2) => Hlj.out w2 x x' (HX.out.grow hgr) (HX'.out.grow hgr));rw [hz] at HJ;have HZ := hide hz;clear hz;by_cases he : z = 0
   ·subst he;go_wp2_with fail;go_region_held3 (fun w' => ∀ b o,b < wr.heap.size → w'.cell? ⟨b,o,none⟩ = wr.cell? ⟨b,o,none⟩) (first | exact fun _ _ _ => rfl | exact fun b o h => hgr.below.cell (p := ⟨b,o,none⟩) h)
     (first | (go_at_call 50;refine (HJ.out _ (Grow.refl wr).drew).mono ?_;rintro e w2 ⟨rfl,hb2⟩;have hgr : Grow wr w2 := (Grow.refl wr).drew.trans hb2))
    have HGR := hide hgr;clear hgr hb2;go_wp2_with fail;go_roundg gk'
    case measure => omega
    case rel =>
     refine ⟨j + 1,by omega,by omega,by go_num,fun i h1 h2 h3 => ?_,HW.out.trans HGR.out,HB.out.grow HGR.out,HB'.out.grow HGR.out⟩;rcases Nat.lt_or_ge i j with h | h
     ·exact HEQ.out i h1 h2 h
     obtain rfl : i = j := by omega
     exact HZ.out
   have hzq : (z != 0) = true := by simpa using he
   have HE := hide he;have HR := hide (V.cmpL_at hlt1 hlt' HEQ.out (by rw [HZ.out];exact he));clear he;go_wp2_with fail;go_region_held3 (fun w' => ∀ b o,b < wr.heap.size → w'.cell? ⟨b,o,none⟩ = wr.cell? ⟨b,o,none⟩) (first | exact fun _ _ _ => rfl | exact fun b o h => hgr.below.cell (p := ⟨b,o,none⟩) h)
    (first | (go_at_call 50;refine (HJ.out _ (Grow.refl wr).drew).mono ?_;rintro e w2 ⟨rfl,hb2⟩;have hgr : Grow wr w2 := (Grow.refl wr).drew.trans hb2))
   have HGR := hide hgr;clear hgr hb2;go_wp2_with fail;go_ret;refine ⟨ret_int ?_,HW.out.trans HGR.out⟩;rw [HR.out,HZ.out,orC_n _ HE.out]
  obtain rfl : j = M := by omega
  have HL0 := hide (show V.cmpL l l' = 0 from V.cmpL_0 (fun i h1 h2 => HEQ.out i h1 h2 (by have := HM.out;omega)));clear hw hB hB' heq HEQ hlt hg;go_wp2_with fail;have HW1 := hide HW.out;go_loopg [75] (M2 + 1) (fun gk i wr => ∃ j : Nat,j ≤ M2 ∧ gk + j = M2 + 1 ∧ i = .int .i64 j ∧ (∀ i (h1 : i < f.length) (h2 : i < f'.length),i < j → V.cmpP f[i] f'[i] = 0) ∧ Grow w wr ∧
   Blk wr w.heap.size 27 (Cv.cells ⟨k,(n : Int),aB,b.length,cB,aL,l.length,cL,aF,f.length,cF⟩) ∧ Blk wr (w.heap.size + 1) 27 (Cv.cells ⟨k,(n' : Int),aB',b'.length,cB',aL',l'.length,cL',aF',f'.length,cF'⟩))
  case atStart => exact ⟨0,by omega,by omega,rfl,fun i _ _ h => absurd h (by omega),HW.out,HB.out,HB'.out⟩
  case round =>
   obtain ⟨j,hj,hg,rfl,heq,hw,hB,hB'⟩ := hrel;obtain ⟨gk',rfl⟩ := gk_ gk (by omega);clear hc3 hc3' HW HW1 HB HB';have hc3 := hB.cell;have hc3' := hB'.cell;have HW := hide hw;have HEQ := hide heq;have HB := hide hB;have HB' := hide hB';have hz0 : w.heap.size < wr.heap.size := HB.out.lt;have hz1 : w.heap.size + 1 < wr.heap.size := HB'.out.lt;by_cases hlt : j < M2
   ·have hlt1 : j < f.length := by omega
    have hlt' : j < f'.length := by omega
    obtain ⟨bk,o,x,ha,hbk,es,esz,e0,e1,e2,e3,e4,hx⟩ := (HV.out.grow hw).elemF j hlt1;obtain ⟨bk',o',x',ha',hbk',es',esz',e0',e1',e2',e3',e4',hx'⟩ := (HV'.out.grow hw).elemF j hlt';dsimp only at ha ha';subst ha ha';have HX := hide hx;have HX' := hide hx';have Hlj := hide (Hf.out _ (List.getElem_mem hlt1) _ (List.getElem_mem hlt'));clear hw hx hx' hB hB' heq;have HP := hide (show V.cmpP f[j] f'[j] = orC (Lib.compareBytes f[j].1.data.toList f'[j].1.data.toList) (V.cmp f[j].2 f'[j].2) from rfl);have HS := hide (fun w2 => scmp_any f[j].1 f'[j].1 w2);obtain ⟨s1,hs1⟩ : ∃ s,f[j].1 = s := ⟨_,rfl⟩;obtain ⟨s2,hs2⟩ : ∃ s,f'[j].1 = s := ⟨_,rfl⟩;obtain ⟨z2,hz2⟩ : ∃ z,V.cmp f[j].2 f'[j].2 = z := ⟨_,rfl⟩;have HJ := hide (fun w2 (hgr : Grow wr w2) => Hlj.out w2 x x' (HX.out.grow hgr) (HX'.out.grow hgr));rw [hz2] at HJ HP;rw [hs1,hs2] at HS HP;rw [hs1] at es
    rw [hs2] at es';obtain ⟨z1,hz1'⟩ : ∃ z,Lib.compareBytes s1.data.toList s2.data.toList = z := ⟨_,rfl⟩;rw [hz1'] at HS HP;obtain ⟨z,hzz⟩ : ∃ z,orC z1 z2 = z := ⟨_,rfl⟩;have HO := hide (fun g cap t w2 hB => or2_any z1 z2 g cap t w2 hB);rw [hzz] at HO HP;clear hs1 hs2 hz2 hz1' hzz;by_cases he : z = 0
    ·subst he;go_wp2_with fail;go_region_held3 (fun w' => ∀ b o,b < wr.heap.size → w'.cell? ⟨b,o,none⟩ = wr.cell? ⟨b,o,none⟩) (first | exact fun _ _ _ => rfl | exact fun b o h => hgr.below.cell (p := ⟨b,o,none⟩) h | exact fun b o h => (hgr.alloc _).below.cell (p := ⟨b,o,none⟩) h | exact fun b o h => ((hgr.alloc _).drew).below.cell (p := ⟨b,o,none⟩) h)
      (first | (go_at_call 50;refine (HJ.out _ (Grow.refl wr).drew).mono ?_;rintro e w2 ⟨rfl,hb2⟩;have hgr : Grow wr w2 := (Grow.refl wr).drew.trans hb2) | (go_at_call 97;refine (HS.out _).mono ?_;rintro e w2 ⟨rfl,rfl⟩) | (go_at_call 96;refine (HO.out _ _ _ _ (Blk.new _ _ _)).mono ?_;rintro e w2 ⟨rfl,rfl⟩))
     all_goals
      have HGR := hide (hgr.alloc (.cells #[.int .i64 z1,.int .i64 z2] 3))
      clear hgr hb2
      go_wp2_with fail
      go_roundg gk'
      case measure => omega
      case rel =>
       refine ⟨j + 1,by omega,by omega,by go_num,fun i h1 h2 h3 => ?_,HW.out.trans HGR.out,HB.out.grow HGR.out,HB'.out.grow HGR.out⟩
       rcases Nat.lt_or_ge i j with h | h
       ·exact HEQ.out i h1 h2 h
       obtain rfl : i = j := by omega
       exact HP.out
    have hzq : (z != 0) = true := by simpa using he
    have HE := hide he;have HR := hide (V.cmpF_at hlt1 hlt' HEQ.out (by rw [HP.out];exact he));clear he;go_wp2_with fail;go_region_held3 (fun w' => ∀ b o,b < wr.heap.size → w'.cell? ⟨b,o,none⟩ = wr.cell? ⟨b,o,none⟩) (first | exact fun _ _ _ => rfl | exact fun b o h => hgr.below.cell (p := ⟨b,o,none⟩) h | exact fun b o h => (hgr.alloc _).below.cell (p := ⟨b,o,none⟩) h | exact fun b o h => ((hgr.alloc _).drew).below.cell (p := ⟨b,o,none⟩) h)
     (first | (go_at_call 50;refine (HJ.out _ (Grow.refl wr).drew).mono ?_;rintro e w2 ⟨rfl,hb2⟩;have hgr : Grow wr w2 := (Grow.refl wr).drew.trans hb2) | (go_at_call 97;refine (HS.out _).mono ?_;rintro e w2 ⟨rfl,rfl⟩) | (go_at_call 96;refine (HO.out _ _ _ _ (Blk.new _ _ _)).mono ?_;rintro e w2 ⟨rfl,rfl⟩))
    all_goals
     have HGR := hide (hgr.alloc (.cells #[.int .i64 z1,.int .i64 z2] 3))
     clear hgr hb2
     go_wp2_with fail
     go_ret
     refine ⟨ret_int ?_,HW.out.trans HGR.out⟩
     rw [HL0.out,orC_0,HR.out,HP.out,orC_n _ HE.out]
   obtain rfl : j = M2 := by omega
   have HF0 := hide (show V.cmpF f f' = 0 from V.cmpF_0 (fun i h1 h2 => HEQ.out i h1 h2 (by have := HM2.out;omega)));clear hw hB hB' heq HEQ hlt hg;have HC1 := hide (fun w => cmpi_any (l.length : Int) (l'.length : Int) w);have HC2 := hide (fun w => cmpi_any (f.length : Int) (f'.length : Int) w);obtain ⟨z1,hz1'⟩ : ∃ z,sg (l.length : Int) (l'.length : Int) = z := ⟨_,rfl⟩;obtain ⟨z2,hz2'⟩ : ∃ z,sg (f.length : Int) (f'.length : Int) = z := ⟨_,rfl⟩;rw [hz1'] at HC1;rw [hz2'] at HC2;have HZ1 := hide hz1';have HZ2 := hide hz2';have HO := hide (fun g cap t w2 hB => or2_any z1 z2 g cap t w2 hB);clear hz1' hz2';go_wp2_with fail
   go_region_held3 (fun w' => ∀ b o,b < wr.heap.size → w'.cell? ⟨b,o,none⟩ = wr.cell? ⟨b,o,none⟩) (first | exact fun _ _ _ => rfl | exact fun b o h => ((Grow.refl wr).alloc _).below.cell (p := ⟨b,o,none⟩) h | exact fun b o h => (((Grow.refl wr).alloc _).drew).below.cell (p := ⟨b,o,none⟩) h)
    (first | (go_at_call 92;(with_reducible refine (HC1.out _).mono ?_);rintro e w2 ⟨rfl,rfl⟩) | (go_at_call 92;(with_reducible refine (HC2.out _).mono ?_);rintro e w2 ⟨rfl,rfl⟩) | (go_at_call 96;refine (HO.out _ _ _ _ (Blk.drew (Blk.new _ _ _))).mono ?_;rintro e w2 ⟨rfl,rfl⟩) | (go_at_call 96;refine (HO.out _ _ _ _ (Blk.new _ _ _)).mono ?_;rintro e w2 ⟨rfl,rfl⟩))
   all_goals
    have HGR := hide (((Grow.refl wr).alloc (.cells #[.int .i64 z1,.int .i64 z2] 3)).drew)
    go_wp2_with fail
    go_ret
    refine ⟨ret_int ?_,HW.out.trans HGR.out⟩
    rw [HL0.out,HF0.out,orC_0,orC_0,HZ1.out,HZ2.out]
theorem vcompare_num (k k' : Int) (n n' : Nat) (hk : k = 3 ∨ k = 4) (hk' : k' = 3 ∨ k' = 4) : CmpC (.mk k n [] [] []) (.mk k' n' [] [] []) := by
 intro w c c' hx hy;rw [V.number_cmp hk hk'];have HN := hide (fun w2 (hg : Grow w w2) => numbers_any k k' n n' c c' w2 hk hk' (hx.grow hg) (hy.grow hg));obtain ⟨aB,aL,aF,cB,cL,cF,rfl,-⟩ := hx.open;obtain ⟨bB,bL,bF,dB,dL,dF,rfl,-⟩ := hy.open;have HG := hide (((Grow.refl w).alloc (.cells (Cv.mk k n aB 0 cB aL 0 cL aF 0 cF).cells 27)).alloc (.cells (Cv.mk k' n' bB 0 dB bL 0 dL bF 0 dF).cells 27));have HA := hide (fun w => class_any k w);have HA2 := hide (fun w => class_any k' w);have HC := hide (fun w => cmpi_any 3 3 w);rw [sg_eq rfl] at HC;rw [show cls k = 3 by rcases hk with rfl | rfl <;> rfl] at HA;rw [show cls k' = 3 by rcases hk' with rfl | rfl <;> rfl] at HA2;have hk2 : (k == 2) = false := by rcases hk with rfl | rfl <;> rfl
 clear hx hy;rcases hk with rfl | rfl
 all_goals
  go_enter Tryz.func50,Tryz.ntmps50
  go_wp2_with fail
  go_quiet ((first | (go_at_call 93;exact Calls.quiet_of_same ((HA.out _).mono fun e w' h => ⟨h.1,h.2.symm⟩)) | (go_at_call 93;exact Calls.quiet_of_same ((HA2.out _).mono fun e w' h => ⟨h.1,h.2.symm⟩)) | (go_at_call 92;exact Calls.quiet_of_same ((HC.out _).mono fun e w' h => ⟨h.1,h.2.symm⟩))))
  go_wp2_with fail
  refine (HN.out _ (HG.out.drewN _)).mono ?_
  rintro e w2 ⟨rfl,hg⟩
  have HG2 := hide ((HG.out.drewN _).trans hg)
  clear hg
  go_wp2_with fail
  go_ret
  exact ⟨rfl,HG2.out⟩
theorem vcompare_bool (n n' : Nat) : CmpC (.mk 2 n [] [] []) (.mk 2 n' [] [] []) := by
 intro w c c' hx hy;have HE := hide (show sg n n' = V.cmp (.mk 2 n [] [] []) (.mk 2 n' [] [] []) by rw [V.cmp_mk];rfl);rw [← HE.out];obtain ⟨aB,aL,aF,cB,cL,cF,rfl,-⟩ := hx.open;obtain ⟨bB,bL,bF,dB,dL,dF,rfl,-⟩ := hy.open;have HG := hide (((Grow.refl w).alloc (.cells (Cv.mk 2 n aB 0 cB aL 0 cL aF 0 cF).cells 27)).alloc (.cells (Cv.mk 2 n' bB 0 dB bL 0 dL bF 0 dF).cells 27));have HA := hide (fun w => class_any 2 w);have HA2 := hide (fun w => class_any 2 w);have HC := hide (fun w => cmpi_any 2 2 w);rw [sg_eq rfl] at HC;rw [show cls 2 = 2 from rfl] at HA HA2;have HN := hide (fun w => cmpu64_any n n' w);clear hx hy;go_enter Tryz.func50,Tryz.ntmps50;go_wp2_with fail
 go_quiet ((first | (go_at_call 93;exact Calls.quiet_of_same ((HA.out _).mono fun e w' h => ⟨h.1,h.2.symm⟩)) | (go_at_call 93;exact Calls.quiet_of_same ((HA2.out _).mono fun e w' h => ⟨h.1,h.2.symm⟩)) | (go_at_call 92;exact Calls.quiet_of_same ((HC.out _).mono fun e w' h => ⟨h.1,h.2.symm⟩))));go_wp2_with (go_at_call 94;refine (HN.out _).mono ?_;rintro e w2 ⟨rfl,rfl⟩);go_ret;exact ⟨rfl,HG.out.drewN _⟩
theorem vcompare_text (k : Int) (b b' : List UInt8) (hk : k = 5 ∨ k = 6) : CmpC (.mk k 0 b [] []) (.mk k 0 b' [] []) := by
 intro w c c' hx hy;have HE := hide (show Lib.compareBytes b b' = V.cmp (.mk k 0 b [] []) (.mk k 0 b' [] []) by rw [V.cmp_mk,if_neg (by simp),if_neg (by omega),if_neg (by omega),if_pos hk]);rw [← HE.out];obtain ⟨aB,aL,aF,cB,cL,cF,rfl,-,-,-,-,-,-,-,-,-,hb⟩ := hx.open;obtain ⟨bB,bL,bF,dB,dL,dF,rfl,-,-,-,-,-,-,-,-,-,hb'⟩ := hy.open;have HG := hide (((Grow.refl w).alloc (.cells (Cv.mk k 0 aB b.length cB aL 0 cL aF 0 cF).cells 27)).alloc (.cells (Cv.mk k 0 bB b'.length dB bL 0 dL bF 0 dF).cells 27));have HA := hide (fun w => class_any k w);have HA2 := hide (fun w => class_any k w);have HC := hide (fun w => cmpi_any k k w);rw [sg_eq rfl] at HC;rw [show cls k = k by rcases hk with rfl | rfl <;> rfl] at HA HA2;have HN := hide (fun w2 (hg : Grow w w2) => balg_anyV b b' aB bB cB dB w2 (hb.grow hg) (hb'.grow hg))
 have hk2 : (k == 2) = false := by rcases hk with rfl | rfl <;> rfl
 have hk3 : (k == 3) = false := by rcases hk with rfl | rfl <;> rfl
 have hk4 : (k == 4) = false := by rcases hk with rfl | rfl <;> rfl
 clear hx hy hb hb';rcases hk with rfl | rfl
 all_goals
  go_enter Tryz.func50,Tryz.ntmps50
  go_wp2_with fail
  go_quiet ((first | (go_at_call 93;exact Calls.quiet_of_same ((HA.out _).mono fun e w' h => ⟨h.1,h.2.symm⟩)) | (go_at_call 93;exact Calls.quiet_of_same ((HA2.out _).mono fun e w' h => ⟨h.1,h.2.symm⟩)) | (go_at_call 92;exact Calls.quiet_of_same ((HC.out _).mono fun e w' h => ⟨h.1,h.2.symm⟩))))
  go_wp2_with (go_at_call 54;refine (HN.out _ (HG.out.drewN _)).mono ?_;rintro e w2 ⟨rfl,rfl⟩)
  go_ret
  exact ⟨rfl,HG.out.drewN _⟩
theorem vcompare_any (x : V) : ∀ y : V,x.formed = true → y.formed = true → CmpC x y := by
 induction x using V.ind with
 | h k n b l f hl hf =>
  intro y hx hy;obtain ⟨k',n',b',l',f'⟩ := y;by_cases hcl : cls k ≠ cls k'
  ·exact vcompare_diff _ _ hcl
  have hcl : cls k = cls k' := Decidable.byContradiction hcl;rcases V.formed_cases hx with h | ⟨m,hm,h⟩ | ⟨m,h⟩ | ⟨m,h⟩ | ⟨m,hm,h⟩ | ⟨m,h⟩ | ⟨m,hm,h⟩ | ⟨m,hm,hnd,h⟩ <;> cases h <;>
  rcases V.formed_cases hy with h | ⟨m',hm',h⟩ | ⟨m',h⟩ | ⟨m',h⟩ | ⟨m',hm',h⟩ | ⟨m',h⟩ | ⟨m',hm',h⟩ | ⟨m',hm',hnd',h⟩ <;> cases h <;>
  first
  | exact absurd hcl (by decide)
  | exact vcompare_num _ _ _ _ (by decide) (by decide)
  | exact vcompare_bool _ _
  | exact vcompare_text _ _ _ (by decide)
  | skip
  ·intro w c c' h h';refine (vcompare_tail 1 0 0 [] [] [] [] [] [] c c' w rfl rfl rfl rfl rfl h h' (fun _ hx => by simp at hx) (fun _ hx => by simp at hx)).mono ?_;rintro e w' ⟨rfl,hg⟩;exact ⟨ret_int (by rw [V.cmp_mk];rfl),hg⟩
  ·intro w c c' h h';refine (vcompare_tail 7 0 0 [] [] l l' [] [] c c' w rfl rfl rfl rfl rfl h h' (fun x hx y hy => hl x hx y (hm x hx) (hm' y hy)) (fun _ hx => by simp at hx)).mono ?_;rintro e w' ⟨rfl,hg⟩;refine ⟨ret_int ?_,hg⟩;rw [V.cmp_mk,if_neg (by simp),if_neg (by decide),if_neg (by decide),if_neg (by decide)];have e0 : V.cmpF [] [] = 0 := rfl;have e1 : sg (([] : List (ByteArray × V)).length : Int) (([] : List (ByteArray × V)).length : Int) = 0 := rfl;rw [e0,e1,orC_assoc];simp only [List.length_nil,Nat.add_zero,orC_0];unfold orC;repeat' split
   all_goals first | rfl | contradiction | omega
  intro w c c' h h';refine (vcompare_tail 8 0 0 [] [] [] [] f f' c c' w rfl rfl rfl rfl rfl h h' (fun _ hx => by simp at hx) (fun x hx y hy => hf x hx y.2 (hm x hx).2 (hm' y hy).2)).mono ?_;rintro e w' ⟨rfl,hg⟩;refine ⟨ret_int ?_,hg⟩;rw [V.cmp_mk,if_neg (by simp),if_neg (by decide),if_neg (by decide),if_neg (by decide)];have e0 : V.cmpL [] [] = 0 := rfl;have e1 : sg (([] : List V).length : Int) (([] : List V).length : Int) = 0 := rfl;rw [e0,e1,orC_assoc];simp only [List.length_nil,Nat.zero_add,orC_0]
end
section
open Go.RowKit
section
variable {P : Program} {ops : Array Oper} {a : Act}
theorem yields_val_at {S : World → Prop} {ty t : TypeId} {x : Operand} {d : Option Tmp} {p : String} {af : Array Edge} {g o : Nat} {c : Cv} {td : TypeDesc} (hu : P.underlying ty = some td) (hd : td.isRow = true) (hx : a.eval x = .pointer (some ⟨g,o,none⟩)) (hi : (P.info? ty).map (·.size) = some 5)
 (hget : ∀ w,S w → ∀ j v,c.cells.toList[j]? = some v → w.cell? ⟨g,o + j,none⟩ = some v) : YieldsIf P ops S ⟨d,.load ty x,t,p,af,none⟩ c.agg a :=
 yieldsIf_load_mid (by simp [Region.wanted]) ty x rfl g o hx c.cells.toList td (fun w hS j v hv => hget w hS j v hv) hu hd hi
end
section
variable {P : Program} {ops : Array Oper} {Q : Exit → Act → World → Prop} {a : Act} {w : World} {K : Act → World → Prop} {E : Prop}
theorem grown_setRowQ (w : World) (g : Nat) (cs : Array Value) : w.grownBy (w.setRow g cs) (some g) :=
 ⟨rfl,rfl,rfl,by simp [World.setRow],fun k _ hk => by
  have : ¬ g = k := fun e => hk (by rw [e])
  simp [World.setRow,Array.getElem?_modify,this]⟩
theorem Blk.setRowQ {w : World} {g : Nat} {t : TypeId} {cs : Array Value} (h : Blk w g t cs) (cs' : Array Value) : Blk (w.setRow g cs') g t cs' := by
 unfold Blk at h ⊢;simp [World.setRow,Array.getElem?_modify,h]
theorem step_store_blkQ {ty t : TypeId} {x y : Operand} {p : String} {af : Array Edge} {g n : Nat} {cells old : Array Value} (hx : a.eval x = .pointer (some ⟨g,0,none⟩)) (hy : a.eval y = .agg cells) (hB : Blk w g ty old) (hi : (P.info? ty).map (·.size) = some n)
 (hold : old.size = n) (hn : cells.size = n) (h1 : cells.all (·.oneCell') = true)
 (h : ∀ w',Blk w' g ty cells → w.grownBy w' (some g) → w'.heap.size = w.heap.size → K a w') : if Region.wanted ⟨none,.store ty x y,t,p,af,none⟩ (yielded ops a.tmps) = true then Oper.wp P ⟨none,.store ty x y,t,p,af,none⟩ a w K Q else E := by
 rw [if_pos (by simp [Region.wanted])];exact wp_store_row ty x y rfl g cells hx hy ty old hB (by rw [hn];exact hi) (by omega) h1 (h _ (hB.setRowQ cells) (grown_setRowQ w g cells) (by simp [World.setRow]))
end
abbrev quadQ (ck cl ch cx : Cv) : Array Value := #[.int .i64 ck.k,.int .u64 ck.n,.slice ck.aB ck.nB ck.cB,.slice ck.aL ck.nL ck.cL,.slice ck.aF ck.nF ck.cF,.int .i64 cl.k,.int .u64 cl.n,.slice cl.aB cl.nB cl.cB,.slice cl.aL cl.nL cl.cL,.slice cl.aF cl.nF cl.cF,.int .i64 ch.k,.int .u64 ch.n,.slice ch.aB ch.nB ch.cB,.slice ch.aL ch.nL ch.cL,.slice ch.aF ch.nF ch.cF,.int .i64 cx.k,.int .u64 cx.n,.slice cx.aB cx.nB cx.cB,.slice cx.aL cx.nL cx.cL,.slice cx.aF cx.nF cx.cF]
abbrev zeroQ20 : Array Value := #[.int .i64 0,.int .u64 0,.slice none 0 0,.slice none 0 0,.slice none 0 0,.int .i64 0,.int .u64 0,.slice none 0 0,.slice none 0 0,.slice none 0 0,.int .i64 0,.int .u64 0,.slice none 0 0,.slice none 0 0,.slice none 0 0,.int .i64 0,.int .u64 0,.slice none 0 0,.slice none 0 0,.slice none 0 0]
theorem info_valQ : (Tryz.prog.info? 27).map (·.size) = some 5 := by kernel_rfl
theorem info_4q : (Tryz.prog.info? 85).map (·.size) = some 20 := by kernel_rfl
theorem quadQ_one (ck cl ch cx : Cv) : (quadQ ck cl ch cx).all (·.oneCell') = true := by simp [quadQ,Value.oneCell']
theorem quadQ_at {w : World} {g : Nat} {t : TypeId} {ck cl ch cx : Cv} {a b c d : V} (h : Blk w g t (quadQ ck cl ch cx)) (h1 : In w a ck) (h2 : In w b cl) (h3 : In w c ch) (h4 : In w d cx) : InL w (some ⟨g,0,none⟩) 4 [a,b,c,d] := by
 have hlt := h.lt;unfold InL In;rw [IsV];refine ⟨rfl,rfl,rfl,rfl,rfl,by decide,by decide,by decide,by simp,by simp,by simp,by simp,by simp,by simp,⟨rfl,fun h => by simp at h⟩,fun i hi => ?_,fun i hi => by simp at hi⟩;have hi4 : i < 4 := hi;have hj3 : i = 0 ∨ i = 1 ∨ i = 2 ∨ i = 3 := by omega
 rcases hj3 with rfl | rfl | rfl | rfl
 ·exact ⟨g,0,ck,rfl,⟨⟨h.cell 0,Nat.zero_le _,hlt⟩,⟨h.cell 1,Nat.zero_le _,hlt⟩,⟨h.cell 2,Nat.zero_le _,hlt⟩,⟨h.cell 3,Nat.zero_le _,hlt⟩,⟨h.cell 4,Nat.zero_le _,hlt⟩⟩,h1⟩
 ·exact ⟨g,0,cl,rfl,⟨⟨h.cell 5,Nat.zero_le _,hlt⟩,⟨h.cell 6,Nat.zero_le _,hlt⟩,⟨h.cell 7,Nat.zero_le _,hlt⟩,⟨h.cell 8,Nat.zero_le _,hlt⟩,⟨h.cell 9,Nat.zero_le _,hlt⟩⟩,h2⟩
 ·exact ⟨g,0,ch,rfl,⟨⟨h.cell 10,Nat.zero_le _,hlt⟩,⟨h.cell 11,Nat.zero_le _,hlt⟩,⟨h.cell 12,Nat.zero_le _,hlt⟩,⟨h.cell 13,Nat.zero_le _,hlt⟩,⟨h.cell 14,Nat.zero_le _,hlt⟩⟩,h3⟩
 exact ⟨g,0,cx,rfl,⟨⟨h.cell 15,Nat.zero_le _,hlt⟩,⟨h.cell 16,Nat.zero_le _,hlt⟩,⟨h.cell 17,Nat.zero_le _,hlt⟩,⟨h.cell 18,Nat.zero_le _,hlt⟩,⟨h.cell 19,Nat.zero_le _,hlt⟩⟩,h4⟩
def InQs (w : World) (A : Option Addr) (l : List Rq) : Prop := ∀ i (hi : i < l.length),∃ (bk o : Nat) (ck cl ch cx : Cv),A = some ⟨bk,o,none⟩ ∧ bk < w.heap.size ∧
 (∀ k v,(rqCells l[i].do_ l[i].coll l[i].index l[i].path l[i].unique ck cl ch cx l[i].n)[k]? = some v → w.cell? ⟨bk,o + i * 26 + k,none⟩ = some v) ∧ In w l[i].key ck ∧ In w l[i].low cl ∧ In w l[i].high ch ∧ In w l[i].doc cx
theorem InQs.grow {w w' : World} {A : Option Addr} {l : List Rq} (h : InQs w A l) (hg : Grow w w') : InQs w' A l := fun i hi => by
 obtain ⟨bk,o,ck,cl,ch,cx,ha,hb,hc,h1,h2,h3,h4⟩ := h i hi;exact ⟨bk,o,ck,cl,ch,cx,ha,Nat.lt_of_lt_of_le hb hg.size,fun k v hv => (hg.below.cell (p := ⟨bk,_,none⟩) hb).trans (hc k v hv),h1.grow hg,h2.grow hg,h3.grow hg,h4.grow hg⟩
def rqsN (l : List Rq) : Nat := (l.map fun q => ([q.key,q.low,q.high,q.doc].map V.count).sum).sum
theorem rqsN_take (l : List Rq) (m : Nat) (h : m < l.length) : rqsN (l.take (m + 1)) = rqsN (l.take m) + ([l[m].key,l[m].low,l[m].high,l[m].doc].map V.count).sum := sum_take (fun q : Rq => ([q.key,q.low,q.high,q.doc].map V.count).sum) l m h
theorem rqsN_le (l : List Rq) (m : Nat) : rqsN (l.take m) ≤ rqsN l := sum_take_le (fun q : Rq => ([q.key,q.low,q.high,q.doc].map V.count).sum) l m
theorem rqsN_mem {l : List Rq} {q : Rq} (h : q ∈ l) : q.key.count + q.low.count + q.high.count + q.doc.count ≤ rqsN l := by
 obtain ⟨i,hi,rfl⟩ := List.mem_iff_getElem.1 h;have h1 := rqsN_take l i hi;have h2 := rqsN_le l (i + 1);simp only [List.map_cons,List.map_nil,List.sum_cons,List.sum_nil] at h1;omega
theorem rqsN_len : ∀ (l : List Rq),4 * l.length ≤ rqsN l
 | [] => by simp [rqsN]
 | q :: r => by
  have ih := rqsN_len r;have h1 := V.count_pos q.key;have h2 := V.count_pos q.low;have h3 := V.count_pos q.high;have h4 := V.count_pos q.doc;simp only [rqsN,List.map_cons,List.map_nil,List.sum_cons,List.sum_nil,List.length_cons] at ih ⊢;omega
theorem rqs_sub5 {d n : Int} {c i p : ByteArray} {u : Bool} {ck cl ch cx : Cv} {j : Nat} {v : Value} (h : ck.cells.toList[j]? = some v) : (rqCells d c i p u ck cl ch cx n)[5 + j]? = some v := by
 rcases j with _ | _ | _ | _ | _ | j
 ·exact h
 ·exact h
 ·exact h
 ·exact h
 ·exact h
 simp at h
theorem rqs_sub10 {d n : Int} {c i p : ByteArray} {u : Bool} {ck cl ch cx : Cv} {j : Nat} {v : Value} (h : cl.cells.toList[j]? = some v) : (rqCells d c i p u ck cl ch cx n)[10 + j]? = some v := by
 rcases j with _ | _ | _ | _ | _ | j
 ·exact h
 ·exact h
 ·exact h
 ·exact h
 ·exact h
 simp at h
theorem rqs_sub15 {d n : Int} {c i p : ByteArray} {u : Bool} {ck cl ch cx : Cv} {j : Nat} {v : Value} (h : ch.cells.toList[j]? = some v) : (rqCells d c i p u ck cl ch cx n)[15 + j]? = some v := by
 rcases j with _ | _ | _ | _ | _ | j
 ·exact h
 ·exact h
 ·exact h
 ·exact h
 ·exact h
 simp at h
theorem rqs_sub20 {d n : Int} {c i p : ByteArray} {u : Bool} {ck cl ch cx : Cv} {j : Nat} {v : Value} (h : cx.cells.toList[j]? = some v) : (rqCells d c i p u ck cl ch cx n)[20 + j]? = some v := by
 rcases j with _ | _ | _ | _ | _ | j
 ·exact h
 ·exact h
 ·exact h
 ·exact h
 ·exact h
 simp at h
theorem vastAsksL_any (l : List Rq) (A : Option Addr) (cap : Nat) (w : World) (hq : InQs w A l) (hl : l.length ≤ 140737488355328) :
 Calls Tryz.prog 16 #[.slice A l.length cap] w fun e w' => e = .returned (.bool (decide (20000 ≤ rqsN l))) ∧ Grow w w' := by
 have HQ := hide hq;clear hq;go_enter Tryz.func16,Tryz.ntmps16;go_wp2_with fail;go_loopg [3,4] (l.length + 1) (fun gk t i wr => ∃ (m : Nat) (T : Int),m ≤ l.length ∧ gk + m = l.length + 1 ∧ i = .int .i64 m ∧ t = .int .i64 T ∧ 1 ≤ T ∧ T ≤ 20000 ∧ T + (rqsN (l.take m) : Nat) = 20000 ∧ Grow w wr)
 case atStart => exact ⟨0,20000,by omega,by omega,rfl,rfl,by omega,by omega,by simp [rqsN],Grow.refl w⟩
 case round =>
  rename World => w1;obtain ⟨m,T,hm,hg,rfl,rfl,hT0,hT1,hT2,hw⟩ := hrel;have HW0 := hide hw;have HT2 := hide hT2;clear hT2;obtain ⟨gk0,rfl⟩ : ∃ g,gk = g + 1 := ⟨gk - 1,by omega⟩;by_cases hml : m < l.length
  ·have h1 := rqsN_take l m hml;have h2 := rqsN_le l (m + 1);rw [h1] at h2;have hqm := HQ.out.grow hw m hml;obtain ⟨q,hqq⟩ : ∃ q,l[m] = q := ⟨_,rfl⟩;rw [hqq] at hqm h1 h2;obtain ⟨g,o,ck,cl,ch,cx,rfl,hgl,hcell,h3,h4,h5,h6⟩ := hqm;have HQV := hide h2;have HQT := hide h1;have HC := hide (fun (w' : World) (hg' : Grow w1 w') k v (hv : (rqCells q.do_ q.coll q.index q.path q.unique ck cl ch cx q.n)[k]? = some v) => (hg'.below.cell (p := ⟨g,o + m * 26 + k,none⟩) hgl).trans (hcell k v hv));have H1 := hide h3;have H2 := hide h4;have H3 := hide h5;have H4 := hide h6;clear h1 h2 h3 h4 h5 h6 hcell hqq hw;go_wp2_with fail;refine wp_region_noPanic ?_;refine wp_region_held_drew (S := fun W => ∀ k v,(rqCells q.do_ q.coll q.index q.path q.unique ck cl ch cx q.n)[k]? = some v → W.cell? ⟨g,o + m * 26 + k,none⟩ = some v) (by kernel_rfl) (HC.out _ (Grow.refl _).drew) (fun hHeld => ?_)
   refine tk_ 0 ?_;refine tk_ 1 ?_;refine tk_ 2 ?_;refine tk_ 3 ?_;refine wpAnyH_take (i := 4) (v := ck.agg) (by simp only [List.getElem?_toArray,List.getElem?_cons_succ,List.getElem?_cons_zero];rfl) (by kernel_rfl) (by kernel_rfl) (by kernel_rfl) (fun _ _ _ h => h) (yields_val_at (g := g) (o := o + m * 26 + 5) (c := ck) Tryz.underlying27 rfl rfl info_valQ (fun w' hS j v hv => by
    have := hS (5 + j) v (rqs_sub5 hv);rwa [← Nat.add_assoc] at this)) (by assumption) ?_
   try simp only [ly_]
   refine tk_ 5 ?_;refine tk_ 6 ?_;refine tk_ 7 ?_;refine tk_ 8 ?_;refine wpAnyH_take (i := 9) (v := cl.agg) (by simp only [List.getElem?_toArray,List.getElem?_cons_succ,List.getElem?_cons_zero];rfl) (by kernel_rfl) (by kernel_rfl) (by kernel_rfl) (fun _ _ _ h => h) (yields_val_at (g := g) (o := o + m * 26 + 10) (c := cl) Tryz.underlying27 rfl rfl info_valQ (fun w' hS j v hv => by
    have := hS (10 + j) v (rqs_sub10 hv);rwa [← Nat.add_assoc] at this)) (by assumption) ?_
   try simp only [ly_]
   refine tk_ 10 ?_;refine tk_ 11 ?_;refine tk_ 12 ?_;refine tk_ 13 ?_;refine wpAnyH_take (i := 14) (v := ch.agg) (by simp only [List.getElem?_toArray,List.getElem?_cons_succ,List.getElem?_cons_zero];rfl) (by kernel_rfl) (by kernel_rfl) (by kernel_rfl) (fun _ _ _ h => h) (yields_val_at (g := g) (o := o + m * 26 + 15) (c := ch) Tryz.underlying27 rfl rfl info_valQ (fun w' hS j v hv => by
    have := hS (15 + j) v (rqs_sub15 hv);rwa [← Nat.add_assoc] at this)) (by assumption) ?_
   try simp only [ly_]
   refine tk_ 15 ?_;refine tk_ 16 ?_;refine tk_ 17 ?_;refine tk_ 18 ?_;refine wpAnyH_take (i := 19) (v := cx.agg) (by simp only [List.getElem?_toArray,List.getElem?_cons_succ,List.getElem?_cons_zero];rfl) (by kernel_rfl) (by kernel_rfl) (by kernel_rfl) (fun _ _ _ h => h) (yields_val_at (g := g) (o := o + m * 26 + 20) (c := cx) Tryz.underlying27 rfl rfl info_valQ (fun w' hS j v hv => by
    have := hS (20 + j) v (rqs_sub20 hv);rwa [← Nat.add_assoc] at this)) (by assumption) ?_
   try simp only [ly_]
   refine tk_ 20 ?_;refine r1_ 21 (fun K hK => ?_);replace hK := hide hK;go_simp;have HG2 := hide (((Grow.refl w1).alloc (.cells zeroQ20 85)).drew);have HS2 := hide (show Blk (w1.alloc (.cells zeroQ20 85)).drew w1.heap.size 85 zeroQ20 from Blk.new w1 _ _);generalize (w1.alloc (.cells zeroQ20 85)).drew = w2 at HG2 HS2 ⊢;refine hk_ hK (HC.out _ HG2.out) (fun hHeld => ?_);clear hK K;refine r1_ 22 (fun K hK => ?_);replace hK := hide hK;refine step_store_blkQ (g := w1.heap.size) (n := 20) (cells := quadQ ck cl ch cx) rfl rfl HS2.out info_4q rfl rfl (quadQ_one _ _ _ _) (fun w3 hB3 hg3 hz3 => ?_);have HG3 := hide (show Grow w1 w3 from HG2.out.grown hg3 (fun k e => by injection e with e;omega));have HL := hide (show InL w3 (some ⟨w1.heap.size,0,none⟩) 4 [q.key,q.low,q.high,q.doc] from quadQ_at hB3 (H1.out.grow HG3.out) (H2.out.grow HG3.out) (H3.out.grow HG3.out) (H4.out.grow HG3.out))
   refine hK.out _ _ (HC.out _ HG3.out) (fun hHeld => ?_);clear hK K hB3 hg3 hz3 HG2 HS2
   try simp only [ly_]
   refine dn_ ?_;clear hHeld;obtain ⟨L,hL⟩ : ∃ L,[q.key,q.low,q.high,q.doc] = L := ⟨_,rfl⟩;have hL4 : L.length = 4 := by rw [← hL];rfl
   rw [hL] at HL HQV HQT;have HL4 := hide hL4;clear hL hL4;go_wp2_with fail;go_loopg [3,6] 5 (fun gk t i w4 => ∃ (j : Nat) (T' : Int),j ≤ 4 ∧ gk + j = 5 ∧ i = .int .i64 j ∧ t = .int .i64 T' ∧ 1 ≤ T' ∧ T' ≤ 20000 ∧ T' + ((((L.take j).map V.count).sum : Nat) : Int) = T ∧ Grow w3 w4)
   case atStart => exact ⟨0,T,by omega,by omega,rfl,rfl,by omega,by omega,by simp,Grow.refl w3⟩
   case round =>
    obtain ⟨j,T',hj,hg,rfl,rfl,hT0',hT1',hT2',hw⟩ := hrel;have HW := hide hw;have HT2' := hide hT2';clear hT2';by_cases hlt : j < 4
    ·obtain ⟨gk',rfl⟩ := gk_ gk (by omega);have hlt' : j < L.length := by rw [HL4.out];exact hlt
     obtain ⟨v,hv⟩ : ∃ v,L[j] = v := ⟨_,rfl⟩;obtain ⟨bk,o2,x,ha,hbk,e0,e1,e2,e3,e4,hx⟩ := In.elemL (HL.out.grow hw) j hlt';obtain ⟨rfl,rfl⟩ : w1.heap.size = bk ∧ 0 = o2 := by simpa using ha
     simp only [Nat.zero_add] at e0 e1 e2 e3 e4;rw [hv] at hx;have hs := sum_take V.count L j hlt';rw [hv] at hs;have HS := hide hs;have hle := sum_take_le V.count L (j + 1);rw [hs] at hle;have HLE := hide hle;have hcp := V.count_pos v;have HCC := hide (walked_any v T' wr x (by omega) (by omega) hx);clear hw hx hs hle ha hbk hv hlt';go_wp2_with fail;refine HCC.out.mono ?_;rintro e w5 ⟨r,rfl,hr,hb2⟩;have HGR := hide hb2;clear hb2;by_cases hlt2 : ((v.count : Nat) : Int) < T'
     ·have hd : decide (((v.count : Nat) : Int) < T') = true := decide_eq_true hlt2;have HR := hide (hr hlt2);clear hr;go_wp2_with fail;go_roundg gk'
      case measure => omega
      case rel =>
       have h1 := HR.out;have h2 := HT2'.out;have h3 := HS.out;exact ⟨j + 1,r,by omega,by omega,by go_num,rfl,by omega,by omega,by rw [h3];push_cast;omega,HW.out.trans HGR.out⟩
     have hd : decide (((v.count : Nat) : Int) < T') = false := decide_eq_false hlt2;clear hr;go_wp2_with fail;go_ret;have h2 := HT2'.out;have h3 := HLE.out;have h4 := HT2.out;have h5 := HQV.out;exact ⟨ret_bool (decide_eq_true (by omega)).symm,HW0.out.trans (HG3.out.trans (HW.out.trans HGR.out))⟩
    obtain rfl : j = 4 := by omega
    have h2 := HT2'.out;rw [show L.take 4 = L from List.take_of_length_le (by rw [HL4.out];omega)] at h2;have H2' := hide h2;clear hw h2;go_wp2_with fail;go_roundg gk0
    case measure => omega
    case rel =>
     have h2 := H2'.out;have h4 := HT2.out;have h5 := HQV.out;have h6 := HQT.out;exact ⟨m + 1,T',by omega,by omega,by go_num,rfl,by omega,by omega,by omega,HW0.out.trans (HG3.out.trans HW.out)⟩
  obtain rfl : m = l.length := by omega
  have h2 := HT2.out;rw [List.take_length] at h2;have H2 := hide h2;clear h2 hw;go_wp2_with fail;go_ret;exact ⟨ret_bool (decide_eq_false (by have := H2.out;omega)).symm,HW0.out⟩
end
section
open Go.RowKit
section
variable {P : Program} {ops : Array Oper} {Q : Exit → Act → World → Prop} {rest : List Oper} {a : Act} {w : World}
theorem atS_ (ty : TypeId) {x y : Operand} {t : TypeId} {p : String} {af : Array Edge} (h : wpList P ops Q (⟨none,.store ty x y,t,p,af,none⟩ :: rest) a w) : wpList P ops Q (⟨none,.store ty x y,t,p,af,none⟩ :: rest) a w := h
theorem atL_ (ty : TypeId) {d : Option Tmp} {x : Operand} {t : TypeId} {p : String} {af : Array Edge} (h : wpList P ops Q (⟨d,.load ty x,t,p,af,none⟩ :: rest) a w) : wpList P ops Q (⟨d,.load ty x,t,p,af,none⟩ :: rest) a w := h
theorem atA_ (ty : TypeId) {k : Tmp} {t : TypeId} {p : String} {af : Array Edge} (h : wpList P ops Q (⟨some k,.alloc ty,t,p,af,none⟩ :: rest) a w) : wpList P ops Q (⟨some k,.alloc ty,t,p,af,none⟩ :: rest) a w := h
theorem stB_ {ty t : TypeId} {x y : Operand} {p : String} {af : Array Edge} {g n : Nat} {cells old : Array Value} (hx : a.eval x = .pointer (some ⟨g,0,none⟩)) (hy : a.eval y = .agg cells) (hB : Blk w g ty old) (hi : (P.info? ty).map (·.size) = some n)
 (hold : old.size = n) (hn : cells.size = n) (h1 : cells.all (·.oneCell') = true)
 (h : ∀ w',Blk w' g ty cells → w.grownBy w' (some g) → w'.heap.size = w.heap.size → wpList P ops Q rest a w') : wpList P ops Q (⟨none,.store ty x y,t,p,af,none⟩ :: rest) a w :=
 wpList_store_row rfl ty x y rfl g cells hx hy ty old hB (by rw [hn];exact hi) (by omega) h1 (h _ (hB.setRowQ cells) (grown_setRowQ w g cells) (by simp [World.setRow]))
theorem ldB_ {ty t : TypeId} {x : Operand} {d : Option Tmp} {p : String} {af : Array Edge} {g n : Nat} {cells : Array Value} {td : TypeDesc} (hu : P.underlying ty = some td) (hd : (match td with | .struct _ | .array _ _ => true | _ => false) = true) (hx : a.eval x = .pointer (some ⟨g,0,none⟩)) (hB : Blk w g ty cells) (hi : (P.info? ty).map (·.size) = some n)
 (hn : cells.size = n) (h : wpList P ops Q rest (a.put d (.agg cells)) w) : wpList P ops Q (⟨d,.load ty x,t,p,af,none⟩ :: rest) a w :=
 wpList_load_row rfl ty x rfl g hx ty cells (0,0) td hB hu hd (by rw [hn];exact hi) h
theorem ldM_ {ty t : TypeId} {x : Operand} {d : Option Tmp} {p : String} {af : Array Edge} {g o n : Nat} {cells : Array Value} {td : TypeDesc} (hu : P.underlying ty = some td) (hd : td.isRow = true) (hx : a.eval x = .pointer (some ⟨g,o,none⟩)) (hi : (P.info? ty).map (·.size) = some n) (hn : cells.size = n)
 (hget : ∀ j v,cells[j]? = some v → w.cell? ⟨g,o + j,none⟩ = some v) (h : wpList P ops Q rest (a.put d (.agg cells)) w) : wpList P ops Q (⟨d,.load ty x,t,p,af,none⟩ :: rest) a w := by
 refine wpList_load_mid rfl ty x rfl g o hx cells.toList td (fun j v hv => hget j v (by rwa [Array.getElem?_toList] at hv)) hu hd (by rw [Array.length_toList,hn];exact hi) ?_;simpa using h
theorem alB_ {ty : TypeId} {k : Tmp} {t : TypeId} {p : String} {af : Array Edge} {cells : Array Value} (hrun : ∀ w : World,(execOp a.eval ⟨some k,.alloc ty,t,p,af,none⟩).run P w = .ok (.value (.pointer (some ⟨w.heap.size,0,none⟩))) (w.alloc (.cells cells ty)))
 (h : wpList P ops Q rest (a.put (some k) (.pointer (some ⟨w.heap.size,0,none⟩))) (w.alloc (.cells cells ty))) : wpList P ops Q (⟨some k,.alloc ty,t,p,af,none⟩ :: rest) a w := by
 refine wpList_plain rfl fun K hK => ?_
 unfold Oper.wp;rw [hrun,Oper.upon_value];exact hK _ _ h
end
theorem rqC_one (d : Int) (c i p : ByteArray) (u : Bool) (k l h x : Cv) (n : Int) : (rqCells d c i p u k l h x n).all (·.oneCell') = true := by simp [Value.oneCell']
end
end Go.Proofs.YtndjopkdbdcmdaaGreatDoor
