/- Part 6 of the proof of pindexes_card. -/
import Derived.Test.YtndjopkdbdcmdaaGreatDoorPix2
import Derived.Deep.CutRange
set_option linter.unusedVariables false
set_option linter.unusedSimpArgs false
set_option maxRecDepth 100000
set_option maxHeartbeats 12800000
namespace Go.Proofs.YtndjopkdbdcmdaaGreatDoor
section
open Go.Sort
variable {α : Type} [Inhabited α]
def SwR (d : Array α) (x y n : Nat) (d' : Array α) : Prop :=
 PermIn x (y + n) d d' ∧ ∀ p,d'[p]! = if x ≤ p ∧ p < x + n then d[p - x + y]! else if y ≤ p ∧ p < y + n then d[p - y + x]! else d[p]!
theorem SwR.zero (d : Array α) (x y : Nat) : SwR d x y 0 d := ⟨permIn_refl _ _ _,fun p => by rw [if_neg (by omega),if_neg (by omega)]⟩
theorem SwR.size {d d' : Array α} {x y n : Nat} (h : SwR d x y n d') : d'.size = d.size := h.1.1
theorem SwR.step {d d' : Array α} {x y n : Nat} (h : SwR d x y n d') (hxy : x + n < y) (hy : y + n < d.size) : SwR d x y (n + 1) (swp d' (x + n) (y + n)) := by
 have hs := h.size;refine ⟨permIn_trans _ _ _ _ _ (permIn_mono _ _ x (y + n) x (y + (n + 1)) (Nat.le_refl _) (by omega) (by omega) h.1) (swp_permIn _ _ _ _ _ (by omega) (by omega) (by omega) (by omega) (by omega)),fun p => ?_⟩;by_cases h1 : p = x + n
 ·subst h1;rw [swp_left _ _ _ (by omega) (by omega),h.2,if_neg (by omega),if_neg (by omega),if_pos (by omega)];congr 1;omega
 by_cases h2 : p = y + n
 ·subst h2;rw [swp_right _ _ _ (by omega),h.2,if_neg (by omega),if_neg (by omega),if_neg (by omega),if_pos (by omega)];congr 1;omega
 rw [swp_other _ _ _ _ h1 h2,h.2];by_cases h3 : x ≤ p ∧ p < x + n
 ·rw [if_pos h3,if_pos (by omega)]
 by_cases h4 : y ≤ p ∧ p < y + n
 ·rw [if_neg h3,if_pos h4,if_neg (by omega),if_pos (by omega)]
 rw [if_neg h3,if_neg h4,if_neg (by omega),if_neg (by omega)]
def RotR (d : Array α) (m i j : Nat) (d' : Array α) : Prop :=
 PermIn (m - i) (m + j) d d' ∧ ∀ p,d'[p]! = if m - i ≤ p ∧ p < m - i + j then d[p + i]! else if m - i + j ≤ p ∧ p < m + j then d[p - j]! else d[p]!
def RotTo (d : Array α) (m i j : Nat) (dk : Array α) (ik jk : Nat) : Prop :=
 dk.size = d.size ∧ ∀ d',RotR dk m ik jk d' → RotR d m i j d'
theorem RotTo.start (d : Array α) (m i j : Nat) : RotTo d m i j d i j := ⟨rfl,fun _ h => h⟩
theorem RotTo.left {d dk dn : Array α} {m i j ik jk : Nat} (h : RotTo d m i j dk ik jk) (him : ik ≤ m) (hsz : m + jk ≤ d.size) (hj : 0 < jk) (hlt : jk < ik) (hs : SwR dk (m - ik) m jk dn) : RotTo d m i j dn (ik - jk) jk := by
 have hz := hs.size;refine ⟨hz.trans h.1,fun d' hr => h.2 d' ⟨?_,fun p => ?_⟩⟩
 ·refine permIn_trans _ _ _ _ _ hs.1 (permIn_mono _ _ _ _ _ _ (by omega) (Nat.le_refl _) (by rw [hz,h.1];exact hsz) hr.1)
 rw [hr.2];by_cases h1 : m - ik ≤ p ∧ p < m - ik + jk
 ·rw [if_neg (by omega),if_neg (by omega),if_pos h1,hs.2,if_pos (by omega)];congr 1;omega
 rw [if_neg h1];by_cases h2 : m - ik + jk ≤ p ∧ p < m + jk
 ·rw [if_pos h2];by_cases h3 : m - (ik - jk) ≤ p ∧ p < m - (ik - jk) + jk
  ·rw [if_pos h3,hs.2];by_cases h4 : p + (ik - jk) < m
   ·omega
   rw [if_neg (by omega),if_pos (by omega)];congr 1;omega
  rw [if_neg h3,if_pos (by omega),hs.2,if_neg (by omega),if_neg (by omega)]
 rw [if_neg h2,if_neg (by omega),if_neg (by omega),hs.2,if_neg (by omega),if_neg (by omega)]
theorem RotTo.right {d dk dn : Array α} {m i j ik jk : Nat} (h : RotTo d m i j dk ik jk) (him : ik ≤ m) (hsz : m + jk ≤ d.size) (hi : 0 < ik) (hlt : ik < jk) (hs : SwR dk (m - ik) (m + jk - ik) ik dn) : RotTo d m i j dn ik (jk - ik) := by
 have hz := hs.size;refine ⟨hz.trans h.1,fun d' hr => h.2 d' ⟨?_,fun p => ?_⟩⟩
 ·refine permIn_trans _ _ _ _ _ (permIn_mono _ _ _ _ _ _ (Nat.le_refl _) (by omega) (by rw [h.1];exact hsz) hs.1) (permIn_mono _ _ _ _ _ _ (Nat.le_refl _) (by omega) (by rw [hz,h.1];exact hsz) hr.1)
 rw [hr.2];by_cases h1 : m - ik ≤ p ∧ p < m - ik + jk
 ·rw [if_pos h1];by_cases h3 : p < m - ik + (jk - ik)
  ·rw [if_pos (by omega),hs.2,if_neg (by omega),if_neg (by omega)]
  rw [if_neg (by omega)];by_cases h4 : p < m + (jk - ik)
  ·rw [if_pos (by omega),hs.2,if_pos (by omega)];congr 1;omega
  omega
 rw [if_neg h1];by_cases h2 : m - ik + jk ≤ p ∧ p < m + jk
 ·rw [if_pos h2,if_neg (by omega),if_neg (by omega),hs.2,if_neg (by omega),if_pos (by omega)];congr 1;omega
 rw [if_neg h2,if_neg (by omega),if_neg (by omega),hs.2,if_neg (by omega),if_neg (by omega)]
theorem RotTo.last {d dk dn : Array α} {m i j ik : Nat} (h : RotTo d m i j dk ik ik) (him : ik ≤ m) (hs : SwR dk (m - ik) m ik dn) : RotR d m i j dn :=
 h.2 dn ⟨hs.1,fun p => by
  rw [hs.2];by_cases h1 : m - ik ≤ p ∧ p < m - ik + ik
  ·rw [if_pos h1,if_pos h1];congr 1;omega
  rw [if_neg h1,if_neg h1];by_cases h2 : m ≤ p ∧ p < m + ik
  ·rw [if_pos h2,if_pos (by omega)];congr 1;omega
  rw [if_neg h2,if_neg (by omega)]⟩
end
section
open Go.Shelf Go.RowKit Go.Lib Go.Sort
variable {α : Type} [Inhabited α]
theorem swapr_any (Z : Nat) (hz : ∀ w,(Go.sizeOf 115).run Tryz.prog w = .ok Z w) (enc : α → List Value) (gc : Nat) (cb : Array Value) (blk off cap x y n : Nat) (d0 d : Array α) (w0 w : World)
 (R : RowK enc Z w0 blk off d0) (hs : d0.size = d.size) (S : SWK enc Z w0 blk off d w) (hxy : x + n ≤ y) (hy : y + n ≤ d.size) (hsz : d.size < 4611686018427387904) :
 Calls Tryz.prog 218 #[.slice (some ⟨blk,off,none⟩) d.size cap,.int .i64 x,.int .i64 y,.int .i64 n,.func (.func gc) #[] cb] w fun e w' => e = .returned (.tuple #[]) ∧ ∃ d',SwR d x y n d' ∧ SWK enc Z w0 blk off d' w' := by
 have mixed : Tryz.prog.follows Departure.mixedOrders = true := by kernel_rfl
 have S0 : Aside (SWK enc Z w0 blk off d w) := S;clear S;go_enter Tryz.func218,Tryz.ntmps218;go_wp2;go_loopg [10] n (fun kx s10 wr => ∃ (k : Nat) (dk : Array α),s10 = .int .i64 k ∧ k + kx = n ∧ Aside (SWK enc Z w0 blk off dk wr) ∧ Hid (SwR d x y k dk))
 case atStart => exact ⟨0,d,rfl,by omega,S0,SwR.zero d x y⟩
 case round =>
  clear S0;obtain ⟨k,dk,rfl,hkx,S1,HR⟩ := hrel;by_cases hlt : k < n
  ·have hltz : (k : Int) < (n : Int) := by omega
   have hds : dk.size = d.size := HR.out.size;obtain ⟨q1,hq1⟩ : ∃ q1,q1 = x + k := ⟨_,rfl⟩;obtain ⟨q2,hq2⟩ : ∃ q2,q2 = y + k := ⟨_,rfl⟩;have e1 : (x : Int) + (k : Int) = (q1 : Int) := by omega
   have e2 : (y : Int) + (k : Int) = (q2 : Int) := by omega
   have ea44 : ((q1 : Int)).toNat = q1 := by omega
   have pa44 : (0 : Int) ≤ (q1 : Int) := by omega
   have ba44 : (q1 : Int) < (d.size : Int) := by omega
   have ra44 : IntKind.i64.wrap ((q1 : Int)) = (q1 : Int) := by rw [IntKind.wrap_i64];omega
   have ec44 : ((q2 : Int)).toNat = q2 := by omega
   have pc44 : (0 : Int) ≤ (q2 : Int) := by omega
   have bc44 : (q2 : Int) < (d.size : Int) := by omega
   have rc44 : IntKind.i64.wrap ((q2 : Int)) = (q2 : Int) := by rw [IntKind.wrap_i64];omega
   have S2 : Aside (SWK enc Z w0 blk off (swp dk q1 q2) ((wr.drew.setCells blk (off + q1 * Z) (enc dk[q2]!)).setCells blk (off + q2 * Z) (enc dk[q1]!))) := S1.out.swapped R q1 q2 (by omega) (by omega);have l44a := S1.out.ld1 R (by omega) Tryz.prog q1 (by omega);have l44b := S1.out.ld1 R (by omega) Tryz.prog q2 (by omega);have s44a := S1.out.st1 R (by omega) Tryz.prog q1 (by omega) dk[q2]!;have s44b := S1.out.st2 R (by omega) Tryz.prog q1 q2 (by omega) (by omega) dk[q2]! dk[q1]!;have n44a : (enc dk[q1]!).length = Z := R.hk _;have n44b : (enc dk[q2]!).length = Z := R.hk _;have HQ : Hid (q1 = x + k ∧ q2 = y + k) := ⟨hq1,hq2⟩;have HDS : Hid (dk.size = d.size) := hds;clear hq1 hq2 hds;generalize enc dk[q1]! = cI44 at S2 l44a s44b n44a;generalize enc dk[q2]! = cJ44 at S2 l44b s44a s44b n44b;clear S1;go_wp2_with fail;go_big_region_o;clear l44a l44b s44a s44b
   generalize (wr.drew.setCells blk (off + q1 * Z) cJ44).setCells blk (off + q2 * Z) cI44 = w2 at S2 ⊢;go_wp2;go_roundg (n - (k + 1))
   case measure => omega
   case rel =>
    refine ⟨k + 1,swp dk q1 q2,by simp,by omega,S2,?_⟩;rw [HQ.out.1,HQ.out.2];exact HR.out.step (by omega) (by omega)
  have hltz : ¬ (k : Int) < (n : Int) := by omega
  obtain rfl : k = n := by omega
  go_wp2;go_end0;exact ⟨rfl,dk,HR.out,S1.out⟩
end
section
open Go.Shelf Go.RowKit Go.Lib Go.Sort
variable {α : Type} [Inhabited α]
theorem rot_any (Z : Nat) (hz : ∀ w,(Go.sizeOf 115).run Tryz.prog w = .ok Z w) (enc : α → List Value) (gc : Nat) (cb : Array Value) (blk off cap a m b : Nat) (d0 d : Array α) (w0 w : World)
 (R : RowK enc Z w0 blk off d0) (hs : d0.size = d.size) (S : SWK enc Z w0 blk off d w) (ham : a < m) (hmb : m < b) (hb : b ≤ d.size) (hsz : d.size < 4611686018427387904) :
 Calls Tryz.prog 208 #[.slice (some ⟨blk,off,none⟩) d.size cap,.int .i64 a,.int .i64 m,.int .i64 b,.func (.func gc) #[] cb] w fun e w' => e = .returned (.tuple #[]) ∧ ∃ d',RotR d m (m - a) (b - m) d' ∧ SWK enc Z w0 blk off d' w' := by
 have HZ := hide hz;have S0 : Aside (SWK enc Z w0 blk off d w) := S;obtain ⟨p1,hp1⟩ : ∃ p1,p1 = m - a := ⟨_,rfl⟩;obtain ⟨p2,hp2⟩ : ∃ p2,p2 = b - m := ⟨_,rfl⟩;rw [← hp1,← hp2];have f1 : (m : Int) - (a : Int) = (p1 : Int) := by omega
 have f2 : (b : Int) - (m : Int) = (p2 : Int) := by omega
 have g1 : IntKind.i64.wrap (p1 : Int) = (p1 : Int) := by rw [IntKind.wrap_i64];omega
 have g2 : IntKind.i64.wrap (p2 : Int) = (p2 : Int) := by rw [IntKind.wrap_i64];omega
 have HP : Hid (p1 = m - a ∧ p2 = b - m) := ⟨hp1,hp2⟩;clear S hz hp1 hp2;go_enter Tryz.func208,Tryz.ntmps208;go_wp2_with fail;go_loopg [10,11] (p1 + p2) (fun kx s10 s11 wr => ∃ (i j : Nat) (dk : Array α),s10 = .int .i64 i ∧ s11 = .int .i64 j ∧ i + j ≤ kx ∧ 0 < i ∧ 0 < j ∧ i ≤ m ∧ m + j ≤ d.size ∧ Aside (SWK enc Z w0 blk off dk wr) ∧ Hid (RotTo d m p1 p2 dk i j))
 case atStart => exact ⟨p1,p2,d,rfl,rfl,Nat.le_refl _,by have := HP.out;omega,by have := HP.out;omega,by have := HP.out;omega,by have := HP.out;omega,S0,RotTo.start d m p1 p2⟩
 case round =>
  clear S0 f1 f2 g1 g2;obtain ⟨i,j,dk,rfl,rfl,hkx,hi0,hj0,him,hjm,S1,HR⟩ := hrel;obtain ⟨q1,hq1⟩ : ∃ q1,q1 = m - i := ⟨_,rfl⟩;have e1 : (m : Int) - (i : Int) = (q1 : Int) := by omega
  have r1 : IntKind.i64.wrap (q1 : Int) = (q1 : Int) := by rw [IntKind.wrap_i64];omega
  have hds : dk.size = d.size := HR.out.1;have HQ1 := hide hq1;have HDS := hide hds;have hSL : ∀ (xx yy nn : Nat),xx + nn ≤ yy → yy + nn ≤ d.size → Calls Tryz.prog 218 #[.slice (some ⟨blk,off,none⟩) d.size cap,.int .i64 xx,.int .i64 yy,.int .i64 nn,.func (.func gc) #[] cb] wr fun e w' => e = .returned (.tuple #[]) ∧ ∃ d',SwR dk xx yy nn d' ∧ SWK enc Z w0 blk off d' w' := fun xx yy nn h1 h2 => by
   have h := swapr_any Z HZ.out enc gc cb blk off cap xx yy nn d0 dk w0 wr R (by rw [HDS.out];exact hs) S1.out h1 (by rw [HDS.out];exact h2) (by rw [HDS.out];exact hsz);rw [HDS.out] at h;exact h
  have HSL := hide hSL;clear hq1 hds S1 hSL;by_cases hij : i = j
  ·subst hij;have hne : ((i : Int) == (i : Int)) = true := by simp
   go_wp2_with fail;refine (HSL.out q1 m i (by have := HQ1.out;omega) (by omega)).mono ?_;rintro e w2 ⟨rfl,dn,hsw,S2⟩;have HSW := hide hsw;have HS2 := hide S2;clear hsw S2;go_wp2_with fail;go_end0;exact ⟨rfl,dn,HR.out.last him (by rw [← HQ1.out];exact HSW.out),HS2.out⟩
  have hne : ¬ ((i : Int) = (j : Int)) := by omega
  by_cases hlt : j < i
  ·have hltz : (j : Int) < (i : Int) := by omega
   obtain ⟨q2,hq2⟩ : ∃ q2,q2 = i - j := ⟨_,rfl⟩;have e2 : (i : Int) - (j : Int) = (q2 : Int) := by omega
   have r2 : IntKind.i64.wrap (q2 : Int) = (q2 : Int) := by rw [IntKind.wrap_i64];omega
   have HQ2 := hide hq2;clear hq2;go_wp2_with fail;refine (HSL.out q1 m j (by have := HQ1.out;omega) (by omega)).mono ?_;rintro e w2 ⟨rfl,dn,hsw,S2⟩;have HSW := hide hsw;have HS2 : Aside (SWK enc Z w0 blk off dn w2) := S2;clear hsw S2;go_wp2_with fail;go_roundg (q2 + j)
   case measure => have := HQ2.out;omega
   case rel => exact ⟨q2,j,dn,rfl,rfl,Nat.le_refl _,by have := HQ2.out;omega,hj0,by have := HQ2.out;omega,hjm,HS2,by rw [HQ2.out];exact HR.out.left him hjm hj0 hlt (by rw [← HQ1.out];exact HSW.out)⟩
  have hltz : ¬ (j : Int) < (i : Int) := by omega
  obtain ⟨q2,hq2⟩ : ∃ q2,q2 = j - i := ⟨_,rfl⟩;obtain ⟨q3,hq3⟩ : ∃ q3,q3 = m + j := ⟨_,rfl⟩;obtain ⟨q4,hq4⟩ : ∃ q4,q4 = m + j - i := ⟨_,rfl⟩;have e2 : (j : Int) - (i : Int) = (q2 : Int) := by omega
  have r2 : IntKind.i64.wrap (q2 : Int) = (q2 : Int) := by rw [IntKind.wrap_i64];omega
  have e3 : (m : Int) + (j : Int) = (q3 : Int) := by omega
  have r3 : IntKind.i64.wrap (q3 : Int) = (q3 : Int) := by rw [IntKind.wrap_i64];omega
  have e4 : (q3 : Int) - (i : Int) = (q4 : Int) := by omega
  have r4 : IntKind.i64.wrap (q4 : Int) = (q4 : Int) := by rw [IntKind.wrap_i64];omega
  have HQ2 := hide hq2;have HQ4 := hide hq4;clear hq2 hq3 hq4;go_wp2_with fail;refine (HSL.out q1 q4 i (by have := HQ1.out;have := HQ4.out;omega) (by have := HQ4.out;omega)).mono ?_;rintro e w2 ⟨rfl,dn,hsw,S2⟩;have HSW := hide hsw;have HS2 : Aside (SWK enc Z w0 blk off dn w2) := S2;clear hsw S2;go_wp2_with fail;go_roundg (i + q2)
  case measure => have := HQ2.out;omega
  case rel => exact ⟨i,q2,dn,rfl,rfl,Nat.le_refl _,hi0,by have := HQ2.out;omega,him,by have := HQ2.out;omega,HS2,by rw [HQ2.out];exact HR.out.right him hjm hi0 (by omega) (by rw [← HQ1.out,← HQ4.out];exact HSW.out)⟩
end
section
open Go.Sort
variable {α : Type} [Inhabited α] {lt : α → α → Bool}
def ShR (d : Array α) (a k : Nat) (d' : Array α) : Prop := PermIn a (k + 1) d d' ∧ ∀ p,d'[p]! = if a ≤ p ∧ p < k then d[p + 1]! else if p = k then d[a]! else d[p]!
theorem ShR.zero (d : Array α) (a : Nat) : ShR d a a d := ⟨permIn_refl _ _ _,fun p => by
 rw [if_neg (by omega)];by_cases h : p = a
 ·rw [if_pos h,h]
 rw [if_neg h]⟩
theorem ShR.step {d d' : Array α} {a k : Nat} (h : ShR d a k d') (hak : a ≤ k) (hk : k + 1 < d.size) : ShR d a (k + 1) (swp d' k (k + 1)) := by
 have hs := h.1.1;refine ⟨permIn_trans _ _ _ _ _ (permIn_mono _ _ a (k + 1) a (k + 1 + 1) (Nat.le_refl _) (by omega) (by omega) h.1) (swp_permIn _ _ _ _ _ (by omega) (by omega) (by omega) (by omega) (by omega)),fun p => ?_⟩;by_cases h1 : p = k
 ·subst h1;rw [swp_left _ _ _ (by omega) (by omega),h.2,if_neg (by omega),if_neg (by omega),if_pos (by omega)]
 by_cases h2 : p = k + 1
 ·subst h2;rw [swp_right _ _ _ (by omega),h.2,if_neg (by omega),if_pos rfl,if_neg (by omega),if_pos rfl]
 rw [swp_other _ _ _ _ h1 h2,h.2];by_cases h3 : a ≤ p ∧ p < k
 ·rw [if_pos h3,if_pos (by omega)]
 rw [if_neg h3,if_neg h1,if_neg (by omega),if_neg h2]
def ShL (d : Array α) (m k : Nat) (d' : Array α) : Prop := PermIn k (m + 1) d d' ∧ ∀ p,d'[p]! = if p = k then d[m]! else if k < p ∧ p ≤ m then d[p - 1]! else d[p]!
theorem ShL.zero (d : Array α) (m : Nat) : ShL d m m d := ⟨permIn_refl _ _ _,fun p => by
 by_cases h : p = m
 ·rw [if_pos h,h]
 rw [if_neg h,if_neg (by omega)]⟩
theorem ShL.step {d d' : Array α} {m k : Nat} (h : ShL d m (k + 1) d') (hkm : k + 1 ≤ m) (hm : m < d.size) : ShL d m k (swp d' (k + 1) k) := by
 have hs := h.1.1;refine ⟨permIn_trans _ _ _ _ _ (permIn_mono _ _ (k + 1) (m + 1) k (m + 1) (by omega) (Nat.le_refl _) (by omega) h.1) (swp_permIn _ _ _ _ _ (by omega) (by omega) (by omega) (by omega) (by omega)),fun p => ?_⟩;by_cases h1 : p = k + 1
 ·subst h1;rw [swp_left _ _ _ (by omega) (by omega),h.2,if_neg (by omega),if_neg (by omega),if_neg (by omega),if_pos (by omega)];congr 1
 by_cases h2 : p = k
 ·subst h2;rw [swp_right _ _ _ (by omega),h.2,if_pos rfl,if_pos rfl]
 rw [swp_other _ _ _ _ h1 h2,h.2,if_neg h1,if_neg h2];by_cases h3 : k + 1 < p ∧ p ≤ m
 ·rw [if_pos h3,if_pos (by omega)]
 rw [if_neg h3,if_neg (by omega)]
theorem sorted_sub {d : Array α} {a b a' b' : Nat} (h : SortedIn lt a b d) (ha : a ≤ a') (hb : b' ≤ b) : SortedIn lt a' b' d := fun i j h1 h2 h3 => h i j (by omega) h2 (by omega)
theorem one_right {d d' : Array α} {a b i : Nat} (hS : SWO lt) (hs : SortedIn lt (a + 1) b d) (hi : a + 1 ≤ i) (hib : i ≤ b) (hlo : i = a + 1 ∨ lt d[i - 1]! d[a]! = true) (hhi : i = b ∨ lt d[i]! d[a]! = false) (h : ShR d a (i - 1) d') : SortedIn lt a b d' := by
 have low : ∀ k,a + 1 ≤ k → k < i → lt d[a]! d[k]! = false := fun k h1 h2 => by
  rcases hlo with h0 | h0
  ·omega
  rcases Nat.lt_or_ge k (i - 1) with h3 | h3
  ·cases hc : lt d[a]! d[k]! with
   | false => rfl
   | true => have := hS.trans _ _ _ h0 hc;rw [hs k (i - 1) h1 h3 (by omega)] at this;cases this
  obtain rfl : k = i - 1 := by omega
  cases hc : lt d[a]! d[i - 1]! with
  | false => rfl
  | true => have := hS.trans _ _ _ h0 hc;rw [hS.irrefl] at this;cases this
 have high : ∀ k,i ≤ k → k < b → lt d[k]! d[a]! = false := fun k h1 h2 => by
  rcases hhi with h0 | h0
  ·omega
  rcases Nat.lt_or_ge i k with h3 | h3
  ·exact hS.ntrans _ _ _ (hs i k hi h3 h2) h0
  obtain rfl : k = i := by omega
  exact h0
 intro p q h1 h2 h3;rw [h.2 p,h.2 q];by_cases hp : p < i - 1
 ·rw [if_pos (⟨h1,hp⟩ : a ≤ p ∧ p < i - 1)];by_cases hq : q < i - 1
  ·rw [if_pos (by omega)];exact hs _ _ (by omega) (by omega) (by omega)
  rw [if_neg (by omega)];by_cases hq2 : q = i - 1
  ·rw [if_pos hq2];exact low _ (by omega) (by omega)
  rw [if_neg hq2];exact hs _ _ (by omega) (by omega) (by omega)
 rw [if_neg (by omega)];by_cases hp2 : p = i - 1
 ·rw [if_pos hp2,if_neg (by omega),if_neg (by omega)];exact high _ (by omega) h3
 rw [if_neg hp2,if_neg (by omega),if_neg (by omega)];exact hs _ _ (by omega) h2 h3
theorem one_left {d d' : Array α} {a m i : Nat} (hS : SWO lt) (hs : SortedIn lt a m d) (hi : a ≤ i) (him : i ≤ m) (hlo : i = a ∨ lt d[m]! d[i - 1]! = false) (hhi : i = m ∨ lt d[m]! d[i]! = true) (h : ShL d m i d') : SortedIn lt a (m + 1) d' := by
 have low : ∀ k,a ≤ k → k < i → lt d[m]! d[k]! = false := fun k h1 h2 => by
  rcases hlo with h0 | h0
  ·omega
  rcases Nat.lt_or_ge k (i - 1) with h3 | h3
  ·exact hS.ntrans _ _ _ h0 (hs k (i - 1) h1 h3 (by omega))
  obtain rfl : k = i - 1 := by omega
  exact h0
 have high : ∀ k,i ≤ k → k < m → lt d[k]! d[m]! = false := fun k h1 h2 => by
  rcases hhi with h0 | h0
  ·omega
  cases hc : lt d[k]! d[m]! with
  | false => rfl
  | true =>
   have ht := hS.trans _ _ _ hc h0;rcases Nat.lt_or_ge i k with h3 | h3
   ·rw [hs i k hi h3 h2] at ht;cases ht
   obtain rfl : k = i := by omega
   rw [hS.irrefl] at ht;cases ht
 have g1 : ∀ x,x < i → d'[x]! = d[x]! := fun x hx => by rw [h.2 x,if_neg (by omega),if_neg (by omega)]
 have g2 : d'[i]! = d[m]! := by rw [h.2 i,if_pos rfl]
 have g3 : ∀ x,i < x → x ≤ m → d'[x]! = d[x - 1]! := fun x hx hm => by rw [h.2 x,if_neg (by omega),if_pos ⟨hx,hm⟩]
 intro p q h1 h2 h3;by_cases hp : p < i
 ·rw [g1 p hp];by_cases hq : q < i
  ·rw [g1 q hq];exact hs _ _ h1 h2 (by omega)
  by_cases hq2 : q = i
  ·rw [hq2,g2];exact low _ h1 hp
  rw [g3 q (by omega) (by omega)];exact hs _ _ h1 (by omega) (by omega)
 rw [g3 q (by omega) (by omega)];by_cases hp2 : p = i
 ·rw [hp2,g2];exact high _ (by omega) (by omega)
 rw [g3 p (by omega) (by omega)];exact hs _ _ (by omega) (by omega) (by omega)
theorem RotR.none_left (d : Array α) (m j : Nat) : RotR d m 0 j d := ⟨permIn_refl _ _ _,fun p => by
 by_cases h : m - 0 ≤ p ∧ p < m - 0 + j
 ·rw [if_pos h];rfl
 rw [if_neg h,if_neg (by omega)]⟩
theorem RotR.none_right (d : Array α) (m i : Nat) : RotR d m i 0 d := ⟨permIn_refl _ _ _,fun p => by
 rw [if_neg (by omega)];by_cases h : m - i + 0 ≤ p ∧ p < m + 0
 ·rw [if_pos h];rfl
 rw [if_neg h]⟩
theorem parts_after {d dk : Array α} {a m b s e mid : Nat} (hS : SWO lt) (h1 : SortedIn lt a m d) (h2 : SortedIn lt m b d) (has : a ≤ s) (hsm : s ≤ m) (hme : m ≤ e) (heb : e ≤ b) (hmid : mid + m = s + e)
 (hlo : s = a ∨ e = b ∨ lt d[e]! d[s - 1]! = false) (hhi : s = m ∨ e = m ∨ lt d[e - 1]! d[s]! = true) (h : RotR d m (m - s) (e - m) dk) :
 SortedIn lt a s dk ∧ SortedIn lt s mid dk ∧ SortedIn lt mid e dk ∧ SortedIn lt e b dk ∧ ∀ p q,a ≤ p → p < mid → mid ≤ q → q < b → lt dk[q]! dk[p]! = false := by
 have g : ∀ p,dk[p]! = if s ≤ p ∧ p < mid then d[p + (m - s)]! else if mid ≤ p ∧ p < e then d[p - (e - m)]! else d[p]! := fun p => by
  rw [h.2 p];rw [show m - (m - s) = s by omega,show s + (e - m) = mid by omega,show m + (e - m) = e by omega]
 have e1 : ∀ p,p < s → dk[p]! = d[p]! := fun p hp => by rw [g,if_neg (by omega),if_neg (by omega)]
 have e2 : ∀ p,s ≤ p → p < mid → dk[p]! = d[p + (m - s)]! := fun p hp hq => by rw [g,if_pos ⟨hp,hq⟩]
 have e3 : ∀ p,mid ≤ p → p < e → dk[p]! = d[p - (e - m)]! := fun p hp hq => by rw [g,if_neg (by omega),if_pos ⟨hp,hq⟩]
 have e4 : ∀ p,e ≤ p → dk[p]! = d[p]! := fun p hp => by rw [g,if_neg (by omega),if_neg (by omega)]
 have ref : ∀ {x y : Nat},a ≤ x → x ≤ y → y < m → lt d[y]! d[x]! = false := fun {x y} hx hxy hy => by
  rcases Nat.lt_or_ge x y with hh | hh
  ·exact h1 x y hx hh hy
  obtain rfl : x = y := by omega
  exact hS.irrefl _
 have reg : ∀ {x y : Nat},m ≤ x → x ≤ y → y < b → lt d[y]! d[x]! = false := fun {x y} hx hxy hy => by
  rcases Nat.lt_or_ge x y with hh | hh
  ·exact h2 x y hx hh hy
  obtain rfl : x = y := by omega
  exact hS.irrefl _
 refine ⟨fun i j hi hij hj => ?_,fun i j hi hij hj => ?_,fun i j hi hij hj => ?_,fun i j hi hij hj => ?_,fun p q hp hpm hq hqb => ?_⟩
 ·rw [e1 i (by omega),e1 j (by omega)];exact h1 _ _ hi hij (by omega)
 ·rw [e2 i hi (by omega),e2 j (by omega) hj];exact h2 _ _ (by omega) (by omega) (by omega)
 ·rw [e3 i hi (by omega),e3 j (by omega) hj];exact h1 _ _ (by omega) (by omega) (by omega)
 ·rw [e4 i hi,e4 j (by omega)];exact h2 _ _ (by omega) hij hj
 rcases Nat.lt_or_ge p s with hps | hps
 ·rw [e1 p hps];rcases Nat.lt_or_ge q e with hqe | hqe
  ·rw [e3 q hq hqe];exact ref hp (by omega) (by omega)
  rw [e4 q hqe];rcases hlo with h0 | h0 | h0
  ·omega
  ·omega
  exact hS.ntrans _ _ _ (reg hme hqe hqb) (hS.ntrans _ _ _ h0 (ref hp (by omega) (by omega)))
 rw [e2 p hps hpm];rcases Nat.lt_or_ge q e with hqe | hqe
 ·rw [e3 q hq hqe];rcases hhi with h0 | h0 | h0
  ·omega
  ·omega
  cases hc : lt d[q - (e - m)]! d[p + (m - s)]! with
  | false => rfl
  | true =>
   have k1 : lt d[e - 1]! d[p + (m - s)]! = false := reg (by omega) (by omega) (by omega)
   cases hc2 : lt d[q - (e - m)]! d[e - 1]! with
   | false => have := hS.ntrans _ _ _ hc2 k1;rw [hc] at this;cases this
   | true => have := hS.trans _ _ _ hc2 h0;rw [ref (x := s) has (by omega) (by omega)] at this;cases this
 rw [e4 q hqe];exact reg (by omega) (by omega) hqb
theorem sorted_join {d : Array α} {a mid b : Nat} (h1 : SortedIn lt a mid d) (h2 : SortedIn lt mid b d) (hx : ∀ p q,a ≤ p → p < mid → mid ≤ q → q < b → lt d[q]! d[p]! = false) : SortedIn lt a b d := by
 intro i j hi hij hj;rcases Nat.lt_or_ge i mid with h | h
 ·rcases Nat.lt_or_ge j mid with h' | h'
  ·exact h1 i j hi hij h'
  exact hx i j hi h h' hj
 exact h2 i j h hij hj
theorem cross_perm {d d' : Array α} {a mid b : Nat} (hb : b ≤ d.size) (ham : a ≤ mid) (hmb : mid ≤ b) (hp : PermIn a mid d d' ∨ PermIn mid b d d') (hx : ∀ p q,a ≤ p → p < mid → mid ≤ q → q < b → lt d[q]! d[p]! = false) :
 ∀ p q,a ≤ p → p < mid → mid ≤ q → q < b → lt d'[q]! d'[p]! = false := by
 intro p q h1 h2 h3 h4;rcases hp with hp | hp
 ·rw [hp.2.1 q (.inr h3)];exact permIn_all d d' a mid (fun u => lt d[q]! u = false) (by omega) hp (fun i hi hj => hx i q hi hj h3 h4) p h1 h2
 rw [hp.2.1 p (.inl h2)];exact permIn_all d d' mid b (fun u => lt u d[p]! = false) hb hp (fun i hi hj => hx p i h1 h2 hi hj) q h3 h4
theorem sorted_kept {d d' : Array α} {a b x y : Nat} (hp : PermIn x y d d') (h : SortedIn lt a b d) (hd : b ≤ x ∨ y ≤ a) : SortedIn lt a b d' := fun i j h1 h2 h3 => by
 rw [hp.2.1 i (by omega),hp.2.1 j (by omega)];exact h i j h1 h2 h3
end
section
open Go.Shelf Go.RowKit Go.Lib Go.Sort
variable {α : Type} [Inhabited α]
def SymG (Z : Nat) (enc : α → List Value) (cf : α → α → Int) (gc : Nat) (cb : Array Value) (blk off cap : Nat) (w0 : World) (a m b : Nat) (d : Array α) (w : World) : Prop :=
 Calls Tryz.prog 191 #[.slice (some ⟨blk,off,none⟩) d.size cap,.int .i64 a,.int .i64 m,.int .i64 b,.func (.func gc) #[] cb] w fun e w' => e = .returned (.tuple #[]) ∧ ∃ d',PermIn a b d d' ∧ SortedIn (ltOf cf) a b d' ∧ SWK enc Z w0 blk off d' w'
theorem symm_first (Z : Nat) (hz : ∀ w,(Go.sizeOf 115).run Tryz.prog w = .ok Z w) (enc : α → List Value) (cf : α → α → Int) (hS : SWO (ltOf cf)) (gc : Nat) (cb : Array Value) (eg : ∀ args w,(callFunc gc args).run Tryz.prog w = .ok (.enter gc args) w) (blk off cap : Nat) (d0 : Array α) (w0 : World) (R : RowK enc Z w0 blk off d0) (hC : CmpLays Tryz.prog gc cb enc Z cf blk off d0.size w0) (hsz : d0.size < 4611686018427387904) (a b : Nat) (d : Array α) (w : World) (hs : d.size = d0.size) (S : SWK enc Z w0 blk off d w) (hmb : a + 1 < b) (hb : b ≤ d.size) (h2 : SortedIn (ltOf cf) (a + 1) b d) : SymG Z enc cf gc cb blk off cap w0 a (a + 1) b d w := by
 have HZ := hide hz;have HSZ := hide hs;have mixed : Tryz.prog.follows Departure.mixedOrders = true := by kernel_rfl
 have S0 : Aside (SWK enc Z w0 blk off d w) := S;have H2 := hide h2;have hszd : d.size < 4611686018427387904 := by omega
 have hm1 : ((a : Int) + 1) - (a : Int) = 1 := by omega
 have hmw : IntKind.i64.wrap (1 : Int) = 1 := by rw [IntKind.wrap_i64];omega
 clear S h2 hs;unfold SymG;have hma : ((a + 1 : Nat) : Int) - (a : Int) = 1 := by omega
 obtain ⟨m,hm⟩ : ∃ m,m = a + 1 := ⟨_,rfl⟩;rw [← hm] at hma hmb H2 ⊢;have HM := hide hm;have ham : a < m := by omega
 clear hm hm1;go_enter Tryz.func191,Tryz.ntmps191;go_wp2_with fail;go_loopg [10,11,12] (b - m + 1) (fun gk s10 s11 s12 wr => ∃ (i j : Nat),s10 = .int .i64 i ∧ s11 = .int .i64 j ∧ m ≤ i ∧ i ≤ j ∧ j ≤ b ∧ j - i ≤ gk ∧ Aside (SWK enc Z w0 blk off d wr) ∧ Hid ((i = m ∨ ltOf cf d[i - 1]! d[a]! = true) ∧ (j = b ∨ ltOf cf d[j]! d[a]! = false)))
 case atStart => exact ⟨m,b,rfl,rfl,Nat.le_refl _,by omega,Nat.le_refl _,by omega,S0,.inl rfl,.inl rfl⟩
 case round =>
  clear S0;obtain ⟨i,j,rfl,rfl,hmi,hij,hjb,hgk,S1,HI⟩ := hrel;by_cases hlt : i < j
  ·obtain ⟨gk',rfl⟩ := gk_ gk (by omega);obtain ⟨h,hh⟩ : ∃ h,(i + j) / 2 = h := ⟨_,rfl⟩;have hh1 : i ≤ h := by omega
   have hh2 : h < j := by omega
   have hhi : ((i : Int) + (j : Int)) / 2 = (h : Int) := by omega
   have hij1 : IntKind.i64.wrap ((i : Int) + (j : Int)) = (i : Int) + (j : Int) := by rw [IntKind.wrap_i64];omega
   clear hh;have hltz : (i : Int) < (j : Int) := by omega
   have ea1 : ((h : Nat) : Int).toNat = h := by omega
   have pa1 : (0 : Int) ≤ ((h : Nat) : Int) := by omega
   have ba1 : ((h : Nat) : Int) < (d.size : Int) := by omega
   have ra1 : IntKind.i64.wrap ((h : Nat) : Int) = ((h : Nat) : Int) := by rw [IntKind.wrap_i64];omega
   have ea2 : ((a : Nat) : Int).toNat = a := by omega
   have pa2 : (0 : Int) ≤ ((a : Nat) : Int) := by omega
   have ba2 : ((a : Nat) : Int) < (d.size : Int) := by omega
   have ra2 : IntKind.i64.wrap ((a : Nat) : Int) = ((a : Nat) : Int) := by rw [IntKind.wrap_i64];omega
   have lA := S1.out.ld R (by have := HSZ.out;omega) Tryz.prog h (by have := HSZ.out;omega);have lB := S1.out.ld R (by have := HSZ.out;omega) Tryz.prog a (by have := HSZ.out;omega);have hcg := fun n os => S1.out.cmp hC (by have := HSZ.out;omega) d[h]! d[a]! n os
   have SG := hide (fun n os => S1.out.grown n os);have nA : (enc d[h]!).length = Z := R.hk _;have nB : (enc d[a]!).length = Z := R.hk _;obtain ⟨z,hzz⟩ : ∃ z,cf d[h]! d[a]! = z := ⟨_,rfl⟩;rw [hzz] at hcg;have HZZ := hide hzz;generalize enc d[h]! = cA at lA hcg nA;generalize enc d[a]! = cB at lB hcg nB;clear S1 hzz;by_cases hlv : z < 0
   ·have hlb : decide (z < 0) = true := decide_eq_true hlv;go_wp2_with fail;go_quiet_grown (first | (go_at_fn gc;refine Calls.grown_of (hcg _ _)));have HS2 : Aside (SWK enc Z w0 blk off d (grow (wr.drewN nq) osq)) := SG.out nq osq;generalize grow (wr.drewN nq) osq = w2 at HS2 ⊢;clear lA lB hcg SG;go_wp2_with fail;go_roundg gk'
    case measure => omega
    case rel => exact ⟨h + 1,j,by go_num,rfl,by omega,by omega,hjb,by omega,HS2,.inr (by rw [Nat.add_sub_cancel];unfold ltOf;rw [HZZ.out];exact decide_eq_true hlv),HI.out.2⟩
   have hlb : decide (z < 0) = false := decide_eq_false hlv;go_wp2_with fail;go_quiet_grown (first | (go_at_fn gc;refine Calls.grown_of (hcg _ _)));have HS2 : Aside (SWK enc Z w0 blk off d (grow (wr.drewN nq) osq)) := SG.out nq osq;generalize grow (wr.drewN nq) osq = w2 at HS2 ⊢;clear lA lB hcg SG;go_wp2_with fail;go_roundg gk'
   case measure => omega
   case rel => exact ⟨i,h,rfl,rfl,hmi,by omega,by omega,by omega,HS2,HI.out.1,.inr (by unfold ltOf;rw [HZZ.out];exact decide_eq_false (by omega))⟩
  obtain rfl : i = j := by omega
  have hltz : ¬ (i : Int) < (i : Int) := by omega
  obtain ⟨i1,hi1⟩ : ∃ i1,i1 = i - 1 := ⟨_,rfl⟩;have e1 : (i : Int) - 1 = (i1 : Int) := by omega
  have r1 : IntKind.i64.wrap (i1 : Int) = (i1 : Int) := by rw [IntKind.wrap_i64];omega
  have HI1 := hide hi1;have hai1 : a ≤ i1 := by omega
  have hib1 : i1 < b := by omega
  clear hi1;go_wp2_with fail;go_loopg [13] (i1 - a + 1) (fun gk s13 wr => ∃ (k : Nat) (dk : Array α),s13 = .int .i64 k ∧ a ≤ k ∧ k ≤ i1 ∧ i1 - k ≤ gk ∧ Aside (SWK enc Z w0 blk off dk wr) ∧ Hid (ShR d a k dk))
  case atStart => exact ⟨a,d,rfl,Nat.le_refl _,hai1,by omega,S1,ShR.zero d a⟩
  case round =>
   clear S1;obtain ⟨k,dk,rfl,hak,hki,hgk2,S1,HR⟩ := hrel;have HDS := hide (HR.out.1.1);by_cases hlt2 : k < i1
   ·have hltz2 : (k : Int) < (i1 : Int) := by omega
    obtain ⟨q,hq⟩ : ∃ q,q = k + 1 := ⟨_,rfl⟩;have eq1 : (k : Int) + 1 = (q : Int) := by omega
    have HQ := hide hq;have hqd : q < d.size := by omega
    clear hq;have ea3 : ((k : Nat) : Int).toNat = k := by omega
    have pa3 : (0 : Int) ≤ ((k : Nat) : Int) := by omega
    have ba3 : ((k : Nat) : Int) < (d.size : Int) := by omega
    have ra3 : IntKind.i64.wrap ((k : Nat) : Int) = ((k : Nat) : Int) := by rw [IntKind.wrap_i64];omega
    have ea4 : ((q : Nat) : Int).toNat = q := by omega
    have pa4 : (0 : Int) ≤ ((q : Nat) : Int) := by omega
    have ba4 : ((q : Nat) : Int) < (d.size : Int) := by omega
    have ra4 : IntKind.i64.wrap ((q : Nat) : Int) = ((q : Nat) : Int) := by rw [IntKind.wrap_i64];omega
    have S2 : Aside (SWK enc Z w0 blk off (swp dk k q) ((wr.drew.setCells blk (off + k * Z) (enc dk[q]!)).setCells blk (off + q * Z) (enc dk[k]!))) := S1.out.swapped R k q (by have := HDS.out;omega) (by have := HDS.out;omega);have l44a := S1.out.ld1 R (by have := HDS.out;have := HSZ.out;omega) Tryz.prog k (by have := HDS.out;omega);have l44b := S1.out.ld1 R (by have := HDS.out;have := HSZ.out;omega) Tryz.prog q (by have := HDS.out;omega);have s44a := S1.out.st1 R (by have := HDS.out;have := HSZ.out;omega) Tryz.prog k (by have := HDS.out;omega) dk[q]!;have s44b := S1.out.st2 R (by have := HDS.out;have := HSZ.out;omega) Tryz.prog k q (by have := HDS.out;omega) (by have := HDS.out;omega) dk[q]! dk[k]!;have n44a : (enc dk[k]!).length = Z := R.hk _;have n44b : (enc dk[q]!).length = Z := R.hk _;generalize enc dk[k]! = cI44 at S2 l44a s44b n44a
    generalize enc dk[q]! = cJ44 at S2 l44b s44a s44b n44b;clear S1;go_wp2_with fail;go_big_region_o;clear l44a l44b s44a s44b;generalize (wr.drew.setCells blk (off + k * Z) cJ44).setCells blk (off + q * Z) cI44 = w2 at S2 ⊢;go_wp2;go_roundg (i1 - q)
    case measure => have := HQ.out;omega
    case rel => exact ⟨q,swp dk k q,by go_num,by have := HQ.out;omega,by have := HQ.out;omega,Nat.le_refl _,S2,by rw [HQ.out];exact HR.out.step hak (by have := HQ.out;omega)⟩
   have hltz2 : ¬ (k : Int) < (i1 : Int) := by omega
   obtain rfl : k = i1 := by omega
   go_wp2_with fail;(try simp only [Exit.inBlock,Exit.then]);refine bodyPost_ret (results_none rfl _ _ _) rfl ?_;exact ⟨rfl,dk,permIn_mono _ _ _ _ _ _ (Nat.le_refl _) (by omega) hb HR.out.1,one_right hS (by rw [← HM.out];exact H2.out) (by have := HM.out;omega) (by omega) (by rw [← HM.out];exact HI.out.1) HI.out.2 (by rw [← HI1.out];exact HR.out),S1.out⟩
theorem symm_last (Z : Nat) (hz : ∀ w,(Go.sizeOf 115).run Tryz.prog w = .ok Z w) (enc : α → List Value) (cf : α → α → Int) (hS : SWO (ltOf cf)) (gc : Nat) (cb : Array Value) (eg : ∀ args w,(callFunc gc args).run Tryz.prog w = .ok (.enter gc args) w) (blk off cap : Nat) (d0 : Array α) (w0 : World) (R : RowK enc Z w0 blk off d0) (hC : CmpLays Tryz.prog gc cb enc Z cf blk off d0.size w0) (hsz : d0.size < 4611686018427387904) (a m : Nat) (d : Array α) (w : World) (hs : d.size = d0.size) (S : SWK enc Z w0 blk off d w) (ham : a + 1 < m) (hb : m + 1 ≤ d.size) (h1 : SortedIn (ltOf cf) a m d) : SymG Z enc cf gc cb blk off cap w0 a m (m + 1) d w := by
 have HZ := hide hz;have HSZ := hide hs;have mixed : Tryz.prog.follows Departure.mixedOrders = true := by kernel_rfl
 have S0 : Aside (SWK enc Z w0 blk off d w) := S;have H1 := hide h1;have hszd : d.size < 4611686018427387904 := by omega
 have hma : ((m : Int) - (a : Int) == 1) = false := by rw [beq_eq_false_iff_ne];omega
 have hmaw : IntKind.i64.wrap ((m : Int) - (a : Int)) = (m : Int) - (a : Int) := by rw [IntKind.wrap_i64];omega
 have hmw : IntKind.i64.wrap (1 : Int) = 1 := by rw [IntKind.wrap_i64];omega
 clear S h1 hs;unfold SymG;have hbm : ((m + 1 : Nat) : Int) - (m : Int) = 1 := by omega
 obtain ⟨b,hbq⟩ : ∃ b,b = m + 1 := ⟨_,rfl⟩;rw [← hbq] at hbm hb ⊢;have HBM := hide hbq;have hmb : m < b := by omega
 clear hbq;go_enter Tryz.func191,Tryz.ntmps191;go_wp2_with fail;go_loopg [14,15,16] (m - a + 1) (fun gk s14 s15 s16 wr => ∃ (i j : Nat),s14 = .int .i64 i ∧ s15 = .int .i64 j ∧ a ≤ i ∧ i ≤ j ∧ j ≤ m ∧ j - i ≤ gk ∧ Aside (SWK enc Z w0 blk off d wr) ∧ Hid ((i = a ∨ ltOf cf d[m]! d[i - 1]! = false) ∧ (j = m ∨ ltOf cf d[m]! d[j]! = true)))
 case atStart => exact ⟨a,m,rfl,rfl,Nat.le_refl _,by omega,Nat.le_refl _,by omega,S0,.inl rfl,.inl rfl⟩
 case round =>
  clear S0;obtain ⟨i,j,rfl,rfl,hmi,hij,hjb,hgk,S1,HI⟩ := hrel;by_cases hlt : i < j
  ·obtain ⟨gk',rfl⟩ := gk_ gk (by omega);obtain ⟨h,hh⟩ : ∃ h,(i + j) / 2 = h := ⟨_,rfl⟩;have hh1 : i ≤ h := by omega
   have hh2 : h < j := by omega
   have hhi : ((i : Int) + (j : Int)) / 2 = (h : Int) := by omega
   have hij1 : IntKind.i64.wrap ((i : Int) + (j : Int)) = (i : Int) + (j : Int) := by rw [IntKind.wrap_i64];omega
   clear hh;have hltz : (i : Int) < (j : Int) := by omega
   have ea1 : ((m : Nat) : Int).toNat = m := by omega
   have pa1 : (0 : Int) ≤ ((m : Nat) : Int) := by omega
   have ba1 : ((m : Nat) : Int) < (d.size : Int) := by omega
   have ra1 : IntKind.i64.wrap ((m : Nat) : Int) = ((m : Nat) : Int) := by rw [IntKind.wrap_i64];omega
   have ea2 : ((h : Nat) : Int).toNat = h := by omega
   have pa2 : (0 : Int) ≤ ((h : Nat) : Int) := by omega
   have ba2 : ((h : Nat) : Int) < (d.size : Int) := by omega
   have ra2 : IntKind.i64.wrap ((h : Nat) : Int) = ((h : Nat) : Int) := by rw [IntKind.wrap_i64];omega
   have lA := S1.out.ld R (by have := HSZ.out;omega) Tryz.prog m (by have := HSZ.out;omega);have lB := S1.out.ld R (by have := HSZ.out;omega) Tryz.prog h (by have := HSZ.out;omega);have hcg := fun n os => S1.out.cmp hC (by have := HSZ.out;omega) d[m]! d[h]! n os
   have SG := hide (fun n os => S1.out.grown n os);have nA : (enc d[m]!).length = Z := R.hk _;have nB : (enc d[h]!).length = Z := R.hk _;obtain ⟨z,hzz⟩ : ∃ z,cf d[m]! d[h]! = z := ⟨_,rfl⟩;rw [hzz] at hcg;have HZZ := hide hzz;generalize enc d[m]! = cA at lA hcg nA;generalize enc d[h]! = cB at lB hcg nB;clear S1 hzz;by_cases hlv : z < 0
   ·have hlb : decide (z < 0) = true := decide_eq_true hlv;go_wp2_with fail;go_quiet_grown (first | (go_at_fn gc;refine Calls.grown_of (hcg _ _)));have HS2 : Aside (SWK enc Z w0 blk off d (grow (wr.drewN nq) osq)) := SG.out nq osq;generalize grow (wr.drewN nq) osq = w2 at HS2 ⊢;clear lA lB hcg SG;go_wp2_with fail;go_roundg gk'
    case measure => omega
    case rel => exact ⟨i,h,rfl,rfl,hmi,by omega,by omega,by omega,HS2,HI.out.1,.inr (by unfold ltOf;rw [HZZ.out];exact decide_eq_true hlv)⟩
   have hlb : decide (z < 0) = false := decide_eq_false hlv;go_wp2_with fail;go_quiet_grown (first | (go_at_fn gc;refine Calls.grown_of (hcg _ _)));have HS2 : Aside (SWK enc Z w0 blk off d (grow (wr.drewN nq) osq)) := SG.out nq osq;generalize grow (wr.drewN nq) osq = w2 at HS2 ⊢;clear lA lB hcg SG;go_wp2_with fail;go_roundg gk'
   case measure => omega
   case rel => exact ⟨h + 1,j,by go_num,rfl,by omega,by omega,hjb,by omega,HS2,.inr (by rw [Nat.add_sub_cancel];unfold ltOf;rw [HZZ.out];exact decide_eq_false (by omega)),HI.out.2⟩
  obtain rfl : i = j := by omega
  have hltz : ¬ (i : Int) < (i : Int) := by omega
  go_wp2_with fail;go_loopg [17] (m - i + 1) (fun gk s17 wr => ∃ (k : Nat) (dk : Array α),s17 = .int .i64 k ∧ i ≤ k ∧ k ≤ m ∧ k - i ≤ gk ∧ Aside (SWK enc Z w0 blk off dk wr) ∧ Hid (ShL d m k dk))
  case atStart => exact ⟨m,d,rfl,hjb,Nat.le_refl _,by omega,S1,ShL.zero d m⟩
  case round =>
   clear S1;obtain ⟨k,dk,rfl,hak,hki,hgk2,S1,HR⟩ := hrel;have HDS := hide (HR.out.1.1);by_cases hlt2 : i < k
   ·have hltz2 : (i : Int) < (k : Int) := by omega
    obtain ⟨q,hq⟩ : ∃ q,q = k - 1 := ⟨_,rfl⟩;have eq1 : (k : Int) - 1 = (q : Int) := by omega
    have HQ := hide hq;have hqd : q < d.size := by omega
    have hkd : k < d.size := by omega
    clear hq;have ea3 : ((k : Nat) : Int).toNat = k := by omega
    have pa3 : (0 : Int) ≤ ((k : Nat) : Int) := by omega
    have ba3 : ((k : Nat) : Int) < (d.size : Int) := by omega
    have ra3 : IntKind.i64.wrap ((k : Nat) : Int) = ((k : Nat) : Int) := by rw [IntKind.wrap_i64];omega
    have ea4 : ((q : Nat) : Int).toNat = q := by omega
    have pa4 : (0 : Int) ≤ ((q : Nat) : Int) := by omega
    have ba4 : ((q : Nat) : Int) < (d.size : Int) := by omega
    have ra4 : IntKind.i64.wrap ((q : Nat) : Int) = ((q : Nat) : Int) := by rw [IntKind.wrap_i64];omega
    have S2 : Aside (SWK enc Z w0 blk off (swp dk k q) ((wr.drew.setCells blk (off + k * Z) (enc dk[q]!)).setCells blk (off + q * Z) (enc dk[k]!))) := S1.out.swapped R k q (by have := HDS.out;omega) (by have := HDS.out;omega);have l44a := S1.out.ld1 R (by have := HDS.out;have := HSZ.out;omega) Tryz.prog k (by have := HDS.out;omega);have l44b := S1.out.ld1 R (by have := HDS.out;have := HSZ.out;omega) Tryz.prog q (by have := HDS.out;omega);have s44a := S1.out.st1 R (by have := HDS.out;have := HSZ.out;omega) Tryz.prog k (by have := HDS.out;omega) dk[q]!;have s44b := S1.out.st2 R (by have := HDS.out;have := HSZ.out;omega) Tryz.prog k q (by have := HDS.out;omega) (by have := HDS.out;omega) dk[q]! dk[k]!;have n44a : (enc dk[k]!).length = Z := R.hk _;have n44b : (enc dk[q]!).length = Z := R.hk _;generalize enc dk[k]! = cI44 at S2 l44a s44b n44a
    generalize enc dk[q]! = cJ44 at S2 l44b s44a s44b n44b;clear S1;go_wp2_with fail;go_big_region_o;clear l44a l44b s44a s44b;generalize (wr.drew.setCells blk (off + k * Z) cJ44).setCells blk (off + q * Z) cI44 = w2 at S2 ⊢;go_wp2;go_roundg (q - i)
    case measure => have := HQ.out;omega
    case rel => exact ⟨q,swp dk k q,by go_num,by have := HQ.out;omega,by have := HQ.out;omega,Nat.le_refl _,S2,by
     obtain ⟨k',rfl⟩ : ∃ k',k = k' + 1 := ⟨k - 1,by have := HQ.out;omega⟩;rw [HQ.out,Nat.add_sub_cancel];exact HR.out.step (by omega) (by omega)⟩
   have hltz2 : ¬ (i : Int) < (k : Int) := by omega
   obtain rfl : i = k := by omega
   go_wp2_with fail;(try simp only [Exit.inBlock,Exit.then]);refine bodyPost_ret (results_none rfl _ _ _) rfl ?_;refine ⟨rfl,dk,?_,?_,S1.out⟩
   ·rw [HBM.out];exact permIn_mono _ _ _ _ _ _ hmi (Nat.le_refl _) (by have := HBM.out;omega) HR.out.1
   rw [HBM.out];exact one_left hS H1.out hmi hjb HI.out.1 HI.out.2 HR.out
end
section
open Go.Shelf Go.RowKit Go.Lib Go.Sort
variable {α : Type} [Inhabited α] {lt : α → α → Bool}
theorem sym_fin {d dk d2 d3 : Array α} {a m b s e mid : Nat} (hb : b ≤ d.size) (ham : a ≤ mid) (hmb : mid ≤ b) (has : a ≤ s) (hsm : s ≤ m) (heb : e ≤ b) (hme : m ≤ e) (hrot : RotR d m (m - s) (e - m) dk) (hx : ∀ p q,a ≤ p → p < mid → mid ≤ q → q < b → lt dk[q]! dk[p]! = false)
 (h2 : PermIn a mid dk d2) (h2s : SortedIn lt a mid d2) (h3 : PermIn mid b d2 d3) (h3s : SortedIn lt mid b d3) : PermIn a b d d3 ∧ SortedIn lt a b d3 := by
 have z1 := hrot.1.1;have z2 := h2.1;refine ⟨permIn_trans _ _ _ _ _ (permIn_mono _ _ _ _ _ _ (by omega) (by omega) hb hrot.1) (permIn_trans _ _ _ _ _ (permIn_mono _ _ _ _ _ _ (Nat.le_refl _) hmb (by omega) h2) (permIn_mono _ _ _ _ _ _ ham (Nat.le_refl _) (by omega) h3)),?_⟩;refine sorted_join (sorted_kept h3 h2s (.inl (Nat.le_refl _))) h3s ?_;exact cross_perm (by omega) ham hmb (.inr h3) (cross_perm (by omega) ham hmb (.inl h2) hx)
theorem symm_gen (Z : Nat) (hz : ∀ w,(Go.sizeOf 115).run Tryz.prog w = .ok Z w) (enc : α → List Value) (cf : α → α → Int) (hS : SWO (ltOf cf)) (gc : Nat) (cb : Array Value) (eg : ∀ args w,(callFunc gc args).run Tryz.prog w = .ok (.enter gc args) w) (blk off cap : Nat) (d0 : Array α) (w0 : World) (R : RowK enc Z w0 blk off d0) (hC : CmpLays Tryz.prog gc cb enc Z cf blk off d0.size w0) (hsz : d0.size < 4611686018427387904) (a m b : Nat) (d : Array α) (w : World) (HREC : Hid (∀ (a' m' b' : Nat) (d' : Array α) (w' : World),b' - a' < b - a → a' < m' → m' < b' → b' ≤ d'.size → d'.size = d0.size → SortedIn (ltOf cf) a' m' d' → SortedIn (ltOf cf) m' b' d' → SWK enc Z w0 blk off d' w' → SymG Z enc cf gc cb blk off cap w0 a' m' b' d' w')) (hs : d.size = d0.size) (S : SWK enc Z w0 blk off d w) (ham : a + 1 < m) (hmb : m + 1 < b) (hb : b ≤ d.size) (h1 : SortedIn (ltOf cf) a m d) (h2 : SortedIn (ltOf cf) m b d) : SymG Z enc cf gc cb blk off cap w0 a m b d w := by
  have HZ := hide hz;have HSZ := hide hs;have mixed : Tryz.prog.follows Departure.mixedOrders = true := by kernel_rfl
  have S0 : Aside (SWK enc Z w0 blk off d w) := S;have H1 := hide h1;have H2 := hide h2;have HB := hide hb;have hszd : d.size < 4611686018427387904 := by omega
  have hma : ((m : Int) - (a : Int) == 1) = false := by rw [beq_eq_false_iff_ne];omega
  have hmaw : IntKind.i64.wrap ((m : Int) - (a : Int)) = (m : Int) - (a : Int) := by rw [IntKind.wrap_i64];omega
  have hbm : ((b : Int) - (m : Int) == 1) = false := by rw [beq_eq_false_iff_ne];omega
  have hbmw : IntKind.i64.wrap ((b : Int) - (m : Int)) = (b : Int) - (m : Int) := by rw [IntKind.wrap_i64];omega
  have hab1 : IntKind.i64.wrap ((a : Int) + (b : Int)) = (a : Int) + (b : Int) := by rw [IntKind.wrap_i64];omega
  obtain ⟨mid,hmid⟩ : ∃ mid,mid = (a + b) / 2 := ⟨_,rfl⟩;obtain ⟨n,hN⟩ : ∃ n,n = mid + m := ⟨_,rfl⟩;have emid : ((a : Int) + (b : Int)) / 2 = (mid : Int) := by omega
  have en : (mid : Int) + (m : Int) = (n : Int) := by omega
  have rn : IntKind.i64.wrap (n : Int) = (n : Int) := by rw [IntKind.wrap_i64];omega
  obtain ⟨p,hp⟩ : ∃ p,p = n - 1 := ⟨_,rfl⟩;have ep : (n : Int) - 1 = (p : Int) := by omega
  have rp : IntKind.i64.wrap (p : Int) = (p : Int) := by rw [IntKind.wrap_i64];omega
  have HNN := hide (show p + 1 = n ∧ n = mid + m ∧ a + 1 < mid ∧ mid + 1 < b + 1 ∧ mid < b ∧ p < 4611686018427387904 + 4611686018427387904 by omega);clear S h1 h2 hs hp;unfold SymG;have HNM := hide (And.intro hN hmid);clear hN hmid;go_enter Tryz.func191,Tryz.ntmps191;go_upto_if 140 with fail;go_cut [20,21] from 129 to 146 (fun s20 s21 wx => w = wx ∧ ∃ s0 r0 : Nat,s20 = .int .i64 s0 ∧ s21 = .int .i64 r0 ∧ s0 ≤ r0 ∧ Hid (∀ s,s0 ≤ s → s ≤ r0 → a ≤ s ∧ s ≤ m ∧ s ≤ mid ∧ m + s ≤ n ∧ n ≤ s + b) ∧ Hid ((s0 = a ∨ n = s0 + b) ∧ (r0 = m ∨ n = r0 + m)))
  case first =>
    obtain ⟨hN,hmid⟩ := HNM.out;by_cases hbr0 : mid < m
    · have hbr : (mid : Int) < (m : Int) := by omega
      obtain ⟨s0,hs0⟩ : ∃ s0,s0 = n - b := ⟨_,rfl⟩
      have es0 : (n : Int) - (b : Int) = (s0 : Int) := by omega
      have rs0 : IntKind.i64.wrap (s0 : Int) = (s0 : Int) := by rw [IntKind.wrap_i64];omega
      have h3 : Hid (s0 ≤ mid ∧ (∀ s,s0 ≤ s → s ≤ mid → a ≤ s ∧ s ≤ m ∧ s ≤ mid ∧ m + s ≤ n ∧ n ≤ s + b) ∧ (s0 = a ∨ n = s0 + b) ∧ (mid = m ∨ n = mid + m)) := hide ⟨by omega,fun s h1 h2 => by omega,by omega,by omega⟩
      clear hs0 hN hmid
      go_wp2_with fail
      go_meet
      exact ⟨rfl,s0,mid,rfl,rfl,h3.out.1,h3.out.2.1,h3.out.2.2⟩
    have hbr : ¬ (mid : Int) < (m : Int) := by omega
    have h3 : Hid (a ≤ m ∧ (∀ s,a ≤ s → s ≤ m → a ≤ s ∧ s ≤ m ∧ s ≤ mid ∧ m + s ≤ n ∧ n ≤ s + b) ∧ (a = a ∨ n = a + b) ∧ (m = m ∨ n = m + m)) := hide ⟨by omega,fun s h1 h2 => by omega,by omega,by omega⟩;clear hN hmid;go_wp2_with fail;go_meet;exact ⟨rfl,a,m,rfl,rfl,h3.out.1,h3.out.2.1,hide ⟨.inl rfl,.inl rfl⟩⟩
  case rest =>
  obtain ⟨rfl,s0,r0,rfl,rfl,hsr,HLOW,HE0⟩ := hcut;go_wp2_with fail;go_loopg [20,21,23] (r0 - s0 + 1) (fun gk s20 s21 s23 wr => ∃ (i j : Nat),s20 = .int .i64 i ∧ s21 = .int .i64 j ∧ s0 ≤ i ∧ i ≤ j ∧ j ≤ r0 ∧ j - i ≤ gk ∧ Aside (SWK enc Z w0 blk off d wr) ∧ Hid ((i = s0 ∨ ltOf cf d[n - i]! d[i - 1]! = false) ∧ (j = r0 ∨ ltOf cf d[p - j]! d[j]! = true)))
  case atStart => exact ⟨s0,r0,rfl,rfl,Nat.le_refl _,hsr,Nat.le_refl _,by omega,S0,.inl rfl,.inl rfl⟩
  case round =>
    clear S0;obtain ⟨i,j,rfl,rfl,hmi,hij,hjb,hgk,S1,HI⟩ := hrel;by_cases hlt : i < j
    · have hL := HLOW.out i hmi (by omega)
      have hL2 := HLOW.out j (by omega) hjb
      have hNN := HNN.out
      obtain ⟨gk',rfl⟩ := gk_ gk (by omega)
      obtain ⟨h,hh⟩ : ∃ h,(i + j) / 2 = h := ⟨_,rfl⟩
      have hh1 : i ≤ h := by omega
      have hh2 : h < j := by omega
      have hhi : ((i : Int) + (j : Int)) / 2 = (h : Int) := by omega
      have hij1 : IntKind.i64.wrap ((i : Int) + (j : Int)) = (i : Int) + (j : Int) := by rw [IntKind.wrap_i64];omega
      clear hh
      have hltz : (i : Int) < (j : Int) := by omega
      obtain ⟨q,hq⟩ : ∃ q,q = p - h := ⟨_,rfl⟩
      have eq1 : (p : Int) - (h : Int) = (q : Int) := by omega
      have HQ := hide hq
      have hqd : q < d.size ∧ h < d.size := by omega
      clear hq hL hL2 hNN
      have ea1 : ((q : Nat) : Int).toNat = q := by omega
      have pa1 : (0 : Int) ≤ ((q : Nat) : Int) := by omega
      have ba1 : ((q : Nat) : Int) < (d.size : Int) := by omega
      have ra1 : IntKind.i64.wrap ((q : Nat) : Int) = ((q : Nat) : Int) := by rw [IntKind.wrap_i64];omega
      have ea2 : ((h : Nat) : Int).toNat = h := by omega
      have pa2 : (0 : Int) ≤ ((h : Nat) : Int) := by omega
      have ba2 : ((h : Nat) : Int) < (d.size : Int) := by omega
      have ra2 : IntKind.i64.wrap ((h : Nat) : Int) = ((h : Nat) : Int) := by rw [IntKind.wrap_i64];omega
      have lA := S1.out.ld R (by have := HSZ.out;omega) Tryz.prog q (by have := HSZ.out;omega)
      have lB := S1.out.ld R (by have := HSZ.out;omega) Tryz.prog h (by have := HSZ.out;omega)
      have hcg := fun n os => S1.out.cmp hC (by have := HSZ.out;omega) d[q]! d[h]! n os
      have SG := hide (fun n os => S1.out.grown n os)
      have nA : (enc d[q]!).length = Z := R.hk _
      have nB : (enc d[h]!).length = Z := R.hk _
      obtain ⟨z,hzz⟩ : ∃ z,cf d[q]! d[h]! = z := ⟨_,rfl⟩
      rw [hzz] at hcg
      have HZZ := hide hzz
      generalize enc d[q]! = cA at lA hcg nA
      generalize enc d[h]! = cB at lB hcg nB
      clear S1 hzz
      by_cases hlv : z < 0
      · have hlb : decide (z < 0) = true := decide_eq_true hlv
        go_wp2_with fail
        go_quiet_grown (first | (go_at_fn gc;refine Calls.grown_of (hcg _ _)))
        have HS2 : Aside (SWK enc Z w0 blk off d (grow (wr.drewN nq) osq)) := SG.out nq osq
        generalize grow (wr.drewN nq) osq = w2 at HS2 ⊢
        clear lA lB hcg SG
        go_wp2_with fail
        go_roundg gk'
        case measure => omega
        case rel => exact ⟨i,h,rfl,rfl,hmi,by omega,by omega,by omega,HS2,HI.out.1,.inr (by unfold ltOf;rw [← HQ.out,HZZ.out];exact decide_eq_true hlv)⟩
      have hlb : decide (z < 0) = false := decide_eq_false hlv
      go_wp2_with fail
      go_quiet_grown (first | (go_at_fn gc;refine Calls.grown_of (hcg _ _)))
      have HS2 : Aside (SWK enc Z w0 blk off d (grow (wr.drewN nq) osq)) := SG.out nq osq
      generalize grow (wr.drewN nq) osq = w2 at HS2 ⊢
      clear lA lB hcg SG
      go_wp2_with fail
      go_roundg gk'
      case measure => omega
      case rel => exact ⟨h + 1,j,by go_num,rfl,by omega,by omega,hjb,by omega,HS2,.inr (by rw [Nat.add_sub_cancel,show n - (h + 1) = q by have := HQ.out;have := HNN.out;omega];unfold ltOf;rw [HZZ.out];exact decide_eq_false (by omega)),HI.out.2⟩
    obtain rfl : i = j := by omega
    have hltz : ¬ (i : Int) < (i : Int) := by omega
    obtain ⟨hL1,hL2,hL3,hL4,hL5⟩ := HLOW.out i hmi hjb;obtain ⟨e,he⟩ : ∃ e,e = n - i := ⟨_,rfl⟩;have ee : (n : Int) - (i : Int) = (e : Int) := by omega
    have re : IntKind.i64.wrap (e : Int) = (e : Int) := by rw [IntKind.wrap_i64];omega
    have HEN := hide he;have hme : m ≤ e := by omega
    have heb : e ≤ b := by omega
    have hes : e + i = n := by omega
    have HLO := hide (show i = a ∨ e = b ∨ ltOf cf d[e]! d[i - 1]! = false by
      rcases HI.out.1 with h | h
      · have := HE0.out.1;omega
      rw [he];exact .inr (.inr h))
    have HHI := hide (show i = m ∨ e = m ∨ ltOf cf d[e - 1]! d[i]! = true by
      rcases HI.out.2 with h | h
      · have := HE0.out.2;omega
      rw [he,show n - i - 1 = p - i by have := HNN.out;omega];exact .inr (.inr h))
    have hmn : mid + m = i + e := by have := HNN.out;omega
    have ham2 : a ≤ mid := by have := HNN.out;omega
    have hmb2 : mid ≤ b := by have := HNN.out;omega
    have hstr : b - mid < b - a ∧ mid - a < b - a := by have := HNN.out;omega
    clear he;generalize hsi : i = s at *;have hz0 := hz;obtain ⟨c1,hc1⟩ : ∃ c : Bool,c = decide (s < m ∧ m < e) := ⟨_,rfl⟩;have Hc1 := hide hc1;clear hc1;go_upto_region 39 with fail;go_cut [185] from 178 to 185 (fun c wx => c = .bool c1 ∧ wr = wx)
    case first =>
      by_cases h1 : s < m
      · have i1 : (s : Int) < (m : Int) := by omega
        by_cases h2 : m < e
        · have i2 : (m : Int) < (e : Int) := by omega
          go_wp2_with fail
          go_meet
          exact ⟨congrArg Value.bool (by rw [Hc1.out];exact (decide_eq_true ⟨h1,h2⟩).symm),rfl⟩
        have i2 : ¬ (m : Int) < (e : Int) := by omega
        go_wp2_with fail
        go_meet
        exact ⟨congrArg Value.bool (by rw [Hc1.out];exact (decide_eq_false (fun h => h2 h.2)).symm),rfl⟩
      have i1 : ¬ (s : Int) < (m : Int) := by omega
      go_wp2_with fail;go_meet;exact ⟨congrArg Value.bool (by rw [Hc1.out];exact (decide_eq_false (fun h => h1 h.1)).symm),rfl⟩
    case rest =>
    obtain ⟨rfl,rfl⟩ := hcut;go_upto_if 185 with fail;go_cut [] from 178 to 191 (fun wx => ∃ dk : Array α,Hid (RotR d m (m - s) (e - m) dk) ∧ Aside (SWK enc Z w0 blk off dk wx))
    case first =>
      by_cases hz : s < m ∧ m < e
      · obtain rfl : c1 = true := by rw [Hc1.out];exact decide_eq_true hz
        have hrot := rot_any Z hz0 enc gc cb blk off cap s m e d0 d w0 wr R HSZ.out.symm S1.out hz.1 hz.2 (by omega) hszd
        have HROTC := hide hrot
        clear hrot S1
        go_wp2_with fail
        refine HROTC.out.mono ?_
        rintro e7 w2 ⟨rfl,dk,hrt,S2⟩
        have HROT := hide hrt
        clear hrt
        go_wp2_with fail
        go_meet
        exact ⟨dk,HROT,S2⟩
      obtain rfl : c1 = false := by rw [Hc1.out];exact decide_eq_false hz
      go_wp2_with fail;go_meet;refine ⟨d,?_,S1⟩;by_cases h1 : s < m
      · rw [show e - m = 0 by have : ¬ m < e := fun h => hz ⟨h1,h⟩
                              omega]
        exact RotR.none_right d m _
      rw [show m - s = 0 by omega];exact RotR.none_left d m _
    case rest =>
    obtain ⟨dk,HROT,S2⟩ := hcut;generalize wc = w2 at S2 ⊢;clear S1;have HPT := hide (parts_after hS H1.out H2.out (by omega) (by omega) (by omega) (by omega) (by have := HEN.out;have := HNN.out;omega) HLO.out HHI.out HROT.out);have HZ1 := hide HROT.out.1.1;obtain ⟨c2,hc2⟩ : ∃ c : Bool,c = decide (a < s ∧ s < mid) := ⟨_,rfl⟩;have Hc2 := hide hc2;clear hc2;go_upto_region 41 with fail;go_cut [199] from 192 to 199 (fun c wx => c = .bool c2 ∧ w2 = wx)
    case first =>
      by_cases h1 : a < s
      · have i1 : (a : Int) < (s : Int) := by omega
        by_cases h2 : s < mid
        · have i2 : (s : Int) < (mid : Int) := by omega
          go_wp2_with fail
          go_meet
          exact ⟨congrArg Value.bool (by rw [Hc2.out];exact (decide_eq_true ⟨h1,h2⟩).symm),rfl⟩
        have i2 : ¬ (s : Int) < (mid : Int) := by omega
        go_wp2_with fail
        go_meet
        exact ⟨congrArg Value.bool (by rw [Hc2.out];exact (decide_eq_false (fun h => h2 h.2)).symm),rfl⟩
      have i1 : ¬ (a : Int) < (s : Int) := by omega
      go_wp2_with fail;go_meet;exact ⟨congrArg Value.bool (by rw [Hc2.out];exact (decide_eq_false (fun h => h1 h.1)).symm),rfl⟩
    case rest =>
    obtain ⟨rfl,rfl⟩ := hcut;go_upto_if 199 with fail;go_cut [] from 192 to 205 (fun wx => ∃ d2 : Array α,Hid (PermIn a mid dk d2 ∧ SortedIn (ltOf cf) a mid d2) ∧ Aside (SWK enc Z w0 blk off d2 wx))
    case first =>
      by_cases hz : a < s ∧ s < mid
      · obtain rfl : c2 = true := by rw [Hc2.out];exact decide_eq_true hz
        have hrec := HREC.out a s mid dk w2 (by omega) (by omega) (by omega) (by have := HZ1.out;omega) (by have := HZ1.out;have := HSZ.out;omega) HPT.out.1 HPT.out.2.1 S2.out
        unfold SymG at hrec
        rw [HZ1.out] at hrec
        have HREC2 := hide hrec
        clear hrec S2
        go_wp2_with fail
        refine HREC2.out.mono ?_
        rintro e8 w3 ⟨rfl,d2,hp2,hs2,S3⟩
        have HP2 := hide (And.intro hp2 hs2)
        clear hp2 hs2
        go_wp2_with fail
        go_meet
        exact ⟨d2,HP2,S3⟩
      obtain rfl : c2 = false := by rw [Hc2.out];exact decide_eq_false hz
      go_wp2_with fail;go_meet;refine ⟨dk,And.intro (permIn_refl dk a mid) ?_,S2⟩;by_cases h1 : a < s
      · exact sorted_sub HPT.out.1 (Nat.le_refl _) (by
          have : ¬ s < mid := fun h => hz ⟨h1,h⟩
          omega)
      exact sorted_sub HPT.out.2.1 (by omega) (Nat.le_refl _)
    case rest =>
    obtain ⟨d2,HP2,S3⟩ := hcut;generalize wc = w3 at S3 ⊢;clear S2;have HZ2 := hide (HP2.out.1.1.trans HZ1.out);obtain ⟨c3,hc3⟩ : ∃ c : Bool,c = decide (mid < e ∧ e < b) := ⟨_,rfl⟩;have Hc3 := hide hc3;clear hc3;go_upto_region 43 with fail;go_cut [213] from 206 to 213 (fun c wx => c = .bool c3 ∧ w3 = wx)
    case first =>
      by_cases h1 : mid < e
      · have i1 : (mid : Int) < (e : Int) := by omega
        by_cases h2 : e < b
        · have i2 : (e : Int) < (b : Int) := by omega
          go_wp2_with fail
          go_meet
          exact ⟨congrArg Value.bool (by rw [Hc3.out];exact (decide_eq_true ⟨h1,h2⟩).symm),rfl⟩
        have i2 : ¬ (e : Int) < (b : Int) := by omega
        go_wp2_with fail
        go_meet
        exact ⟨congrArg Value.bool (by rw [Hc3.out];exact (decide_eq_false (fun h => h2 h.2)).symm),rfl⟩
      have i1 : ¬ (mid : Int) < (e : Int) := by omega
      go_wp2_with fail;go_meet;exact ⟨congrArg Value.bool (by rw [Hc3.out];exact (decide_eq_false (fun h => h1 h.1)).symm),rfl⟩
    case rest =>
    obtain ⟨rfl,rfl⟩ := hcut;by_cases hz : mid < e ∧ e < b
    · obtain rfl : c3 = true := by rw [Hc3.out];exact decide_eq_true hz
      have hrec := HREC.out mid e b d2 w3 (by omega) (by omega) (by omega) (by have := HZ2.out;omega) (by have := HZ2.out;have := HSZ.out;omega) (sorted_kept HP2.out.1 HPT.out.2.2.1 (.inr (Nat.le_refl _))) (sorted_kept HP2.out.1 HPT.out.2.2.2.1 (.inr (by omega))) S3.out
      unfold SymG at hrec
      rw [HZ2.out] at hrec
      have HREC3 := hide hrec
      clear hrec S3
      go_wp2_with fail
      refine HREC3.out.mono ?_
      rintro e9 w4 ⟨rfl,d3,hp3,hs3,S4⟩
      have HF := hide (sym_fin HB.out (by omega) (by omega) (by omega) (by omega) (by omega) (by omega) HROT.out HPT.out.2.2.2.2 HP2.out.1 HP2.out.2 hp3 hs3)
      have HS4 := hide S4
      clear hp3 hs3 S4
      go_wp2_with fail
      go_end0
      exact ⟨rfl,d3,HF.out.1,HF.out.2,HS4.out⟩
    obtain rfl : c3 = false := by rw [Hc3.out];exact decide_eq_false hz
    have HF := hide (sym_fin HB.out (by omega) (by omega) (by omega) (by omega) (by omega) (by omega) HROT.out HPT.out.2.2.2.2 HP2.out.1 HP2.out.2 (permIn_refl d2 mid b) (by
      by_cases h1 : mid < e
      · have h2 : ¬ e < b := fun h => hz ⟨h1,h⟩
        have hh := sorted_kept HP2.out.1 HPT.out.2.2.1 (.inr (Nat.le_refl _))
        exact sorted_sub hh (Nat.le_refl _) (by omega)
      have hh := sorted_kept HP2.out.1 HPT.out.2.2.2.1 (.inr (by omega));exact sorted_sub hh (by omega) (Nat.le_refl _)))
    go_wp2_with fail;go_end0;exact ⟨rfl,d2,HF.out.1,HF.out.2,S3.out⟩
theorem symm_any (Z : Nat) (hz : ∀ w,(Go.sizeOf 115).run Tryz.prog w = .ok Z w) (enc : α → List Value) (cf : α → α → Int) (hS : SWO (ltOf cf)) (gc : Nat) (cb : Array Value) (eg : ∀ args w,(callFunc gc args).run Tryz.prog w = .ok (.enter gc args) w) (blk off cap : Nat) (d0 : Array α) (w0 : World) (R : RowK enc Z w0 blk off d0) (hC : CmpLays Tryz.prog gc cb enc Z cf blk off d0.size w0) (hsz : d0.size < 4611686018427387904) : ∀ (N a m b : Nat) (d : Array α) (w : World),b - a ≤ N → a < m → m < b → b ≤ d.size → d.size = d0.size → SortedIn (ltOf cf) a m d → SortedIn (ltOf cf) m b d → SWK enc Z w0 blk off d w → SymG Z enc cf gc cb blk off cap w0 a m b d w
 | 0,a,m,b,d,w,hN,h1,h2,hb,hs,s1,s2,S => by omega
 | N + 1,a,m,b,d,w,hN,h1,h2,hb,hs,s1,s2,S => by
  by_cases hm : m = a + 1
  ·subst hm;exact symm_first Z hz enc cf hS gc cb eg blk off cap d0 w0 R hC hsz a b d w hs S h2 hb s2
  by_cases hbm : b = m + 1
  ·subst hbm;exact symm_last Z hz enc cf hS gc cb eg blk off cap d0 w0 R hC hsz a m d w hs S (by omega) hb s1
  exact symm_gen Z hz enc cf hS gc cb eg blk off cap d0 w0 R hC hsz a m b d w (fun a' m' b' d' w' k1 k2 k3 k4 k5 k6 k7 k8 => symm_any Z hz enc cf hS gc cb eg blk off cap d0 w0 R hC hsz N a' m' b' d' w' (by omega) k2 k3 k4 k5 k6 k7 k8) hs S (by omega) (by omega) hb s1 s2
end
section
open Go.Shelf Go.RowKit Go.Lib Go.Sort
variable {α : Type} [Inhabited α] {lt : α → α → Bool}
def BlkS (lt : α → α → Bool) (bs lo n : Nat) (d : Array α) : Prop := ∀ i j,lo ≤ i → i < j → j < n → i / bs = j / bs → lt d[j]! d[i]! = false
theorem BlkS.in_ {bs lo n : Nat} {d : Array α} (h : BlkS lt bs lo n d) {a b : Nat} (ha : lo ≤ a) (hb : b ≤ n) (hab : ∀ i,a ≤ i → i < b → i / bs = a / bs) : SortedIn lt a b d := fun i j h1 h2 h3 => h i j (by omega) h2 (by omega) (by rw [hab i h1 (by omega),hab j (by omega) h3])
theorem BlkS.perm {bs lo n a b : Nat} {d d' : Array α} (h : BlkS lt bs lo n d) (hp : PermIn a b d d') (hd : n ≤ a ∨ b ≤ lo) : BlkS lt bs lo n d' := fun i j h1 h2 h3 h4 => by
 rw [hp.2.1 i (by omega),hp.2.1 j (by omega)];exact h i j h1 h2 h3 h4
theorem div_in {bs t i : Nat} (h1 : t * bs ≤ i) (h2 : i < (t + 1) * bs) : i / bs = t := by
 have hb : 0 < bs := by
  rcases Nat.eq_zero_or_pos bs with h | h
  ·subst h;simp at h2
  exact h
 rw [Nat.div_eq_iff hb];rw [Nat.add_mul,Nat.one_mul] at h2;omega
theorem BlkS.more {bs t n : Nat} {d d' : Array α} (h : BlkS lt bs 0 (t * bs) d) (hp : PermIn (t * bs) n d d') (hs : SortedIn lt (t * bs) n d') (hn : n ≤ (t + 1) * bs) : BlkS lt bs 0 n d' := fun i j h1 h2 h3 h4 => by
 rcases Nat.lt_or_ge j (t * bs) with hj | hj
 ·rw [hp.2.1 i (.inl (by omega)),hp.2.1 j (.inl hj)];exact h i j h1 h2 hj h4
 rcases Nat.lt_or_ge i (t * bs) with hi | hi
 ·have hb : 0 < bs := by
   rcases Nat.eq_zero_or_pos bs with h0 | h0
   ·subst h0;simp at hi
   exact h0
  have e1 := div_in hj (by omega);have e2 : i / bs < t := by rw [Nat.div_lt_iff_lt_mul hb];exact hi
  omega
 exact hs i j hi h2 h3
theorem cmpLays_on {P : Program} {gc : Nat} {cb : Array Value} {enc : α → List Value} {Z : Nat} {cf : α → α → Int} {blk off : Nat} {d : Array α} {w0 W : World} (h : SWK enc Z w0 blk off d W) (hblk : blk < w0.heap.size) (hC : CmpLays P gc cb enc Z cf blk off d.size w0) : CmpLays P gc cb enc Z cf blk off d.size W := fun m os dk hdk x y => by
 obtain ⟨n,os',e⟩ := h.on hblk m dk os hdk;rw [e];exact hC n os' dk hdk x y
theorem ins_any (Z : Nat) (hz : ∀ w,(Go.sizeOf 115).run Tryz.prog w = .ok Z w) (enc : α → List Value) (cf : α → α → Int) (hS : SWO (ltOf cf)) (gc : Nat) (cb : Array Value) (eg : ∀ args w,(callFunc gc args).run Tryz.prog w = .ok (.enter gc args) w) (blk off cap : Nat) (d0 : Array α) (w0 : World) (R : RowK enc Z w0 blk off d0) (hC : CmpLays Tryz.prog gc cb enc Z cf blk off d0.size w0) (hsz : d0.size < 4611686018427387904)
 (a b : Nat) (d : Array α) (w : World) (hs : d.size = d0.size) (S : SWK enc Z w0 blk off d w) (hab : a ≤ b) (hb : b ≤ d.size) :
 Calls Tryz.prog 190 #[.slice (some ⟨blk,off,none⟩) d.size cap,.int .i64 a,.int .i64 b,.func (.func gc) #[] cb] w fun e w' => e = .returned (.tuple #[]) ∧ ∃ d',PermIn a b d d' ∧ SortedIn (ltOf cf) a b d' ∧ SWK enc Z w0 blk off d' w' := by
 have h := AnyQ.insertionSortCmpFunc (P := Tryz.prog) Tryz.laysIns Z Tryz.isAgg115 hz enc R.hk R.h1 cf gc cb blk off cap a b d w eg (cmpLays_on S R.hblk (by rw [hs];exact hC)) (S.holds R.hblk R.hH hs) (S.lt R.hblk) hab hb (by omega);refine h.mono ?_;rintro e w' ⟨he,n,os,rfl⟩;have hi := insertionSort_holds hS d a b hab hb;exact ⟨he,_,hi.1,hi.2,S.on R.hblk n _ os hi.1.1⟩
theorem BlkS.up {bs a b n : Nat} {d d' : Array α} (h1 : BlkS lt (2 * bs) 0 a d) (hab : a ≤ b) (hbn : b ≤ n) (hp : PermIn a b d d') (hs : SortedIn lt a b d') (ha : a % (2 * bs) = 0) (hb : b ≤ a + 2 * bs) : BlkS lt (2 * bs) 0 b d' := by
 have he : a = a / (2 * bs) * (2 * bs) := by
  have := Nat.div_add_mod a (2 * bs);rw [ha,Nat.add_zero,Nat.mul_comm] at this;exact this.symm
 rw [he] at h1 hp hs;exact BlkS.more h1 hp hs (by rw [Nat.add_mul,Nat.one_mul,← he];exact hb)
theorem BlkS.half {bs a n : Nat} {d : Array α} (h : BlkS lt bs a n d) (hbs : 0 < bs) (ha : a % (2 * bs) = 0) {x y : Nat} (hx : x = a ∨ x = a + bs) (hy : y ≤ x + bs) (hyn : y ≤ n) : SortedIn lt x y d := by
 have he : a / (2 * bs) * (2 * bs) = a := by
  have := Nat.div_add_mod a (2 * bs);rw [ha,Nat.add_zero,Nat.mul_comm] at this;exact this
 have hc : ∃ t,x = t * bs := by
  rcases hx with h | h
  ·exact ⟨a / (2 * bs) * 2,by rw [h,Nat.mul_assoc,he]⟩
  exact ⟨a / (2 * bs) * 2 + 1,by rw [h,Nat.add_mul,Nat.mul_assoc,he,Nat.one_mul]⟩
 obtain ⟨t,ht⟩ := hc;refine h.in_ (by omega) hyn (fun i h1 h2 => ?_);have k : ∀ j,x ≤ j → j < y → j / bs = t := fun j h3 h4 => div_in (by rw [← ht];exact h3) (by rw [Nat.add_mul,Nat.one_mul,← ht];omega)
 rw [k i h1 h2,k x (Nat.le_refl _) (by omega)]
theorem stable_any (Z : Nat) (hz : ∀ w,(Go.sizeOf 115).run Tryz.prog w = .ok Z w) (enc : α → List Value) (cf : α → α → Int) (hS : SWO (ltOf cf)) (gc : Nat) (cb : Array Value) (eg : ∀ args w,(callFunc gc args).run Tryz.prog w = .ok (.enter gc args) w) (blk off cap : Nat) (d : Array α) (w : World) (R : RowK enc Z w blk off d) (hC : CmpLays Tryz.prog gc cb enc Z cf blk off d.size w) (hsz : d.size < 1152921504606846976) :
 Calls Tryz.prog 157 #[.slice (some ⟨blk,off,none⟩) d.size cap,.int .i64 d.size,.func (.func gc) #[] cb] w fun e w' => e = .returned (.tuple #[]) ∧ ∃ d',PermIn 0 d.size d d' ∧ SortedIn (ltOf cf) 0 d.size d' ∧ SWK enc Z w blk off d' w' := by
 have hINS : ∀ (a b : Nat) (dk : Array α) (wr : World),dk.size = d.size → SWK enc Z w blk off dk wr → a ≤ b → b ≤ d.size → Calls Tryz.prog 190 #[.slice (some ⟨blk,off,none⟩) d.size cap,.int .i64 a,.int .i64 b,.func (.func gc) #[] cb] wr fun e w' => e = .returned (.tuple #[]) ∧ ∃ d',PermIn a b dk d' ∧ SortedIn (ltOf cf) a b d' ∧ SWK enc Z w blk off d' w' := fun a b dk wr h1 h2 h3 h4 => by
  have h := ins_any Z hz enc cf hS gc cb eg blk off cap d w R hC (by omega) a b dk wr h1 h2 h3 (by omega);rw [h1] at h;exact h
 have hSYM : ∀ (a m b : Nat) (dk : Array α) (wr : World),dk.size = d.size → SWK enc Z w blk off dk wr → a < m → m < b → b ≤ d.size → SortedIn (ltOf cf) a m dk → SortedIn (ltOf cf) m b dk → Calls Tryz.prog 191 #[.slice (some ⟨blk,off,none⟩) d.size cap,.int .i64 a,.int .i64 m,.int .i64 b,.func (.func gc) #[] cb] wr fun e w' => e = .returned (.tuple #[]) ∧ ∃ d',PermIn a b dk d' ∧ SortedIn (ltOf cf) a b d' ∧ SWK enc Z w blk off d' w' := fun a m b dk wr h1 h2 h3 h4 h5 h6 h7 => by
  have h := symm_any Z hz enc cf hS gc cb eg blk off cap d w R hC (by omega) (b - a) a m b dk wr (Nat.le_refl _) h3 h4 (by omega) h1 h6 h7 h2;unfold SymG at h;rw [h1] at h;exact h
 have HINS := hide hINS;have HSYM := hide hSYM;have S0 : Aside (SWK enc Z w blk off d w) := SWK.start R.hH;obtain ⟨n,hn⟩ : ∃ n,n = d.size := ⟨_,rfl⟩;rw [← hn] at hsz HINS HSYM ⊢;have HN := hide hn;clear hINS hSYM hC R hz eg hS hn;go_enter Tryz.func157,Tryz.ntmps157;go_wp2_with fail;go_loopg [7,8] (n + 1) (fun gk s7 s8 wr => ∃ (a b : Nat) (dk : Array α),s7 = .int .i64 a ∧ s8 = .int .i64 b ∧ b = a + 20 ∧ a ≤ n ∧ n - a ≤ gk ∧ a % 20 = 0 ∧ Aside (SWK enc Z w blk off dk wr) ∧ Hid (PermIn 0 n d dk ∧ BlkS (ltOf cf) 20 0 a dk))
 case atStart => exact ⟨0,20,d,rfl,rfl,rfl,Nat.zero_le _,by omega,rfl,S0,permIn_refl _ _ _,fun i j h1 h2 h3 => by omega⟩
 case round =>
  clear S0;obtain ⟨a,b,dk,rfl,rfl,hab,han,hgk,ham,S1,HB⟩ := hrel;have HAB := hide hab;have HAM := hide ham;have hltab : a < b := by omega
  clear hab ham;by_cases hle : b ≤ n
  ·have hlez : (b : Int) ≤ (n : Int) := by omega
   have hb20 : IntKind.i64.wrap ((b : Int) + 20) = (b : Int) + 20 := by rw [IntKind.wrap_i64];omega
   have HCALL := hide (HINS.out a b dk wr (by rw [HB.out.1.1,← HN.out]) S1.out (by omega) hle);clear S1;go_wp2_with fail;refine HCALL.out.mono ?_;rintro e w2 ⟨rfl,d2,hp,hs,S2⟩;have HP := hide (And.intro hp hs);have HS2 : Aside (SWK enc Z w blk off d2 w2) := S2;clear hp hs S2 HCALL;go_wp2_with fail;go_roundg (n - b)
   case measure => have hab := HAB.out;omega
   case rel =>
    have hab := HAB.out;have ham := HAM.out;refine ⟨b,b + 20,d2,rfl,by go_num,rfl,hle,Nat.le_refl _,by omega,HS2,permIn_trans _ _ _ _ _ HB.out.1 (permIn_mono _ _ _ _ _ _ (Nat.zero_le _) hle (by rw [HB.out.1.1,← HN.out];exact Nat.le_refl _) HP.out.1),?_⟩;have he : a = a / 20 * 20 := by omega
    have h1 := HB.out.2;have h2 := HP.out;rw [he] at h1 h2;exact BlkS.more h1 h2.1 h2.2 (by omega)
  have hlez : ¬ (b : Int) ≤ (n : Int) := by omega
  have HCALL := hide (HINS.out a n dk wr (by rw [HB.out.1.1,← HN.out]) S1.out han (Nat.le_refl _));clear S1;go_wp2_with fail;refine HCALL.out.mono ?_;rintro e w2 ⟨rfl,d2,hp,hs,S2⟩;have HP := hide (show PermIn 0 n d d2 ∧ BlkS (ltOf cf) 20 0 n d2 by
   have hab := HAB.out;have ham := HAM.out;refine ⟨permIn_trans _ _ _ _ _ HB.out.1 (permIn_mono _ _ _ _ _ _ (Nat.zero_le _) (Nat.le_refl _) (by rw [HB.out.1.1,← HN.out];exact Nat.le_refl _) hp),?_⟩;have he : a = a / 20 * 20 := by omega
   have h1 := HB.out.2;rw [he] at h1 hp hs;exact BlkS.more h1 hp hs (by omega))
  have HS2 : Aside (SWK enc Z w blk off d2 w2) := S2;clear hp hs S2 HCALL;go_wp2_with fail;go_loopg [6] (n + 1) (fun gk s6 wr => ∃ (bs : Nat) (dk : Array α),s6 = .int .i64 bs ∧ 0 < bs ∧ bs < 2305843009213693952 ∧ n - bs ≤ gk ∧ Aside (SWK enc Z w blk off dk wr) ∧ Hid (PermIn 0 n d dk ∧ BlkS (ltOf cf) bs 0 n dk))
  case atStart => exact ⟨20,d2,rfl,by omega,by omega,by omega,HS2,HP.out⟩
  case round =>
   clear HS2 HP HB;obtain ⟨bs,dk,rfl,hbs,hbb,hgk2,S1,HB⟩ := hrel;by_cases hlt : bs < n
   ·have hltz : (bs : Int) < (n : Int) := by omega
    obtain ⟨b2,hb2⟩ : ∃ b2,b2 = 2 * bs := ⟨_,rfl⟩;have eb2 : 2 * (bs : Int) = (b2 : Int) := by omega
    have eb3 : (bs : Int) * 2 = (b2 : Int) := by omega
    have rb2 : IntKind.i64.wrap (b2 : Int) = (b2 : Int) := by rw [IntKind.wrap_i64];omega
    have HB2 := hide hb2;have hb2n : b2 < 2305843009213693952 := by omega
    have hbb2 : bs < b2 := by omega
    clear hb2;go_wp2_with fail;go_loopg [7,8] (n + 1) (fun gk s7 s8 wr => ∃ (a b : Nat) (dk : Array α),s7 = .int .i64 a ∧ s8 = .int .i64 b ∧ b = a + b2 ∧ a ≤ n ∧ n - a ≤ gk ∧ Aside (SWK enc Z w blk off dk wr) ∧ Hid (a % b2 = 0 ∧ PermIn 0 n d dk ∧ BlkS (ltOf cf) b2 0 a dk ∧ BlkS (ltOf cf) bs a n dk))
    case atStart => exact ⟨0,b2,dk,rfl,rfl,by omega,Nat.zero_le _,by omega,S1,Nat.zero_mod _,HB.out.1,fun i j h1 h2 h3 => by omega,HB.out.2⟩
    case round =>
     clear S1 HB;obtain ⟨a,b,dk,rfl,rfl,hab,han,hgk3,S1,HB⟩ := hrel;obtain ⟨m,hm⟩ : ∃ m,m = a + bs := ⟨_,rfl⟩;have em : (a : Int) + (bs : Int) = (m : Int) := by omega
     have rm : IntKind.i64.wrap (m : Int) = (m : Int) := by rw [IntKind.wrap_i64];omega
     have HM := hide hm;have ham : a < m := by omega
     have hmb : m < b := by omega
     have HAB := hide hab;clear hm hab;by_cases hle : b ≤ n
     ·have hlez : (b : Int) ≤ (n : Int) := by omega
      obtain ⟨c,hc⟩ : ∃ c,c = b + b2 := ⟨_,rfl⟩;have hcb : b ≤ c := by omega
      have ec : (b : Int) + (b2 : Int) = (c : Int) := by omega
      have rc : IntKind.i64.wrap (c : Int) = (c : Int) := by rw [IntKind.wrap_i64];omega
      have HC := hide hc;clear hc;have HS1 := hide (show SortedIn (ltOf cf) a m dk by
       have hm := HM.out;have hab := HAB.out;exact HB.out.2.2.2.half hbs (by rw [← HB2.out];exact HB.out.1) (.inl rfl) (by omega) (by omega))
      have HS2 := hide (show SortedIn (ltOf cf) m b dk by
       have hm := HM.out;have := HB2.out;have hab := HAB.out;exact HB.out.2.2.2.half hbs (by rw [← HB2.out];exact HB.out.1) (.inr hm) (by omega) (by omega))
      have HCALL := hide (HSYM.out a m b dk wr (by rw [HB.out.2.1.1,← HN.out]) S1.out ham hmb hle HS1.out HS2.out);clear S1;go_wp2_with fail;refine HCALL.out.mono ?_;rintro e w2 ⟨rfl,d3,hp,hs,S2⟩;have HP := hide (And.intro hp hs);have HS3 : Aside (SWK enc Z w blk off d3 w2) := S2;clear hp hs S2 HCALL;go_wp2_with fail;go_roundg (n - b)
      case measure => have hab := HAB.out;omega
      case rel =>
       have hab := HAB.out;refine ⟨b,c,d3,rfl,rfl,HC.out,hle,Nat.le_refl _,HS3,?_,permIn_trans _ _ _ _ _ HB.out.2.1 (permIn_mono _ _ _ _ _ _ (Nat.zero_le _) hle (by rw [HB.out.2.1.1,← HN.out];exact Nat.le_refl _) HP.out.1),?_,?_⟩
       ·rw [hab,Nat.add_mod_right];exact HB.out.1
       ·have h1 := HB.out.2.2.1;rw [HB2.out] at h1 ⊢;exact h1.up (by omega) hle HP.out.1 HP.out.2 (by rw [← HB2.out];exact HB.out.1) (by rw [← HB2.out];omega)
       exact BlkS.perm (fun i j h1 h2 h3 h4 => HB.out.2.2.2 i j (by omega) h2 h3 h4) HP.out.1 (.inr (Nat.le_refl _))
     have hlez : ¬ (b : Int) ≤ (n : Int) := by omega
     by_cases hmn : m < n
     ·have hmnz : (m : Int) < (n : Int) := by omega
      have HS1 := hide (show SortedIn (ltOf cf) a m dk by
       have hm := HM.out;have hab := HAB.out;exact HB.out.2.2.2.half hbs (by rw [← HB2.out];exact HB.out.1) (.inl rfl) (by omega) (by omega))
      have HS2 := hide (show SortedIn (ltOf cf) m n dk by
       have hm := HM.out;have := HB2.out;have hab := HAB.out;exact HB.out.2.2.2.half hbs (by rw [← HB2.out];exact HB.out.1) (.inr hm) (by omega) (Nat.le_refl _))
      have HCALL := hide (HSYM.out a m n dk wr (by rw [HB.out.2.1.1,← HN.out]) S1.out ham hmn (Nat.le_refl _) HS1.out HS2.out);clear S1;go_wp2_with fail;refine HCALL.out.mono ?_;rintro e w2 ⟨rfl,d3,hp,hs,S2⟩;have HP := hide (And.intro hp hs);have HS3 : Aside (SWK enc Z w blk off d3 w2) := S2;clear hp hs S2 HCALL;go_wp2_with fail;go_roundg (n - b2)
      case measure => omega
      case rel =>
       have hab := HAB.out;refine ⟨b2,d3,rfl,by omega,hb2n,Nat.le_refl _,HS3,permIn_trans _ _ _ _ _ HB.out.2.1 (permIn_mono _ _ _ _ _ _ (Nat.zero_le _) (Nat.le_refl _) (by rw [HB.out.2.1.1,← HN.out];exact Nat.le_refl _) HP.out.1),?_⟩;have h1 := HB.out.2.2.1;rw [HB2.out] at h1 ⊢;exact h1.up han (Nat.le_refl _) HP.out.1 HP.out.2 (by rw [← HB2.out];exact HB.out.1) (by rw [← HB2.out];omega)
     have hmnz : ¬ (m : Int) < (n : Int) := by omega
     go_wp2_with fail;go_roundg (n - b2)
     case measure => omega
     case rel =>
      have hab := HAB.out;refine ⟨b2,dk,rfl,by omega,hb2n,Nat.le_refl _,S1,HB.out.2.1,?_⟩;have h1 := HB.out.2.2.1;have hs : SortedIn (ltOf cf) a n dk := by
       have hm := HM.out;have hab := HAB.out;exact HB.out.2.2.2.half hbs (by rw [← HB2.out];exact HB.out.1) (.inl rfl) (by omega) (Nat.le_refl _)
      rw [HB2.out] at h1 ⊢;exact h1.up han (Nat.le_refl _) (permIn_refl _ _ _) hs (by rw [← HB2.out];exact HB.out.1) (by rw [← HB2.out];omega)
   have hltz : ¬ (bs : Int) < (n : Int) := by omega
   go_wp2_with fail;go_end0;exact ⟨rfl,dk,HB.out.1,HB.out.2.in_ (Nat.zero_le _) (Nat.le_refl _) (fun i h1 h2 => by rw [Nat.div_eq_of_lt (by omega),Nat.zero_div]),S1.out⟩
theorem sort_any (Z : Nat) (hz : ∀ w,(Go.sizeOf 115).run Tryz.prog w = .ok Z w) (enc : α → List Value) (cf : α → α → Int) (hS : SWO (ltOf cf)) (gc : Nat) (cb : Array Value) (eg : ∀ args w,(callFunc gc args).run Tryz.prog w = .ok (.enter gc args) w) (blk off cap : Nat) (d : Array α) (w : World) (R : RowK enc Z w blk off d) (hC : CmpLays Tryz.prog gc cb enc Z cf blk off d.size w) (hsz : d.size < 1152921504606846976) :
 Calls Tryz.prog 107 #[.slice (some ⟨blk,off,none⟩) d.size cap,.func (.func gc) #[] cb] w fun e w' => e = .returned (.tuple #[]) ∧ ∃ d',PermIn 0 d.size d d' ∧ SortedIn (ltOf cf) 0 d.size d' ∧ SWK enc Z w blk off d' w' := by
 have HST := hide (stable_any Z hz enc cf hS gc cb eg blk off cap d w R hC hsz);clear hC R hz eg hS;go_enter Tryz.func107,Tryz.ntmps107;go_wp2_with fail;refine HST.out.mono ?_;rintro e w2 ⟨rfl,d2,hp,hs,S2⟩;have HP := hide (And.intro hp (And.intro hs S2));clear hp hs S2;go_wp2_with fail;go_end0;exact ⟨rfl,d2,HP.out.1,HP.out.2.1,HP.out.2.2⟩
omit [Inhabited α] in
theorem ins_none (A : Option Addr) (cap : Nat) (fv : Value) (w : World) : Calls Tryz.prog 190 #[.slice A 0 cap,.int .i64 0,.int .i64 0,fv] w fun e w' => e = .returned (.tuple #[]) ∧ w' = w := by
 go_enter Tryz.func190,Tryz.ntmps190;go_wp2_with fail;go_loopg [8] 1 (fun gk s8 wr => s8 = .int .i64 1 ∧ w = wr)
 case atStart => exact ⟨rfl,rfl⟩
 case round =>
  obtain ⟨rfl,rfl⟩ := hrel;go_wp2_with fail;go_end0;exact ⟨rfl,rfl⟩
omit [Inhabited α] in
theorem sort_none (A : Option Addr) (cap : Nat) (fv : Value) (w : World) : Calls Tryz.prog 107 #[.slice A 0 cap,fv] w fun e w' => e = .returned (.tuple #[]) ∧ w' = w := by
 have hst : Calls Tryz.prog 157 #[.slice A 0 cap,.int .i64 0,fv] w fun e w' => e = .returned (.tuple #[]) ∧ w' = w := by
  have HI := hide (ins_none A cap fv w);go_enter Tryz.func157,Tryz.ntmps157;go_wp2_with fail;go_loopg [7,8] 1 (fun gk s7 s8 wr => s7 = .int .i64 0 ∧ s8 = .int .i64 20 ∧ w = wr)
  case atStart => exact ⟨rfl,rfl,rfl⟩
  case round =>
   obtain ⟨rfl,rfl,rfl⟩ := hrel;go_wp2_with fail;refine HI.out.mono ?_;rintro e w' ⟨rfl,rfl⟩;go_wp2_with fail;go_loopg [6] 1 (fun gk s6 wr => s6 = .int .i64 20 ∧ w' = wr)
   case atStart => exact ⟨rfl,rfl⟩
   case round =>
    obtain ⟨rfl,rfl⟩ := hrel;go_wp2_with fail;go_end0;exact ⟨rfl,rfl⟩
 have HST := hide hst;clear hst;go_enter Tryz.func107,Tryz.ntmps107;go_wp2_with fail;refine HST.out.mono ?_;rintro e w2 ⟨rfl,rfl⟩;go_wp2_with fail;go_end0;exact ⟨rfl,rfl⟩
end
section
open Go.Shelf Go.RowKit Go.Lib Go.Sort
structure Ent where
 b : List UInt8
 A : Option Addr
 c : Nat
 sz : Int
 d : Cv
abbrev Ent.cells (e : Ent) : Array Value := #[.slice e.A e.b.length e.c,.int .i64 e.sz,.int .i64 e.d.k,.int .u64 e.d.n,.slice e.d.aB e.d.nB e.d.cB,.slice e.d.aL e.d.nL e.d.cL,.slice e.d.aF e.d.nF e.d.cF]
def EntIn (w : World) (blk : Nat) (e : Ent) : Prop := Reads (fun p u => w.cell? p = some u ∧ p.block < w.heap.size ∧ p.block ≠ blk) 1 e.A e.b.length (u8s e.b)
abbrev EntS (w : World) (blk : Nat) := { e : Ent // EntIn w blk e }
def encE {w : World} {blk : Nat} (e : EntS w blk) : List Value := e.1.cells.toList
def cfE {w : World} {blk : Nat} (x y : EntS w blk) : Int := Lib.compareBytes x.1.b y.1.b
theorem encE_len {w : World} {blk : Nat} (e : EntS w blk) : (encE e).length = 7 := rfl
theorem encE_one {w : World} {blk : Nat} (e : EntS w blk) : ∀ v ∈ encE e,v.oneCell' = true := by simp [encE,Value.oneCell']
theorem ecmp_any (x y : Ent) (W : World) (hx : InB W x.A x.b) (hy : InB W y.A y.b) :
 Calls Tryz.prog 108 #[.agg x.cells,.agg y.cells] W fun e w' => e = .returned (.int .i64 (Lib.compareBytes x.b y.b)) ∧ w' = (W.alloc (.cells x.cells 115)).alloc (.cells y.cells 115) := by
 have hg := ((Grow.refl W).alloc (.cells x.cells 115)).alloc (.cells y.cells 115);have HC := hide (balg_anyV x.b y.b x.A y.A x.c y.c _ (hx.grow hg) (hy.grow hg));clear hx hy hg;obtain ⟨z,hz⟩ : ∃ z,Lib.compareBytes x.b y.b = z := ⟨_,rfl⟩;rw [hz] at HC ⊢;clear hz;go_enter Tryz.func108,Tryz.ntmps108;go_wp2_with fail;refine HC.out.mono ?_;rintro e w' ⟨rfl,rfl⟩;go_wp2_with fail;go_ret;exact ⟨rfl,rfl⟩
theorem EntIn.inB {w : World} {blk : Nat} {α : Type} [Inhabited α] {e : Ent} (h : EntIn w blk e) (enc : α → List Value) (k off m : Nat) (dk : Array α) (os : Array Obj) (hz : w.heap.size ≤ (sortWorldK enc k w blk off m dk os).heap.size) : InB (sortWorldK enc k w blk off m dk os) e.A e.b :=
 Reads.mono (fun p u hp => by
  refine ⟨?_,Nat.zero_le _,Nat.lt_of_lt_of_le hp.2.1 hz⟩;unfold sortWorldK;rw [cell?_grow _ _ _ (by rw [size_putRowK];exact hp.2.1),cell?_putRowK_other enc k _ blk off dk p hp.2.2];exact hp.1) h
theorem ecmp_lays (w : World) (blk off size : Nat) [Inhabited (EntS w blk)] : CmpLays Tryz.prog 108 #[] (encE (w := w) (blk := blk)) 7 cfE blk off size w := fun m os dk hdk x y => by
 refine (ecmp_any x.1 y.1 _ (x.2.inB _ _ _ _ _ _ (size_sortWorldK_c _ _ _ _ _ _ _ _)) (y.2.inB _ _ _ _ _ _ (size_sortWorldK_c _ _ _ _ _ _ _ _))).mono ?_;rintro e w' ⟨he,hw⟩;exact ⟨he,0,#[.cells x.1.cells 115,.cells y.1.cells 115],by rw [hw,alloc_eq_grow,alloc_eq_grow,grow_grow];rfl⟩
end
section
open Go.Shelf Go.RowKit Go.Lib Go.Sort
def ltB (a b : List UInt8) : Bool := decide (Lib.compareBytes a b < 0)
theorem ltB_nil_right (a : List UInt8) : ltB a [] = false := by cases a <;> simp [ltB,Lib.compareBytes]
theorem ltB_nil_cons (x : UInt8) (a : List UInt8) : ltB [] (x :: a) = true := by simp [ltB,Lib.compareBytes]
theorem ltB_cons (x y : UInt8) (a b : List UInt8) : ltB (x :: a) (y :: b) = (decide (x < y) || (x == y && ltB a b)) := by
 unfold ltB;rw [Lib.compareBytes];by_cases h1 : x < y
 ·simp [h1]
 by_cases h2 : x = y
 ·subst h2;simp [h1]
 have h3 : y < x := by
  rcases Nat.lt_trichotomy x.toNat y.toNat with h | h | h
  ·exact absurd (UInt8.lt_iff_toNat_lt.2 h) h1
  ·exact absurd (UInt8.toNat_inj.1 h) h2
  exact UInt8.lt_iff_toNat_lt.2 h
 simp [h1,h2,h3]
theorem ltB_irrefl : ∀ a : List UInt8,ltB a a = false
 | [] => ltB_nil_right []
 | x :: a => by rw [ltB_cons,ltB_irrefl a];simp
theorem ltB_trans : ∀ a b c : List UInt8,ltB a b = true → ltB b c = true → ltB a c = true
 | [],[],c,h,k => by rw [ltB_nil_right] at h;cases h
 | [],y :: b,[],h,k => by rw [ltB_nil_right] at k;cases k
 | [],y :: b,z :: c,h,k => ltB_nil_cons z c
 | x :: a,[],c,h,k => by rw [ltB_nil_right] at h;cases h
 | x :: a,y :: b,[],h,k => by rw [ltB_nil_right] at k;cases k
 | x :: a,y :: b,z :: c,h,k => by
  rw [ltB_cons] at h k ⊢;simp only [Bool.or_eq_true,decide_eq_true_eq,Bool.and_eq_true,beq_iff_eq] at h k ⊢;rcases h with h | ⟨rfl,h⟩
  ·rcases k with k | ⟨rfl,k⟩
   ·exact .inl (UInt8.lt_trans h k)
   exact .inl h
  rcases k with k | ⟨rfl,k⟩
  ·exact .inl k
  exact .inr ⟨rfl,ltB_trans a b c h k⟩
theorem ltB_total : ∀ a b : List UInt8,ltB a b = false → ltB b a = false → a = b
 | [],[],h,k => rfl
 | [],y :: b,h,k => by rw [ltB_nil_cons] at h;cases h
 | x :: a,[],h,k => by rw [ltB_nil_cons] at k;cases k
 | x :: a,y :: b,h,k => by
  rw [ltB_cons] at h k;simp only [Bool.or_eq_false_iff,decide_eq_false_iff_not,Bool.and_eq_false_iff,beq_eq_false_iff_ne] at h k;have hxy : x = y := by
   rcases Nat.lt_trichotomy x.toNat y.toNat with h' | h' | h'
   ·exact absurd (UInt8.lt_iff_toNat_lt.2 h') h.1
   ·exact UInt8.toNat_inj.1 h'
   exact absurd (UInt8.lt_iff_toNat_lt.2 h') k.1
  subst hxy;rw [ltB_total a b (by rcases h.2 with h' | h';exact absurd rfl h';exact h') (by rcases k.2 with h' | h';exact absurd rfl h';exact h')]
theorem ltB_swo : SWO ltB where
 irrefl := ltB_irrefl
 trans := ltB_trans
 ntrans := fun x y z h k => by
  cases hc : ltB x z with
  | false => rfl
  | true =>
   cases h1 : ltB y x with
   | false => rw [ltB_total x y h h1] at hc;rw [hc] at k;cases k
   | true => have := ltB_trans _ _ _ h1 hc;rw [this] at k;cases k
theorem cfE_swo {w : World} {blk : Nat} : SWO (ltOf (cfE (w := w) (blk := blk))) where
 irrefl := fun x => ltB_irrefl x.1.b
 trans := fun x y z h k => ltB_trans x.1.b y.1.b z.1.b h k
 ntrans := fun x y z h k => ltB_swo.ntrans x.1.b y.1.b z.1.b h k
end
end Go.Proofs.YtndjopkdbdcmdaaGreatDoor
