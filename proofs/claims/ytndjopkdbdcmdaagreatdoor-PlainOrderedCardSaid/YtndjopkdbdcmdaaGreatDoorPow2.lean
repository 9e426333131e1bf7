/- Part 2 of the proof of pordered_card. -/
import Derived.Test.YtndjopkdbdcmdaaGreatDoorPow1
import Derived.Laws.IdiomStrings
import Derived.MapKept
import Derived.Lib.BufferRead
import Derived.Deep.QuietTactic
import Derived.BigQuiet
import Derived.Shelf.Unicode.WordAny
import Derived.Deep.DeepBigQuietO
import Derived.Laws.IdiomCopy
import Derived.Lib.AppendZerosOnto
import Derived.Lib.Overlaps
set_option linter.unusedVariables false
set_option linter.unusedSimpArgs false
set_option maxRecDepth 100000
set_option maxHeartbeats 12800000
namespace Go.Proofs.YtndjopkdbdcmdaaGreatDoor
section
open Go.RowKit
def ixF : List UInt8 → Nat → Int
 | [],n => n
 | c :: r,n => if c.toNat < 48 ∨ 57 < c.toNat then -1 else ixF r (10 * n + (c.toNat - 48))
def ixN (s : List UInt8) : Int := if s = [] ∨ 4 < s.length ∨ (1 < s.length ∧ s.head? = some 48) then -1 else ixF s 0
theorem ixF_at (s : List UInt8) (j : Nat) (h : j < s.length) (n : Nat) : ixF (s.drop j) n = if s[j].toNat < 48 ∨ 57 < s[j].toNat then -1 else ixF (s.drop (j + 1)) (10 * n + (s[j].toNat - 48)) := by
 rw [List.drop_eq_getElem_cons h,ixF]
theorem bytes_get (s : ByteArray) (j : Nat) (h : j < s.size) : s[j] = s.data.toList[j]'(by simpa using h) := by
 show s.data[j] = _;simp
theorem toList_data (s : ByteArray) : s.toList = s.data.toList := by
 exact ByteArray.toList_eq s
theorem vindex_any (s : ByteArray) (w : World) : Calls Tryz.prog 91 #[.string s] w fun e w' => e = .returned (.int .i64 (ixN s.data.toList)) ∧ w = w' := by
 obtain ⟨z,hz⟩ : ∃ z,ixN s.data.toList = z := ⟨_,rfl⟩;rw [hz];have hlen : s.data.toList.length = s.size := by simp
 by_cases h0 : s.size = 0
 ·have he : s.data.toList = [] := List.length_eq_zero_iff.1 (by omega);have hz' : z = -1 := by rw [← hz,he];rfl
  have hse : s = ⟨#[]⟩ := by apply ByteArray.ext;apply Array.ext';exact he
  subst hse;subst hz';clear h0 hz he hlen;go_enter Tryz.func91,Tryz.ntmps91;go_wp2_with fail;go_ret;exact ⟨rfl,rfl⟩
 have hne : s.data.toList ≠ [] := fun h => h0 (by rw [← hlen,h];rfl)
 have hl1 : ¬ s.toList = [] := by
  intro h;have := toList_data s;rw [h] at this;exact hne this.symm
 have hl2 : s.toList.isEmpty = false := by simpa using hl1
 have hpos : 0 < s.size := by omega
 by_cases h4 : 4 < s.size
 ·have hz' : z = -1 := by rw [← hz];unfold ixN;rw [if_pos (.inr (.inl (by omega)))]
  subst hz';clear h0 hz hne hlen;go_enter Tryz.func91,Tryz.ntmps91;go_wp2_with fail;go_ret;exact ⟨rfl,rfl⟩
 obtain ⟨x,hx⟩ : ∃ x,s[0]'hpos = x := ⟨_,rfl⟩;have hx0 : s.data.toList.head? = some x := by
  rw [← hx,bytes_get s 0 hpos,List.head?_eq_getElem?,List.getElem?_eq_getElem]
 have hxl := x.toNat_lt;by_cases h1 : 1 < s.size ∧ x.toNat = 48
 ·have hz' : z = -1 := by
   rw [← hz];unfold ixN;rw [if_pos (.inr (.inr ⟨by omega,by rw [hx0];congr 1;apply UInt8.toNat_inj.1;exact h1.2⟩))]
  subst hz';obtain ⟨h1,h2⟩ := h1;have h2b : ((x.toNat : Int) == 48) = true := by simp;omega
  clear h0 hz hne hlen hx0 h2;go_enter Tryz.func91,Tryz.ntmps91;go_wp2_with fail;go_ret;exact ⟨rfl,rfl⟩
 have hz' : ixF s.data.toList 0 = z := by
  rw [← hz];unfold ixN;rw [if_neg];rintro (h | h | ⟨h,h'⟩)
  ·exact hne h
  ·omega
  exact h1 ⟨by omega,by rw [hx0] at h';injection h' with h';rw [h'];rfl⟩
 have HZ := hide hz';have hs1 : ¬ 1 < s.size ∨ (1 < s.size ∧ ((x.toNat : Int) == 48) = false) := by
  rcases Nat.lt_or_ge 1 s.size with h | h
  ·right;exact ⟨h,by simp;omega⟩
  left;omega
 clear hz hz' hne hlen hx0 h1 h0;have hs4 : s.size ≤ 4 := by omega
 have hsj : ∀ (n : Nat) (j : Nat),j < s.size → n < 10 ^ j → n ≤ 999 := fun n j h1 h2 => by
  have : 10 ^ j ≤ 10 ^ 3 := Nat.pow_le_pow_right (by omega) (by omega);omega
 have HSJ := hide hsj;clear hsj;rcases hs1 with hs1 | ⟨hs1,hs2⟩
 all_goals
  go_enter Tryz.func91,Tryz.ntmps91
  go_wp2_with fail
  go_loopg [3,24] (s.size + 1) (fun gk a i wr => w = wr ∧ ∃ (j n : Nat),j ≤ s.size ∧ gk + j = s.size + 1 ∧ i = .int .i64 j ∧ a = .int .i64 (n : Int) ∧ n < 10 ^ j ∧ ixF (s.data.toList.drop j) n = z)
  case atStart => exact ⟨rfl,0,0,by omega,by omega,rfl,rfl,by simp,HZ.out⟩
  case round =>
   obtain ⟨rfl,j,n,hj,hgk,rfl,rfl,hn,hf⟩ := hrel
   have HF := hide hf
   have HN := hide hn
   clear hf
   by_cases hlt : j < s.size
   ·obtain ⟨gk',rfl⟩ := gk_ gk (by omega)
    have hn9 := HSJ.out n j hlt hn
    clear hn
    have hstep := ixF_at s.data.toList j (by simpa using hlt) n
    rw [HF.out,← bytes_get s j hlt] at hstep
    obtain ⟨y,hy⟩ : ∃ y,s[j] = y := ⟨_,rfl⟩
    rw [hy] at hstep
    have HST := hide hstep
    have hyl := y.toNat_lt
    clear hstep
    by_cases c1 : y.toNat < 48
    ·have HE := hide (show z = -1 by rw [HST.out,if_pos (.inl c1)])
     go_wp2_with fail
     go_ret
     exact ⟨ret_int HE.out.symm,rfl⟩
    by_cases c2 : 57 < y.toNat
    ·have HE := hide (show z = -1 by rw [HST.out,if_pos (.inr c2)])
     go_wp2_with fail
     go_ret
     exact ⟨ret_int HE.out.symm,rfl⟩
    have HE := hide (show z = ixF (s.data.toList.drop (j + 1)) (10 * n + (y.toNat - 48)) by rw [HST.out,if_neg (by omega)])
    go_wp2_with fail
    go_roundg gk'
    case measure => omega
    case rel => exact ⟨rfl,j + 1,10 * n + (y.toNat - 48),by omega,by omega,by go_num,by go_num,by have := HN.out;rw [Nat.pow_succ];omega,HE.out.symm⟩
   obtain rfl : j = s.size := by omega
   have HE := hide (show z = (n : Int) by rw [← HF.out,List.drop_of_length_le (by simp)];rfl)
   clear hn
   go_wp2_with fail
   go_ret
   exact ⟨ret_int HE.out.symm,rfl⟩
end
section
open Go.RowKit
theorem under_u8 : Tryz.prog.underlying 5 = some (.int .u8) := by kernel_rfl
theorem conv_str {w : World} {A : Option Addr} {b : List UInt8} {lo hi : Nat} (c : Nat) (h : Reads (AtW w lo hi) 1 A b.length (u8s b)) :
 (convert 23 9 (.slice A b.length c)).run Tryz.prog w = .ok (.string ⟨b.toArray⟩) w := by
 rcases Nat.eq_zero_or_pos b.length with h0 | h0
 ·have : b = [] := List.eq_nil_of_length_eq_zero h0;subst this;rcases A with _ | ad
  ·exact Lib.run_convert_nil_bytes w _ _ _ c under_u8s under_u8 under_string
  exact run_convert_bytes_back w _ _ _ ad c [] under_u8s under_u8 under_string (fun j hj => absurd hj (by simp))
 obtain ⟨bk,o,rfl,hc⟩ := h.2 h0;refine run_convert_bytes_back w _ _ _ _ c b under_u8s under_u8 under_string (fun j hj => ?_);rw [add_lit];exact (hc j _ (u8s_get b j hj)).1
open Classical in
noncomputable def sameB (a b : V) : Bool := decide (a = b)
theorem sameB_self (a : V) : sameB a a = true := by simp [sameB]
theorem sameB_ne {a b : V} (h : a ≠ b) : sameB a b = false := by simp [sameB,h]
theorem sameB_iff {a b : V} : sameB a b = true ↔ a = b := by simp [sameB]
theorem str_beq (a b : ByteArray) : (a.toList == b.toList) = true ↔ a = b := by rw [← beq_toListBytes];exact MapKept.bytes_beq a b
theorem ret_bool {a b : Bool} (h : a = b) : Ending.returned (.bool a) = .returned (.bool b) := by rw [h]
theorem lists_eq {α : Type} {l l' : List α} (hl : l.length = l'.length) (h : ∀ i (h1 : i < l.length) (h2 : i < l'.length),l[i] = l'[i]) : l = l' := List.ext_getElem hl h
theorem same_head (k k' : Int) (n n' : Nat) (b b' : List UInt8) (l l' : List V) (f f' : List (ByteArray × V)) (c c' : Cv) (w : World) (hv : In w (.mk k n b l f) c) (hv' : In w (.mk k' n' b' l' f') c')
 (hne : k ≠ k' ∨ n ≠ n' ∨ b ≠ b' ∨ l.length ≠ l'.length ∨ f.length ≠ f'.length) :
 Calls Tryz.prog 26 #[c.agg,c'.agg] w fun e w' => e = .returned (.bool false) ∧ Grow w w' := by
 obtain ⟨aB,aL,aF,cB,cL,cF,rfl,h1,h2,h3,h4,h5,h6,h7,h8,h9,hb⟩ := hv.open;obtain ⟨aB',aL',aF',cB',cL',cF',rfl,h1',h2',h3',h4',h5',h6',h7',h8',h9',hb'⟩ := hv'.open;have hc1 : ∀ o1 o2 : Obj,(convert 23 9 (.slice aB b.length cB)).run Tryz.prog ((w.alloc o1).alloc o2) = .ok (.string ⟨b.toArray⟩) ((w.alloc o1).alloc o2) := fun o1 o2 => conv_str _ (hb.grow (((Grow.refl w).alloc o1).alloc o2))
 have hc2 : ∀ o1 o2 : Obj,(convert 23 9 (.slice aB' b'.length cB')).run Tryz.prog ((w.alloc o1).alloc o2) = .ok (.string ⟨b'.toArray⟩) ((w.alloc o1).alloc o2) := fun o1 o2 => conv_str _ (hb'.grow (((Grow.refl w).alloc o1).alloc o2))
 clear hv hv' hb hb' h1 h2 h3 h4 h5 h6 h7 h8 h9 h1' h2' h3' h4' h5' h6' h7' h8' h9';by_cases e1 : k = k'
 ·by_cases e2 : n = n'
  ·by_cases e3 : b = b'
   ·have hne2 := ((hne.resolve_left (fun h => h e1)).resolve_left (fun h => h e2)).resolve_left (fun h => h e3);clear hne;subst e1 e2 e3;by_cases e4 : l.length = l'.length
    ·have e5 : f.length ≠ f'.length := hne2.resolve_left (fun h => h e4);have t4 : ((l.length : Int) != (l'.length : Int)) = false := by simp [e4]
     have t5 : ((f.length : Int) != (f'.length : Int)) = true := by simp;omega
     clear hne2 e4 e5;go_enter Tryz.func26,Tryz.ntmps26;go_wp2_with fail;go_ret;exact ⟨rfl,((Grow.refl w).alloc _).alloc _⟩
    have t4 : ((l.length : Int) != (l'.length : Int)) = true := by simp;omega
    clear hne2 e4;go_enter Tryz.func26,Tryz.ntmps26;go_wp2_with fail;go_ret;exact ⟨rfl,((Grow.refl w).alloc _).alloc _⟩
   subst e1 e2;have t3 : (b == b') = false := by simpa using e3
   clear hne e3;go_enter Tryz.func26,Tryz.ntmps26;go_wp2_with fail;go_ret;exact ⟨rfl,((Grow.refl w).alloc _).alloc _⟩
  subst e1;have t2 : ((n : Int) != (n' : Int)) = true := by simp;omega
  clear hne e2;go_enter Tryz.func26,Tryz.ntmps26;go_wp2_with fail;go_ret;exact ⟨rfl,((Grow.refl w).alloc _).alloc _⟩
 have t1 : (k != k') = true := by simpa using e1
 clear hne e1;go_enter Tryz.func26,Tryz.ntmps26;go_wp2_with fail;go_ret;exact ⟨rfl,((Grow.refl w).alloc _).alloc _⟩
def SameC (x : V) : Prop := ∀ (y : V) (w : World) (c c' : Cv),In w x c → In w y c' →
 Calls Tryz.prog 26 #[c.agg,c'.agg] w fun e w' => e = .returned (.bool (sameB x y)) ∧ Grow w w'
theorem same_tail (k : Int) (n : Nat) (b : List UInt8) (l l' : List V) (f f' : List (ByteArray × V)) (c c' : Cv) (w : World) (hv : In w (.mk k n b l f) c) (hv' : In w (.mk k n b l' f') c')
 (hll : l.length = l'.length) (hff : f.length = f'.length) (hl : ∀ x ∈ l,SameC x) (hf : ∀ x ∈ f,SameC x.2) :
 Calls Tryz.prog 26 #[c.agg,c'.agg] w fun e w' => e = .returned (.bool (sameB (.mk k n b l f) (.mk k n b l' f'))) ∧ Grow w w' := by
 obtain ⟨aB,aL,aF,cB,cL,cF,rfl,h1,h2,h3,h4,h5,h6,h7,h8,h9,hb⟩ := hv.open;obtain ⟨aB',aL',aF',cB',cL',cF',rfl,h1',h2',h3',h4',h5',h6',h7',h8',h9',hb'⟩ := hv'.open;have hc1 : ∀ o1 o2 : Obj,(convert 23 9 (.slice aB b.length cB)).run Tryz.prog ((w.alloc o1).alloc o2) = .ok (.string ⟨b.toArray⟩) ((w.alloc o1).alloc o2) := fun o1 o2 => conv_str _ (hb.grow (((Grow.refl w).alloc o1).alloc o2))
 have hc2 : ∀ o1 o2 : Obj,(convert 23 9 (.slice aB' b.length cB')).run Tryz.prog ((w.alloc o1).alloc o2) = .ok (.string ⟨b.toArray⟩) ((w.alloc o1).alloc o2) := fun o1 o2 => conv_str _ (hb'.grow (((Grow.refl w).alloc o1).alloc o2))
 have HV := hide hv;have HV' := hide hv';have Hl := hide hl;have Hf := hide hf;have t4 : ((l.length : Int) != (l'.length : Int)) = false := by simp [hll]
 have t5 : ((f.length : Int) != (f'.length : Int)) = false := by simp [hff]
 have hll2 : l.length ≤ l'.length := by omega
 have hff2 : f.length ≤ f'.length := by omega
 have HLL := hide hll;have HFF := hide hff;clear hv hv' hb hb' h1 h2 h3 h4 h5 h6 h8 h1' h2' h3' h4' h5' h6' h8' hl hf hll hff;go_enter Tryz.func26,Tryz.ntmps26;go_wp2_with fail;clear hc1 hc2 t4 t5;go_loopg [5] (l.length + 1) (fun gk i wr => ∃ j : Nat,j ≤ l.length ∧ gk + j = l.length + 1 ∧ i = .int .i64 j ∧ (∀ i (h1 : i < l.length) (h2 : i < l'.length),i < j → l[i] = l'[i]) ∧ Grow w wr ∧
  Blk wr w.heap.size 27 (Cv.cells ⟨k,(n : Int),aB,b.length,cB,aL,l.length,cL,aF,f.length,cF⟩) ∧ Blk wr (w.heap.size + 1) 27 (Cv.cells ⟨k,(n : Int),aB',b.length,cB',aL',l'.length,cL',aF',f'.length,cF'⟩))
 case atStart => exact ⟨0,by omega,by omega,rfl,fun i _ _ h => absurd h (by omega),((Grow.refl w).alloc _).alloc _,(Blk.new _ _ _).alloc _,Blk.new' (by simp) _ _⟩
 case round =>
  obtain ⟨j,hj,hg,rfl,heq,hw,hB,hB'⟩ := hrel;obtain ⟨gk',rfl⟩ := gk_ gk (by omega);have hc3 := hB.cell;have hc3' := hB'.cell;have HW := hide hw;have HEQ := hide heq;have HB := hide hB;have HB' := hide hB';by_cases hlt : j < l.length
  ·have hlt' : j < l'.length := by omega
   obtain ⟨bk,o,x,ha,hbk,e0,e1,e2,e3,e4,hx⟩ := (HV.out.grow hw).elemL j hlt;obtain ⟨bk',o',x',ha',hbk',e0',e1',e2',e3',e4',hx'⟩ := (HV'.out.grow hw).elemL j hlt';dsimp only at ha ha';subst ha ha';have HX := hide hx;have HX' := hide hx';have Hlj := hide (Hl.out _ (List.getElem_mem hlt));clear hw hx hx' hB hB' heq;have hz0 : w.heap.size < wr.heap.size := HB.out.lt;have hz1 : w.heap.size + 1 < wr.heap.size := HB'.out.lt;by_cases he : l[j] = l'[j]
   ·have hs : sameB l[j] l'[j] = true := sameB_iff.2 he;have HE := hide he;clear he;go_wp2_with fail;go_region_held3 (fun w' => ∀ b o,b < wr.heap.size → w'.cell? ⟨b,o,none⟩ = wr.cell? ⟨b,o,none⟩) (first | exact fun _ _ _ => rfl | exact fun b o h => hgr.below.cell (p := ⟨b,o,none⟩) h)
     (first | (go_at_call 26;refine (Hlj.out _ _ x x' (HX.out.grow (Grow.refl wr).drew) (HX'.out.grow (Grow.refl wr).drew)).mono ?_;rintro e w2 ⟨rfl,hb2⟩;have hgr : Grow wr w2 := (Grow.refl wr).drew.trans hb2))
    have HGR := hide hgr;clear hgr hb2;go_wp2_with fail;go_roundg gk'
    case measure => omega
    case rel =>
     refine ⟨j + 1,by omega,by omega,by go_num,fun i h1 h2 h3 => ?_,HW.out.trans HGR.out,HB.out.grow HGR.out,HB'.out.grow HGR.out⟩;rcases Nat.lt_or_ge i j with h | h
     ·exact HEQ.out i h1 h2 h
     obtain rfl : i = j := by omega
     exact HE.out
   have hs : sameB l[j] l'[j] = false := sameB_ne he;have HE := hide he;clear he;go_wp2_with fail;go_region_held3 (fun w' => ∀ b o,b < wr.heap.size → w'.cell? ⟨b,o,none⟩ = wr.cell? ⟨b,o,none⟩) (first | exact fun _ _ _ => rfl | exact fun b o h => hgr.below.cell (p := ⟨b,o,none⟩) h)
    (first | (go_at_call 26;refine (Hlj.out _ _ x x' (HX.out.grow (Grow.refl wr).drew) (HX'.out.grow (Grow.refl wr).drew)).mono ?_;rintro e w2 ⟨rfl,hb2⟩;have hgr : Grow wr w2 := (Grow.refl wr).drew.trans hb2))
   have HGR := hide hgr;clear hgr hb2;go_wp2_with fail;go_ret;refine ⟨ret_bool (sameB_ne (fun h => HE.out ?_)).symm,HW.out.trans HGR.out⟩;injection h with _ _ _ h _;subst h;rfl
  obtain rfl : j = l.length := by omega
  have hll : l = l' := lists_eq HLL.out (fun i h1 h2 => HEQ.out i h1 h2 h1);clear hw hB hB' heq HEQ;go_wp2_with fail;go_loopg [6] (f.length + 1) (fun gk i wr => ∃ j : Nat,j ≤ f.length ∧ gk + j = f.length + 1 ∧ i = .int .i64 j ∧ (∀ i (h1 : i < f.length) (h2 : i < f'.length),i < j → f[i] = f'[i]) ∧ Grow w wr ∧
   Blk wr w.heap.size 27 (Cv.cells ⟨k,(n : Int),aB,b.length,cB,aL,l.length,cL,aF,f.length,cF⟩) ∧ Blk wr (w.heap.size + 1) 27 (Cv.cells ⟨k,(n : Int),aB',b.length,cB',aL',l'.length,cL',aF',f'.length,cF'⟩))
  case atStart => exact ⟨0,by omega,by omega,rfl,fun i _ _ h => absurd h (by omega),HW.out,HB.out,HB'.out⟩
  case round =>
   obtain ⟨j,hj,hg,rfl,heq,hw,hB,hB'⟩ := hrel;obtain ⟨gk',rfl⟩ := gk_ gk (by omega);clear hc3 hc3';have hc4 := hB.cell;have hc4' := hB'.cell;have HW := hide hw;have HEQ := hide heq;have HB := hide hB;have HB' := hide hB';have HLq := hide hll;clear hll;by_cases hlt : j < f.length
   ·have hlt' : j < f'.length := by omega
    obtain ⟨bk,o,x,ha,hbk,es,esz,e0,e1,e2,e3,e4,hx⟩ := (HV.out.grow hw).elemF j hlt;obtain ⟨bk',o',x',ha',hbk',es',esz',e0',e1',e2',e3',e4',hx'⟩ := (HV'.out.grow hw).elemF j hlt';dsimp only at ha ha';subst ha ha';have HX := hide hx;have HX' := hide hx';have Hfj := hide (Hf.out _ (List.getElem_mem hlt));have hz0 : w.heap.size < wr.heap.size := HB.out.lt;have hz1 : w.heap.size + 1 < wr.heap.size := HB'.out.lt;clear hw hx hx' hB hB' heq esz esz';by_cases hn : f[j].1 = f'[j].1
    ·have hn1 : (f[j].1.toList == f'[j].1.toList) = true := (str_beq _ _).2 hn;have hn2 : (f[j].1.toList != f'[j].1.toList) = false := by rw [bne,hn1];rfl
     have HN := hide hn;clear hn;by_cases he : f[j].2 = f'[j].2
     ·have hs : sameB f[j].2 f'[j].2 = true := sameB_iff.2 he;have HE := hide he;clear he;go_wp2_with fail;go_region_held3 (fun w' => ∀ b o,b < wr.heap.size → w'.cell? ⟨b,o,none⟩ = wr.cell? ⟨b,o,none⟩) (first | exact fun _ _ _ => rfl | exact fun b o h => hgr.below.cell (p := ⟨b,o,none⟩) h)
       (first | (go_at_call 26;refine (Hfj.out _ _ x x' (HX.out.grow (Grow.refl wr).drew) (HX'.out.grow (Grow.refl wr).drew)).mono ?_;rintro e w2 ⟨rfl,hb2⟩;have hgr : Grow wr w2 := (Grow.refl wr).drew.trans hb2))
      have HGR := hide hgr;clear hgr hb2;go_wp2_with fail;go_roundg gk'
      case measure => omega
      case rel =>
       refine ⟨j + 1,by omega,by omega,by go_num,fun i h1 h2 h3 => ?_,HW.out.trans HGR.out,HB.out.grow HGR.out,HB'.out.grow HGR.out⟩;rcases Nat.lt_or_ge i j with h | h
       ·exact HEQ.out i h1 h2 h
       obtain rfl : i = j := by omega
       exact Prod.ext HN.out HE.out
     have hs : sameB f[j].2 f'[j].2 = false := sameB_ne he;have HE := hide he;clear he;go_wp2_with fail;go_region_held3 (fun w' => ∀ b o,b < wr.heap.size → w'.cell? ⟨b,o,none⟩ = wr.cell? ⟨b,o,none⟩) (first | exact fun _ _ _ => rfl | exact fun b o h => hgr.below.cell (p := ⟨b,o,none⟩) h)
      (first | (go_at_call 26;refine (Hfj.out _ _ x x' (HX.out.grow (Grow.refl wr).drew) (HX'.out.grow (Grow.refl wr).drew)).mono ?_;rintro e w2 ⟨rfl,hb2⟩;have hgr : Grow wr w2 := (Grow.refl wr).drew.trans hb2))
     have HGR := hide hgr;clear hgr hb2;go_wp2_with fail;go_ret;refine ⟨ret_bool (sameB_ne (fun h => HE.out ?_)).symm,HW.out.trans HGR.out⟩;injection h with _ _ _ _ h;subst h;rfl
    have hn1 : (f[j].1.toList == f'[j].1.toList) = false := by
     rw [Bool.eq_false_iff];exact fun h => hn ((str_beq _ _).1 h)
    have hn2 : (f[j].1.toList != f'[j].1.toList) = true := by rw [bne,hn1];rfl
    have HN := hide hn;clear hn;go_wp2_with fail;go_quiet (fail);go_wp2_with fail;go_ret;refine ⟨ret_bool (sameB_ne (fun h => HN.out ?_)).symm,HW.out.drewN _⟩;injection h with _ _ _ _ h;subst h;rfl
   obtain rfl : j = f.length := by omega
   have hff : f = f' := lists_eq HFF.out (fun i h1 h2 => HEQ.out i h1 h2 h1);have HFq := hide hff;clear hw hB hB' heq HEQ hff;go_wp2_with fail;go_ret;exact ⟨ret_bool (by rw [HLq.out,HFq.out,sameB_self]),HW.out⟩
theorem same_any (x : V) : SameC x := by
 induction x using V.ind with
 | h k n b l f hl hf =>
  intro y w c c' hv hv';obtain ⟨k',n',b',l',f'⟩ := y;by_cases hne : k ≠ k' ∨ n ≠ n' ∨ b ≠ b' ∨ l.length ≠ l'.length ∨ f.length ≠ f'.length
  ·refine (same_head k k' n n' b b' l l' f f' c c' w hv hv' hne).mono ?_;rintro e w' ⟨rfl,hg⟩;refine ⟨ret_bool (sameB_ne (fun h => ?_)).symm,hg⟩;injection h with h1 h2 h3 h4 h5;subst h1 h2 h3 h4 h5;simp at hne
  have h1 : k = k' := Decidable.byContradiction fun h => hne (.inl h)
  have h2 : n = n' := Decidable.byContradiction fun h => hne (.inr (.inl h))
  have h3 : b = b' := Decidable.byContradiction fun h => hne (.inr (.inr (.inl h)))
  have h4 : l.length = l'.length := Decidable.byContradiction fun h => hne (.inr (.inr (.inr (.inl h))))
  have h5 : f.length = f'.length := Decidable.byContradiction fun h => hne (.inr (.inr (.inr (.inr h))))
  clear hne;subst h1 h2 h3;exact same_tail k n b l l' f f' c c' w hv hv' h4 h5 hl hf
theorem In.zero_ (w : World) : In w V.zero Cv.zero := by
 unfold In V.zero;rw [IsV];exact ⟨rfl,rfl,rfl,rfl,rfl,by omega,by omega,by omega,by simp,by simp,by simp,by simp,by simp,by simp,⟨rfl,fun h => absurd h (by simp)⟩,fun i h => absurd h (by simp),fun i h => absurd h (by simp)⟩
end
section
open Go.RowKit
theorem sum_take {α : Type} (g : α → Nat) (l : List α) (j : Nat) (h : j < l.length) : ((l.take (j + 1)).map g).sum = ((l.take j).map g).sum + g l[j] := by
 rw [take_snoc l j h,List.map_append,List.sum_append];simp
theorem sum_take_le {α : Type} (g : α → Nat) (l : List α) (j : Nat) : ((l.take j).map g).sum ≤ (l.map g).sum := by
 have : l.map g = (l.take j).map g ++ (l.drop j).map g := by rw [← List.map_append,List.take_append_drop]
 rw [this,List.sum_append];omega
theorem V.count_pos (v : V) : 1 ≤ v.count := by obtain ⟨k,n,b,l,f⟩ := v;rw [V.count_mk];omega
theorem ret_ib {k : IntKind} {a b : Int} {p q : Bool} (h : a = b) (h' : p = q) : Ending.returned (.tuple #[.int k a,.bool p]) = .returned (.tuple #[.int k b,.bool q]) := by rw [h,h']
def Walked (w : World) (n : Nat) (left : Int) (e : Ending) (w' : World) : Prop :=
 ∃ r : Int,e = .returned (.tuple #[.int .i64 r,.bool (decide ((n : Int) < left))]) ∧ ((n : Int) < left → r = left - n) ∧ Grow w w'
theorem walked_any (v : V) : ∀ (left : Int) (w : World) (c : Cv),1 ≤ left → left ≤ 20000 → In w v c →
 Calls Tryz.prog 34 #[c.agg,.int .i64 left] w (Walked w v.count left) := by
 induction v using V.ind with
 | h k n b l f hl hf =>
  intro left w c hl1 hl2 hv;have HV := hide hv;obtain ⟨aB,aL,aF,cB,cL,cF,rfl,h1,h2,h3,h4,h5,h6,h7,h8,h9,hb⟩ := hv.open;have Hl := hide hl;have Hf := hide hf;rw [V.count_mk];obtain ⟨SL,hSL⟩ : ∃ SL,SL = (l.map V.count).sum := ⟨_,rfl⟩;obtain ⟨SF,hSF⟩ : ∃ SF,SF = (f.map fun x => x.2.count).sum := ⟨_,rfl⟩;rw [← hSL,← hSF];have HSL := hide hSL;have HSF := hide hSF;clear hb h1 h2 h3 hl hf h4 h5 hv hSL hSF;go_enter Tryz.func34,Tryz.ntmps34;go_wp2_with fail;go_loopg [1,6] (l.length + 1) (fun gk t i wr => ∃ (j : Nat) (T : Int),j ≤ l.length ∧ gk + j = l.length + 1 ∧ i = .int .i64 j ∧ t = .int .i64 T ∧ 0 ≤ T ∧ T ≤ left ∧ T + 1 + ((((l.take j).map V.count).sum : Nat) : Int) = left ∧ Grow w wr ∧
   Blk wr w.heap.size 27 (Cv.cells ⟨k,(n : Int),aB,b.length,cB,aL,l.length,cL,aF,f.length,cF⟩))
  case atStart => exact ⟨0,left - 1,by omega,by omega,rfl,rfl,by omega,by omega,by simp,(Grow.refl w).alloc _,Blk.new _ _ _⟩
  case round =>
   obtain ⟨j,T,hj,hg,rfl,rfl,hT0,hT1,hT2,hw,hB⟩ := hrel;obtain ⟨gk',rfl⟩ := gk_ gk (by omega);have hc3 := hB.cell;have HW := hide hw;have HB := hide hB;have HT2 := hide hT2;clear hT2;by_cases hgo : j < l.length ∧ 0 < T
   ·obtain ⟨hlt,hTp⟩ := hgo;obtain ⟨bk,o,x,ha,hbk,e0,e1,e2,e3,e4,hx⟩ := (HV.out.grow hw).elemL j hlt;dsimp only at ha;subst ha;have hs := sum_take V.count l j hlt;have HS := hide hs;have hle := sum_take_le V.count l (j + 1);rw [hs,← HSL.out] at hle;have HX := hide hx;have hcp := V.count_pos l[j];have HC := hide (Hl.out _ (List.getElem_mem hlt) T wr x (by omega) (by omega) hx);clear hw hx hB hs;go_wp2_with fail;refine HC.out.mono ?_;rintro e w2 ⟨r,rfl,hr,hb2⟩;have HGR := hide hb2;clear hb2;have hc4 := (HB.out.grow HGR.out).cell;by_cases hlt2 : ((l[j].count : Nat) : Int) < T
    ·have hd : decide (((l[j].count : Nat) : Int) < T) = true := decide_eq_true hlt2;have HR := hide (hr hlt2);clear hr;go_wp2_with fail;go_roundg gk'
     case measure => omega
     case rel =>
      have h1 := HR.out;have h2 := HT2.out;have h3 := HS.out;exact ⟨j + 1,r,by omega,by omega,by go_num,rfl,by omega,by omega,by rw [h3];push_cast;omega,HW.out.trans HGR.out,HB.out.grow HGR.out⟩
    have hd : decide (((l[j].count : Nat) : Int) < T) = false := decide_eq_false hlt2;clear hr;go_wp2_with fail;go_ret2;have h2 := HT2.out;have hfin : ¬ (((1 + SL + SF : Nat) : Int) < left) := by push_cast;omega
    exact ⟨0,ret_ib rfl (decide_eq_false hfin).symm,fun h => absurd h hfin,HW.out.trans HGR.out⟩
   have hpost : ∃ T' : Int,T' = T ∧ ((T' + 1 + (SL : Int) = left) ∨ (T' = 0 ∧ left ≤ 1 + (SL : Int))) := by
    have h2 := HT2.out;by_cases hlt : j < l.length
    ·have h0 : T = 0 := by omega
     have hle := sum_take_le V.count l j;rw [← HSL.out] at hle;exact ⟨T,rfl,.inr ⟨h0,by omega⟩⟩
    obtain rfl : j = l.length := by omega
    rw [List.take_length,← HSL.out] at h2;exact ⟨T,rfl,.inl h2⟩
   obtain ⟨T',rfl,hpost⟩ := hpost;have HP := hide hpost;clear hw hB hpost;by_cases hjl : j < l.length
   all_goals
    have hT' : j < l.length → T' ≤ 0 := fun h => by omega
    clear hgo
    first
    | (have h := hT' hjl;clear hT')
    | clear hT'
    go_wp2_with fail
    go_loopg [1,9] (f.length + 1) (fun gk t i wr => ∃ (j : Nat) (T : Int),j ≤ f.length ∧ gk + j = f.length + 1 ∧ i = .int .i64 j ∧ t = .int .i64 T ∧ 0 ≤ T ∧ T ≤ left ∧ ((T + 1 + (SL : Int) + ((((f.take j).map fun x => x.2.count).sum : Nat) : Int) = left) ∨ (T = 0 ∧ left ≤ 1 + (SL : Int))) ∧ Grow w wr ∧
     Blk wr w.heap.size 27 (Cv.cells ⟨k,(n : Int),aB,b.length,cB,aL,l.length,cL,aF,f.length,cF⟩))
    case atStart => exact ⟨0,T',by omega,by omega,rfl,rfl,by omega,by omega,by simpa using HP.out,HW.out,HB.out⟩
    case round =>
     obtain ⟨j,T,hj,hg,rfl,rfl,hT0,hT1,hT2,hw,hB⟩ := hrel
     obtain ⟨gk',rfl⟩ := gk_ gk (by omega)
     clear hc3
     have hc5 := hB.cell
     have HW := hide hw
     have HB := hide hB
     have HT2 := hide hT2
     clear hT2
     by_cases hgo : j < f.length ∧ 0 < T
     ·obtain ⟨hlt,hTp⟩ := hgo
      have HT3 := hide (HT2.out.resolve_right (fun h => by omega))
      obtain ⟨bk,o,x,ha,hbk,es,esz,e0,e1,e2,e3,e4,hx⟩ := (HV.out.grow hw).elemF j hlt
      dsimp only at ha
      subst ha
      have hs := sum_take (fun x : ByteArray × V => x.2.count) f j hlt
      have HS := hide hs
      have hle := sum_take_le (fun x : ByteArray × V => x.2.count) f (j + 1)
      rw [hs,← HSF.out] at hle
      have HX := hide hx
      have hcp := V.count_pos f[j].2
      have HC := hide (Hf.out _ (List.getElem_mem hlt) T wr x (by omega) (by omega) hx)
      clear hw hx hB hs es esz
      go_wp2_with fail
      refine HC.out.mono ?_
      rintro e w2 ⟨r,rfl,hr,hb2⟩
      have HGR := hide hb2
      clear hb2
      have hc4 := (HB.out.grow HGR.out).cell
      by_cases hlt2 : ((f[j].2.count : Nat) : Int) < T
      ·have hd : decide (((f[j].2.count : Nat) : Int) < T) = true := decide_eq_true hlt2
       have HR := hide (hr hlt2)
       clear hr
       go_wp2_with fail
       go_roundg gk'
       case measure => omega
       case rel =>
        have h1 := HR.out
        have h2 := HT3.out
        have h3 := HS.out
        exact ⟨j + 1,r,by omega,by omega,by go_num,rfl,by omega,by omega,.inl (by rw [h3];push_cast;omega),HW.out.trans HGR.out,HB.out.grow HGR.out⟩
      have hd : decide (((f[j].2.count : Nat) : Int) < T) = false := decide_eq_false hlt2
      clear hr
      go_wp2_with fail
      go_ret2
      have h2 := HT3.out
      have hfin : ¬ (((1 + SL + SF : Nat) : Int) < left) := by push_cast;omega
      exact ⟨0,ret_ib rfl (decide_eq_false hfin).symm,fun h => absurd h hfin,HW.out.trans HGR.out⟩
     have hpost : (T = left - ((1 + SL + SF : Nat) : Int)) ∨ (T = 0 ∧ ¬ (((1 + SL + SF : Nat) : Int) < left)) := by
      rcases HT2.out with h2 | h2
      ·by_cases hlt : j < f.length
       ·have h0 : T = 0 := by omega
        have hle := sum_take_le (fun x : ByteArray × V => x.2.count) f (j + 1)
        rw [sum_take _ _ _ hlt,← HSF.out] at hle
        have hcp := V.count_pos f[j].2
        exact .inr ⟨h0,by push_cast;omega⟩
       obtain rfl : j = f.length := by omega
       rw [List.take_length,← HSF.out] at h2
       exact .inl (by push_cast;omega)
      exact .inr ⟨h2.1,by push_cast;omega⟩
     have HP2 := hide hpost
     clear hw hB hpost
     by_cases hjf : j < f.length
     all_goals
      have hT' : j < f.length → T ≤ 0 := fun h => by omega
      clear hgo
      first
      | (have h := hT' hjf;clear hT')
      | clear hT'
      go_wp2_with fail
      go_ret2
      refine ⟨T,ret_ib rfl ?_,fun h => ?_,HW.out⟩
      ·rcases HP2.out with h | h
       ·rw [h];exact decide_eq_decide.2 ⟨fun h => by omega,fun h => by omega⟩
       rw [decide_eq_false (Int.not_lt.2 h.2),h.1];rfl
      rcases HP2.out with h' | h'
      ·exact h'
      exact absurd h (Int.not_lt.2 h'.2)
abbrev lcv (A : Option Addr) (n cap : Nat) : Cv := ⟨7,0,none,0,0,A,n,cap,none,0,0⟩
def InL (w : World) (A : Option Addr) (cap : Nat) (vs : List V) : Prop := In w (.mk 7 0 [] vs []) (lcv A vs.length cap)
theorem InL.grow {w w' : World} {A : Option Addr} {cap : Nat} {vs : List V} (h : InL w A cap vs) (hg : Grow w w') : InL w' A cap vs := In.grow h hg
end
section
open Go.RowKit Go.Shelf
theorem utf8word_any (x0 x1 x2 x3 x4 x5 x6 x7 : UInt8) (bk o n cap : Nat) (w : World) (hn : 8 ≤ n)
 (c0 : w.cell? ⟨bk,o,none⟩ = some (.int .u8 (x0.toNat : Int)))
 (c1 : w.cell? ⟨bk,o + 1,none⟩ = some (.int .u8 (x1.toNat : Int)))
 (c2 : w.cell? ⟨bk,o + 2,none⟩ = some (.int .u8 (x2.toNat : Int)))
 (c3 : w.cell? ⟨bk,o + 3,none⟩ = some (.int .u8 (x3.toNat : Int)))
 (c4 : w.cell? ⟨bk,o + 4,none⟩ = some (.int .u8 (x4.toNat : Int)))
 (c5 : w.cell? ⟨bk,o + 5,none⟩ = some (.int .u8 (x5.toNat : Int)))
 (c6 : w.cell? ⟨bk,o + 6,none⟩ = some (.int .u8 (x6.toNat : Int)))
 (c7 : w.cell? ⟨bk,o + 7,none⟩ = some (.int .u8 (x7.toNat : Int))) :
 Calls Tryz.prog 129 #[.slice (some ⟨bk,o,none⟩) n cap] w fun e w' => e = .returned (.int .u64 (Lib.leNat [x0,x1,x2,x3,x4,x5,x6,x7])) ∧ ∃ q,w' = w.drewN q := by
 have h0 := x0.toNat_lt;have h1 := x1.toNat_lt;have h2 := x2.toNat_lt;have h3 := x3.toNat_lt;have h4 := x4.toNat_lt;have h5 := x5.toNat_lt;have h6 := x6.toNat_lt;have h7 := x7.toNat_lt;have hv : ((Lib.leNat [x0,x1,x2,x3,x4,x5,x6,x7] : Nat) : Int) = (x0.toNat : Int) + (x1.toNat : Int) * 256 + (x2.toNat : Int) * 65536 + (x3.toNat : Int) * 16777216 + (x4.toNat : Int) * 4294967296 + (x5.toNat : Int) * 1099511627776 + (x6.toNat : Int) * 281474976710656 + (x7.toNat : Int) * 72057594037927936 := by
  simp only [Lib.leNat];push_cast;omega
 go_enter Tryz.func129,Tryz.ntmps129;go_wp2_with fail;go_quiet (fail);go_wp2;go_ret;refine ⟨?_,_,rfl⟩;simp (disch := omega) only [u64_or8,u64_or16,u64_or24,u64_or32,u64_or40,u64_or48,u64_or56];rw [hv];rfl
end
section
open V
structure Rq where
 do_ : Int
 coll : ByteArray
 index : ByteArray
 path : ByteArray
 unique : Bool
 key : V
 low : V
 high : V
 doc : V
 n : Int
structure Rp where
 e : Int
 n : Int
 docs : List V
 cursor : Int
def Rp.zero : Rp := ⟨0,0,[],0⟩
abbrev rqCells (d : Int) (c i p : ByteArray) (u : Bool) (k l h x : Cv) (n : Int) : Array Value :=
 #[.int .i64 d,.string c,.string i,.string p,.bool u,.int .i64 k.k,.int .u64 k.n,.slice k.aB k.nB k.cB,.slice k.aL k.nL k.cL,.slice k.aF k.nF k.cF,
  .int .i64 l.k,.int .u64 l.n,.slice l.aB l.nB l.cB,.slice l.aL l.nL l.cL,.slice l.aF l.nF l.cF,.int .i64 h.k,.int .u64 h.n,.slice h.aB h.nB h.cB,.slice h.aL h.nL h.cL,.slice h.aF h.nF h.cF,
  .int .i64 x.k,.int .u64 x.n,.slice x.aB x.nB x.cB,.slice x.aL x.nL x.cL,.slice x.aF x.nF x.cF,.int .i64 n]
abbrev rpCells (e n : Int) (A : Option Addr) (l c : Nat) (k : Int) : Array Value := #[.int .i64 e,.int .i64 n,.slice A l c,.int .i64 k]
end
section
open Go.RowKit
section
variable {P : Program}
theorem run_copy_cellsZ (w : World) (dT sT ty elem : TypeId) (z g o dLen dCap : Nat) (a : Addr) (sLen sCap : Nat) (cs : List Value)
 (hu : P.underlying dT = some (.slice elem)) (hs : (P.info? elem).map (·.size) = some z) (hn : cs.length = Nat.min sLen dLen * z)
 (hsrc : ∀ j v,cs[j]? = some v → w.cell? (a.add j) = some v) (hc : ∀ j,j < cs.length → (w.cell? ⟨g,o + j,none⟩).isSome = true) (hf : ∀ j,j < cs.length → w.frozen? ⟨g,o + j,none⟩ = false) (h1 : ∀ v ∈ cs,v.oneCell' = true) :
 (Builtin.copy_ #[dT,sT] ty #[.slice (some ⟨g,o,none⟩) dLen dCap,.slice (some a) sLen sCap]).run P w = .ok (goInt (Nat.min sLen dLen)) (w.setCells g o cs) := by
 have hl := run_loadCells_list (P := P) w a cs hsrc;have hst := run_storeCells_cells (P := P) g o cs 0 w (by simpa using hc) (by simpa using hf) h1;simp only [Nat.add_zero] at hst
 cases hq : P.info? elem with
 | none => simp [hq] at hs
 | some i =>
  have hi : i.size = z := by simpa [hq] using hs
  simp [Builtin.copy_,run_underlying hu,Builtin.lenOf,Builtin.firstCells,sizeOf,typeInfo,hq,hi,← hn,hl,hst]
theorem zeroCells_one (zs : Array Value) : (Builtin.zeroCells zs 1).toList = zs.toList := by
 apply List.ext_getElem
 ·simp [Builtin.zeroCells]
 intro i h1 h2;have hi : i < zs.size := by simpa using h2
 simp [Builtin.zeroCells,Nat.mod_eq_of_lt hi,hi]
theorem run_clear_one (w : World) (t e ty : TypeId) (zv : Value) (zs : List Value) (ht : P.underlying t = some (.slice e)) (hv : ∀ w,(zeroValue e).run P w = .ok zv w) (hz : zv.cells.toList = zs) (h1 : ∀ v ∈ zs,v.oneCell' = true) (b o c : Nat)
 (hc : ∀ j,j < zs.length → (w.cell? ⟨b,o + j,none⟩).isSome = true) (hf : ∀ j,j < zs.length → w.frozen? ⟨b,o + j,none⟩ = false) :
 (Builtin.clear_ #[t] ty #[.slice (some ⟨b,o,none⟩) 1 c]).run P w = .ok (.tuple #[]) (w.setCells b o zs) := by
 have hst := run_storeCells_cells (P := P) b o zs 0 w (by simpa using hc) (by simpa using hf) h1;simp only [Nat.add_zero] at hst;simp [Builtin.clear_,run_underlying ht,hv,zeroCells_one,hz,hst]
end
theorem own_open {w : World} {base z n c : Nat} {T : TypeId} {A : Option Addr} {xs : List Value} (h : w.ownsRow base T z (.slice A n c) n xs) (hn : 0 < n) :
 ∃ g cur,A = some ⟨g,0,none⟩ ∧ base ≤ g ∧ w.heap[g]? = some (.cells cur T (0,0)) ∧ n ≤ c ∧ c ≤ maxLen ∧ cur.size = c * z ∧ cur.toList.take (n * z) = xs ∧ xs.length = n * z := by
 obtain ⟨hl,h0 | ⟨g,cap,cur,hv,hb,hg,hnc,hcm,hcs,ht⟩⟩ := h
 ·omega
 injection hv with h1 _ h3;subst h1 h3;exact ⟨g,cur,rfl,hb,hg,hnc,hcm,hcs,ht,hl⟩
theorem own_cells {w : World} {g : Nat} {T : TypeId} {cur : Array Value} (hg : w.heap[g]? = some (.cells cur T (0,0))) (j : Nat) (hj : j < cur.size) : (w.cell? ⟨g,j,none⟩).isSome = true ∧ w.frozen? ⟨g,j,none⟩ = false := by
 constructor
 ·rw [cell_of_row w g j cur T (0,0) hg,Array.getElem?_eq_getElem hj];rfl
 simp [World.frozen?,hg]
theorem own_cell {w : World} {g z n : Nat} {T : TypeId} {cur : Array Value} {xs : List Value} (hg : w.heap[g]? = some (.cells cur T (0,0))) (ht : cur.toList.take (n * z) = xs) (j : Nat) (v : Value) (hj : xs[j]? = some v) : w.cell? ⟨g,j,none⟩ = some v := by
 rw [cell_of_row w g j cur T (0,0) hg,← Array.getElem?_toList];rw [← ht,List.getElem?_take] at hj;split at hj
 ·exact hj
 cases hj
theorem own_mk {w : World} {base z n c g : Nat} {T : TypeId} {cur : Array Value} {xs : List Value} (hb : base ≤ g) (hg : w.heap[g]? = some (.cells cur T (0,0))) (hnc : n ≤ c) (hcm : c ≤ maxLen) (hcs : cur.size = c * z) (ht : cur.toList.take (n * z) = xs) (hl : xs.length = n * z) : w.ownsRow base T z (.slice (some ⟨g,0,none⟩) n c) n xs :=
 ⟨hl,.inr ⟨g,c,cur,rfl,hb,hg,hnc,hcm,hcs,ht⟩⟩
theorem own_set {w : World} {g o : Nat} {T : TypeId} {cur : Array Value} (hg : w.heap[g]? = some (.cells cur T (0,0))) (vs : List Value) (h : o + vs.length ≤ cur.size) :
 ∃ cur' : Array Value,(w.setCells g o vs).heap[g]? = some (.cells cur' T (0,0)) ∧ cur'.size = cur.size ∧ cur'.toList = cur.toList.take o ++ vs ++ cur.toList.drop (o + vs.length) :=
 ⟨_,setCells_block g T vs w o cur hg h,by simp;omega,by simp⟩
theorem take_mid {α : Type} (l vs r : List α) (o k : Nat) (ho : o ≤ l.length) (hk : k = o + vs.length) : (l.take o ++ vs ++ r).take k = l.take o ++ vs := by
 rw [List.take_left'];simp;omega
theorem own_delete {w : World} {base z n c g : Nat} {T : TypeId} {xs zs : List Value} (h : w.ownsRow base T z (.slice (some ⟨g,0,none⟩) n c) n xs) (i : Nat) (hi : i < n) (hz : zs.length = z) :
 ((w.setCells g (i * z) (xs.drop ((i + 1) * z))).setCells g ((n - 1) * z) zs).ownsRow base T z (.slice (some ⟨g,0,none⟩) (n - 1) c) (n - 1) (xs.take (i * z) ++ xs.drop ((i + 1) * z)) := by
 obtain ⟨g',cur,hA,hb,hg,hnc,hcm,hcs,ht,hl⟩ := own_open h (by omega);injection hA with hA;injection hA with hA _;subst hA;have h1 : (i + 1) * z ≤ n * z := Nat.mul_le_mul_right _ hi;have h2 : n * z ≤ c * z := Nat.mul_le_mul_right _ hnc;have h3 : (i + 1) * z = i * z + z := by rw [Nat.add_mul,Nat.one_mul]
 have h4 : n * z = (n - 1) * z + z := by
  obtain ⟨m,rfl⟩ : ∃ m,n = m + 1 := ⟨n - 1,by omega⟩;rw [Nat.add_sub_cancel,Nat.add_mul,Nat.one_mul]
 have hd : (xs.drop ((i + 1) * z)).length = n * z - (i + 1) * z := by rw [List.length_drop,hl]
 obtain ⟨c1,hg1,hs1,e1⟩ := own_set (o := i * z) hg (xs.drop ((i + 1) * z)) (by rw [hd];omega);obtain ⟨c2,hg2,hs2,e2⟩ := own_set (o := (n - 1) * z) hg1 zs (by rw [hz,hs1,hcs];omega);have hcl : cur.toList.length = c * z := by simpa using hcs
 have hxi : cur.toList.take (i * z) = xs.take (i * z) := by rw [← ht,List.take_take,Nat.min_eq_left (by omega)]
 have hc1 : c1.toList.take ((n - 1) * z) = xs.take (i * z) ++ xs.drop ((i + 1) * z) := by
  rw [e1,take_mid _ _ _ _ _ (by omega) (by rw [hd];omega),hxi]
 have hc1l : c1.toList.length = c * z := by rw [Array.length_toList,hs1,hcs]
 refine own_mk hb hg2 (by omega) hcm (by rw [hs2,hs1,hcs]) ?_ ?_
 ·rw [e2,List.append_assoc,List.take_append_of_le_length (by rw [List.length_take];omega),List.take_take,Nat.min_self,hc1]
 rw [List.length_append,List.length_take,hd,hl];omega
theorem own_insert {w : World} {base z n c g : Nat} {T : TypeId} {xs vs : List Value} (h : w.ownsRow base T z (.slice (some ⟨g,0,none⟩) n c) n xs) (i : Nat) (hi : i < n) (hroom : n + 1 ≤ c) (hz : vs.length = z) :
 ((w.setCells g ((i + 1) * z) (xs.drop (i * z))).setCells g (i * z) vs).ownsRow base T z (.slice (some ⟨g,0,none⟩) (n + 1) c) (n + 1) (xs.take (i * z) ++ vs ++ xs.drop (i * z)) := by
 obtain ⟨g',cur,hA,hb,hg,hnc,hcm,hcs,ht,hl⟩ := own_open h (by omega);injection hA with hA;injection hA with hA _;subst hA;have h1 : (i + 1) * z ≤ n * z := Nat.mul_le_mul_right _ hi;have h2 : (n + 1) * z ≤ c * z := Nat.mul_le_mul_right _ hroom;have h3 : (i + 1) * z = i * z + z := by rw [Nat.add_mul,Nat.one_mul]
 have h4 : (n + 1) * z = n * z + z := by rw [Nat.add_mul,Nat.one_mul]
 have hd : (xs.drop (i * z)).length = n * z - i * z := by rw [List.length_drop,hl]
 obtain ⟨c1,hg1,hs1,e1⟩ := own_set (o := (i + 1) * z) hg (xs.drop (i * z)) (by rw [hd];omega);obtain ⟨c2,hg2,hs2,e2⟩ := own_set (o := i * z) hg1 vs (by rw [hz,hs1,hcs];omega);have hcl : cur.toList.length = c * z := by simpa using hcs
 have hxi : cur.toList.take (i * z) = xs.take (i * z) := by rw [← ht,List.take_take,Nat.min_eq_left (by omega)]
 have hc1 : c1.toList.take (i * z) = xs.take (i * z) := by
  rw [e1,List.append_assoc,List.take_append_of_le_length (by rw [List.length_take];omega),List.take_take,Nat.min_eq_left (by omega),hxi]
 have hc1d : (c1.toList.drop (i * z + z)).take (n * z - i * z) = xs.drop (i * z) := by
  rw [e1,← h3,List.append_assoc,List.drop_left' (by rw [List.length_take];omega),List.take_left' hd]
 refine own_mk hb hg2 hroom hcm (by rw [hs2,hs1,hcs]) ?_ ?_
 ·rw [e2,hz,hc1];have hl2 : (xs.take (i * z) ++ vs).length = i * z + z := by rw [List.length_append,List.length_take,hz];omega
  rw [h4,show n * z + z = (i * z + z) + (n * z - i * z) by omega,← hl2,List.take_length_add_append,hl2,hc1d]
 rw [List.length_append,List.length_append,List.length_take,hz,hd];omega
theorem own_grow {w : World} {base z n i G N : Nat} {T : TypeId} {ROW : Array Value} {xs vs : List Value} (hN : w.heap[N]? = some (.cells ROW T (0,0))) (hb : base ≤ N) (hs : ROW.size = G * z) (ht : ROW.toList.take (i * z) = xs.take (i * z)) (hl : xs.length = n * z) (hz : vs.length = z) (hi : i < n) (hG : n + 1 ≤ G) (hGm : G ≤ maxLen) :
 ((w.setCells N (i * z) vs).drew.setCells N ((i + 1) * z) (xs.drop (i * z))).ownsRow base T z (.slice (some ⟨N,0,none⟩) (n + 1) G) (n + 1) (xs.take (i * z) ++ vs ++ xs.drop (i * z)) := by
 have h1 : (i + 1) * z ≤ n * z := Nat.mul_le_mul_right _ hi;have h2 : (n + 1) * z ≤ G * z := Nat.mul_le_mul_right _ hG;have h3 : (i + 1) * z = i * z + z := by rw [Nat.add_mul,Nat.one_mul]
 have h4 : (n + 1) * z = n * z + z := by rw [Nat.add_mul,Nat.one_mul]
 have hd : (xs.drop (i * z)).length = n * z - i * z := by rw [List.length_drop,hl]
 obtain ⟨c1,hg1,hs1,e1⟩ := own_set (o := i * z) hN vs (by rw [hz,hs];omega);obtain ⟨c2,hg2,hs2,e2⟩ := own_set (w := (w.setCells N (i * z) vs).drew) (o := (i + 1) * z) hg1 (xs.drop (i * z)) (by rw [hd,hs1,hs];omega);have hcl : ROW.toList.length = G * z := by simpa using hs
 have hc1 : c1.toList.take ((i + 1) * z) = xs.take (i * z) ++ vs := by
  rw [e1,take_mid _ _ _ _ _ (by omega) (by omega),ht]
 refine own_mk hb hg2 hG hGm (by rw [hs2,hs1,hs]) ?_ ?_
 ·rw [e2,take_mid _ _ _ _ _ (by rw [Array.length_toList,hs1,hs];omega) (by rw [hd];omega),hc1]
 rw [List.length_append,List.length_append,List.length_take,hz,hd];omega
end
section
open Go.RowKit
theorem pmust_yes (e : Int) (w : World) : Calls Tryz.prog 114 #[.bool true,.int .i64 e] w fun e w' => e = .returned (.tuple #[]) ∧ w = w' := by
 go_enter Tryz.func114,Tryz.ntmps114;go_wp2;go_end0;exact ⟨rfl,rfl⟩
theorem pmust_no (e : Int) (w : World) : Calls Tryz.prog 114 #[.bool false,.int .i64 e] w fun r w' => r = .panicked (thrown e) ∧ w = w' := by
 go_enter Tryz.func114,Tryz.ntmps114;go_wp2;exact ⟨rfl,rfl,rfl⟩
theorem right_yes (w : World) : Calls Tryz.prog 119 #[.int .i64 0] w fun e w' => e = .returned (.tuple #[]) ∧ w = w' := by
 go_enter Tryz.func119,Tryz.ntmps119;go_wp2_with fail;refine (pmust_yes 0 w).mono ?_;rintro e w' ⟨rfl,rfl⟩;go_wp2_with fail;go_end0;exact ⟨rfl,rfl⟩
theorem right_no (e : Int) (he : e ≠ 0) (w : World) : Calls Tryz.prog 119 #[.int .i64 e] w fun r w' => r = .panicked (thrown e) ∧ w = w' := by
 have he2 : (e == 0) = false := by simpa using he
 clear he;go_enter Tryz.func119,Tryz.ntmps119;go_wp2_with fail;refine (pmust_no e w).mono ?_;rintro r w' ⟨rfl,rfl⟩;go_wp2_with fail;exact ⟨rfl,rfl,rfl⟩
end
end Go.Proofs.YtndjopkdbdcmdaaGreatDoor
