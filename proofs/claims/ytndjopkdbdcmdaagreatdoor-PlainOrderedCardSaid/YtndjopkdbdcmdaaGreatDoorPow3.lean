/- Part 3 of the proof of pordered_card. -/
import Derived.Test.YtndjopkdbdcmdaaGreatDoorPow1
import Derived.Lib.ValidLaws
import Derived.Lib.TrimUEq
import Derived.Shelf.Strings.FuncGrows
import Derived.Maps.OwnSet
import Derived.Test.YtndjopkdbdcmdaaGreatDoorProg
import Derived.Ground.NamesProg
import Derived.WalkMore
import Derived.Below
import Derived.Shelf.Unicode.ValidAny
import Derived.Shelf.Strings.SplitShaped
import Derived.Ground.SlsfProg
import Derived.Shelf.SlSortCmp.KitK
set_option linter.unusedVariables false
set_option linter.unusedSimpArgs false
set_option maxRecDepth 100000
set_option maxHeartbeats 12800000
namespace Go.Proofs.YtndjopkdbdcmdaaGreatDoor
section
open Go.Lib
def nameByte (c : UInt8) : Bool := decide (32 ≤ c.toNat ∧ c.toNat ≠ 46)
def badRune (x : Nat) : Bool := decide (x < 32 ∨ x = 46)
theorem dec_class (n b0 b1 b2 b3 : Nat) (_hl : 0 < n) (_h0 : b0 < 256) (h1 : b1 < 256) (h2 : b2 < 256) (h3 : b3 < 256) :
 (b0 < 128 ∧ decodeN n b0 b1 b2 b3 = (b0,1)) ∨ decodeN n b0 b1 b2 b3 = (65533,1) ∨
 (∃ r,decodeN n b0 b1 b2 b3 = (r,2) ∧ 128 ≤ r ∧ 2 ≤ n ∧ 128 ≤ b0 ∧ 128 ≤ b1) ∨
 (∃ r,decodeN n b0 b1 b2 b3 = (r,3) ∧ 128 ≤ r ∧ 3 ≤ n ∧ 128 ≤ b0 ∧ 128 ≤ b1 ∧ 128 ≤ b2) ∨
 (∃ r,decodeN n b0 b1 b2 b3 = (r,4) ∧ 128 ≤ r ∧ 4 ≤ n ∧ 128 ≤ b0 ∧ 128 ≤ b1 ∧ 128 ≤ b2 ∧ 128 ≤ b3) := by
 unfold decodeN;split
 ·rename_i h;exact .inl ⟨h,rfl⟩
 split
 ·split
  ·rename_i h _ hr;exact .inr (.inr (.inl ⟨_,rfl,by omega⟩))
  exact .inr (.inl rfl)
 split
 ·split
  ·rename_i h _ hr;exact .inr (.inr (.inr (.inl ⟨_,rfl,by omega⟩)))
  exact .inr (.inl rfl)
 split
 ·split
  ·rename_i h _ hr;exact .inr (.inr (.inr (.inr ⟨_,rfl,by omega⟩)))
  exact .inr (.inl rfl)
 exact .inr (.inl rfl)
theorem nameByte_big (c : UInt8) (h : 128 ≤ c.toNat) : nameByte c = true := decide_eq_true (by omega)
theorem all_big (l : List UInt8) (k : Nat) (hk : k ≤ l.length) (h : ∀ i,i < k → 128 ≤ (l.getD i 0).toNat) : (l.take k).all nameByte = true := by
 rw [List.all_eq_true];intro x hx;obtain ⟨i,hi,rfl⟩ := List.mem_iff_getElem.1 hx;have hik : i < k := by rw [List.length_take] at hi;omega
 have := h i hik;rw [List.getD_eq_getElem?_getD,List.getElem?_eq_getElem (by omega)] at this;rw [List.getElem_take];exact nameByte_big _ this
theorem name_idx (s : ByteArray) : ∀ (f pos : Nat),validD (s.data.toList.drop pos) = true → s.size ≤ pos + f →
 decide (0 ≤ idxFuncFrom badRune true s f pos) = !((s.data.toList.drop pos).all nameByte) := by
 intro f
 induction f with
 | zero =>
  intro pos _ hp;have : s.data.toList.drop pos = [] := List.drop_eq_nil_of_le (by have : s.data.toList.length = s.size := rfl;omega);rw [this];rfl
 | succ f ih =>
  intro pos hv hp;by_cases hlt : pos < s.size
  ·have hsz : s.data.toList.length = s.size := rfl;obtain ⟨l,hl⟩ : ∃ l,s.data.toList.drop pos = l := ⟨_,rfl⟩;have hll : l.length = s.size - pos := by rw [← hl,List.length_drop,hsz]
   have hne : l ≠ [] := fun h => by rw [h] at hll;simp at hll;omega
   have hd : Utf8.decode s pos = decodeL l := by rw [← hl,decodeL_drop]
   have hdrop : ∀ k,s.data.toList.drop (pos + k) = l.drop k := fun k => by rw [← hl,List.drop_drop]
   have hsplit : ∀ k,l.all nameByte = ((l.take k).all nameByte && (l.drop k).all nameByte) := fun k => by rw [← List.all_append,List.take_append_drop]
   have hstep := validD_step l hne;rw [hl] at hv;rw [hv] at hstep;unfold idxFuncFrom;rw [if_pos hlt,hd,hl];rw [decodeL_N] at hstep ⊢;have big : ∀ (r k : Nat),0 < k → decodeN l.length (l.getD 0 0).toNat (l.getD 1 0).toNat (l.getD 2 0).toNat (l.getD 3 0).toNat = (r,k) → 128 ≤ r → k ≤ l.length → (∀ i,i < k → 128 ≤ (l.getD i 0).toNat) → (k = 1 → False) →
    decide (0 ≤ if badRune (r,k).1 = true then (pos : Int) else idxFuncFrom badRune true s f (pos + (r,k).2)) = !(l.all nameByte) := by
    intro r k hk0 he hr hk hb hk1;rw [he,if_neg (fun h => hk1 h.2)] at hstep;rw [if_neg (by simp [badRune];omega),hsplit k,all_big l k hk hb,Bool.true_and,← hdrop];exact ih (pos + k) (by rw [hdrop];exact hstep.symm) (by omega)
   rcases dec_class l.length _ _ _ _ (by omega) (l.getD 0 0).toNat_lt (l.getD 1 0).toNat_lt (l.getD 2 0).toNat_lt (l.getD 3 0).toNat_lt with ⟨h0,e⟩ | e | ⟨r,e,hr,hn,h⟩ | ⟨r,e,hr,hn,h⟩ | ⟨r,e,hr,hn,h⟩
   ·rw [e,if_neg (fun h => by have h1 : (l.getD 0 0).toNat = 65533 := h.1;omega)] at hstep;rw [e]
    match l,hne with
    | c :: t,_ =>
     simp only [List.getD_cons_zero] at h0 ⊢;by_cases hc : c.toNat < 32 ∨ c.toNat = 46
     ·rw [if_pos (by simp [badRune];omega)];have : nameByte c = false := decide_eq_false (by omega);rw [List.all_cons,this];simp
     rw [if_neg (by simp [badRune];omega)];have : nameByte c = true := decide_eq_true (by omega);rw [List.all_cons,this,Bool.true_and];have hd1 := hdrop 1;have := ih (pos + 1) (by rw [hd1];exact hstep.symm) (by omega);rw [hd1] at this;exact this
   ·rw [e] at hstep;simp at hstep
   ·rw [e];exact big r 2 (by omega) e hr hn (fun i hi => by match i,hi with | 0,_ => exact h.1 | 1,_ => exact h.2) (by omega)
   ·rw [e];exact big r 3 (by omega) e hr hn (fun i hi => by match i,hi with | 0,_ => exact h.1 | 1,_ => exact h.2.1 | 2,_ => exact h.2.2) (by omega)
   rw [e];exact big r 4 (by omega) e hr hn (fun i hi => by match i,hi with | 0,_ => exact h.1 | 1,_ => exact h.2.1 | 2,_ => exact h.2.2.1 | 3,_ => exact h.2.2.2) (by omega)
  rw [idxFuncFrom_end _ _ _ _ _ hlt];have : s.data.toList.drop pos = [] := List.drop_eq_nil_of_le (by have : s.data.toList.length = s.size := rfl;omega);rw [this];rfl
theorem name_of (s : ByteArray) (hv : validD s.data.toList = true) : (!decide (0 ≤ idxFunc badRune true s)) = s.data.toList.all nameByte := by
 have := name_idx s s.size 0 hv (by omega);rw [List.drop_zero] at this;rw [idxFunc,this,Bool.not_not]
end
section
open Go.RowKit Go.Maps
def nlit (s : ByteArray) : Lit := .string s.data.toList
def NS (l : List ByteArray) : DataW Unit := setOf (.agg []) (l.map nlit)
theorem NS_nil : NS [] = .map [] := rfl
theorem NS_snoc (l : List ByteArray) (s : ByteArray) : NS (l ++ [s]) = (NS l).put (nlit s) (.agg []) := by
 unfold NS;rw [List.map_append,List.map_singleton,setOf_snoc]
theorem nlit_key (l : List ByteArray) : ∀ x ∈ l.map nlit,WideAt.IsKeyLit x := fun x hx => by
 obtain ⟨s,_,rfl⟩ := List.mem_map.1 hx;trivial
theorem nlit_inj {a b : ByteArray} (h : nlit a = nlit b) : a = b := by
 injection h with h;exact ByteArray.ext (Array.ext' h)
theorem has_NS (l : List ByteArray) (s : ByteArray) : Maps.has (NS l) (nlit s) = true ↔ s ∈ l := by
 unfold NS;rw [has_setOf _ _ _ (nlit_key l),List.any_map,List.any_eq_true];constructor
 ·rintro ⟨x,hx,h⟩;by_cases e : nlit x = nlit s
  ·rw [← nlit_inj e];exact hx
  rw [Function.comp,sameKey_ne e] at h;exact absurd h Bool.false_ne_true
 intro h;exact ⟨s,h,show (nlit s).sameKey (nlit s) = true from WideAt.sameKey_self (a := nlit s) (nlit_key [s] (nlit s) (by simp))⟩
theorem size_NS_old (l : List ByteArray) (s : ByteArray) (h : s ∈ l) : Maps.size (NS (l ++ [s])) = Maps.size (NS l) := by
 rw [NS_snoc,size_put (D := NS l) (tidy_setOf _ _ (nlit_key l)),if_pos ((has_NS l s).2 h)]
theorem size_NS_new (l : List ByteArray) (s : ByteArray) (h : ¬ s ∈ l) : Maps.size (NS (l ++ [s])) = Maps.size (NS l) + 1 := by
 rw [NS_snoc,size_put (D := NS l) (tidy_setOf _ _ (nlit_key l)),if_neg (fun e => h ((has_NS l s).1 e))]
theorem size_NS (l : List ByteArray) : ∀ j,j ≤ l.length → Maps.size (NS (l.take j)) ≤ j ∧ (Maps.size (NS (l.take j)) = j ↔ (l.take j).Nodup) := by
 intro j
 induction j with
 | zero => intro _;exact ⟨Nat.le_of_eq rfl,by simp [NS_nil];rfl⟩
 | succ j ih =>
  intro h;obtain ⟨h1,h2⟩ := ih (by omega);rw [take_snoc l j (by omega)];by_cases hm : l[j] ∈ l.take j
  ·rw [size_NS_old _ _ hm];refine ⟨by omega,⟨fun e => by omega,fun hn => ?_⟩⟩;rw [List.nodup_append] at hn;exact absurd rfl (hn.2.2 _ hm _ (by simp))
  rw [size_NS_new _ _ hm];refine ⟨by omega,⟨fun e => ?_,fun hn => ?_⟩⟩
  ·rw [List.nodup_append];refine ⟨h2.1 (by omega),by simp,fun a ha b hb => ?_⟩;rw [List.mem_singleton] at hb;subst hb;intro e;subst e;exact hm ha
  rw [List.nodup_append] at hn;have := h2.2 hn.1;omega
theorem size_NS_all (l : List ByteArray) : (((Maps.size (NS l) : Nat) : Int) == (l.length : Int)) = decide l.Nodup := by
 have := (size_NS l l.length (Nat.le_refl _)).2;rw [List.take_length] at this;apply Bool.eq_iff_iff.2;rw [decide_eq_true_eq,beq_iff_eq,← this];omega
end
section
open Go.RowKit
def CF (w : World) (p : Addr) (u : Value) : Prop := w.cell? p = some u ∧ w.frozen? p = false
theorem CF.block {w w' : World} {p : Addr} {u : Value} (h : CF w p u) (e : w'.heap[p.block]? = w.heap[p.block]?) : CF w' p u :=
 ⟨(World.cell?_of_block e).trans h.1,(World.frozen?_of_block e).trans h.2⟩
def IsS (C : Addr → Value → Prop) : V → Cv → (Nat → Prop) → Prop
 | .mk k n b l f,c,S => c.k = k ∧ c.n = (n : Int) ∧ c.nB = b.length ∧ c.nL = l.length ∧ c.nF = f.length ∧
  -9223372036854775808 ≤ k ∧ k ≤ 9223372036854775807 ∧ n < 18446744073709551616 ∧
  b.length ≤ c.cB ∧ b.length ≤ 140737488355328 ∧ l.length ≤ c.cL ∧ l.length ≤ 140737488355328 ∧ f.length ≤ c.cF ∧ f.length ≤ 140737488355328 ∧
  Reads (fun p u => C p u ∧ S p.block) 1 c.aB b.length (u8s b) ∧
  (∃ T : Nat → Nat → Prop,(∀ i (h : i < l.length),∃ bk o x,c.aL = some ⟨bk,o,none⟩ ∧ S bk ∧ ¬ T i bk ∧ (∀ q,T i q → S q) ∧ At5 C bk (o + i * 5) x ∧ IsS C l[i] x (T i)) ∧
   (∀ i j,i < j → j < l.length → ∀ q,T i q → ¬ T j q)) ∧
  (∃ T : Nat → Nat → Prop,(∀ i (h : i < f.length),∃ bk o x,c.aF = some ⟨bk,o,none⟩ ∧ S bk ∧ ¬ T i bk ∧ (∀ q,T i q → S q) ∧ C ⟨bk,o + i * 6,none⟩ (.string f[i].1) ∧ f[i].1.size ≤ 140737488355328 ∧ At5 C bk (o + i * 6 + 1) x ∧ IsS C f[i].2 x (T i)) ∧
   (∀ i j,i < j → j < f.length → ∀ q,T i q → ¬ T j q))
termination_by v => SizeOf.sizeOf v
decreasing_by
 ·exact V.sizeOf_l (List.getElem_mem _)
 exact V.sizeOf_f (List.getElem_mem _)
theorem At5.mono' {C C' : Addr → Value → Prop} {bk o : Nat} {c : Cv} (h : ∀ p u,C p u → p.block = bk → C' p u) (hc : At5 C bk o c) : At5 C' bk o c :=
 ⟨h _ _ hc.1 rfl,h _ _ hc.2.1 rfl,h _ _ hc.2.2.1 rfl,h _ _ hc.2.2.2.1 rfl,h _ _ hc.2.2.2.2 rfl⟩
theorem IsS.mono {C C' : Addr → Value → Prop} (v : V) : ∀ (c : Cv) (S S' : Nat → Prop),(∀ p u,C p u → S p.block → C' p u) → (∀ q,S q → S' q) → IsS C v c S → IsS C' v c S' := by
 induction v using V.ind with
 | h k n b l f hl hf =>
  intro c S S' hC hS hv;rw [IsS] at hv ⊢;obtain ⟨e1,e2,e3,e4,e5,h1,h2,h3,h4,h5,h6,h7,h8,h9,hb,⟨T,hL,hLd⟩,⟨U,hF,hFd⟩⟩ := hv;refine ⟨e1,e2,e3,e4,e5,h1,h2,h3,h4,h5,h6,h7,h8,h9,hb.mono (fun p u h => ⟨hC p u h.1 h.2,hS _ h.2⟩),⟨T,fun i hi => ?_,hLd⟩,⟨U,fun i hi => ?_,hFd⟩⟩
  ·obtain ⟨bk,o,x,e,s,nt,ts,k0,kv⟩ := hL i hi;exact ⟨bk,o,x,e,hS _ s,nt,fun q hq => hS _ (ts q hq),k0.mono' (fun p u h e => hC p u h (e ▸ s)),hl _ (List.getElem_mem hi) _ _ _ (fun p u h hq => hC p u h (ts _ hq)) (fun q h => h) kv⟩
  obtain ⟨bk,o,x,e,s,nt,ts,ks,kz,k0,kv⟩ := hF i hi;exact ⟨bk,o,x,e,hS _ s,nt,fun q hq => hS _ (ts q hq),hC _ _ ks s,kz,k0.mono' (fun p u h e => hC p u h (e ▸ s)),hf _ (List.getElem_mem hi) _ _ _ (fun p u h hq => hC p u h (ts _ hq)) (fun q h => h) kv⟩
theorem IsS.isV {C : Addr → Value → Prop} (v : V) : ∀ (c : Cv) (S : Nat → Prop),IsS C v c S → IsV (fun p u => C p u ∧ S p.block) v c := by
 induction v using V.ind with
 | h k n b l f hl hf =>
  intro c S hv;rw [IsS] at hv;rw [IsV];obtain ⟨e1,e2,e3,e4,e5,h1,h2,h3,h4,h5,h6,h7,h8,h9,hb,⟨T,hL,hLd⟩,⟨U,hF,hFd⟩⟩ := hv;refine ⟨e1,e2,e3,e4,e5,h1,h2,h3,h4,h5,h6,h7,h8,h9,hb,fun i hi => ?_,fun i hi => ?_⟩
  ·obtain ⟨bk,o,x,e,s,nt,ts,k0,kv⟩ := hL i hi;exact ⟨bk,o,x,e,k0.mono' (fun p u h e => ⟨h,e ▸ s⟩),IsV.mono (fun p u h => ⟨h.1,ts _ h.2⟩) _ _ (hl _ (List.getElem_mem hi) _ _ kv)⟩
  obtain ⟨bk,o,x,e,s,nt,ts,ks,kz,k0,kv⟩ := hF i hi;exact ⟨bk,o,x,e,⟨ks,s⟩,kz,k0.mono' (fun p u h e => ⟨h,e ▸ s⟩),IsV.mono (fun p u h => ⟨h.1,ts _ h.2⟩) _ _ (hf _ (List.getElem_mem hi) _ _ kv)⟩
def InS (w : World) (lo hi : Nat) (v : V) (c : Cv) : Prop := hi ≤ w.heap.size ∧ IsS (CF w) v c (fun q => lo ≤ q ∧ q < hi)
theorem InS.atW {w : World} {lo hi : Nat} {v : V} {c : Cv} (h : InS w lo hi v c) : IsV (AtW w lo hi) v c :=
 IsV.mono (fun _ _ h => ⟨h.1.1,h.2.1,h.2.2⟩) _ _ (h.2.isV v c _)
theorem InS.blocks {w w' : World} {lo hi : Nat} {v : V} {c : Cv} (h : InS w lo hi v c) (hz : w.heap.size ≤ w'.heap.size) (hb : ∀ k,lo ≤ k → k < hi → w'.heap[k]? = w.heap[k]?) : InS w' lo hi v c :=
 ⟨Nat.le_trans h.1 hz,IsS.mono v c _ _ (fun _ _ q s => q.block (hb _ s.1 s.2)) (fun _ q => q) h.2⟩
theorem InS.grow {w w' : World} {lo hi : Nat} {v : V} {c : Cv} (h : InS w lo hi v c) (hg : Grow w w') : InS w' lo hi v c :=
 h.blocks hg.size (fun k _ hk => hg.below.block k (Nat.lt_of_lt_of_le hk h.1))
end
section
open V
abbrev Got := Except Int (V × List UInt8)
def rdN : List UInt8 → Option (ByteArray × List UInt8)
 | [] => none
 | m :: r => if m.toNat ≤ r.length then some (⟨(r.take m.toNat).toArray⟩,r.drop m.toNat) else none
open Classical in
noncomputable def rdF (f : List UInt8 → Got) : Nat → List ByteArray → List UInt8 → Except Int (List (ByteArray × V) × List UInt8)
 | 0,_,bs => .ok ([],bs)
 | n + 1,met,bs => match rdN bs with
  | none => .error 4
  | some (s,r) => if name s = true ∧ ¬ s ∈ met then
   match f r with
   | .error e => .error e
   | .ok (x,r') => match rdF f n (met ++ [s]) r' with
    | .error e => .error e
    | .ok (l,r'') => .ok ((s,x) :: l,r'')
   else .error 4
end
section
open V
theorem name_size {s : ByteArray} (h : name s = true) : s.size ≤ 32 := by
 simp only [name,Bool.and_eq_true,decide_eq_true_eq] at h;exact h.1.1.2
def V.fit : V → Prop
 | mk _ n _ l f => n < 18446744073709551616 ∧ (∀ x ∈ l,fit x) ∧ (∀ x ∈ f,fit x.2)
termination_by v => SizeOf.sizeOf v
decreasing_by
 ·exact sizeOf_l ‹_›
 exact sizeOf_f ‹_›
theorem IsV.fit {C : Addr → Value → Prop} (v : V) : ∀ c,IsV C v c → v.fit := by
 induction v using V.ind with
 | h k n b l f hl hf =>
  intro c hv;rw [IsV] at hv;rw [V.fit];obtain ⟨e1,e2,e3,e4,e5,h1,h2,h3,h4,h5,h6,h7,h8,h9,hb,hL,hF⟩ := hv;refine ⟨h3,fun x hx => ?_,fun x hx => ?_⟩
  ·obtain ⟨i,hi,rfl⟩ := List.mem_iff_getElem.1 hx;obtain ⟨bk,o,y,e,k0,kv⟩ := hL i hi;exact hl _ hx _ kv
  obtain ⟨i,hi,rfl⟩ := List.mem_iff_getElem.1 hx;obtain ⟨bk,o,y,e,ks,kz,k0,kv⟩ := hF i hi;exact hf _ hx _ kv
theorem ofNat_toNat8 (n : Nat) (h : n < 256) : (UInt8.ofNat n).toNat = n := by rw [UInt8.toNat_ofNat'];omega
theorem good_iff {v : V} : v.good = 0 ↔ v.formed = true ∧ v.most ≤ 64 ∧ v.depth ≤ 16 ∧ v.bytes.length ≤ 4096 := by
 unfold V.good
 cases hf : v.formed
 ·simp
 simp only [Bool.true_eq_false,if_false,true_and];by_cases h1 : 64 < v.most
 ·rw [if_pos h1];constructor
  ·intro h;omega
  intro h;omega
 rw [if_neg h1];by_cases h2 : 16 < v.depth
 ·rw [if_pos h2];constructor
  ·intro h;omega
  intro h;omega
 rw [if_neg h2];by_cases h3 : 4096 < v.bytes.length
 ·rw [if_pos h3];constructor
  ·intro h;omega
  intro h;omega
 rw [if_neg h3];constructor
 ·intro _;omega
 intro _;rfl
end
section
open V
theorem sum_le_flat {α : Type} (g : α → List UInt8) (f : α → Nat) (l : List α) (h : ∀ x ∈ l,f x ≤ (g x).length) : (l.map f).sum ≤ ((l.map g).flatten).length := by
 induction l with
 | nil => simp
 | cons x xs ih =>
  have h1 := h x (by simp);have h2 := ih fun y hy => h y (by simp [hy])
  simp only [List.map_cons,List.sum_cons,List.flatten_cons,List.length_append];omega
theorem count_le (v : V) : v.formed = true → v.count ≤ v.bytes.length := by
 induction v using V.ind with
 | h k n b l f hl hf =>
  intro hfm;rcases formed_cases hfm with h | ⟨n',hn',h⟩ | ⟨n',h⟩ | ⟨n',h⟩ | ⟨b',hb',h⟩ | ⟨b',h⟩ | ⟨l',hl',h⟩ | ⟨f',hf',hnd,h⟩ <;> cases h
  ·rw [count_mk,bytes_mk];simp
  ·rw [count_mk,bytes_mk];simp
  ·rw [count_mk,bytes_mk];simp
  ·rw [count_mk,bytes_mk];simp
  ·rw [count_mk,bytes_mk];simp
  ·rw [count_mk,bytes_mk];simp
  ·have h1 := sum_le_flat V.bytes V.count l fun x hx => hl x hx (hl' x hx)
   rw [count_mk,bytes_list];simp only [List.map_nil,List.sum_nil,List.length_cons];omega
  have h1 := sum_le_flat (fun x : ByteArray × V => item x.1 x.2.bytes) (fun x => x.2.count) f fun x hx => by
   have := hf x hx (hf' x hx).2;rw [item_length];omega
  rw [count_mk,bytes_doc];simp only [List.map_nil,List.sum_nil,List.length_cons];omega
end
end Go.Proofs.YtndjopkdbdcmdaaGreatDoor
namespace Go.Proofs
open Go.Shelf
def Tryz.laysValid_ren : Go.Shelf.Ren := ⟨fun | 196 => 130 | 259 => 174 | n => n,fun | 9 => 9 | 4 => 4 | 3 => 3 | 5 => 5 | 12 => 12 | 119 => 176 | 0 => 0 | 46 => 180 | 139 => 179 | 138 => 178 | 53 => 22 | n => n,fun | 3 => 0 | 4 => 1 | n => n⟩
theorem Tryz.laysValid : Go.Proofs.Lays.n196 Tryz.prog Tryz.laysValid_ren := {
 mixed := by kernel_rfl
 f196 := Tryz.func130.trans (congrArg some (by kernel_rfl))
 f259 := Tryz.func174.trans (congrArg some (by kernel_rfl))
 t0 := Tryz.underlying0
 a0 := Tryz.isAgg0
 z0 := Tryz.sizeOf0
 v0 := Tryz.zeroValue0
 t3 := Tryz.underlying3
 a3 := Tryz.isAgg3
 z3 := Tryz.sizeOf3
 v3 := Tryz.zeroValue3
 t4 := Tryz.underlying4
 a4 := Tryz.isAgg4
 z4 := Tryz.sizeOf4
 v4 := Tryz.zeroValue4
 t5 := Tryz.underlying5
 a5 := Tryz.isAgg5
 z5 := Tryz.sizeOf5
 v5 := Tryz.zeroValue5
 t9 := Tryz.underlying9
 a9 := Tryz.isAgg9
 z9 := Tryz.sizeOf9
 v9 := Tryz.zeroValue9
 t12 := Tryz.underlying12
 a12 := Tryz.isAgg12
 z12 := Tryz.sizeOf12
 v12 := Tryz.zeroValue12
 t46 := Tryz.underlying180
 a46 := Tryz.isAgg180
 z46 := Tryz.sizeOf180
 v46 := Tryz.zeroValue180
 t53 := Tryz.underlying22
 a53 := Tryz.isAgg22
 z53 := Tryz.sizeOf22
 v53 := Tryz.zeroValue22
 t119 := Tryz.underlying176
 a119 := Tryz.isAgg176
 z119 := Tryz.sizeOf176
 t138 := Tryz.underlying178
 a138 := Tryz.isAgg178
 z138 := Tryz.sizeOf178
 v138 := Tryz.zeroValue178
 t139 := Tryz.underlying179
 a139 := Tryz.isAgg179
 z139 := Tryz.sizeOf179
 v139 := Tryz.zeroValue179
 g3 := by kernel_rfl
 g4 := by kernel_rfl }
def Tryz.laysCF_ren : Go.Shelf.Ren := ⟨fun | 17 => 131 | 15 => 175 | 20 => 198 | n => n,fun | 9 => 9 | 23 => 182 | 4 => 4 | 3 => 3 | 0 => 0 | 21 => 21 | n => n,fun | n => n⟩
theorem Tryz.laysCF : Go.Proofs.LaysGw.n17 Tryz.prog Tryz.laysCF_ren := {
 mixed := by kernel_rfl
 f15 := Tryz.func175.trans (congrArg some (by kernel_rfl))
 f17 := Tryz.func131.trans (congrArg some (by kernel_rfl))
 f20 := Tryz.func198.trans (congrArg some (by kernel_rfl))
 t0 := Tryz.underlying0
 a0 := Tryz.isAgg0
 z0 := Tryz.sizeOf0
 v0 := Tryz.zeroValue0
 i0 := by kernel_rfl
 t3 := Tryz.underlying3
 a3 := Tryz.isAgg3
 z3 := Tryz.sizeOf3
 v3 := Tryz.zeroValue3
 i3 := by kernel_rfl
 t4 := Tryz.underlying4
 a4 := Tryz.isAgg4
 z4 := Tryz.sizeOf4
 v4 := Tryz.zeroValue4
 i4 := by kernel_rfl
 t9 := Tryz.underlying9
 a9 := Tryz.isAgg9
 z9 := Tryz.sizeOf9
 v9 := Tryz.zeroValue9
 i9 := by kernel_rfl
 t21 := Tryz.underlying21
 a21 := Tryz.isAgg21
 z21 := Tryz.sizeOf21
 v21 := Tryz.zeroValue21
 i21 := by kernel_rfl
 t23 := Tryz.underlying182
 a23 := Tryz.isAgg182
 z23 := Tryz.sizeOf182
 v23 := Tryz.zeroValue182
 i23 := by kernel_rfl }
end Go.Proofs
namespace Go.Proofs.YtndjopkdbdcmdaaGreatDoor
end Go.Proofs.YtndjopkdbdcmdaaGreatDoor
namespace Go.Proofs
open Go.Shelf
def Tryz.laysSplit_ren : Go.Shelf.Ren := ⟨fun | 146 => 47 | 221 => 90 | 268 => 133 | 138 => 134 | 143 => 135 | 195 => 176 | 197 => 177 | 218 => 178 | 219 => 179 | 260 => 199 | 217 => 200 | 225 => 201 | 224 => 202 | 267 => 203 | 266 => 212 | 314 => 213 | n => n,fun | 9 => 9 | 31 => 103 | 3 => 3 | 4 => 4 | 0 => 0 | 105 => 212 | 21 => 21 | 5 => 5 | 46 => 180 | 119 => 176 | 139 => 179 | 138 => 178 | 146 => 232 | 51 => 231 | n => n,fun | 1 => 2 | 3 => 0 | 4 => 1 | n => n⟩
theorem Tryz.laysSplit : Go.Proofs.LaysM.n146 Tryz.prog Tryz.laysSplit_ren := {
 mixed := by kernel_rfl
 f138 := Tryz.func134.trans (congrArg some (by kernel_rfl))
 f143 := Tryz.func135.trans (congrArg some (by kernel_rfl))
 f146 := Tryz.func47.trans (congrArg some (by kernel_rfl))
 f195 := Tryz.func176.trans (congrArg some (by kernel_rfl))
 f197 := Tryz.func177.trans (congrArg some (by kernel_rfl))
 f217 := Tryz.func200.trans (congrArg some (by kernel_rfl))
 f218 := Tryz.func178.trans (congrArg some (by kernel_rfl))
 f219 := Tryz.func179.trans (congrArg some (by kernel_rfl))
 f221 := Tryz.func90.trans (congrArg some (by kernel_rfl))
 f224 := Tryz.func202.trans (congrArg some (by kernel_rfl))
 f225 := Tryz.func201.trans (congrArg some (by kernel_rfl))
 f260 := Tryz.func199.trans (congrArg some (by kernel_rfl))
 f266 := Tryz.func212.trans (congrArg some (by kernel_rfl))
 f267 := Tryz.func203.trans (congrArg some (by kernel_rfl))
 f268 := Tryz.func133.trans (congrArg some (by kernel_rfl))
 f314 := Tryz.func213.trans (congrArg some (by kernel_rfl))
 t0 := Tryz.underlying0
 a0 := Tryz.isAgg0
 z0 := Tryz.sizeOf0
 v0 := Tryz.zeroValue0
 t3 := Tryz.underlying3
 a3 := Tryz.isAgg3
 z3 := Tryz.sizeOf3
 v3 := Tryz.zeroValue3
 t4 := Tryz.underlying4
 a4 := Tryz.isAgg4
 z4 := Tryz.sizeOf4
 v4 := Tryz.zeroValue4
 t5 := Tryz.underlying5
 a5 := Tryz.isAgg5
 z5 := Tryz.sizeOf5
 v5 := Tryz.zeroValue5
 t9 := Tryz.underlying9
 a9 := Tryz.isAgg9
 z9 := Tryz.sizeOf9
 v9 := Tryz.zeroValue9
 t21 := Tryz.underlying21
 a21 := Tryz.isAgg21
 z21 := Tryz.sizeOf21
 v21 := Tryz.zeroValue21
 t31 := Tryz.underlying103
 a31 := Tryz.isAgg103
 z31 := Tryz.sizeOf103
 v31 := Tryz.zeroValue103
 t46 := Tryz.underlying180
 a46 := Tryz.isAgg180
 z46 := Tryz.sizeOf180
 v46 := Tryz.zeroValue180
 t51 := Tryz.underlying231
 a51 := Tryz.isAgg231
 z51 := Tryz.sizeOf231
 v51 := Tryz.zeroValue231
 t105 := Tryz.underlying212
 a105 := Tryz.isAgg212
 z105 := Tryz.sizeOf212
 v105 := Tryz.zeroValue212
 t119 := Tryz.underlying176
 a119 := Tryz.isAgg176
 z119 := Tryz.sizeOf176
 t138 := Tryz.underlying178
 a138 := Tryz.isAgg178
 z138 := Tryz.sizeOf178
 v138 := Tryz.zeroValue178
 t139 := Tryz.underlying179
 a139 := Tryz.isAgg179
 z139 := Tryz.sizeOf179
 v139 := Tryz.zeroValue179
 t146 := Tryz.underlying232
 a146 := Tryz.isAgg232
 z146 := Tryz.sizeOf232
 v146 := Tryz.zeroValue232
 g1 := by kernel_rfl
 g3 := by kernel_rfl
 g4 := by kernel_rfl
 i0 := by kernel_rfl
 i3 := by kernel_rfl
 i4 := by kernel_rfl
 i5 := by kernel_rfl
 i9 := by kernel_rfl
 i21 := by kernel_rfl
 i31 := by kernel_rfl
 i46 := by kernel_rfl
 i51 := by kernel_rfl
 i105 := by kernel_rfl
 i138 := by kernel_rfl
 i139 := by kernel_rfl
 i146 := by kernel_rfl
 m1 := by kernel_rfl
 s1_3 := fun w h => Go.Proofs.cell_of_shapedOpen_int (zero := #[.int .i64 0]) (t := 3) h (of_decide_eq_true (by kernel_rfl)) (by kernel_rfl) rfl (by kernel_rfl) (by kernel_rfl) Tryz.underlying3
 m3 := by kernel_rfl
 m4 := by kernel_rfl }
end Go.Proofs
namespace Go.Proofs.YtndjopkdbdcmdaaGreatDoor
end Go.Proofs.YtndjopkdbdcmdaaGreatDoor
namespace Go.Proofs
open Go.Shelf
def Tryz.laysIns_ren : Go.Shelf.Ren := ⟨fun | 20 => 190 | n => n,fun | 24 => 115 | 22 => 111 | 3 => 3 | 25 => 154 | 4 => 4 | 0 => 0 | n => n,fun | n => n⟩
theorem Tryz.laysIns : Go.Proofs.SlLaysF0.n20 Tryz.prog Tryz.laysIns_ren := {
 mixed := by kernel_rfl
 f20 := ⟨Tryz.f190.name,by decide,Tryz.func190.trans (congrArg some (by kernel_rfl))⟩
 t0 := Tryz.underlying0
 a0 := Tryz.isAgg0
 z0 := Tryz.sizeOf0
 v0 := Tryz.zeroValue0
 t3 := Tryz.underlying3
 a3 := Tryz.isAgg3
 z3 := Tryz.sizeOf3
 v3 := Tryz.zeroValue3
 t4 := Tryz.underlying4
 a4 := Tryz.isAgg4
 z4 := Tryz.sizeOf4
 v4 := Tryz.zeroValue4
 t22 := Tryz.underlying111
 a22 := Tryz.isAgg111
 z22 := Tryz.sizeOf111
 v22 := Tryz.zeroValue111
 t25 := Tryz.underlying154
 a25 := Tryz.isAgg154
 z25 := Tryz.sizeOf154
 v25 := Tryz.zeroValue154 }
end Go.Proofs
namespace Go.Proofs.YtndjopkdbdcmdaaGreatDoor
end Go.Proofs.YtndjopkdbdcmdaaGreatDoor
