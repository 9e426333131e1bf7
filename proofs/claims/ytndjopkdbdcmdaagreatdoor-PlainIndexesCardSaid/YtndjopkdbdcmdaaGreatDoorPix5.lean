/- Part 5 of the proof of pindexes_card. -/
import Derived.Test.YtndjopkdbdcmdaaGreatDoorPix2
import Derived.Lib.ValidLaws
import Derived.Lib.TrimUEq
import Derived.Maps.OwnSet
import Derived.LoopN
import Derived.Lib.ConvBytes
import Derived.Lib.SmallJoins
set_option linter.unusedVariables false
set_option linter.unusedSimpArgs false
set_option maxRecDepth 100000
set_option maxHeartbeats 12800000
namespace Go.Proofs.YtndjopkdbdcmdaaGreatDoor
section
open Go.Lib
def nameByte (c : UInt8) : Bool := decide (32 ≤ c.toNat ∧ c.toNat ≠ 46)
def badRune (x : Nat) : Bool := decide (x < 32 ∨ x = 46)
theorem dec_class (n b0 b1 b2 b3 : Nat) (_hl : 0 < n) (_h0 : b0 < 256) (h1 : b1 < 256) (h2 : b2 < 256) (h3 : b3 < 256) :
 (b0 < 128 ∧ decodeN n b0 b1 b2 b3 = (b0,1)) ∨ decodeN n b0 b1 b2 b3 = (65533,1) ∨
 (∃ r,decodeN n b0 b1 b2 b3 = (r,2) ∧ 128 ≤ r ∧ 2 ≤ n ∧ 128 ≤ b0 ∧ 128 ≤ b1) ∨
 (∃ r,decodeN n b0 b1 b2 b3 = (r,3) ∧ 128 ≤ r ∧ 3 ≤ n ∧ 128 ≤ b0 ∧ 128 ≤ b1 ∧ 128 ≤ b2) ∨
 (∃ r,decodeN n b0 b1 b2 b3 = (r,4) ∧ 128 ≤ r ∧ 4 ≤ n ∧ 128 ≤ b0 ∧ 128 ≤ b1 ∧ 128 ≤ b2 ∧ 128 ≤ b3) := by
 unfold decodeN;split
 ·rename_i h;exact .inl ⟨h,rfl⟩
 split
 ·split
  ·rename_i h _ hr;exact .inr (.inr (.inl ⟨_,rfl,by omega⟩))
  exact .inr (.inl rfl)
 split
 ·split
  ·rename_i h _ hr;exact .inr (.inr (.inr (.inl ⟨_,rfl,by omega⟩)))
  exact .inr (.inl rfl)
 split
 ·split
  ·rename_i h _ hr;exact .inr (.inr (.inr (.inr ⟨_,rfl,by omega⟩)))
  exact .inr (.inl rfl)
 exact .inr (.inl rfl)
theorem nameByte_big (c : UInt8) (h : 128 ≤ c.toNat) : nameByte c = true := decide_eq_true (by omega)
theorem all_big (l : List UInt8) (k : Nat) (hk : k ≤ l.length) (h : ∀ i,i < k → 128 ≤ (l.getD i 0).toNat) : (l.take k).all nameByte = true := by
 rw [List.all_eq_true];intro x hx;obtain ⟨i,hi,rfl⟩ := List.mem_iff_getElem.1 hx;have hik : i < k := by rw [List.length_take] at hi;omega
 have := h i hik;rw [List.getD_eq_getElem?_getD,List.getElem?_eq_getElem (by omega)] at this;rw [List.getElem_take];exact nameByte_big _ this
theorem name_idx (s : ByteArray) : ∀ (f pos : Nat),validD (s.data.toList.drop pos) = true → s.size ≤ pos + f →
 decide (0 ≤ idxFuncFrom badRune true s f pos) = !((s.data.toList.drop pos).all nameByte) := by
 intro f
 induction f with
 | zero =>
  intro pos _ hp;have : s.data.toList.drop pos = [] := List.drop_eq_nil_of_le (by have : s.data.toList.length = s.size := rfl;omega);rw [this];rfl
 | succ f ih =>
  intro pos hv hp;by_cases hlt : pos < s.size
  ·have hsz : s.data.toList.length = s.size := rfl;obtain ⟨l,hl⟩ : ∃ l,s.data.toList.drop pos = l := ⟨_,rfl⟩;have hll : l.length = s.size - pos := by rw [← hl,List.length_drop,hsz]
   have hne : l ≠ [] := fun h => by rw [h] at hll;simp at hll;omega
   have hd : Utf8.decode s pos = decodeL l := by rw [← hl,decodeL_drop]
   have hdrop : ∀ k,s.data.toList.drop (pos + k) = l.drop k := fun k => by rw [← hl,List.drop_drop]
   have hsplit : ∀ k,l.all nameByte = ((l.take k).all nameByte && (l.drop k).all nameByte) := fun k => by rw [← List.all_append,List.take_append_drop]
   have hstep := validD_step l hne;rw [hl] at hv;rw [hv] at hstep;unfold idxFuncFrom;rw [if_pos hlt,hd,hl];rw [decodeL_N] at hstep ⊢;have big : ∀ (r k : Nat),0 < k → decodeN l.length (l.getD 0 0).toNat (l.getD 1 0).toNat (l.getD 2 0).toNat (l.getD 3 0).toNat = (r,k) → 128 ≤ r → k ≤ l.length → (∀ i,i < k → 128 ≤ (l.getD i 0).toNat) → (k = 1 → False) →
    decide (0 ≤ if badRune (r,k).1 = true then (pos : Int) else idxFuncFrom badRune true s f (pos + (r,k).2)) = !(l.all nameByte) := by
    intro r k hk0 he hr hk hb hk1;rw [he,if_neg (fun h => hk1 h.2)] at hstep;rw [if_neg (by simp [badRune];omega),hsplit k,all_big l k hk hb,Bool.true_and,← hdrop];exact ih (pos + k) (by rw [hdrop];exact hstep.symm) (by omega)
   rcases dec_class l.length _ _ _ _ (by omega) (l.getD 0 0).toNat_lt (l.getD 1 0).toNat_lt (l.getD 2 0).toNat_lt (l.getD 3 0).toNat_lt with ⟨h0,e⟩ | e | ⟨r,e,hr,hn,h⟩ | ⟨r,e,hr,hn,h⟩ | ⟨r,e,hr,hn,h⟩
   ·rw [e,if_neg (fun h => by have h1 : (l.getD 0 0).toNat = 65533 := h.1;omega)] at hstep;rw [e]
    match l,hne with
    | c :: t,_ =>
     simp only [List.getD_cons_zero] at h0 ⊢;by_cases hc : c.toNat < 32 ∨ c.toNat = 46
     ·rw [if_pos (by simp [badRune];omega)];have : nameByte c = false := decide_eq_false (by omega);rw [List.all_cons,this];simp
     rw [if_neg (by simp [badRune];omega)];have : nameByte c = true := decide_eq_true (by omega);rw [List.all_cons,this,Bool.true_and];have hd1 := hdrop 1;have := ih (pos + 1) (by rw [hd1];exact hstep.symm) (by omega);rw [hd1] at this;exact this
   ·rw [e] at hstep;simp at hstep
   ·rw [e];exact big r 2 (by omega) e hr hn (fun i hi => by match i,hi with | 0,_ => exact h.1 | 1,_ => exact h.2) (by omega)
   ·rw [e];exact big r 3 (by omega) e hr hn (fun i hi => by match i,hi with | 0,_ => exact h.1 | 1,_ => exact h.2.1 | 2,_ => exact h.2.2) (by omega)
   rw [e];exact big r 4 (by omega) e hr hn (fun i hi => by match i,hi with | 0,_ => exact h.1 | 1,_ => exact h.2.1 | 2,_ => exact h.2.2.1 | 3,_ => exact h.2.2.2) (by omega)
  rw [idxFuncFrom_end _ _ _ _ _ hlt];have : s.data.toList.drop pos = [] := List.drop_eq_nil_of_le (by have : s.data.toList.length = s.size := rfl;omega);rw [this];rfl
theorem name_of (s : ByteArray) (hv : validD s.data.toList = true) : (!decide (0 ≤ idxFunc badRune true s)) = s.data.toList.all nameByte := by
 have := name_idx s s.size 0 hv (by omega);rw [List.drop_zero] at this;rw [idxFunc,this,Bool.not_not]
end
section
open Go.RowKit Go.Maps
def nlit (s : ByteArray) : Lit := .string s.data.toList
def NS (l : List ByteArray) : DataW Unit := setOf (.agg []) (l.map nlit)
theorem NS_nil : NS [] = .map [] := rfl
theorem NS_snoc (l : List ByteArray) (s : ByteArray) : NS (l ++ [s]) = (NS l).put (nlit s) (.agg []) := by
 unfold NS;rw [List.map_append,List.map_singleton,setOf_snoc]
theorem nlit_key (l : List ByteArray) : ∀ x ∈ l.map nlit,WideAt.IsKeyLit x := fun x hx => by
 obtain ⟨s,_,rfl⟩ := List.mem_map.1 hx;trivial
theorem nlit_inj {a b : ByteArray} (h : nlit a = nlit b) : a = b := by
 injection h with h;exact ByteArray.ext (Array.ext' h)
theorem has_NS (l : List ByteArray) (s : ByteArray) : Maps.has (NS l) (nlit s) = true ↔ s ∈ l := by
 unfold NS;rw [has_setOf _ _ _ (nlit_key l),List.any_map,List.any_eq_true];constructor
 ·rintro ⟨x,hx,h⟩;by_cases e : nlit x = nlit s
  ·rw [← nlit_inj e];exact hx
  rw [Function.comp,sameKey_ne e] at h;exact absurd h Bool.false_ne_true
 intro h;exact ⟨s,h,show (nlit s).sameKey (nlit s) = true from WideAt.sameKey_self (a := nlit s) (nlit_key [s] (nlit s) (by simp))⟩
theorem size_NS_old (l : List ByteArray) (s : ByteArray) (h : s ∈ l) : Maps.size (NS (l ++ [s])) = Maps.size (NS l) := by
 rw [NS_snoc,size_put (D := NS l) (tidy_setOf _ _ (nlit_key l)),if_pos ((has_NS l s).2 h)]
theorem size_NS_new (l : List ByteArray) (s : ByteArray) (h : ¬ s ∈ l) : Maps.size (NS (l ++ [s])) = Maps.size (NS l) + 1 := by
 rw [NS_snoc,size_put (D := NS l) (tidy_setOf _ _ (nlit_key l)),if_neg (fun e => h ((has_NS l s).1 e))]
theorem size_NS (l : List ByteArray) : ∀ j,j ≤ l.length → Maps.size (NS (l.take j)) ≤ j ∧ (Maps.size (NS (l.take j)) = j ↔ (l.take j).Nodup) := by
 intro j
 induction j with
 | zero => intro _;exact ⟨Nat.le_of_eq rfl,by simp [NS_nil];rfl⟩
 | succ j ih =>
  intro h;obtain ⟨h1,h2⟩ := ih (by omega);rw [take_snoc l j (by omega)];by_cases hm : l[j] ∈ l.take j
  ·rw [size_NS_old _ _ hm];refine ⟨by omega,⟨fun e => by omega,fun hn => ?_⟩⟩;rw [List.nodup_append] at hn;exact absurd rfl (hn.2.2 _ hm _ (by simp))
  rw [size_NS_new _ _ hm];refine ⟨by omega,⟨fun e => ?_,fun hn => ?_⟩⟩
  ·rw [List.nodup_append];refine ⟨h2.1 (by omega),by simp,fun a ha b hb => ?_⟩;rw [List.mem_singleton] at hb;subst hb;intro e;subst e;exact hm ha
  rw [List.nodup_append] at hn;have := h2.2 hn.1;omega
theorem size_NS_all (l : List ByteArray) : (((Maps.size (NS l) : Nat) : Int) == (l.length : Int)) = decide l.Nodup := by
 have := (size_NS l l.length (Nat.le_refl _)).2;rw [List.take_length] at this;apply Bool.eq_iff_iff.2;rw [decide_eq_true_eq,beq_iff_eq,← this];omega
end
section
open Go.RowKit
def CF (w : World) (p : Addr) (u : Value) : Prop := w.cell? p = some u ∧ w.frozen? p = false
theorem CF.block {w w' : World} {p : Addr} {u : Value} (h : CF w p u) (e : w'.heap[p.block]? = w.heap[p.block]?) : CF w' p u :=
 ⟨(World.cell?_of_block e).trans h.1,(World.frozen?_of_block e).trans h.2⟩
def IsS (C : Addr → Value → Prop) : V → Cv → (Nat → Prop) → Prop
 | .mk k n b l f,c,S => c.k = k ∧ c.n = (n : Int) ∧ c.nB = b.length ∧ c.nL = l.length ∧ c.nF = f.length ∧
  -9223372036854775808 ≤ k ∧ k ≤ 9223372036854775807 ∧ n < 18446744073709551616 ∧
  b.length ≤ c.cB ∧ b.length ≤ 140737488355328 ∧ l.length ≤ c.cL ∧ l.length ≤ 140737488355328 ∧ f.length ≤ c.cF ∧ f.length ≤ 140737488355328 ∧
  Reads (fun p u => C p u ∧ S p.block) 1 c.aB b.length (u8s b) ∧
  (∃ T : Nat → Nat → Prop,(∀ i (h : i < l.length),∃ bk o x,c.aL = some ⟨bk,o,none⟩ ∧ S bk ∧ ¬ T i bk ∧ (∀ q,T i q → S q) ∧ At5 C bk (o + i * 5) x ∧ IsS C l[i] x (T i)) ∧
   (∀ i j,i < j → j < l.length → ∀ q,T i q → ¬ T j q)) ∧
  (∃ T : Nat → Nat → Prop,(∀ i (h : i < f.length),∃ bk o x,c.aF = some ⟨bk,o,none⟩ ∧ S bk ∧ ¬ T i bk ∧ (∀ q,T i q → S q) ∧ C ⟨bk,o + i * 6,none⟩ (.string f[i].1) ∧ f[i].1.size ≤ 140737488355328 ∧ At5 C bk (o + i * 6 + 1) x ∧ IsS C f[i].2 x (T i)) ∧
   (∀ i j,i < j → j < f.length → ∀ q,T i q → ¬ T j q))
termination_by v => SizeOf.sizeOf v
decreasing_by
 ·exact V.sizeOf_l (List.getElem_mem _)
 exact V.sizeOf_f (List.getElem_mem _)
theorem At5.mono' {C C' : Addr → Value → Prop} {bk o : Nat} {c : Cv} (h : ∀ p u,C p u → p.block = bk → C' p u) (hc : At5 C bk o c) : At5 C' bk o c :=
 ⟨h _ _ hc.1 rfl,h _ _ hc.2.1 rfl,h _ _ hc.2.2.1 rfl,h _ _ hc.2.2.2.1 rfl,h _ _ hc.2.2.2.2 rfl⟩
theorem IsS.mono {C C' : Addr → Value → Prop} (v : V) : ∀ (c : Cv) (S S' : Nat → Prop),(∀ p u,C p u → S p.block → C' p u) → (∀ q,S q → S' q) → IsS C v c S → IsS C' v c S' := by
 induction v using V.ind with
 | h k n b l f hl hf =>
  intro c S S' hC hS hv;rw [IsS] at hv ⊢;obtain ⟨e1,e2,e3,e4,e5,h1,h2,h3,h4,h5,h6,h7,h8,h9,hb,⟨T,hL,hLd⟩,⟨U,hF,hFd⟩⟩ := hv;refine ⟨e1,e2,e3,e4,e5,h1,h2,h3,h4,h5,h6,h7,h8,h9,hb.mono (fun p u h => ⟨hC p u h.1 h.2,hS _ h.2⟩),⟨T,fun i hi => ?_,hLd⟩,⟨U,fun i hi => ?_,hFd⟩⟩
  ·obtain ⟨bk,o,x,e,s,nt,ts,k0,kv⟩ := hL i hi;exact ⟨bk,o,x,e,hS _ s,nt,fun q hq => hS _ (ts q hq),k0.mono' (fun p u h e => hC p u h (e ▸ s)),hl _ (List.getElem_mem hi) _ _ _ (fun p u h hq => hC p u h (ts _ hq)) (fun q h => h) kv⟩
  obtain ⟨bk,o,x,e,s,nt,ts,ks,kz,k0,kv⟩ := hF i hi;exact ⟨bk,o,x,e,hS _ s,nt,fun q hq => hS _ (ts q hq),hC _ _ ks s,kz,k0.mono' (fun p u h e => hC p u h (e ▸ s)),hf _ (List.getElem_mem hi) _ _ _ (fun p u h hq => hC p u h (ts _ hq)) (fun q h => h) kv⟩
theorem IsS.isV {C : Addr → Value → Prop} (v : V) : ∀ (c : Cv) (S : Nat → Prop),IsS C v c S → IsV (fun p u => C p u ∧ S p.block) v c := by
 induction v using V.ind with
 | h k n b l f hl hf =>
  intro c S hv;rw [IsS] at hv;rw [IsV];obtain ⟨e1,e2,e3,e4,e5,h1,h2,h3,h4,h5,h6,h7,h8,h9,hb,⟨T,hL,hLd⟩,⟨U,hF,hFd⟩⟩ := hv;refine ⟨e1,e2,e3,e4,e5,h1,h2,h3,h4,h5,h6,h7,h8,h9,hb,fun i hi => ?_,fun i hi => ?_⟩
  ·obtain ⟨bk,o,x,e,s,nt,ts,k0,kv⟩ := hL i hi;exact ⟨bk,o,x,e,k0.mono' (fun p u h e => ⟨h,e ▸ s⟩),IsV.mono (fun p u h => ⟨h.1,ts _ h.2⟩) _ _ (hl _ (List.getElem_mem hi) _ _ kv)⟩
  obtain ⟨bk,o,x,e,s,nt,ts,ks,kz,k0,kv⟩ := hF i hi;exact ⟨bk,o,x,e,⟨ks,s⟩,kz,k0.mono' (fun p u h e => ⟨h,e ▸ s⟩),IsV.mono (fun p u h => ⟨h.1,ts _ h.2⟩) _ _ (hf _ (List.getElem_mem hi) _ _ kv)⟩
def InS (w : World) (lo hi : Nat) (v : V) (c : Cv) : Prop := hi ≤ w.heap.size ∧ IsS (CF w) v c (fun q => lo ≤ q ∧ q < hi)
theorem InS.atW {w : World} {lo hi : Nat} {v : V} {c : Cv} (h : InS w lo hi v c) : IsV (AtW w lo hi) v c :=
 IsV.mono (fun _ _ h => ⟨h.1.1,h.2.1,h.2.2⟩) _ _ (h.2.isV v c _)
theorem InS.blocks {w w' : World} {lo hi : Nat} {v : V} {c : Cv} (h : InS w lo hi v c) (hz : w.heap.size ≤ w'.heap.size) (hb : ∀ k,lo ≤ k → k < hi → w'.heap[k]? = w.heap[k]?) : InS w' lo hi v c :=
 ⟨Nat.le_trans h.1 hz,IsS.mono v c _ _ (fun _ _ q s => q.block (hb _ s.1 s.2)) (fun _ q => q) h.2⟩
theorem InS.grow {w w' : World} {lo hi : Nat} {v : V} {c : Cv} (h : InS w lo hi v c) (hg : Grow w w') : InS w' lo hi v c :=
 h.blocks hg.size (fun k _ hk => hg.below.block k (Nat.lt_of_lt_of_le hk h.1))
end
section
open V
abbrev Got := Except Int (V × List UInt8)
def rdN : List UInt8 → Option (ByteArray × List UInt8)
 | [] => none
 | m :: r => if m.toNat ≤ r.length then some (⟨(r.take m.toNat).toArray⟩,r.drop m.toNat) else none
open Classical in
noncomputable def rdF (f : List UInt8 → Got) : Nat → List ByteArray → List UInt8 → Except Int (List (ByteArray × V) × List UInt8)
 | 0,_,bs => .ok ([],bs)
 | n + 1,met,bs => match rdN bs with
  | none => .error 4
  | some (s,r) => if name s = true ∧ ¬ s ∈ met then
   match f r with
   | .error e => .error e
   | .ok (x,r') => match rdF f n (met ++ [s]) r' with
    | .error e => .error e
    | .ok (l,r'') => .ok ((s,x) :: l,r'')
   else .error 4
end
section
open V
theorem name_size {s : ByteArray} (h : name s = true) : s.size ≤ 32 := by
 simp only [name,Bool.and_eq_true,decide_eq_true_eq] at h;exact h.1.1.2
def V.fit : V → Prop
 | mk _ n _ l f => n < 18446744073709551616 ∧ (∀ x ∈ l,fit x) ∧ (∀ x ∈ f,fit x.2)
termination_by v => SizeOf.sizeOf v
decreasing_by
 ·exact sizeOf_l ‹_›
 exact sizeOf_f ‹_›
theorem IsV.fit {C : Addr → Value → Prop} (v : V) : ∀ c,IsV C v c → v.fit := by
 induction v using V.ind with
 | h k n b l f hl hf =>
  intro c hv;rw [IsV] at hv;rw [V.fit];obtain ⟨e1,e2,e3,e4,e5,h1,h2,h3,h4,h5,h6,h7,h8,h9,hb,hL,hF⟩ := hv;refine ⟨h3,fun x hx => ?_,fun x hx => ?_⟩
  ·obtain ⟨i,hi,rfl⟩ := List.mem_iff_getElem.1 hx;obtain ⟨bk,o,y,e,k0,kv⟩ := hL i hi;exact hl _ hx _ kv
  obtain ⟨i,hi,rfl⟩ := List.mem_iff_getElem.1 hx;obtain ⟨bk,o,y,e,ks,kz,k0,kv⟩ := hF i hi;exact hf _ hx _ kv
theorem ofNat_toNat8 (n : Nat) (h : n < 256) : (UInt8.ofNat n).toNat = n := by rw [UInt8.toNat_ofNat'];omega
theorem good_iff {v : V} : v.good = 0 ↔ v.formed = true ∧ v.most ≤ 64 ∧ v.depth ≤ 16 ∧ v.bytes.length ≤ 4096 := by
 unfold V.good
 cases hf : v.formed
 ·simp
 simp only [Bool.true_eq_false,if_false,true_and];by_cases h1 : 64 < v.most
 ·rw [if_pos h1];constructor
  ·intro h;omega
  intro h;omega
 rw [if_neg h1];by_cases h2 : 16 < v.depth
 ·rw [if_pos h2];constructor
  ·intro h;omega
  intro h;omega
 rw [if_neg h2];by_cases h3 : 4096 < v.bytes.length
 ·rw [if_pos h3];constructor
  ·intro h;omega
  intro h;omega
 rw [if_neg h3];constructor
 ·intro _;omega
 intro _;rfl
end
section
open V
theorem sum_le_flat {α : Type} (g : α → List UInt8) (f : α → Nat) (l : List α) (h : ∀ x ∈ l,f x ≤ (g x).length) : (l.map f).sum ≤ ((l.map g).flatten).length := by
 induction l with
 | nil => simp
 | cons x xs ih =>
  have h1 := h x (by simp);have h2 := ih fun y hy => h y (by simp [hy])
  simp only [List.map_cons,List.sum_cons,List.flatten_cons,List.length_append];omega
theorem count_le (v : V) : v.formed = true → v.count ≤ v.bytes.length := by
 induction v using V.ind with
 | h k n b l f hl hf =>
  intro hfm;rcases formed_cases hfm with h | ⟨n',hn',h⟩ | ⟨n',h⟩ | ⟨n',h⟩ | ⟨b',hb',h⟩ | ⟨b',h⟩ | ⟨l',hl',h⟩ | ⟨f',hf',hnd,h⟩ <;> cases h
  ·rw [count_mk,bytes_mk];simp
  ·rw [count_mk,bytes_mk];simp
  ·rw [count_mk,bytes_mk];simp
  ·rw [count_mk,bytes_mk];simp
  ·rw [count_mk,bytes_mk];simp
  ·rw [count_mk,bytes_mk];simp
  ·have h1 := sum_le_flat V.bytes V.count l fun x hx => hl x hx (hl' x hx)
   rw [count_mk,bytes_list];simp only [List.map_nil,List.sum_nil,List.length_cons];omega
  have h1 := sum_le_flat (fun x : ByteArray × V => item x.1 x.2.bytes) (fun x => x.2.count) f fun x hx => by
   have := hf x hx (hf' x hx).2;rw [item_length];omega
  rw [count_mk,bytes_doc];simp only [List.map_nil,List.sum_nil,List.length_cons];omega
end

section
open Go.RowKit Go.Shelf
theorem nameFn_any (x : Nat) (w : World) (hx : x ≤ 1114111) :
 Calls Tryz.prog 132 #[.int .i32 x] w fun e w' => e = .returned (.bool (badRune x)) ∧ w = w' := by
 by_cases h1 : x < 32
 ·go_enter Tryz.func132,Tryz.ntmps132;go_wp2_with fail;go_ret;exact ⟨ret_bool (by unfold badRune;apply Bool.eq_iff_iff.2;simp only [decide_eq_true_eq,true_iff];omega),rfl⟩
 by_cases h2 : x = 46
 ·have h2b : ((x : Int) == 46) = true := by simp;omega
  go_enter Tryz.func132,Tryz.ntmps132;go_wp2_with fail;go_ret;exact ⟨ret_bool (by unfold badRune;apply Bool.eq_iff_iff.2;simp only [decide_eq_true_eq,true_iff];omega),rfl⟩
 have h2b : ((x : Int) == 46) = false := by simp;omega
 go_enter Tryz.func132,Tryz.ntmps132;go_wp2_with fail;go_ret;exact ⟨ret_bool (by unfold badRune;apply Bool.eq_iff_iff.2;simp only [decide_eq_true_eq];omega),rfl⟩
def Tabs (w : World) : Prop := Lib.Utf8Tabs 0 1 w
theorem Tabs.grow {w w' : World} (h : Tabs w) (hg : Grow w w') : Tabs w' := Utf8Tabs_below h hg
theorem name_any (s : ByteArray) (w : World) (hT : Tabs w) :
 Calls Tryz.prog 89 #[.string s] w fun e w' => e = .returned (.bool (V.name s)) ∧ Grow w w' := by
 have hE : s.toList = s.data.toList := ByteArray.toList_eq s;have hsz : s.data.toList.length = s.size := rfl;obtain ⟨ANS,hANS⟩ : ∃ A,V.name s = A := ⟨_,rfl⟩;rw [hANS];have HA := hide (hANS.symm.trans (show V.name s = (decide (1 ≤ s.size ∧ s.size ≤ 32) && s.data.toList.all nameByte && Lib.validD s.data.toList) from rfl));have HT := hide hT;clear hANS hT;by_cases h0 : s.size = 0
 ·have hem : s.toList.isEmpty = true := by rw [hE];exact List.isEmpty_iff.2 (List.eq_nil_of_length_eq_zero (by omega))
  clear hE hsz;go_enter Tryz.func89,Tryz.ntmps89;go_wp2_with fail;go_ret;exact ⟨ret_bool (by rw [HA.out,decide_eq_false (by omega)];rfl),Grow.refl _⟩
 have hem : s.toList.isEmpty = false := by
  rw [hE]
  cases h : s.data.toList with
  | nil => rw [h] at hsz;simp at hsz;omega
  | cons x xs => rfl
 clear hE hsz;by_cases h1 : s.size ≤ 32
 ·have cV : Calls Tryz.prog 130 #[.string s] w _ := Any.utf8_ValidString Tryz.laysValid s w (by omega) HT.out;obtain ⟨VD,hVD⟩ : ∃ v,Lib.validD s.data.toList = v := ⟨_,rfl⟩;rw [hVD] at cV;have H1 := hide cV;have H2 := hide hVD;clear cV hVD
  cases VD
  ·go_enter Tryz.func89,Tryz.ntmps89;go_wp2_with fail;refine H1.out.mono ?_;rintro e w' ⟨rfl,hg⟩;have HG := hide hg;clear hg;go_wp2_with fail;go_ret;exact ⟨ret_bool (by rw [HA.out,H2.out,Bool.and_false]),HG.out⟩
  go_enter Tryz.func89,Tryz.ntmps89;go_wp2_with fail;refine H1.out.mono ?_;rintro e w' ⟨rfl,hg⟩;have HG := hide hg;clear hg;go_wp2_with fail;have cF := Any.strings_ContainsFunc_grows Tryz.laysCF 132 #[] (enters_of Tryz.func132 (by kernel_rfl) rfl) badRune s w' (fun W x hx hb => (nameFn_any x W hx).mono fun _ _ h => ⟨h.1,h.2 ▸ Below.refl _ _⟩);refine (show Calls Tryz.prog 131 #[.string s,.func (.func 132) #[] #[]] w' _ from cF).mono ?_;rintro e w2 ⟨rfl,hg2⟩;have HG2 := hide hg2;clear hg2 cF;go_wp2_with fail;go_ret;exact ⟨ret_bool (by rw [HA.out,H2.out,Bool.and_true,decide_eq_true (p := 1 ≤ s.size ∧ s.size ≤ 32) (by omega),Bool.true_and];exact name_of s H2.out),Grow.trans HG.out HG2.out⟩
 go_enter Tryz.func89,Tryz.ntmps89;go_wp2_with fail;go_ret;exact ⟨ret_bool (by rw [HA.out,decide_eq_false (by omega)];rfl),Grow.refl _⟩
end
section
open V
def be (k n : Nat) : List UInt8 := (toLe k n).reverse
theorem be_length (k n : Nat) : (be k n).length = k := by rw [be,List.length_reverse,toLe_length]
theorem be_succ (k n : Nat) : be (k + 1) n = UInt8.ofNat (n / 256 ^ k) :: be k n := by rw [be,toLe_succ,List.reverse_append];rfl
def turnN (n : Nat) : Nat := if n < 9223372036854775808 then n + 9223372036854775808 else 18446744073709551615 - n
theorem turn_lt (n : Nat) (h : n < 18446744073709551616) : turnN n < 18446744073709551616 := by unfold turnN;split <;> omega
def nanB (n : Nat) : Bool := Ieee.double.order n n != some .eq
def i64 (n : Nat) : Int := if n < 9223372036854775808 then (n : Int) else (n : Int) - 18446744073709551616
def escB : List UInt8 → List UInt8
 | [] => []
 | x :: r => if x = 0 then 0 :: 255 :: escB r else x :: escB r
def esc (b : List UInt8) : List UInt8 := escB b ++ [0,0]
theorem escB_snoc (b : List UInt8) (x : UInt8) : escB (b ++ [x]) = escB b ++ (if x = 0 then [0,255] else [x]) := by
 induction b with
 | nil => simp only [List.nil_append,escB]
 | cons y b ih => simp only [List.cons_append,escB,ih];split <;> simp
theorem escB_length (b : List UInt8) : b.length ≤ (escB b).length ∧ (escB b).length ≤ 2 * b.length := by
 induction b with
 | nil => simp [escB]
 | cons x b ih => simp only [escB];split <;> simp only [List.length_cons] <;> omega
def keyInt (n : Nat) : List UInt8 := 1 :: (be 8 (turnN (fl (i64 n)).1) ++ (be 2 (fl (i64 n)).2 ++ [0]))
def keyFloat (n : Nat) : List UInt8 := if nanB n = true then 0 :: be 8 n else 1 :: (be 8 (turnN n) ++ [0,0,1])
namespace V
def key : V → List UInt8
 | mk k n b l f =>
  if k = 1 then [16] else if k = 2 then [32,UInt8.ofNat n] else if k = 3 then 48 :: keyInt n else if k = 4 then 48 :: keyFloat n
  else if k = 5 then 64 :: esc b else if k = 6 then 80 :: esc b
  else if k = 7 then 96 :: ((l.attach.map fun x => 1 :: key x.1).flatten ++ [0])
  else if k = 8 then 112 :: ((f.attach.map fun x => 1 :: (esc x.1.1.data.toList ++ key x.1.2)).flatten ++ [0]) else []
termination_by v => SizeOf.sizeOf v
decreasing_by
 ·exact sizeOf_l x.2
 exact sizeOf_f x.2
def keyL (x : V) : List UInt8 := 1 :: key x
def keyFd (x : ByteArray × V) : List UInt8 := 1 :: (esc x.1.data.toList ++ key x.2)
theorem key_mk (k : Int) (n : Nat) (b : List UInt8) (l : List V) (f : List (ByteArray × V)) : (mk k n b l f).key =
 if k = 1 then [16] else if k = 2 then [32,UInt8.ofNat n] else if k = 3 then 48 :: keyInt n else if k = 4 then 48 :: keyFloat n
 else if k = 5 then 64 :: esc b else if k = 6 then 80 :: esc b
 else if k = 7 then 96 :: ((l.map keyL).flatten ++ [0])
 else if k = 8 then 112 :: ((f.map keyFd).flatten ++ [0]) else [] := by
 rw [key];have e1 : (l.attach.map fun x => 1 :: key x.1) = l.map keyL := by show l.attach.map (fun x => keyL x.1) = _;simp only [List.map_attach_eq_pmap,List.pmap_eq_map]
 have e2 : (f.attach.map fun x => 1 :: (esc x.1.1.data.toList ++ key x.1.2)) = f.map keyFd := by show f.attach.map (fun x => keyFd x.1) = _;simp only [List.map_attach_eq_pmap,List.pmap_eq_map]
 rw [e1,e2]
end V
theorem i64_range (n : Nat) (h : n < 18446744073709551616) : -9223372036854775808 ≤ i64 n ∧ i64 n ≤ 9223372036854775807 := by unfold i64;split <;> omega
theorem keyL_len (l : List V) : l.length ≤ ((l.map V.keyL).flatten).length := by
 induction l with
 | nil => simp
 | cons x l ih => simp only [List.map_cons,List.flatten_cons,List.length_append,V.keyL,List.length_cons];omega
theorem keyFd_len (l : List (ByteArray × V)) : l.length ≤ ((l.map V.keyFd).flatten).length := by
 induction l with
 | nil => simp
 | cons x l ih => simp only [List.map_cons,List.flatten_cons,List.length_append,V.keyFd,List.length_cons];omega
def ofK (v : V) : List UInt8 × Int := if v.good ≠ 0 then ([],v.good) else if 96 < v.key.length then ([],14) else (v.key,0)
theorem good_parts {v : V} (h : v.good = 0) : v.formed = true ∧ v.depth ≤ 16 := by have := good_iff.1 h;exact ⟨this.1,this.2.2.1⟩
end
section
open V
def flip1 (x : UInt8) : UInt8 := UInt8.ofNat (255 - x.toNat)
def flip (t : Bool) (b : List UInt8) : List UInt8 := if t = true then b.map flip1 else b
def allE : List V → Int
 | [] => 0
 | v :: l => if (ofK v).2 ≠ 0 then (ofK v).2 else allE l
def allB : List V → List Bool → List UInt8
 | v :: l,t :: ts => flip t v.key ++ allB l ts
 | _,_ => []
def allK (l : List V) (ts : List Bool) : List UInt8 × Int :=
 if l.length ≠ ts.length then ([],1) else if allE l ≠ 0 then ([],allE l) else if 96 < (allB l ts).length then ([],14) else (allB l ts,0)
theorem ofK_good {v : V} (h : (ofK v).2 = 0) : v.good = 0 ∧ v.key.length ≤ 96 := by
 unfold ofK at h;split at h
 ·rename_i h0;exact absurd h h0
 split at h
 ·cases h
 exact ⟨by omega,by omega⟩
theorem allE_ok : ∀ {l : List V},allE l = 0 → ∀ v ∈ l,(ofK v).2 = 0
 | [],_,v,hv => by cases hv
 | x :: l,h,v,hv => by
  rw [allE] at h;split at h
  ·rename_i h0;exact absurd h h0
  rcases List.mem_cons.1 hv with rfl | hv
  ·rename_i h0;simpa using h0
  exact allE_ok h v hv
theorem allK_ok {l : List V} {ts : List Bool} {b : List UInt8} (h : allK l ts = (b,0)) : l.length = ts.length ∧ (∀ v ∈ l,v.good = 0) ∧ allB l ts = b ∧ b.length ≤ 96 := by
 unfold allK at h;split at h
 ·cases (Prod.ext_iff.1 h).2
 split at h
 ·rename_i h0;exact absurd (Prod.ext_iff.1 h).2 h0
 split at h
 ·cases (Prod.ext_iff.1 h).2
 rename_i h0 h1 h2;have e : allB l ts = b := (Prod.ext_iff.1 h).1;exact ⟨by omega,fun v hv => (ofK_good (allE_ok (by omega) v hv)).1,e,by rw [← e];omega⟩
end
end Go.Proofs.YtndjopkdbdcmdaaGreatDoor
