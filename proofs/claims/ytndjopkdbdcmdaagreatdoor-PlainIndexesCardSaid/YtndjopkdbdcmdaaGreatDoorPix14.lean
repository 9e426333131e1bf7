/- Part 14 of the proof of pindexes_card. -/
import Derived.Test.YtndjopkdbdcmdaaGreatDoorPix13
set_option linter.unusedVariables false
set_option linter.unusedSimpArgs false
set_option maxRecDepth 100000
set_option maxHeartbeats 12800000
namespace Go.Proofs.YtndjopkdbdcmdaaGreatDoor
section
open Go.RowKit
theorem bsG_eq {cf : Nat → Int} {n p : Nat} (h1 : ∀ j,j < p → cf j < 0) (h2 : ∀ j,p ≤ j → j < n → 0 ≤ cf j) : ∀ (g i j : Nat),j - i ≤ g → i ≤ p → p ≤ j → j ≤ n → bsG cf g i j = p
 | 0,i,j,hg,hi,hj,hn => by rw [bsG];omega
 | g + 1,i,j,hg,hi,hj,hn => by
  rw [bsG];split
  ·rename_i hij;split
   ·rename_i hc;have hp : (i + j) / 2 < p := by
     rcases Nat.lt_or_ge ((i + j) / 2) p with h | h
     ·exact h
     have := h2 _ h (by omega);omega
    exact bsG_eq h1 h2 g _ j (by omega) (by omega) hj hn
   rename_i hc;have hp : p ≤ (i + j) / 2 := by
    rcases Nat.lt_or_ge ((i + j) / 2) p with h | h
    ·exact absurd (h1 _ h) hc
    exact h
   exact bsG_eq h1 h2 g i _ (by omega) hi hp (by omega)
  omega
theorem bsN_eq {cf : Nat → Int} {n p : Nat} (hp : p ≤ n) (h1 : ∀ j,j < p → cf j < 0) (h2 : ∀ j,p ≤ j → j < n → 0 ≤ cf j) : bsN cf n = p := bsG_eq h1 h2 n 0 n (by omega) (Nat.zero_le _) hp (Nat.le_refl _)
theorem bsG_congr {cf cg : Nat → Int} {n : Nat} (h : ∀ j,j < n → cf j = cg j) : ∀ (g i j : Nat),j ≤ n → bsG cf g i j = bsG cg g i j
 | 0,i,j,hj => rfl
 | g + 1,i,j,hj => by
  rw [bsG,bsG];split
  ·rw [h _ (by omega),bsG_congr h g _ j hj,bsG_congr h g i _ (by omega)]
  rfl
theorem bsN_congr {cf cg : Nat → Int} {n : Nat} (h : ∀ j,j < n → cf j = cg j) : bsN cf n = bsN cg n := bsG_congr h n 0 n (Nat.le_refl _)
theorem bsF_congr {cf cg : Nat → Int} {n : Nat} (h : ∀ j,j < n → cf j = cg j) : bsF cf n = bsF cg n := by
 unfold bsF;rw [bsN_congr h];by_cases hn : bsN cg n < n
 ·rw [h _ hn]
 simp [hn]
theorem ltB_asymm {a b : List UInt8} (h : ltB a b = true) : ltB b a = false := by
 rcases Bool.eq_false_or_eq_true (ltB b a) with k | k
 ·have := ltB_trans a b a h k;rw [ltB_irrefl] at this;cases this
 exact k
theorem ltB_neg {a b : List UInt8} : ltB a b = true ↔ Lib.compareBytes a b < 0 := by simp [ltB]
theorem cmpB_zero {a b : List UInt8} : Lib.compareBytes a b = 0 ↔ a = b := by
 constructor
 ·intro h;refine ltB_total a b (by simp [ltB,h]) ?_;rcases Bool.eq_false_or_eq_true (ltB b a) with k | k
  ·rw [ltB_neg] at k;have := (cmpB_trans b a b (by omega) (by omega)).2 k;have h2 := ltB_irrefl b;simp [ltB] at h2;omega
  exact k
 rintro rfl;have h := ltB_irrefl a;rcases cmpB_vals a a with e | e | e
 ·simp [ltB,e] at h
 ·exact e
 exfalso
 induction a with
 | nil => simp [Lib.compareBytes] at e
 | cons x a ih => rw [Lib.compareBytes] at e;simp at e;exact ih (ltB_irrefl a) e
def Rise (l : List (List UInt8)) : Prop := l.Pairwise fun a b => ltB a b = true
def lessN (keys : List (List UInt8)) (k : List UInt8) : Nat := keys.countP fun x => ltB x k
def kN (keys : List (List UInt8)) (k : List UInt8) : Nat := bsN (fun j => Lib.compareBytes (keys.getD j []) k) keys.length
def kF (keys : List (List UInt8)) (k : List UInt8) : Bool := bsF (fun j => Lib.compareBytes (keys.getD j []) k) keys.length
theorem Rise.lt {l : List (List UInt8)} (h : Rise l) {i j : Nat} (hij : i < j) (hj : j < l.length) : ltB (l[i]'(by omega)) l[j] = true := (List.pairwise_iff_getElem.1 h) i j (by omega) hj hij
theorem lessN_le (keys : List (List UInt8)) (k : List UInt8) : lessN keys k ≤ keys.length := List.countP_le_length
theorem less_iff : ∀ {keys : List (List UInt8)} {k : List UInt8},Rise keys → ∀ {j : Nat} (hj : j < keys.length),j < lessN keys k ↔ ltB keys[j] k = true
 | [],k,h,j,hj => by simp at hj
 | x :: r,k,h,j,hj => by
  have hr : Rise r := (List.pairwise_cons.1 h).2;have hx := (List.pairwise_cons.1 h).1;by_cases hxk : ltB x k = true
  ·have e : lessN (x :: r) k = lessN r k + 1 := by unfold lessN;rw [List.countP_cons_of_pos (by simpa using hxk)]
   rw [e];rcases j with _ | j
   ·simp [hxk]
   have := less_iff (k := k) hr (j := j) (by simpa using hj);simp only [List.getElem_cons_succ];rw [← this];omega
  have e : lessN (x :: r) k = 0 := by
   unfold lessN;rw [List.countP_eq_zero];intro y hy hyk;rcases List.mem_cons.1 hy with rfl | hy
   ·exact hxk hyk
   exact hxk (ltB_trans x y k (hx y hy) hyk)
  rw [e];constructor
  ·intro h0;omega
  intro h0;exfalso;have : (x :: r)[j] ∈ x :: r := List.getElem_mem _;rcases List.mem_cons.1 this with e1 | e1
  ·rw [e1] at h0;exact hxk h0
  exact hxk (ltB_trans _ _ _ (hx _ e1) h0)
theorem kN_eq {keys : List (List UInt8)} {k : List UInt8} (h : Rise keys) : kN keys k = lessN keys k := by
 refine bsN_eq (lessN_le _ _) (fun j hj => ?_) (fun j hj hn => ?_)
 ·have hl : j < keys.length := Nat.lt_of_lt_of_le hj (lessN_le _ _);rw [List.getD_eq_getElem?_getD,List.getElem?_eq_getElem hl,Option.getD_some];exact ltB_neg.1 ((less_iff h hl).1 hj)
 rw [List.getD_eq_getElem?_getD,List.getElem?_eq_getElem hn,Option.getD_some];have : ¬ ltB keys[j] k = true := fun hc => by have := (less_iff h hn).2 hc;omega
 rw [ltB_neg] at this;omega
theorem kF_iff {keys : List (List UInt8)} {k : List UInt8} (h : Rise keys) : kF keys k = true ↔ k ∈ keys := by
 unfold kF bsF;rw [show bsN (fun j => Lib.compareBytes (keys.getD j []) k) keys.length = lessN keys k from kN_eq h];simp only [Bool.and_eq_true,decide_eq_true_eq,beq_iff_eq];constructor
 ·rintro ⟨h1,h2⟩;rw [List.getD_eq_getElem?_getD,List.getElem?_eq_getElem h1,Option.getD_some,cmpB_zero] at h2;rw [← h2];exact List.getElem_mem _
 intro hm;obtain ⟨j,hj,e⟩ := List.getElem_of_mem hm;have hle : lessN keys k = j := by
  have h1 : ¬ j < lessN keys k := fun hc => by have := (less_iff h hj).1 hc;rw [e,ltB_irrefl] at this;cases this
  rcases Nat.lt_or_ge (lessN keys k) j with h2 | h2
  ·have h3 : ltB (keys[lessN keys k]'(by omega)) k = true := by have h4 := h.lt h2 hj;rwa [e] at h4
   have := (less_iff h (by omega)).2 h3;omega
  omega
 rw [hle];refine ⟨hj,?_⟩;rw [List.getD_eq_getElem?_getD,List.getElem?_eq_getElem hj,Option.getD_some,e,cmpB_zero]
theorem kF_at {keys : List (List UInt8)} {k : List UInt8} (h : kF keys k = true) : keys[kN keys k]? = some k := by
 unfold kF bsF at h;simp only [Bool.and_eq_true,decide_eq_true_eq,beq_iff_eq] at h;obtain ⟨h1,h2⟩ := h;unfold kN;rw [List.getD_eq_getElem?_getD,List.getElem?_eq_getElem h1,Option.getD_some,cmpB_zero] at h2;rw [List.getElem?_eq_getElem h1,h2]
abbrev nmB (names : List ByteArray) : List (List UInt8) := names.map fun s => s.data.toList
theorem nmB_getD (names : List ByteArray) (j : Nat) : (names.getD j ⟨#[]⟩).data.toList = (nmB names).getD j [] := by
 rw [List.getD_eq_getElem?_getD,List.getD_eq_getElem?_getD,List.getElem?_map]
 cases names[j]? <;> rfl
theorem plN_k (names : List ByteArray) (s : ByteArray) : plN names s = kN (nmB names) s.data.toList := by
 unfold plN kN nameCf;rw [List.length_map];exact bsN_congr fun j _ => by rw [nmB_getD]
theorem plF_k (names : List ByteArray) (s : ByteArray) : plF names s = kF (nmB names) s.data.toList := by
 unfold plF kF nameCf;rw [List.length_map];exact bsF_congr fun j _ => by rw [nmB_getD]
abbrev dkB (docs : List V) : List (List UInt8) := docs.map fun d => (keyP d).1
theorem dkB_getD (docs : List V) {j : Nat} (h : j < docs.length) : (keyP (docs.getD j V.zero)).1 = (dkB docs).getD j [] := by
 rw [List.getD_eq_getElem?_getD,List.getD_eq_getElem?_getD,List.getElem?_map,List.getElem?_eq_getElem h];rfl
theorem docN_k (docs : List V) (k : List UInt8) : docN docs k = kN (dkB docs) k := by
 unfold docN kN;rw [List.length_map];exact bsN_congr fun j h => by unfold docCf;rw [dkB_getD docs h]
theorem docF_k (docs : List V) (k : List UInt8) : docF docs k = kF (dkB docs) k := by
 unfold docF kF;rw [List.length_map];exact bsF_congr fun j h => by unfold docCf;rw [dkB_getD docs h]
theorem byteArray_inj {a b : ByteArray} (h : a.data.toList = b.data.toList) : a = b := by
 cases a;cases b;simp only [ByteArray.mk.injEq];exact Array.toList_inj.1 h
theorem mem_nmB {names : List ByteArray} {s : ByteArray} : s.data.toList ∈ nmB names ↔ s ∈ names := by
 rw [List.mem_map];constructor
 ·rintro ⟨x,hx,e⟩;rw [← byteArray_inj e];exact hx
 intro h;exact ⟨s,h,rfl⟩
theorem plF_iff {names : List ByteArray} (h : Rise (nmB names)) (s : ByteArray) : plF names s = true ↔ s ∈ names := by rw [plF_k,kF_iff h,mem_nmB]
theorem plF_at {names : List ByteArray} {s : ByteArray} (h : plF names s = true) : names[plN names s]? = some s := by
 rw [plF_k] at h;have := kF_at h;rw [← plN_k,List.getElem?_map] at this
 cases hx : names[plN names s]? with
 | none => rw [hx] at this;cases this
 | some y => rw [hx] at this;injection this with this;rw [byteArray_inj this]
theorem plF_lt {names : List ByteArray} {s : ByteArray} (h : plF names s = true) : plN names s < names.length := (List.getElem?_eq_some_iff.1 (plF_at h)).1
theorem plN_le (names : List ByteArray) (s : ByteArray) : plN names s ≤ names.length := bsN_le _ _
theorem docN_le (docs : List V) (k : List UInt8) : docN docs k ≤ docs.length := bsN_le _ _
theorem docF_lt {docs : List V} {k : List UInt8} (h : docF docs k = true) : docN docs k < docs.length := by
 unfold docF bsF at h;simp only [Bool.and_eq_true,decide_eq_true_eq] at h;exact h.1
theorem Rise.ins {keys : List (List UInt8)} {k : List UInt8} (h : Rise keys) (hk : k ∉ keys) : Rise (insAt keys (kN keys k) k) := by
 rw [kN_eq h,insAt];have hlt : ∀ x ∈ keys.take (lessN keys k),ltB x k = true := fun x hx => by
  obtain ⟨j,hj,e⟩ := List.getElem_of_mem hx;rw [List.length_take] at hj;rw [List.getElem_take] at e;rw [← e];exact (less_iff h (by omega)).1 (by omega)
 have hgt : ∀ x ∈ keys.drop (lessN keys k),ltB k x = true := fun x hx => by
  obtain ⟨j,hj,e⟩ := List.getElem_of_mem hx;rw [List.length_drop] at hj;rw [List.getElem_drop] at e;have h1 : ltB x k = false := by
   rcases Bool.eq_false_or_eq_true (ltB x k) with h1 | h1
   ·rw [← e] at h1;have := (less_iff h (by omega)).2 h1;omega
   exact h1
  rcases Bool.eq_false_or_eq_true (ltB k x) with h2 | h2
  ·exact h2
  have := ltB_total x k h1 h2;subst this;exact absurd (List.mem_of_mem_drop hx) hk
 refine List.pairwise_append.2 ⟨h.sublist (List.take_sublist _ _),List.pairwise_cons.2 ⟨hgt,h.sublist (List.drop_sublist _ _)⟩,fun a ha b hb => ?_⟩;rcases List.mem_cons.1 hb with rfl | hb
 ·exact hlt a ha
 exact ltB_trans _ _ _ (hlt a ha) (hgt b hb)
theorem Rise.del {keys : List (List UInt8)} (h : Rise keys) (i : Nat) : Rise (delAt keys i) := by
 refine List.pairwise_append.2 ⟨h.sublist (List.take_sublist _ _),h.sublist (List.drop_sublist _ _),fun a ha b hb => ?_⟩;obtain ⟨x,hx,ex⟩ := List.getElem_of_mem ha;obtain ⟨y,hy,ey⟩ := List.getElem_of_mem hb;rw [List.length_take] at hx;rw [List.length_drop] at hy;rw [List.getElem_take] at ex;rw [List.getElem_drop] at ey;rw [← ex,← ey];exact h.lt (by omega) (by omega)
theorem map_ins {α β : Type} (f : α → β) (l : List α) (i : Nat) (x : α) : (insAt l i x).map f = insAt (l.map f) i (f x) := by simp [insAt,List.map_take,List.map_drop]
theorem map_del {α β : Type} (f : α → β) (l : List α) (i : Nat) : (delAt l i).map f = delAt (l.map f) i := by simp [delAt,List.map_take,List.map_drop]
theorem mem_ins {α : Type} {l : List α} {i : Nat} {x y : α} : y ∈ insAt l i x ↔ y = x ∨ y ∈ l := by
 unfold insAt;rw [List.mem_append,List.mem_cons];constructor
 ·rintro (h | h | h)
  ·exact .inr (List.mem_of_mem_take h)
  ·exact .inl h
  exact .inr (List.mem_of_mem_drop h)
 rintro (h | h)
 ·exact .inr (.inl h)
 rw [← List.take_append_drop i l,List.mem_append] at h;rcases h with h | h
 ·exact .inl h
 exact .inr (.inr h)
theorem mem_del {α : Type} {l : List α} {i : Nat} {y : α} (h : y ∈ delAt l i) : y ∈ l := by
 rcases List.mem_append.1 h with h | h
 ·exact List.mem_of_mem_take h
 exact List.mem_of_mem_drop h
theorem ins_len {α : Type} {l : List α} {i : Nat} {x : α} : (insAt l i x).length = l.length + 1 := by
 unfold insAt;rw [List.length_append,List.length_cons,List.length_take,List.length_drop];omega
theorem del_len {α : Type} {l : List α} {i : Nat} (h : i < l.length) : (delAt l i).length = l.length - 1 := by
 unfold delAt;rw [List.length_append,List.length_take,List.length_drop];omega
abbrev enB (l : List EN) : List (List UInt8) := l.map Prod.fst
theorem insE_perm (x : EN) : ∀ l,(insE x l).Perm (x :: l)
 | [] => List.Perm.refl _
 | y :: r => by
  rw [insE];split
  ·exact ((insE_perm x r).cons y).trans (List.Perm.swap x y r)
  exact List.Perm.refl _
theorem sortE_fold_perm : ∀ (l a : List EN),(l.foldl (fun a x => insE x a) a).Perm (l ++ a)
 | [],a => List.Perm.refl _
 | x :: r,a => by
  rw [List.foldl_cons];exact (sortE_fold_perm r _).trans (((List.Perm.refl r).append (insE_perm x a)).trans List.perm_middle)
theorem sortE_perm (l : List EN) : (sortE l).Perm l := by
 have := sortE_fold_perm l [];rwa [List.append_nil] at this
def OrdE (l : List EN) : Prop := l.Pairwise fun a b => ltB b.1 a.1 = false
theorem insE_ord {x : EN} : ∀ {l : List EN},OrdE l → OrdE (insE x l)
 | [],h => List.pairwise_singleton _ _
 | y :: r,h => by
  rw [insE];have hr := (List.pairwise_cons.1 h).2;have hy := (List.pairwise_cons.1 h).1;split
  ·rename_i hc;refine List.pairwise_cons.2 ⟨fun b hb => ?_,insE_ord hr⟩;rcases List.mem_cons.1 ((insE_perm x r).mem_iff.1 hb) with e | e
   ·rw [e];exact ltB_asymm hc
   exact hy b e
  rename_i hc;have hc' : ltB y.1 x.1 = false := by rcases Bool.eq_false_or_eq_true (ltB y.1 x.1) with k | k;exact absurd k hc;exact k
  refine List.pairwise_cons.2 ⟨fun b hb => ?_,h⟩;rcases List.mem_cons.1 hb with e | e
  ·rw [e];exact hc'
  exact ltB_swo.ntrans _ _ _ (hy b e) hc'
theorem sortE_fold_ord : ∀ (l a : List EN),OrdE a → OrdE (l.foldl (fun a x => insE x a) a)
 | [],a,h => h
 | x :: r,a,h => by rw [List.foldl_cons];exact sortE_fold_ord r _ (insE_ord h)
theorem sortE_ord (l : List EN) : OrdE (sortE l) := sortE_fold_ord l [] List.Pairwise.nil
theorem ord_unique : ∀ {l m : List EN},l.Perm m → OrdE l → OrdE m → (enB l).Nodup → l = m
 | [],m,hp,_,_,_ => (List.nil_perm.1 hp).symm
 | x :: r,[],hp,_,_,_ => absurd hp.symm (by simp)
 | x :: r,y :: s,hp,hl,hm,hn => by
  have hlx := (List.pairwise_cons.1 hl).1;have hmy := (List.pairwise_cons.1 hm).1;have hxy : x = y := by
   rcases List.mem_cons.1 (hp.mem_iff.1 (List.mem_cons_self)) with e | e
   ·exact e
   rcases List.mem_cons.1 (hp.mem_iff.2 (List.mem_cons_self)) with e' | e'
   ·exact e'.symm
   exfalso;have h1 : ltB x.1 y.1 = false := hmy x e;have h2 : ltB y.1 x.1 = false := hlx y e';have h3 : x.1 = y.1 := ltB_total _ _ h1 h2;have hn' := List.nodup_cons.1 (show (x.1 :: enB r).Nodup from hn);exact hn'.1 (by rw [h3];exact List.mem_map.2 ⟨y,e',rfl⟩)
  subst hxy;have hn' := List.nodup_cons.1 (show (x.1 :: enB r).Nodup from hn);rw [ord_unique ((List.perm_cons x).1 hp) (List.pairwise_cons.1 hl).2 (List.pairwise_cons.1 hm).2 hn'.2]
theorem sortE_unique {l m : List EN} (hp : m.Perm l) (ho : OrdE m) (hn : (enB l).Nodup) : m = sortE l :=
 ord_unique (hp.trans (sortE_perm l).symm) ho (sortE_ord l) ((hp.map Prod.fst).nodup_iff.2 hn)
end
section
open Go.RowKit
theorem fit_l {k : Int} {n : Nat} {b : List UInt8} {l : List V} {f : List (ByteArray × V)} (h : (V.mk k n b l f).fit) : ∀ x ∈ l,x.fit := by rw [V.fit] at h;exact h.2.1
theorem fit_f {k : Int} {n : Nat} {b : List UInt8} {l : List V} {f : List (ByteArray × V)} (h : (V.mk k n b l f).fit) : ∀ x ∈ f,x.2.fit := by rw [V.fit] at h;exact h.2.2
theorem stepV_fit {v u : V} {s : ByteArray} (h : stepV v s = some u) (hf : v.fit) : u.fit := by
 obtain ⟨k,n,b,l,f⟩ := v;by_cases hk : k = 7
 ·subst hk;rw [stepV_list] at h;split at h
  ·exact fit_l hf u (List.mem_of_getElem? h)
  cases h
 rw [stepV_doc hk,Option.map_eq_some_iff] at h;obtain ⟨x,h1,rfl⟩ := h;exact fit_f hf x (List.mem_of_find?_eq_some h1)
theorem pathL_fit : ∀ {l : List ByteArray} {v u : V},pathL v l = some u → v.fit → u.fit
 | [],v,u,h,hf => by rw [pathL] at h;injection h with h;rw [← h];exact hf
 | s :: r,v,u,h,hf => by
  rw [pathL,Option.bind_eq_some_iff] at h;obtain ⟨x,h1,h2⟩ := h;exact pathL_fit h2 (stepV_fit h1 hf)
theorem pathL_formed : ∀ {l : List ByteArray} {v u : V},pathL v l = some u → v.formed = true → u.formed = true
 | [],v,u,h,hf => by rw [pathL] at h;injection h with h;rw [← h];exact hf
 | s :: r,v,u,h,hf => by
  rw [pathL,Option.bind_eq_some_iff] at h;obtain ⟨x,h1,h2⟩ := h;exact pathL_formed h2 (stepV_formed h1 hf)
theorem pathV_fine {v u : V} {s : ByteArray} (h : pathV v s = some u) (hf : v.fit) : Fine u := by
 unfold pathV at h;split at h
 ·rename_i hg;have hfm := (V.good_formed hg).1;split at h
  ·injection h with h;rw [← h];exact ⟨hfm,hf⟩
  exact ⟨pathL_formed h hfm,pathL_fit h hf⟩
 cases h
structure DocOk (d : V) : Prop where
 key : (keyP d).2 = 0
 fit : d.fit
 count : d.count ≤ 20000
theorem DocOk.id {d : V} (h : DocOk d) : ∃ i,idP d = some i ∧ V.Keyed i ∧ keyP d = (i.key,0) ∧ d.good = 0 ∧ d.k = 8 := by
 have hk := h.key;unfold keyP at hk ⊢;by_cases h0 : d.good = 0
 ·rw [if_neg (by simpa using h0)] at hk ⊢;by_cases h8 : d.k = 8
  ·rw [if_neg (by simpa using h8)] at hk ⊢
   cases hi : idP d with
   | none => rw [hi] at hk;simp at hk
   | some i =>
    rw [hi] at hk;dsimp only at hk ⊢;obtain ⟨s,hs⟩ := idP_mem hi;have hfi : i.fit := by
     obtain ⟨k,n,b,l,f⟩ := d;exact fit_f h.fit (s,i) hs
    have hK := V.Keyed.of hk hfi;exact ⟨i,rfl,hK,hK.ofK,h0,h8⟩
  rw [if_pos h8] at hk;simp at hk
 rw [if_pos h0] at hk;exact absurd hk h0
theorem ent_none {path : ByteArray} {d : V} (h : DocOk d) (hp : pathV d path = none) : entryP path d = ([],false,0) ∧ entOf path d = none := by
 have e : entryP path d = ([],false,0) := by unfold entryP;rw [if_neg (by simpa using h.key),hp]
 exact ⟨e,by unfold entOf;rw [e];rfl⟩
theorem ent_some {path : ByteArray} {d u : V} (h : DocOk d) (hp : pathV d path = some u) (he : (entryP path d).2.2 = 0) :
 ∃ i,idP d = some i ∧ Fine u ∧ V.Keyed i ∧ keyP d = (i.key,0) ∧ entryP path d = (u.key ++ i.key,true,0) ∧ entOf path d = some (u.key ++ i.key,(u.key.length : Int),d) := by
 obtain ⟨i,hi,hK,hkey,-,-⟩ := h.id;have hu := pathV_fine hp h.fit;have e : entryP path d = (u.key ++ i.key,true,0) := by
  unfold entryP at he ⊢;rw [if_neg (by simpa using h.key),hp] at he ⊢;dsimp only at he ⊢;rw [hi,Option.getD_some] at he ⊢;by_cases h0 : (allK [u,i] [false,false]).2 = 0
  ·rw [if_neg (by simpa using h0)];have := allK_ok (b := (allK [u,i] [false,false]).1) (by rw [← h0]);have h3 := this.2.2.1;rw [← h3];simp [allB,flip]
  rw [if_pos h0] at he;exact absurd he h0
 refine ⟨i,hi,hu,hK,hkey,e,?_⟩;unfold entOf;rw [e,hi,Option.getD_some,hK.ofK];simp only [if_true,List.length_append];congr 3;omega
theorem ent_cmp {u v i j : V} (hu : Fine u) (hv : Fine v) (hi : Fine i) (hj : Fine j) : Lib.compareBytes (u.key ++ i.key) (v.key ++ j.key) = orC (V.cmp u v) (V.cmp i j) := by
 have := V.two_cmp false false hu hi hv hj;simpa [flip,V.sgnC] using this
theorem key_inj {u v : V} (hu : Fine u) (hv : Fine v) (h : u.key = v.key) : u = v := by
 rw [← V.cmp_eq0 hu hv,V.cmp_bytes hu hv,h,cmpB_zero]
def UniqV (path : ByteArray) (docs : List V) : Prop := docs.Pairwise fun a b => ∀ u,pathV a path = some u → pathV b path ≠ some u
structure EnOk (path : ByteArray) (docs : List V) (e : EN) (u i : V) : Prop where
 mem : e.2.2 ∈ docs
 path : pathV e.2.2 path = some u
 id : idP e.2.2 = some i
 fu : Fine u
 fi : Fine i
 b : e.1 = u.key ++ i.key
 sz : e.2.1 = (u.key.length : Int)
 key : (keyP e.2.2).1 = i.key
theorem EnOk.part {path : ByteArray} {docs : List V} {e : EN} {u i : V} (h : EnOk path docs e u i) : e.1.take e.2.1.toNat = u.key := by
 rw [h.b,h.sz];simp
theorem entsE_all {path : ByteArray} : ∀ {docs : List V},entsE path docs = 0 ↔ ∀ d ∈ docs,(entryP path d).2.2 = 0
 | [] => by simp [entsE]
 | d :: r => by
  rw [entsE,List.forall_mem_cons];split
  ·rename_i h;constructor
   ·intro h';exact absurd h' h
   rintro ⟨h',-⟩;exact absurd h' h
  rename_i h;rw [entsE_all (docs := r)];exact ⟨fun h' => ⟨by simpa using h,h'⟩,fun h' => h'.2⟩
theorem entsL_ok {path : ByteArray} {docs : List V} (hd : ∀ d ∈ docs,DocOk d) (he : entsE path docs = 0) : ∀ e ∈ entsL path docs,∃ u i,EnOk path docs e u i := by
 intro e hm;unfold entsL at hm;rw [List.mem_filterMap] at hm;obtain ⟨d,hdm,hx⟩ := hm;have hz := entsE_all.1 he d hdm
 cases hp : pathV d path with
 | none => rw [(ent_none (hd d hdm) hp).2] at hx;cases hx
 | some u =>
  obtain ⟨i,hi,hu,hK,hkey,-,hent⟩ := ent_some (hd d hdm) hp hz;rw [hent] at hx;injection hx with hx;subst hx;exact ⟨u,i,hdm,hp,hi,hu,hK.toFine,rfl,rfl,by dsimp only;rw [hkey]⟩
theorem entsL_nodup {path : ByteArray} : ∀ {docs : List V},(∀ d ∈ docs,DocOk d) → entsE path docs = 0 → Rise (dkB docs) → (enB (entsL path docs)).Nodup
 | [],_,_,_ => by simp [entsL]
 | d :: r,hd,he,hr => by
  have hdr : ∀ x ∈ r,DocOk x := fun x hx => hd x (List.mem_cons_of_mem _ hx)
  have her : entsE path r = 0 := entsE_all.2 fun x hx => entsE_all.1 he x (List.mem_cons_of_mem _ hx)
  have ih := entsL_nodup (path := path) hdr her (List.pairwise_cons.1 hr).2;have hx := (List.pairwise_cons.1 hr).1;unfold entsL at ih ⊢;rw [List.filterMap_cons]
  cases hp : pathV d path with
  | none => rw [(ent_none (hd d List.mem_cons_self) hp).2];exact ih
  | some u =>
   obtain ⟨i,hi,hu,hK,hkey,-,hent⟩ := ent_some (hd d List.mem_cons_self) hp (entsE_all.1 he d List.mem_cons_self);rw [hent];dsimp only;refine List.nodup_cons.2 ⟨fun hm => ?_,ih⟩;obtain ⟨e,hme,heq⟩ := List.mem_map.1 hm;obtain ⟨v,j,hok⟩ := entsL_ok hdr her e hme;have h0 : Lib.compareBytes (u.key ++ i.key) (v.key ++ j.key) = 0 := by rw [cmpB_zero,← hok.b];exact heq.symm
   rw [ent_cmp hu hok.fu hK.toFine hok.fi] at h0;have hij : V.cmp i j = 0 := (orC_zero h0).2;have e2 : i = j := (V.cmp_eq0 hK.toFine hok.fi).1 hij;have := hx (keyP e.2.2).1 (List.mem_map.2 ⟨e.2.2,hok.mem,rfl⟩);dsimp only at this;rw [hkey,hok.key,e2,ltB_irrefl] at this
   cases this
theorem twice_ne {path : ByteArray} {docs : List V} : ∀ {l : List EN},(∀ e ∈ l,∃ u i,EnOk path docs e u i) → OrdE l → (twiceP l = false ↔ l.Pairwise fun a b => a.1.take a.2.1.toNat ≠ b.1.take b.2.1.toNat)
 | [],_,_ => by simp [twiceP]
 | [a],_,_ => by simp [twiceP]
 | a :: b :: r,hok,ho => by
  have ih := twice_ne (l := b :: r) (fun e he => hok e (List.mem_cons_of_mem _ he)) (List.pairwise_cons.1 ho).2;rw [twiceP,Bool.or_eq_false_iff,decide_eq_false_iff_not,ih,List.pairwise_cons (a := a)];constructor
  ·rintro ⟨h1,h2⟩;refine ⟨fun c hc => ?_,h2⟩;rcases List.mem_cons.1 hc with rfl | hc
   ·exact h1
   intro heq;obtain ⟨ua,ia,ha⟩ := hok a (by simp);obtain ⟨ub,ib,hb⟩ := hok b (by simp);obtain ⟨uc,ic,hcc⟩ := hok c (by simp [hc]);rw [ha.part,hcc.part] at heq;rw [ha.part,hb.part] at h1;have huc : ua = uc := key_inj ha.fu hcc.fu heq;subst huc;have hne : V.cmp ua ub ≠ 0 := fun h0 => h1 (by rw [(V.cmp_eq0 ha.fu hb.fu).1 h0])
   have o1 : ltB b.1 a.1 = false := (List.pairwise_cons.1 ho).1 b (by simp);have o2 : ltB c.1 b.1 = false := (List.pairwise_cons.1 (List.pairwise_cons.1 ho).2).1 c hc;rw [ha.b,hb.b] at o1;rw [hcc.b,hb.b] at o2;have e1 : Lib.compareBytes (ub.key ++ ib.key) (ua.key ++ ia.key) = V.cmp ub ua := by
    rw [ent_cmp hb.fu ha.fu hb.fi ha.fi,orC,if_neg (by rw [V.cmp_swap ha.fu hb.fu];omega)]
   have e2 : Lib.compareBytes (ua.key ++ ic.key) (ub.key ++ ib.key) = V.cmp ua ub := by
    rw [ent_cmp ha.fu hb.fu hcc.fi hb.fi,orC,if_neg hne]
   simp only [ltB,e1,e2,decide_eq_false_iff_not,V.cmp_swap ha.fu hb.fu] at o1 o2;omega
  rintro ⟨h1,h2⟩;exact ⟨h1 b (by simp),h2⟩
theorem entsL_pair {path : ByteArray} : ∀ {docs : List V},(∀ d ∈ docs,DocOk d) → entsE path docs = 0 → ((entsL path docs).Pairwise (fun a b => a.1.take a.2.1.toNat ≠ b.1.take b.2.1.toNat) ↔ UniqV path docs)
 | [],_,_ => by simp [entsL,UniqV]
 | d :: r,hd,he => by
  have hdr : ∀ x ∈ r,DocOk x := fun x hx => hd x (List.mem_cons_of_mem _ hx)
  have hz : ∀ x ∈ d :: r,(entryP path x).2.2 = 0 := entsE_all.1 he;have her : entsE path r = 0 := entsE_all.2 fun x hx => hz x (List.mem_cons_of_mem _ hx)
  have ih := entsL_pair (path := path) hdr her;unfold UniqV at ih ⊢;rw [List.pairwise_cons,← ih];have hlist : entsL path (d :: r) = (entOf path d).toList ++ entsL path r := by
   unfold entsL;rw [List.filterMap_cons];cases entOf path d <;> rfl
  rw [hlist]
  cases hp : pathV d path with
  | none =>
   rw [(ent_none (hd d List.mem_cons_self) hp).2];simp
  | some u =>
   obtain ⟨i,hi,hu,hK,hkey,-,hent⟩ := ent_some (hd d List.mem_cons_self) hp (hz d List.mem_cons_self);rw [hent];simp only [Option.toList_some,List.singleton_append,List.pairwise_cons];refine and_congr_left fun _ => ⟨fun h b hb v hv hbv => ?_,fun h e hm => ?_⟩
   ·injection hv with hv;subst hv;obtain ⟨j,hj,hv',hK',hkey',-,hent'⟩ := ent_some (hdr b hb) hbv (hz b (List.mem_cons_of_mem _ hb));have := h _ (show (u.key ++ j.key,(u.key.length : Int),b) ∈ entsL path r from List.mem_filterMap.2 ⟨b,hb,hent'⟩);simp at this
   obtain ⟨v,j,hok⟩ := entsL_ok hdr her e hm;rw [hok.part];simp only [Int.toNat_natCast,List.take_left'];intro heq;have e2 : u = v := key_inj hu hok.fu heq;exact h _ hok.mem u rfl (e2 ▸ hok.path)
theorem pairwise_symm_perm {α : Type} {R : α → α → Prop} (hs : ∀ a b,R a b → R b a) {l m : List α} (hp : l.Perm m) (h : l.Pairwise R) : m.Pairwise R := (hp.pairwise_iff (fun {a b} => hs a b)).1 h
theorem twice_iff {path : ByteArray} {docs : List V} (hd : ∀ d ∈ docs,DocOk d) (he : entsE path docs = 0) : twiceP (entP path docs) = false ↔ UniqV path docs := by
 unfold entP;rw [if_pos he,twice_ne (fun e hm => entsL_ok hd he e ((sortE_perm _).mem_iff.1 hm)) (sortE_ord _),← entsL_pair hd he];exact ⟨pairwise_symm_perm (fun a b h e => h e.symm) (sortE_perm _),pairwise_symm_perm (fun a b h e => h e.symm) (sortE_perm _).symm⟩
structure CoOk (N : Nat) (c : Co) : Prop where
 nm : V.name c.name = true
 keys : Rise (dkB c.docs)
 docs : ∀ d ∈ c.docs,DocOk d
 nd : c.docs.length ≤ N
 ixs : Rise (nmB (xnm c))
 nx : c.ixs.length ≤ 8
 path : ∀ x ∈ c.ixs,x.path.size ≤ 200
 noerr : ∀ x ∈ c.ixs,entsE x.path c.docs = 0
 uniq : ∀ x ∈ c.ixs,x.uniq = true → UniqV x.path c.docs
 xnm : ∀ x ∈ c.ixs,V.name x.name = true
structure StOk (N : Nat) (st : List Co) : Prop where
 nms : Rise (nmB (cnm st))
 n : st.length ≤ 16
 co : ∀ c ∈ st,CoOk N c
theorem StOk.nil : StOk 0 [] := ⟨List.Pairwise.nil,Nat.zero_le _,fun c h => by simp at h⟩
theorem CoOk.mono {N M : Nat} {c : Co} (h : CoOk N c) (hm : N ≤ M) : CoOk M c := { h with nd := Nat.le_trans h.nd hm }
theorem StOk.mono {N M : Nat} {st : List Co} (h : StOk N st) (hm : N ≤ M) : StOk M st := ⟨h.nms,h.n,fun c hc => (h.co c hc).mono hm⟩
theorem coAt_mem {st : List Co} {s : ByteArray} (h : plF (cnm st) s = true) : st[plN (cnm st) s]? = some (coAt st s) ∧ coAt st s ∈ st ∧ (coAt st s).name = s ∧ plN (cnm st) s < st.length := by
 have h1 := plF_at h;have hl : plN (cnm st) s < st.length := by have := plF_lt h;rwa [List.length_map] at this
 have e : st[plN (cnm st) s]? = some (coAt st s) := by
  unfold coAt;rw [List.getD_eq_getElem?_getD,List.getElem?_eq_getElem hl,Option.getD_some]
 refine ⟨e,List.mem_of_getElem? e,?_,hl⟩;rw [List.getElem?_map,e] at h1;injection h1
theorem StOk.set {N : Nat} {st : List Co} (h : StOk N st) {s : ByteArray} (hf : plF (cnm st) s = true) {c : Co} (hc : CoOk (N + 1) c) (hn : c.name = (coAt st s).name) : StOk (N + 1) (st.set (plN (cnm st) s) c) := by
 obtain ⟨h1,h2,h3,h4⟩ := coAt_mem hf;refine ⟨?_,by rw [List.length_set];exact h.n,fun x hx => ?_⟩
 ·have e : cnm (st.set (plN (cnm st) s) c) = cnm st := by
   rw [cnm,List.map_set,hn];have hg : (st.map Co.name)[plN (cnm st) s]? = some (coAt st s).name := by rw [List.getElem?_map,h1];rfl
   rw [List.getElem?_eq_some_iff] at hg;obtain ⟨hg1,hg2⟩ := hg;rw [← hg2,List.set_getElem_self]
  rw [e];exact h.nms
 rcases List.mem_or_eq_of_mem_set hx with hx | hx
 ·exact (h.co x hx).mono (Nat.le_succ _)
 rw [hx];exact hc
theorem UniqV.sub {path : ByteArray} {l m : List V} (h : UniqV path m) (hs : List.Sublist l m) : UniqV path l := List.Pairwise.sublist hs h
theorem delAt_sub {α : Type} (l : List α) (i : Nat) : List.Sublist (delAt l i) l := by
 unfold delAt
 conv => rhs;rw [← List.take_append_drop i l]
 refine List.Sublist.append_left ?_ _;rw [← List.drop_drop];exact List.drop_sublist _ _
theorem ixsE_all {d : V} : ∀ {ixs : List Ix},ixsE d ixs = 0 ↔ ∀ x ∈ ixs,(entryP x.path d).2.2 = 0
 | [] => by simp [ixsE]
 | x :: r => by
  rw [ixsE,List.forall_mem_cons];split
  ·rename_i h;constructor
   ·intro h';exact absurd h' h
   rintro ⟨h',-⟩;exact absurd h' h
  rename_i h;rw [ixsE_all (ixs := r)];exact ⟨fun h' => ⟨by simpa using h,h'⟩,fun h' => h'.2⟩
theorem clashP_all {docs : List V} : ∀ {ixs : List Ix},clashP docs ixs = false ↔ ∀ x ∈ ixs,x.uniq = true → twiceP (entP x.path docs) = false
 | [] => by simp [clashP]
 | x :: r => by
  rw [clashP,Bool.or_eq_false_iff,clashP_all (ixs := r),List.forall_mem_cons];refine and_congr_left fun _ => ?_
  cases x.uniq <;> simp
theorem putDocs_mem {docs : List V} {d x : V} (h : x ∈ putDocs docs d) : x = d ∨ x ∈ docs := by
 unfold putDocs at h;split at h
 ·rcases List.mem_or_eq_of_mem_set h with h | h
  ·exact .inr h
  exact .inl h
 exact mem_ins.1 h
theorem putDocs_keys {docs : List V} {d : V} (h : Rise (dkB docs)) : Rise (dkB (putDocs docs d)) := by
 unfold putDocs;split
 ·rename_i hf;rw [docF_k] at hf;have h1 := kF_at hf;rw [← docN_k] at h1;rw [dkB,List.map_set];obtain ⟨hg1,hg2⟩ := List.getElem?_eq_some_iff.1 h1;obtain ⟨m,hm⟩ : ∃ m,docN docs (keyP d).1 = m := ⟨_,rfl⟩;simp only [hm] at hg1 hg2 ⊢;rw [← hg2];show Rise ((dkB docs).set m (dkB docs)[m]);rw [List.set_getElem_self];exact h
 rename_i hf;rw [dkB,map_ins,docN_k];refine Rise.ins h fun hm => hf ?_
 rw [docF_k];exact (kF_iff h).2 hm
theorem putDocs_len (docs : List V) (d : V) : (putDocs docs d).length ≤ docs.length + 1 := by
 unfold putDocs;split
 ·rw [List.length_set];omega
 rw [ins_len];omega
theorem actP_ok {N : Nat} {st : List Co} {q : Rq} (h : StOk N st) (hf : q.doc.fit) (hc : q.doc.count ≤ 20000) {st' : List Co} {n : Int} {docs : List V} (he : actP st q = .ok (st',n,docs)) : StOk (N + 1) st' := by
 unfold actP at he;split at he
 ·unfold makeP at he;split at he;· cases he
  rename_i h1;split at he;· cases he
  rename_i h2;split at he;· cases he
  rename_i h3;injection he with he;injection he with he _;subst he;have hname : V.name q.coll = true := by simpa using h1
  refine ⟨?_,by rw [ins_len];omega,fun c hc => ?_⟩
  ·rw [cnm,nmB,List.map_map,map_ins];have e1 : st.map ((fun s : ByteArray => s.data.toList) ∘ Co.name) = nmB (cnm st) := by rw [nmB,cnm,List.map_map]
   rw [e1,plN_k];refine Rise.ins h.nms fun hm => h2 ?_
   rw [plF_iff h.nms];exact mem_nmB.1 hm
  rcases mem_ins.1 hc with rfl | hc
  ·exact ⟨hname,List.Pairwise.nil,fun d hd => by simp at hd,Nat.zero_le _,List.Pairwise.nil,Nat.zero_le _,fun x hx => by simp at hx,fun x hx => by simp at hx,fun x hx => by simp at hx,fun x hx => by simp at hx⟩
  exact (h.co c hc).mono (Nat.le_succ _)
 split at he
 ·unfold dropP at he;split at he;· cases he
  injection he with he;injection he with he _;subst he;refine ⟨?_,Nat.le_trans (delAt_sub _ _).length_le h.n,fun c hc => (h.co c (mem_del hc)).mono (Nat.le_succ _)⟩;rw [cnm,nmB,List.map_map,map_del];have e1 : st.map ((fun s : ByteArray => s.data.toList) ∘ Co.name) = nmB (cnm st) := by rw [nmB,cnm,List.map_map]
  rw [e1];exact h.nms.del _
 have hput : putP st q = .ok (st',n,docs) → StOk (N + 1) st' := fun he => by
  unfold putP at he;split at he;· cases he
  rename_i h1;split at he;· cases he
  rename_i h2;split at he;· cases he
  rename_i h3;split at he;· cases he
  rename_i h4;split at he;· cases he
  rename_i h5;injection he with he;injection he with he _;subst he;have hF : plF (cnm st) q.coll = true := by simpa using h1
  have hco := h.co _ (coAt_mem hF).2.1;have hd : DocOk q.doc := ⟨by simpa using h2,hf,hc⟩;have hdocs : ∀ d ∈ putDocs (coAt st q.coll).docs q.doc,DocOk d := fun d hm => by
   rcases putDocs_mem hm with rfl | hm
   ·exact hd
   exact hco.docs d hm
  have hne : ∀ x ∈ (coAt st q.coll).ixs,entsE x.path (putDocs (coAt st q.coll).docs q.doc) = 0 := fun x hx => by
   refine entsE_all.2 fun d hm => ?_
   rcases putDocs_mem hm with rfl | hm
   ·exact ixsE_all.1 (by simpa using h3) x hx
   exact entsE_all.1 (hco.noerr x hx) d hm
  refine h.set hF (c := ⟨_,_,_⟩) ⟨hco.nm,putDocs_keys hco.keys,hdocs,?_,hco.ixs,hco.nx,hco.path,hne,fun x hx hu => ?_,hco.xnm⟩ rfl
  ·have := putDocs_len (coAt st q.coll).docs q.doc;have := hco.nd;dsimp only;omega
  exact (twice_iff hdocs (hne x hx)).1 (clashP_all.1 (by simpa using h5) x hx hu)
 split at he;· exact hput he
 split at he;· exact hput he
 split at he
 ·unfold takeP at he;split at he;· cases he
  rename_i h1;split at he;· cases he
  split at he;· cases he
  injection he with he;injection he with he _;subst he;have hF : plF (cnm st) q.coll = true := by simpa using h1
  have hco := h.co _ (coAt_mem hF).2.1;refine h.set hF (c := ⟨_,_,_⟩) ⟨hco.nm,?_,fun d hm => hco.docs d (mem_del hm),?_,hco.ixs,hco.nx,hco.path,fun x hx => ?_,fun x hx hu => (hco.uniq x hx hu).sub (delAt_sub _ _),hco.xnm⟩ rfl
  ·rw [dkB,map_del];exact hco.keys.del _
  ·exact Nat.le_trans (delAt_sub _ _).length_le (Nat.le_succ_of_le hco.nd)
  exact entsE_all.2 fun d hm => entsE_all.1 (hco.noerr x hx) d (mem_del hm)
 split at he
 ·unfold getP at he;split at he;· cases he
  split at he;· cases he
  split at he;· cases he
  injection he with he;injection he with he _;subst he;exact h.mono (Nat.le_succ _)
 split at he
 ·unfold addIxP at he;split at he;· cases he
  rename_i h1;split at he;· cases he
  rename_i h2;split at he;· cases he
  rename_i h3;split at he;· cases he
  rename_i h4;split at he;· cases he
  rename_i h5;split at he;· cases he
  rename_i h6;split at he;· cases he
  rename_i h7;injection he with he;injection he with he _;subst he;have hF : plF (cnm st) q.coll = true := by simpa using h3
  have hco := h.co _ (coAt_mem hF).2.1;have h6' : entsE q.path (coAt st q.coll).docs = 0 := by simpa using h6
  refine h.set hF (c := ⟨_,_,_⟩) ⟨hco.nm,hco.keys,hco.docs,Nat.le_succ_of_le hco.nd,?_,?_,fun x hx => ?_,fun x hx => ?_,fun x hx hu => ?_,fun x hx => ?_⟩ rfl
  ·rw [xnm,nmB,List.map_map,map_ins];have e1 : (coAt st q.coll).ixs.map ((fun s : ByteArray => s.data.toList) ∘ Ix.name) = nmB (xnm (coAt st q.coll)) := by rw [nmB,xnm,List.map_map]
   rw [e1,plN_k];refine Rise.ins hco.ixs fun hm => h4 ?_
   rw [plF_iff hco.ixs];exact mem_nmB.1 hm
  ·dsimp only;rw [ins_len];omega
  ·rcases mem_ins.1 hx with rfl | hx
   ·dsimp only;omega
   exact hco.path x hx
  ·rcases mem_ins.1 hx with rfl | hx
   ·exact h6'
   exact hco.noerr x hx
  ·rcases mem_ins.1 hx with rfl | hx
   ·refine (twice_iff hco.docs h6').1 ?_;rcases Bool.eq_false_or_eq_true (twiceP (entP q.path (coAt st q.coll).docs)) with k | k
    ·exact absurd ⟨hu,k⟩ h7
    exact k
   exact hco.uniq x hx hu
  rcases mem_ins.1 hx with rfl | hx
  ·simpa using h1
  exact hco.xnm x hx
 split at he
 ·unfold unIxP at he;split at he;· cases he
  rename_i h1;split at he;· cases he
  injection he with he;injection he with he _;subst he;have hF : plF (cnm st) q.coll = true := by simpa using h1
  have hco := h.co _ (coAt_mem hF).2.1;refine h.set hF (c := ⟨_,_,_⟩) ⟨hco.nm,hco.keys,hco.docs,Nat.le_succ_of_le hco.nd,?_,Nat.le_trans (delAt_sub _ _).length_le hco.nx,fun x hx => hco.path x (mem_del hx),fun x hx => hco.noerr x (mem_del hx),fun x hx => hco.uniq x (mem_del hx),fun x hx => hco.xnm x (mem_del hx)⟩ rfl;rw [xnm,nmB,List.map_map,map_del];have e1 : (coAt st q.coll).ixs.map ((fun s : ByteArray => s.data.toList) ∘ Ix.name) = nmB (xnm (coAt st q.coll)) := by rw [nmB,xnm,List.map_map]
  rw [e1];exact hco.ixs.del _
 split at he
 ·unfold findP at he;split at he;· cases he
  split at he;· cases he
  split at he;· cases he
  split at he;· cases he
  split at he;· cases he
  injection he with he;injection he with he _;subst he;exact h.mono (Nat.le_succ _)
 split at he
 ·unfold countP at he;split at he;· cases he
  injection he with he;injection he with he _;subst he;exact h.mono (Nat.le_succ _)
 cases he
theorem doP_ok {N : Nat} {st : List Co} {q : Rq} (h : StOk N st) (hf : q.doc.fit) (hc : q.doc.count ≤ 20000) : StOk (N + 1) (doP st q).1 := by
 unfold doP;split
 ·exact h.mono (Nat.le_succ _)
 rename_i he;exact actP_ok h hf hc he
end
section
open Go.RowKit
section
variable {α : Type} (f : α → List Value) (z : Nat) (hz : ∀ x,(f x).length = z)
include hz
theorem fz_len : ∀ (l : List α),((l.map f).flatten).length = l.length * z
 | [] => by simp
 | x :: r => by rw [List.map_cons,List.flatten_cons,List.length_append,hz,fz_len r,List.length_cons,Nat.add_mul,Nat.one_mul,Nat.add_comm]
theorem fz_drop : ∀ (l : List α) (j : Nat),((l.map f).flatten).drop (j * z) = ((l.drop j).map f).flatten
 | l,0 => by simp
 | [],j + 1 => by simp
 | x :: r,j + 1 => by
  rw [List.map_cons,List.flatten_cons,List.drop_succ_cons,← fz_drop r j,Nat.add_mul,Nat.one_mul,Nat.add_comm,← List.drop_drop,List.drop_left' (hz x)]
theorem fz_take : ∀ (l : List α) (j : Nat),((l.map f).flatten).take (j * z) = ((l.take j).map f).flatten
 | l,0 => by simp
 | [],j + 1 => by simp
 | x :: r,j + 1 => by
  have e : (j + 1) * z = (f x).length + j * z := by rw [hz,Nat.add_mul,Nat.one_mul,Nat.add_comm]
  rw [List.map_cons,List.flatten_cons,List.take_succ_cons,List.map_cons,List.flatten_cons,← fz_take r j,e,List.take_length_add_append]
theorem fz_get (l : List α) (j i : Nat) (hi : i < z) (x : α) (hj : l[j]? = some x) : ((l.map f).flatten)[j * z + i]? = (f x)[i]? := by
 have hjl : j < l.length := (List.getElem?_eq_some_iff.1 hj).1;have he : l[j] = x := (List.getElem?_eq_some_iff.1 hj).2;rw [← List.getElem?_drop,fz_drop f z hz,List.drop_eq_getElem_cons hjl,List.map_cons,List.flatten_cons,List.getElem?_append_left (by rw [hz];exact hi),he]
theorem fz_del (l : List α) (i : Nat) : ((l.map f).flatten).take (i * z) ++ ((l.map f).flatten).drop ((i + 1) * z) = ((delAt l i).map f).flatten := by
 rw [fz_take f z hz,fz_drop f z hz,delAt,List.map_append,List.flatten_append]
theorem fz_ins (l : List α) (i : Nat) (x : α) : ((l.map f).flatten).take (i * z) ++ f x ++ ((l.map f).flatten).drop (i * z) = ((insAt l i x).map f).flatten := by
 rw [fz_take f z hz,fz_drop f z hz,insAt,List.map_append,List.flatten_append,List.map_cons,List.flatten_cons,List.append_assoc]
theorem fz_set (l : List α) (i : Nat) (x : α) (h : i < l.length) : ((l.map f).flatten).take (i * z) ++ f x ++ ((l.map f).flatten).drop ((i + 1) * z) = ((l.set i x).map f).flatten := by
 rw [fz_take f z hz,fz_drop f z hz,List.set_eq_take_append_cons_drop,if_pos h,List.map_append,List.flatten_append,List.map_cons,List.flatten_cons,List.append_assoc]
end
def Two {α β : Type} (R : α → β → Prop) (l : List α) (m : List β) : Prop := l.length = m.length ∧ ∀ (j : Nat) a b,l[j]? = some a → m[j]? = some b → R a b
namespace Two
variable {α β : Type} {R : α → β → Prop} {l : List α} {m : List β}
theorem mono {R' : α → β → Prop} (h : Two R l m) (hR : ∀ a b,R a b → R' a b) : Two R' l m := ⟨h.1,fun j a b ha hb => hR a b (h.2 j a b ha hb)⟩
theorem nil : Two R [] [] := ⟨rfl,fun j a b ha => by simp at ha⟩
theorem take (h : Two R l m) (i : Nat) : Two R (l.take i) (m.take i) := ⟨by rw [List.length_take,List.length_take,h.1],fun j a b ha hb => by
 rw [List.getElem?_take] at ha hb;split at ha
 ·rw [if_pos ‹_›] at hb;exact h.2 j a b ha hb
 cases ha⟩
theorem drop (h : Two R l m) (i : Nat) : Two R (l.drop i) (m.drop i) := ⟨by rw [List.length_drop,List.length_drop,h.1],fun j a b ha hb => by
 rw [List.getElem?_drop] at ha hb;exact h.2 _ a b ha hb⟩
theorem append {l' : List α} {m' : List β} (h : Two R l m) (k : Two R l' m') : Two R (l ++ l') (m ++ m') := ⟨by rw [List.length_append,List.length_append,h.1,k.1],fun j a b ha hb => by
 by_cases hj : j < l.length
 ·rw [List.getElem?_append_left hj] at ha;rw [List.getElem?_append_left (by rw [← h.1];exact hj)] at hb;exact h.2 j a b ha hb
 rw [List.getElem?_append_right (by omega)] at ha;rw [List.getElem?_append_right (by rw [← h.1];omega),← h.1] at hb;exact k.2 _ a b ha hb⟩
theorem cons {a : α} {b : β} (h : R a b) (k : Two R l m) : Two R (a :: l) (b :: m) := ⟨by rw [List.length_cons,List.length_cons,k.1],fun j x y ha hb => by
 rcases j with _ | j
 ·simp at ha hb;rw [← ha,← hb];exact h
 exact k.2 j x y (by simpa using ha) (by simpa using hb)⟩
theorem one {a : α} {b : β} (h : R a b) : Two R [a] [b] := cons h nil
theorem del (h : Two R l m) (i : Nat) : Two R (delAt l i) (delAt m i) := (h.take i).append (h.drop (i + 1))
theorem ins (h : Two R l m) (i : Nat) {a : α} {b : β} (k : R a b) : Two R (insAt l i a) (insAt m i b) := (h.take i).append (cons k (h.drop i))
theorem set (h : Two R l m) (i : Nat) {a : α} {b : β} (k : R a b) : Two R (l.set i a) (m.set i b) := ⟨by rw [List.length_set,List.length_set,h.1],fun j x y ha hb => by
 rw [List.getElem?_set] at ha hb;split at ha
 ·rename_i hij;rw [if_pos hij] at hb;split at ha
  ·split at hb
   ·cases ha;cases hb;exact k
   cases hb
  cases ha
 rw [if_neg ‹_›] at hb;exact h.2 j x y ha hb⟩
theorem set' (hl : l.length = m.length) (i : Nat) {a : α} {b : β} (h : ∀ (j : Nat) x y,j ≠ i → l[j]? = some x → m[j]? = some y → R x y) (k : R a b) : Two R (l.set i a) (m.set i b) := ⟨by rw [List.length_set,List.length_set,hl],fun j x y ha hb => by
 rw [List.getElem?_set] at ha hb;split at ha
 ·rename_i hij;rw [if_pos hij] at hb;split at ha
  ·split at hb
   ·cases ha;cases hb;exact k
   cases hb
  cases ha
 rename_i hij;rw [if_neg hij] at hb;exact h j x y (fun e => hij e.symm) ha hb⟩
theorem at_ (h : Two R l m) {j : Nat} (hj : j < l.length) (hj' : j < m.length) : R l[j] m[j] := h.2 j _ _ (List.getElem?_eq_getElem hj) (List.getElem?_eq_getElem hj')
end Two
abbrev Cc.zero : Cc := ⟨⟨#[]⟩,none,0,0,none,0,0⟩
def cellsC (es : List Cc) : List Value := (es.map fun e => e.cells.toList).flatten
def cellsX (xs : List Ix) : List Value := (xs.map fun x => x.cells.toList).flatten
def cellsV (cs : List Cv) : List Value := (cs.map fun c => c.cells.toList).flatten
theorem cellsC_len (es : List Cc) : (cellsC es).length = es.length * 3 := fz_len _ 3 (fun _ => rfl) es
theorem cellsX_len (es : List Ix) : (cellsX es).length = es.length * 3 := fz_len _ 3 (fun _ => rfl) es
theorem cellsV_len (es : List Cv) : (cellsV es).length = es.length * 5 := fz_len _ 5 (fun _ => rfl) es
theorem cellsC_one (es : List Cc) : ∀ v ∈ cellsC es,v.oneCell' = true := by
 intro v hv;simp only [cellsC,List.mem_flatten,List.mem_map] at hv;obtain ⟨_,⟨e,_,rfl⟩,h⟩ := hv;simp at h;rcases h with rfl | rfl | rfl <;> rfl
theorem cellsX_one (es : List Ix) : ∀ v ∈ cellsX es,v.oneCell' = true := by
 intro v hv;simp only [cellsX,List.mem_flatten,List.mem_map] at hv;obtain ⟨_,⟨e,_,rfl⟩,h⟩ := hv;simp at h;rcases h with rfl | rfl | rfl <;> rfl
theorem cellsV_one (es : List Cv) : ∀ v ∈ cellsV es,v.oneCell' = true := by
 intro v hv;simp only [cellsV,List.mem_flatten,List.mem_map] at hv;obtain ⟨_,⟨e,_,rfl⟩,h⟩ := hv;simp at h;rcases h with rfl | rfl | rfl | rfl | rfl <;> rfl
def AtX (w : World) (S : Nat → Prop) (p : Addr) (u : Value) : Prop := w.cell? p = some u ∧ p.block < w.heap.size ∧ ¬ S p.block
theorem AtX.kept {S T : Nat → Prop} {w w' : World} (hk : Kept T w w') (hs : ∀ q,T q → S q) (p : Addr) (u : Value) (h : AtX w S p u) : AtX w' S p u :=
 ⟨(World.cell?_of_block (hk.block p.block h.2.1 (fun ht => h.2.2 (hs _ ht)))).trans h.1,Nat.lt_of_lt_of_le h.2.1 hk.size,h.2.2⟩
theorem AtX.atW {S : Nat → Prop} {w : World} (p : Addr) (u : Value) (h : AtX w S p u) : AtW w 0 w.heap.size p u := ⟨h.1,Nat.zero_le _,h.2.1⟩
theorem AtX.sub {S T : Nat → Prop} {w : World} (hs : ∀ q,T q → S q) (p : Addr) (u : Value) (h : AtX w S p u) : AtX w T p u := ⟨h.1,h.2.1,fun ht => h.2.2 (hs _ ht)⟩
theorem AtX.ofW {S : Nat → Prop} {w : World} {lo hi : Nat} (hh : hi ≤ w.heap.size) (hs : ∀ q,S q → q < lo ∨ hi ≤ q) (p : Addr) (u : Value) (h : AtW w lo hi p u) : AtX w S p u :=
 ⟨h.1,Nat.lt_of_lt_of_le h.2.2 hh,fun hq => by have h1 := h.2.1;have h2 := h.2.2;rcases hs _ hq with e | e <;> omega⟩
structure CoR (C : Addr → Value → Prop) (e : Cc) (c : Co) : Prop where
 nm : e.nm = c.name
 dn : e.dn = c.docs.length
 xn : e.xn = c.ixs.length
 xc : c.ixs.length ≤ e.xc
 docs : IsV C (.mk 7 0 [] c.docs []) (lcv e.dA c.docs.length e.dc)
 ixs : Reads C 3 e.xA c.ixs.length (cellsX c.ixs)
theorem CoR.mono {C C' : Addr → Value → Prop} (h : ∀ p u,C p u → C' p u) {e : Cc} {c : Co} (k : CoR C e c) : CoR C' e c := ⟨k.nm,k.dn,k.xn,k.xc,k.docs.mono h,k.ixs.mono h⟩
abbrev CoIn (w : World) (e : Cc) (c : Co) : Prop := CoR (AtW w 0 w.heap.size) e c
def StIn (w : World) (A : Option Addr) (cap : Nat) (st : List Co) : Prop :=
 st.length ≤ cap ∧ ∃ es,Two (CoIn w) es st ∧ Reads (AtW w 0 w.heap.size) 3 A st.length (cellsC es)
theorem StIn.grow {w w' : World} {A : Option Addr} {cap : Nat} {st : List Co} (h : StIn w A cap st) (hg : Grow w w') : StIn w' A cap st := by
 obtain ⟨hc,es,h1,h2⟩ := h;have hm := AtW.below hg.below (Nat.le_refl 0) (Nat.le_refl _) hg.size;exact ⟨hc,es,h1.mono fun a b k => k.mono hm,h2.mono hm⟩
theorem StIn.nil (w : World) : StIn w none 0 [] := ⟨Nat.le_refl _,[],Two.nil,⟨rfl,fun h => by simp at h⟩⟩
abbrev ablk (A : Option Addr) : Option Nat := A.map (·.block)
structure OwnCo (w : World) (B : Nat) (e : Cc) (c : Co) : Prop where
 nm : e.nm = c.name
 dn : e.dn = c.docs.length
 xn : e.xn = c.ixs.length
 docs : ∃ cs : List Cv,w.ownsRow B 27 5 (.slice e.dA c.docs.length e.dc) c.docs.length (cellsV cs) ∧ Two (fun v c => InU w B v c) c.docs cs
 ixs : w.ownsRow B 64 3 (.slice e.xA c.ixs.length e.xc) c.ixs.length (cellsX c.ixs)
structure Own (w : World) (B : Nat) (A : Option Addr) (cap : Nat) (es : List Cc) (st : List Co) : Prop where
 row : w.ownsRow B 48 3 (.slice A st.length cap) st.length (cellsC es)
 two : Two (OwnCo w B) es st
 distD : ∀ (i j : Nat) (a b : Cc),es[i]? = some a → es[j]? = some b → i ≠ j → ∀ g,ablk a.dA = some g → ablk b.dA ≠ some g
 distX : ∀ (i j : Nat) (a b : Cc),es[i]? = some a → es[j]? = some b → i ≠ j → ∀ g,ablk a.xA = some g → ablk b.xA ≠ some g
theorem ownBlock_slice (A : Option Addr) (n c : Nat) : Value.ownBlock (.slice A n c) = ablk A := by cases A <;> rfl
theorem own_kept {S : Nat → Prop} {w w' : World} {B : Nat} {T : TypeId} {z n c : Nat} {A : Option Addr} {xs : List Value} (h : w.ownsRow B T z (.slice A n c) n xs) (hk : Kept S w w') (hs : ∀ g,ablk A = some g → ¬ S g) : w'.ownsRow B T z (.slice A n c) n xs := by
 refine ⟨h.1,?_⟩;rcases h.2 with hn | ⟨g,cap,cur,e,hb,hgg,rest⟩
 ·exact .inl hn
 refine .inr ⟨g,cap,cur,e,hb,?_,rest⟩;injection e with e1 e2 e3;rw [hk.block g (Array.getElem?_eq_some_iff.1 hgg).1 (hs g (by rw [e1];rfl))];exact hgg
theorem ownG {w w' : World} {B : Nat} {T : TypeId} {z n c : Nat} {A : Option Addr} {xs : List Value} (h : w.ownsRow B T z (.slice A n c) n xs) (hg : Grow w w') : w'.ownsRow B T z (.slice A n c) n xs :=
 own_kept h (Kept.grow (S := fun _ => False) hg) (fun _ _ h => h)
theorem own_reads {S : Nat → Prop} {w : World} {B : Nat} {T : TypeId} {z n c : Nat} {A : Option Addr} {xs : List Value} (h : w.ownsRow B T z (.slice A n c) n xs) (hs : ∀ g,ablk A = some g → ¬ S g) : Reads (AtX w S) z A n xs := by
 refine ⟨h.1,fun hn => ?_⟩;obtain ⟨g,cur,e,hb,hg,-,-,-,ht,-⟩ := own_open h hn;exact ⟨g,0,e,fun j u hu => by rw [Nat.zero_add];exact ⟨own_cell hg ht j u hu,(Array.getElem?_eq_some_iff.1 hg).1,hs g (by rw [e];rfl)⟩⟩
theorem own_le {w : World} {B : Nat} {T : TypeId} {z n c : Nat} {A : Option Addr} {xs : List Value} (h : w.ownsRow B T z (.slice A n c) n xs) : n ≤ c ∧ c ≤ maxLen := by
 rcases h.2 with ⟨e,hn⟩ | ⟨g,cap,cur,e,hb,hgg,h1,h2,-⟩
 ·injection e with e1 e2 e3;subst hn;exact ⟨Nat.zero_le _,by rw [e3];exact Nat.zero_le _⟩
 injection e with e1 e2 e3;rw [e3];exact ⟨h1,h2⟩
theorem list_of_row {C : Addr → Value → Prop} {A : Option Addr} {docs : List V} {cs : List Cv} {cap : Nat} (h : Reads C 5 A docs.length (cellsV cs)) (ht : Two (fun v c => IsV C v c) docs cs) (hc : docs.length ≤ cap) (hl : docs.length ≤ 140737488355328) :
 IsV C (.mk 7 0 [] docs []) (lcv A docs.length cap) := by
 rw [IsV];refine ⟨rfl,rfl,rfl,rfl,rfl,by decide,by decide,by decide,by simp,by simp,hc,hl,by simp,by simp,⟨rfl,fun h => by simp at h⟩,fun i hi => ?_,fun i hi => by simp at hi⟩;have hic : i < cs.length := by rw [← ht.1];exact hi
 obtain ⟨bk,o,ha,hcell⟩ := h.2 (by omega);have hg : ∀ k,k < 5 → (cellsV cs)[i * 5 + k]? = cs[i].cells.toList[k]? := fun k hk => fz_get _ 5 (fun _ => rfl) cs i k hk cs[i] (List.getElem?_eq_getElem hic)
 refine ⟨bk,o,cs[i],ha,⟨?_,?_,?_,?_,?_⟩,ht.at_ hi hic⟩
 ·have := hcell (i * 5 + 0) _ (hg 0 (by omega));rwa [Nat.add_zero] at this
 ·have := hcell (i * 5 + 1) _ (hg 1 (by omega));rwa [← Nat.add_assoc] at this
 ·have := hcell (i * 5 + 2) _ (hg 2 (by omega));rwa [← Nat.add_assoc] at this
 ·have := hcell (i * 5 + 3) _ (hg 3 (by omega));rwa [← Nat.add_assoc] at this
 have := hcell (i * 5 + 4) _ (hg 4 (by omega));rwa [← Nat.add_assoc] at this
theorem InU.atX {S : Nat → Prop} {w : World} {B : Nat} {v : V} {c : Cv} (h : InU w B v c) (hB : B ≤ w.heap.size) (hs : ∀ q,S q → B ≤ q) : IsV (AtX w S) v c := IsV.mono (AtX.ofW hB (fun q hq => .inr (hs q hq))) v c h
theorem InU.keep {S : Nat → Prop} {w w' : World} {B : Nat} {v : V} {c : Cv} (h : InU w B v c) (hk : Kept S w w') (hB : B ≤ w.heap.size) (hs : ∀ q,S q → B ≤ q) : InU w' B v c := h.below (hk.below hB hs) (Nat.le_refl _) (Nat.le_refl _)
theorem OwnCo.r {S : Nat → Prop} {w : World} {B : Nat} {e : Cc} {c : Co} (h : OwnCo w B e c) (hB : B ≤ w.heap.size) (hs : ∀ q,S q → B ≤ q) (hd : ∀ g,ablk e.dA = some g → ¬ S g) (hx : ∀ g,ablk e.xA = some g → ¬ S g) (hl : c.docs.length ≤ 140737488355328) : CoR (AtX w S) e c := by
 obtain ⟨cs,h1,h2⟩ := h.docs;exact ⟨h.nm,h.dn,h.xn,(own_le h.ixs).1,list_of_row (own_reads h1 hd) (h2.mono fun v c hv => hv.atX hB hs) (own_le h1).1 hl,own_reads h.ixs hx⟩
theorem OwnCo.keep {S : Nat → Prop} {w w' : World} {B : Nat} {e : Cc} {c : Co} (h : OwnCo w B e c) (hk : Kept S w w') (hB : B ≤ w.heap.size) (hs : ∀ q,S q → B ≤ q) (hd : ∀ g,ablk e.dA = some g → ¬ S g) (hx : ∀ g,ablk e.xA = some g → ¬ S g) : OwnCo w' B e c := by
 obtain ⟨cs,h1,h2⟩ := h.docs;exact ⟨h.nm,h.dn,h.xn,⟨cs,own_kept h1 hk hd,h2.mono fun v c hv => hv.keep hk hB hs⟩,own_kept h.ixs hk hx⟩
theorem Own.grow {w w' : World} {B : Nat} {A : Option Addr} {cap : Nat} {es : List Cc} {st : List Co} (h : Own w B A cap es st) (hB : B ≤ w.heap.size) (hg : Grow w w') : Own w' B A cap es st :=
 ⟨ownG h.row hg,h.two.mono fun a b k => k.keep (Kept.grow (S := fun _ => False) hg) hB (fun _ h => h.elim) (fun _ _ h => h) (fun _ _ h => h),h.distD,h.distX⟩
theorem ownT {w : World} {B B' : Nat} {T T' : TypeId} {z z' n n' c c' : Nat} {A A' : Option Addr} {xs xs' : List Value} (h : w.ownsRow B T z (.slice A n c) n xs) (k : w.ownsRow B' T' z' (.slice A' n' c') n' xs') (ht : T ≠ T') : ∀ g,ablk A = some g → ablk A' ≠ some g := by
 intro g h1 h2;rcases h.2 with ⟨e,-⟩ | ⟨g1,_,cur,e,-,hg,-⟩
 ·injection e with e1;rw [e1] at h1;cases h1
 rcases k.2 with ⟨e',-⟩ | ⟨g2,_,cur',e',-,hg',-⟩
 ·injection e' with e1;rw [e1] at h2;cases h2
 injection e with e1;injection e' with e2;rw [e1] at h1;rw [e2] at h2
 cases h1;cases h2
 rw [hg] at hg';injection hg' with hg';injection hg' with _ hT _;exact ht hT
theorem ownT_blk {w : World} {B : Nat} {T T' : TypeId} {z n c mb : Nat} {A : Option Addr} {xs : List Value} {cs : Array Value} (h : w.ownsRow B T z (.slice A n c) n xs) (k : Blk w mb T' cs) (ht : T ≠ T') : ablk A ≠ some mb := by
 intro h1;rcases h.2 with ⟨e,-⟩ | ⟨g1,_,cur,e,-,hg,-⟩
 ·injection e with e1;rw [e1] at h1;cases h1
 injection e with e1;rw [e1] at h1
 cases h1
 rw [show w.heap[_]? = _ from k] at hg;injection hg with hg;injection hg with _ hT _;exact ht hT.symm
theorem own_setC {w : World} {B n c gb i k : Nat} {es : List Cc} {e' : Cc} {v : Value} (h : w.ownsRow B 48 3 (.slice (some ⟨gb,0,none⟩) n c) n (cellsC es)) (hi : i < es.length) (hn : es.length = n) (hk : k < 3) (he : e'.cells.toList = es[i].cells.toList.set k v) :
 (w.setCell ⟨gb,i * 3 + k,none⟩ v).ownsRow B 48 3 (.slice (some ⟨gb,0,none⟩) n c) n (cellsC (es.set i e')) := by
 obtain ⟨g,cur,e,hb,hg,h1,h2,h3,h4,h5⟩ := own_open h (by omega)
 cases e
 have hsz : (w.setCell ⟨gb,i * 3 + k,none⟩ v).heap[gb]? = some (.cells (cur.setIfInBounds (i * 3 + k) v) 48 (0,0)) := Blk.set_ hg _ v;have hlen : (cellsC (es.set i e')).length = n * 3 := by rw [cellsC_len,List.length_set,hn]
 refine own_mk hb hsz h1 h2 (by rw [Array.size_setIfInBounds,h3]) ?_ hlen;rw [Array.toList_setIfInBounds,List.take_set,h4,cellsC,cellsC,← fz_set _ 3 (fun _ => rfl) es i e' hi,he];have hes : (es.map fun e => e.cells.toList).flatten = ((es.map fun e => e.cells.toList).flatten).take (i * 3) ++ (es[i].cells.toList ++ ((es.map fun e => e.cells.toList).flatten).drop ((i + 1) * 3)) := by
  conv => lhs;rw [← List.take_append_drop (i * 3) ((es.map fun e => e.cells.toList).flatten)]
  congr 1;have d1 := fz_drop (fun e : Cc => e.cells.toList) 3 (fun _ => rfl) es i;have d2 := fz_drop (fun e : Cc => e.cells.toList) 3 (fun _ => rfl) es (i + 1);rw [List.drop_eq_getElem_cons hi,List.map_cons,List.flatten_cons] at d1;rw [d1,d2]
 have hlt : (((es.map fun e => e.cells.toList).flatten).take (i * 3)).length = i * 3 := by
  rw [List.length_take,fz_len _ 3 (fun _ => rfl)];omega
 conv => lhs;rw [hes]
 rw [List.set_append_right _ _ (by rw [hlt];omega),hlt,show i * 3 + k - i * 3 = k by omega,List.set_append_left _ _ (by simp;omega),List.append_assoc]
end
section
open Go.RowKit
theorem mat_any (n cap mb : Nat) (A : Option Addr) (el : Nat → Cc) (s : ByteArray) (w : World) (hn : n ≤ 140737488355328) (hrow : RowR w A 3 n (fun j => (el j).cells)) (h0 : w.cell? ⟨mb,0,none⟩ = some (.slice A n cap)) (h2 : w.cell? ⟨mb,2,none⟩ = some (.string s)) (hmb : mb < w.heap.size) :
 Calls Tryz.prog 115 #[.pointer (some ⟨mb,0,none⟩)] w fun e w' => e = .returned (.tuple #[.int .i64 (bsN (nameCf (fun j => (el j).nm) s) n : Nat),.bool (bsF (nameCf (fun j => (el j).nm) s) n)]) ∧ Grow w w' := by
 have HBS := hide (fun w1 (h : Grow w w1) => bsC_any n (nameCf (fun j => (el j).nm) s) el A cap (.string s) w1 hn (hrow.grow h) (fun j hj w' hg => atc_any (el j) s w'));have HMB := hide hmb;obtain ⟨RN,hRN⟩ : ∃ R,bsN (nameCf (fun j => (el j).nm) s) n = R := ⟨_,rfl⟩;obtain ⟨RF,hRF⟩ : ∃ R,bsF (nameCf (fun j => (el j).nm) s) n = R := ⟨_,rfl⟩;rw [hRN,hRF] at HBS ⊢;clear hrow hRN hRF;go_enter Tryz.func115,Tryz.ntmps115;go_wp2_with fail;refine wp_region_noPanic ?_;refine wp_region_held_drew (S := fun w' => Grow w w' ∧ w'.cell? ⟨mb,0,none⟩ = some (.slice A n cap) ∧ w'.cell? ⟨mb,2,none⟩ = some (.string s)) (by kernel_rfl) (⟨(Grow.refl w).drew,h0,h2⟩) (fun hHeld => ?_);refine tx_ 0 ?_;refine tx_ 1 ?_;refine tx_ 2 ?_;refine tx_ 3 ?_;refine tx_ 4 ?_;refine tx_ 5 ?_;refine tx_ 6 ?_;refine tx_ 7 ?_;refine tx_ 8 ?_;refine tx_ 9 ?_;refine r1_ 10 (fun K hK => ?_);go_simp;go_at_call 162
 refine (HBS.out _ hHeld.1).mono ?_;rintro ee w3 ⟨rfl,hg3⟩;refine hk_ hK (⟨hHeld.1.trans hg3,(hg3.below.cell (p := ⟨mb,0,none⟩) (Nat.lt_of_lt_of_le HMB.out hHeld.1.size)).trans hHeld.2.1,(hg3.below.cell (p := ⟨mb,2,none⟩) (Nat.lt_of_lt_of_le HMB.out hHeld.1.size)).trans hHeld.2.2⟩) (fun hHeld => ?_);clear hK K;refine tk_ 11 ?_;refine tk_ 12 ?_;refine tk_ 13 ?_;refine tk_ 14 ?_;refine dn_ ?_;go_wp2_with fail;go_ret2;exact ⟨rfl,hHeld.1⟩
theorem mindex_any (n cap mb pb po : Nat) (A : Option Addr) (el : Nat → Ix) (s : ByteArray) (w : World) (hn : n ≤ 140737488355328) (hrow : RowR w A 3 n (fun j => (el j).cells)) (h0 : w.cell? ⟨pb,po + 2,none⟩ = some (.slice A n cap)) (h2 : w.cell? ⟨mb,3,none⟩ = some (.string s)) (hmb : mb < w.heap.size) (hpb : pb < w.heap.size) :
 Calls Tryz.prog 125 #[.pointer (some ⟨mb,0,none⟩),.pointer (some ⟨pb,po,none⟩)] w fun e w' => e = .returned (.tuple #[.int .i64 (bsN (nameCf (fun j => (el j).name) s) n : Nat),.bool (bsF (nameCf (fun j => (el j).name) s) n)]) ∧ Grow w w' := by
 have HBS := hide (fun w1 (h : Grow w w1) => bsX_any n (nameCf (fun j => (el j).name) s) el A cap (.string s) w1 hn (hrow.grow h) (fun j hj w' hg => ixc_any (el j) s w'));have HMB := hide hmb;have HPB := hide hpb;obtain ⟨RN,hRN⟩ : ∃ R,bsN (nameCf (fun j => (el j).name) s) n = R := ⟨_,rfl⟩;obtain ⟨RF,hRF⟩ : ∃ R,bsF (nameCf (fun j => (el j).name) s) n = R := ⟨_,rfl⟩;rw [hRN,hRF] at HBS ⊢;clear hrow hRN hRF;go_enter Tryz.func125,Tryz.ntmps125;go_wp2_with fail;refine wp_region_noPanic ?_;refine wp_region_held_drew (S := fun w' => Grow w w' ∧ w'.cell? ⟨pb,po + 2,none⟩ = some (.slice A n cap) ∧ w'.cell? ⟨mb,3,none⟩ = some (.string s)) (by kernel_rfl) (⟨(Grow.refl w).drew,h0,h2⟩) (fun hHeld => ?_);refine tx_ 0 ?_;refine tx_ 1 ?_;refine tx_ 2 ?_;refine tx_ 3 ?_;refine tx_ 4 ?_;refine tx_ 5 ?_;refine tx_ 6 ?_;refine tx_ 7 ?_;refine tx_ 8 ?_;refine r1_ 9 (fun K hK => ?_);go_simp
 go_at_call 170;refine (HBS.out _ hHeld.1).mono ?_;rintro ee w3 ⟨rfl,hg3⟩;refine hk_ hK (⟨hHeld.1.trans hg3,(hg3.below.cell (p := ⟨pb,po + 2,none⟩) (Nat.lt_of_lt_of_le HPB.out hHeld.1.size)).trans hHeld.2.1,(hg3.below.cell (p := ⟨mb,3,none⟩) (Nat.lt_of_lt_of_le HMB.out hHeld.1.size)).trans hHeld.2.2⟩) (fun hHeld => ?_);clear hK K;refine tk_ 10 ?_;refine tk_ 11 ?_;refine tk_ 12 ?_;refine tk_ 13 ?_;refine dn_ ?_;go_wp2_with fail;go_ret2;exact ⟨rfl,hHeld.1⟩
end
section
open Go.RowKit
theorem mcoll_no (n cap mb : Nat) (A : Option Addr) (el : Nat → Cc) (s : ByteArray) (w : World) (hn : n ≤ 140737488355328) (hrow : RowR w A 3 n (fun j => (el j).cells)) (h0 : w.cell? ⟨mb,0,none⟩ = some (.slice A n cap)) (h2 : w.cell? ⟨mb,2,none⟩ = some (.string s)) (hmb : mb < w.heap.size) (hf : bsF (nameCf (fun j => (el j).nm) s) n = false) :
 Calls Tryz.prog 117 #[.pointer (some ⟨mb,0,none⟩)] w fun e w' => e = .panicked (thrown 5) ∧ Grow w w' := by
 have HAT := hide (mat_any n cap mb A el s w hn hrow h0 h2 hmb);rw [hf] at HAT;obtain ⟨RN,hRN⟩ : ∃ R,bsN (nameCf (fun j => (el j).nm) s) n = R := ⟨_,rfl⟩;rw [hRN] at HAT;have HM := hide (fun w => pmust_no 5 w);clear hrow hRN hf h0 h2;go_enter Tryz.func117,Tryz.ntmps117;go_wp2_with fail;refine HAT.out.mono ?_;rintro e w1 ⟨rfl,hg⟩;have HG := hide hg;clear hg;go_wp2_with fail;refine (HM.out w1).mono ?_;rintro e w2 ⟨rfl,rfl⟩;go_wp2_with fail;exact ⟨rfl,rfl,HG.out⟩
theorem mcoll_yes (n cap mb gb o : Nat) (el : Nat → Cc) (s : ByteArray) (w : World) (hn : n ≤ 140737488355328) (hrow : RowR w (some ⟨gb,o,none⟩) 3 n (fun j => (el j).cells)) (h0 : w.cell? ⟨mb,0,none⟩ = some (.slice (some ⟨gb,o,none⟩) n cap)) (h2 : w.cell? ⟨mb,2,none⟩ = some (.string s)) (hmb : mb < w.heap.size) (hf : bsF (nameCf (fun j => (el j).nm) s) n = true) :
 Calls Tryz.prog 117 #[.pointer (some ⟨mb,0,none⟩)] w fun e w' => e = .returned (.pointer (some ⟨gb,o + bsN (nameCf (fun j => (el j).nm) s) n * 3,none⟩)) ∧ Grow w w' := by
 have HAT := hide (mat_any n cap mb (some ⟨gb,o,none⟩) el s w hn hrow h0 h2 hmb);have hlt : bsN (nameCf (fun j => (el j).nm) s) n < n := by
  unfold bsF at hf;simp only [Bool.and_eq_true,decide_eq_true_eq] at hf;exact hf.1
 rw [hf] at HAT;obtain ⟨RN,hRN⟩ : ∃ R,bsN (nameCf (fun j => (el j).nm) s) n = R := ⟨_,rfl⟩;rw [hRN] at HAT hlt ⊢;have HM := hide (fun w => pmust_yes 5 w);have H0 := hide (fun (w1 : World) (h : Grow w w1) => (h.below.cell (p := ⟨mb,0,none⟩) hmb).trans h0);clear hrow hRN hf h0 h2;go_enter Tryz.func117,Tryz.ntmps117;go_wp2_with fail;refine HAT.out.mono ?_;rintro e w1 ⟨rfl,hg⟩;have HG := hide hg;have hm0 := H0.out w1 hg;clear hg;go_wp2_with fail;refine (HM.out w1).mono ?_;rintro e w2 ⟨rfl,rfl⟩;have hi0 : (0 : Int) ≤ (RN : Int) := by omega
 have hi1 : (RN : Int) < (n : Int) := by omega
 go_wp2_with fail;go_ret;exact ⟨rfl,HG.out⟩
end
section
open Go.RowKit
def FoundC (w : World) (docs : List V) (k : V) (e : Ending) (w' : World) : Prop :=
 Grow w w' ∧ (((ofK k).2 ≠ 0 ∧ e = .panicked (thrown (ofK k).2)) ∨ ((ofK k).2 = 0 ∧ bsF (docCf docs (ofK k).1) docs.length = false ∧ e = .panicked (thrown 17)) ∨
  ((ofK k).2 = 0 ∧ bsF (docCf docs (ofK k).1) docs.length = true ∧ e = .returned (.int .i64 (bsN (docCf docs (ofK k).1) docs.length : Nat))))
theorem found_any (docs : List V) (k : V) (ck : Cv) (mb pb po cap : Nat) (A : Option Addr) (w : World) (hk20 : k.count ≤ 20000) (hcount : ∀ v ∈ docs,v.count ≤ 20000) (hlen : docs.length ≤ 140737488355328) (hT : Tabs w) (hc : w.cell? ⟨pb,po + 1,none⟩ = some (.slice A docs.length cap)) (hpb : pb < w.heap.size) (hmb : mb < w.heap.size) (hd : InL w A cap docs) (hk : In w k ck)
 (hq : ∀ i v,ck.cells[i]? = some v → w.cell? ⟨mb,6 + i,none⟩ = some v) :
 Calls Tryz.prog 123 #[.pointer (some ⟨mb,0,none⟩),.pointer (some ⟨pb,po,none⟩)] w (FoundC w docs k) := by
 have q0 := hq 0 _ rfl;have q1 := hq 1 _ rfl;have q2 := hq 2 _ rfl;have q3 := hq 3 _ rfl;have q4 := hq 4 _ rfl;simp only [Nat.reduceAdd] at q0 q1 q2 q3 q4;have HGOOD := hide (good_any k w ck hk20 hT hk);have HD := hide (fun (w1 : World) (hg : Grow w w1) (b : List UInt8) (K : Option Addr) (kc : Nat) (hb : InB w1 K b) => doc_any docs pb po cap A b K kc w1 hcount hlen (hT.grow hg) ((hg.below.cell (p := ⟨pb,po + 1,none⟩) hpb).trans hc) (Nat.lt_of_lt_of_le hpb hg.size) (hd.grow hg) hb);have HOF := hide (fun (w1 : World) (hg : Grow w w1) => of_any k ck w1 (IsV.fit k ck hk) hk20 (hT.grow hg) (hk.grow hg));have HQ := hide (fun (w1 : World) (hg : Grow w w1) i v (hi : ck.cells[i]? = some v) => (hg.below.cell (p := ⟨mb,6 + i,none⟩) hmb).trans (hq i v hi));obtain ⟨g,hg0⟩ : ∃ g,k.good = g := ⟨_,rfl⟩;rw [hg0] at HGOOD;have HG0 := hide hg0;clear hq hT hk hd hc hg0 hcount
 go_enter Tryz.func123,Tryz.ntmps123;go_wp2_with fail;refine HGOOD.out.mono ?_;rintro e w1 ⟨rfl,hg1⟩;have HG1 := hide hg1;clear q0 q1 q2 q3 q4;have q0 := HQ.out w1 hg1 0 _ rfl;have q1 := HQ.out w1 hg1 1 _ rfl;have q2 := HQ.out w1 hg1 2 _ rfl;have q3 := HQ.out w1 hg1 3 _ rfl;have q4 := HQ.out w1 hg1 4 _ rfl;simp only [Nat.reduceAdd] at q0 q1 q2 q3 q4;clear hg1;by_cases h0 : g = 0
 ·subst h0;go_wp2_with fail;refine (right_yes w1).mono ?_;rintro e w2 ⟨rfl,rfl⟩;go_wp2_with fail;obtain ⟨⟨kb,ke⟩,hke⟩ : ∃ r,ofK k = r := ⟨_,rfl⟩;have HO := HOF.out w1 HG1.out;rw [hke] at HO;have HKE := hide hke;refine HO.mono ?_;rintro e w2 ⟨base,A2,c2,rfl,hb2,hr2,hg2⟩;dsimp only at hr2 ⊢;have HG2 := hide (HG1.out.trans hg2);have HR2 := hide hr2;have HD2 := hide (HD.out w2 (HG1.out.trans hg2) kb A2 c2 hr2.reads.1);clear hr2 hg2 hb2 hke HO;by_cases he : ke = 0
  ·subst he;obtain ⟨RN,hRN⟩ : ∃ R,bsN (docCf docs kb) docs.length = R := ⟨_,rfl⟩;obtain ⟨RF,hRF⟩ : ∃ R,bsF (docCf docs kb) docs.length = R := ⟨_,rfl⟩;rw [hRN,hRF] at HD2;have HRN := hide hRN;have HRF := hide hRF;clear hRN hRF;go_wp2_with fail;refine (right_yes w2).mono ?_;rintro e w3 ⟨rfl,rfl⟩;go_wp2_with fail;refine HD2.out.mono ?_;rintro e w3 ⟨rfl,hg3⟩;have HG3 := hide (HG2.out.trans hg3);clear hg3
   cases RF with
   | false =>
    go_wp2_with fail;refine (pmust_no 17 w3).mono ?_;rintro e w4 ⟨rfl,rfl⟩;go_wp2_with fail;exact ⟨rfl,HG3.out,.inr (.inl ⟨by rw [HKE.out],by rw [HKE.out];exact HRF.out,rfl⟩)⟩
   | true =>
    go_wp2_with fail;refine (pmust_yes 17 w3).mono ?_;rintro e w4 ⟨rfl,rfl⟩;go_wp2_with fail;go_ret;exact ⟨HG3.out,.inr (.inr ⟨by rw [HKE.out],by rw [HKE.out];exact HRF.out,by rw [HKE.out,← HRN.out];rfl⟩)⟩
  go_wp2_with fail;refine (right_no ke he w2).mono ?_;rintro e w3 ⟨rfl,rfl⟩;go_wp2_with fail;exact ⟨rfl,HG2.out,.inl ⟨by rw [HKE.out];exact he,by rw [HKE.out]⟩⟩
 go_wp2_with fail;refine (right_no g h0 w1).mono ?_;rintro e w2 ⟨rfl,rfl⟩;have hof : ofK k = ([],g) := by unfold ofK;rw [if_pos (by rw [HG0.out];exact h0),HG0.out]
 go_wp2_with fail;exact ⟨rfl,HG1.out,.inl ⟨by rw [hof];exact h0,by rw [hof]⟩⟩
end
section
open Go.RowKit
abbrev mcells (A : Option Addr) (n cap : Nat) (d : Int) (c i p : ByteArray) (u : Bool) (k l h x : Cv) (qn : Int) : Array Value :=
 #[.slice A n cap,.int .i64 d,.string c,.string i,.string p,.bool u,.int .i64 k.k,.int .u64 k.n,.slice k.aB k.nB k.cB,.slice k.aL k.nL k.cL,.slice k.aF k.nF k.cF,
  .int .i64 l.k,.int .u64 l.n,.slice l.aB l.nB l.cB,.slice l.aL l.nL l.cL,.slice l.aF l.nF l.cF,.int .i64 h.k,.int .u64 h.n,.slice h.aB h.nB h.cB,.slice h.aL h.nL h.cL,.slice h.aF h.nF h.cF,
  .int .i64 x.k,.int .u64 x.n,.slice x.aB x.nB x.cB,.slice x.aL x.nL x.cL,.slice x.aF x.nF x.cF,.int .i64 qn,.int .i64 0,.int .i64 0,.slice none 0 0,.int .i64 0]
structure Mach (w : World) (B mb : Nat) (A : Option Addr) (cap : Nat) (es : List Cc) (st : List Co) (q : Rq) (ck cl ch cx : Cv) : Prop where
 lo : B ≤ mb
 own : Own w B A cap es st
 blk : Blk w mb 96 (mcells A st.length cap q.do_ q.coll q.index q.path q.unique ck cl ch cx q.n)
 key : InU w B q.key ck
 low : InU w B q.low cl
 high : InU w B q.high ch
 doc : InU w B q.doc cx
section
variable {w : World} {B mb cap : Nat} {A : Option Addr} {es : List Cc} {st : List Co} {q : Rq} {ck cl ch cx : Cv}
theorem Mach.lt (h : Mach w B mb A cap es st q ck cl ch cx) : mb < w.heap.size := h.blk.lt
theorem Mach.le (h : Mach w B mb A cap es st q ck cl ch cx) : B ≤ w.heap.size := Nat.le_trans h.lo (Nat.le_of_lt h.lt)
theorem Mach.grow {w' : World} (h : Mach w B mb A cap es st q ck cl ch cx) (hg : Grow w w') : Mach w' B mb A cap es st q ck cl ch cx :=
 ⟨h.lo,h.own.grow h.le hg,h.blk.grow hg,h.key.below hg.below h.le (Nat.le_refl _),h.low.below hg.below h.le (Nat.le_refl _),h.high.below hg.below h.le (Nat.le_refl _),h.doc.below hg.below h.le (Nat.le_refl _)⟩
theorem Mach.el (h : Mach w B mb A cap es st q ck cl ch cx) : es.length = st.length := h.own.two.1
theorem Mach.nms (h : Mach w B mb A cap es st q ck cl ch cx) : (fun j => (es.getD j Cc.zero).nm) = fun j => (cnm st).getD j ⟨#[]⟩ := by
 funext j;rw [List.getD_eq_getElem?_getD,List.getD_eq_getElem?_getD,List.getElem?_map];by_cases hj : j < st.length
 ·have hj' : j < es.length := by rw [h.el];exact hj
  rw [List.getElem?_eq_getElem hj,List.getElem?_eq_getElem hj'];exact (h.own.two.at_ hj' hj).nm
 have hel := h.el;rw [List.getElem?_eq_none (show es.length ≤ j by omega),List.getElem?_eq_none (show st.length ≤ j by omega)];rfl
theorem Mach.rowR (h : Mach w B mb A cap es st q ck cl ch cx) : RowR w A 3 st.length (fun j => (es.getD j Cc.zero).cells) := fun j hj => by
 have hj' : j < es.length := by rw [h.el];exact hj
 have hr := own_reads (S := fun _ => False) h.own.row (fun _ _ h => h);obtain ⟨bk,o,e,hc⟩ := hr.2 (by omega);have hc0 := hc 0 _ (List.getElem?_eq_getElem (by rw [cellsC_len];omega));refine ⟨bk,o,e,hc0.2.1,fun i v hi => ?_⟩;have h3 : i < 3 := by
  rcases Nat.lt_or_ge i 3 with h3 | h3
  ·exact h3
  rw [Array.getElem?_eq_none (by simpa using h3)] at hi;cases hi
 have hget : es.getD j Cc.zero = es[j] := by rw [List.getD_eq_getElem?_getD,List.getElem?_eq_getElem hj'];rfl
 change (es.getD j Cc.zero).cells[i]? = some v at hi;rw [hget] at hi;have := hc (j * 3 + i) v (by rw [cellsC,fz_get _ 3 (fun _ => rfl) es j i h3 es[j] (List.getElem?_eq_getElem hj')];rw [Array.getElem?_toList];exact hi);rw [← Nat.add_assoc] at this;exact this.1
theorem Mach.short {N : Nat} (h : StOk N st) : st.length ≤ 140737488355328 := Nat.le_trans h.n (by omega)
theorem mat_m (h : Mach w B mb A cap es st q ck cl ch cx) (hs : st.length ≤ 140737488355328) :
 Calls Tryz.prog 115 #[.pointer (some ⟨mb,0,none⟩)] w fun e w' => e = .returned (.tuple #[.int .i64 (plN (cnm st) q.coll : Nat),.bool (plF (cnm st) q.coll)]) ∧ Grow w w' := by
 have h0 : w.cell? ⟨mb,0,none⟩ = some (.slice A st.length cap) := by rw [h.blk.cell];rfl
 have h2 : w.cell? ⟨mb,2,none⟩ = some (.string q.coll) := by rw [h.blk.cell];rfl
 have := mat_any st.length cap mb A (fun j => es.getD j Cc.zero) q.coll w hs h.rowR h0 h2 h.lt;rw [h.nms] at this;unfold plN plF;rw [List.length_map];exact this
theorem coll_m_no (h : Mach w B mb A cap es st q ck cl ch cx) (hs : st.length ≤ 140737488355328) (hf : plF (cnm st) q.coll = false) :
 Calls Tryz.prog 117 #[.pointer (some ⟨mb,0,none⟩)] w fun e w' => e = .panicked (thrown 5) ∧ Grow w w' := by
 have h0 : w.cell? ⟨mb,0,none⟩ = some (.slice A st.length cap) := by rw [h.blk.cell];rfl
 have h2 : w.cell? ⟨mb,2,none⟩ = some (.string q.coll) := by rw [h.blk.cell];rfl
 refine mcoll_no st.length cap mb A (fun j => es.getD j Cc.zero) q.coll w hs h.rowR h0 h2 h.lt ?_;rw [h.nms];unfold plF at hf;rw [List.length_map] at hf;exact hf
theorem coll_m (h : Mach w B mb A cap es st q ck cl ch cx) (hs : st.length ≤ 140737488355328) (hf : plF (cnm st) q.coll = true) {gb : Nat} (hA : A = some ⟨gb,0,none⟩) :
 Calls Tryz.prog 117 #[.pointer (some ⟨mb,0,none⟩)] w fun e w' => e = .returned (.pointer (some ⟨gb,plN (cnm st) q.coll * 3,none⟩)) ∧ Grow w w' := by
 subst hA;have h0 : w.cell? ⟨mb,0,none⟩ = some (.slice (some ⟨gb,0,none⟩) st.length cap) := by rw [h.blk.cell];rfl
 have h2 : w.cell? ⟨mb,2,none⟩ = some (.string q.coll) := by rw [h.blk.cell];rfl
 have := mcoll_yes st.length cap mb gb 0 (fun j => es.getD j Cc.zero) q.coll w hs h.rowR h0 h2 h.lt (by
  rw [h.nms];unfold plF at hf;rw [List.length_map] at hf;exact hf)
 rw [h.nms,Nat.zero_add] at this;unfold plN;rw [List.length_map];exact this
theorem Mach.gb (h : Mach w B mb A cap es st q ck cl ch cx) (hf : plF (cnm st) q.coll = true) : ∃ gb,A = some ⟨gb,0,none⟩ ∧ B ≤ gb ∧ gb < w.heap.size ∧ gb ≠ mb := by
 have hl := (coAt_mem hf).2.2.2;obtain ⟨g,cur,e,hb,hg,-⟩ := own_open h.own.row (by omega);refine ⟨g,e,hb,(Array.getElem?_eq_some_iff.1 hg).1,fun e' => ?_⟩;exact ownT_blk h.own.row h.blk (by decide) (by rw [e,← e'];rfl)
theorem Mach.co (h : Mach w B mb A cap es st q ck cl ch cx) (hf : plF (cnm st) q.coll = true) {gb : Nat} (hA : A = some ⟨gb,0,none⟩) : ∃ e,es[plN (cnm st) q.coll]? = some e ∧ OwnCo w B e (coAt st q.coll) ∧
 (∀ i v,e.cells[i]? = some v → w.cell? ⟨gb,plN (cnm st) q.coll * 3 + i,none⟩ = some v) := by
 obtain ⟨h1,-,-,hl⟩ := coAt_mem hf;have hl' : plN (cnm st) q.coll < es.length := by rw [h.el];exact hl
 refine ⟨es[plN (cnm st) q.coll],List.getElem?_eq_getElem hl',h.own.two.2 _ _ _ (List.getElem?_eq_getElem hl') h1,fun i v hi => ?_⟩;obtain ⟨bk,o,e,-,hc⟩ := h.rowR _ hl;rw [hA] at e;injection e with e;injection e with e1 e2;subst e1 e2;have hget : es.getD (plN (cnm st) q.coll) Cc.zero = es[plN (cnm st) q.coll] := by rw [List.getD_eq_getElem?_getD,List.getElem?_eq_getElem hl'];rfl
 have := hc i v (by dsimp only;rw [hget];exact hi);rwa [Nat.zero_add] at this
end
def MethC (w : World) (B mb : Nat) (r : Res) (e : Ending) (w' : World) : Prop :=
 Below B w w' ∧ match r with
  | .error k => e = .panicked (thrown k)
  | .ok (st',n,docs) => e = .returned (.tuple #[]) ∧ mb < w'.heap.size ∧ ∃ A cap dA dc,w'.cell? ⟨mb,0,none⟩ = some (.slice A st'.length cap) ∧ StIn w' A cap st' ∧
   w'.cell? ⟨mb,28,none⟩ = some (.int .i64 n) ∧ w'.cell? ⟨mb,29,none⟩ = some (.slice dA docs.length dc) ∧ InL w' dA dc docs
theorem MethC.err {w w' : World} {B mb : Nat} {r : Res} {k : Int} (hb : Below B w w') (hr : r = .error k) : MethC w B mb r (.panicked (thrown k)) w' := by subst hr;exact ⟨hb,rfl⟩
theorem MethC.ok {w w' : World} {B mb : Nat} {r : Res} {st' : List Co} {n : Int} {docs : List V} (hb : Below B w w') (hr : r = .ok (st',n,docs)) (hm : mb < w'.heap.size) {A dA : Option Addr} {cap dc : Nat} (h0 : w'.cell? ⟨mb,0,none⟩ = some (.slice A st'.length cap)) (hs : StIn w' A cap st')
 (h28 : w'.cell? ⟨mb,28,none⟩ = some (.int .i64 n)) (h29 : w'.cell? ⟨mb,29,none⟩ = some (.slice dA docs.length dc)) (hd : InL w' dA dc docs) : MethC w B mb r (.returned (.tuple #[])) w' := by
 subst hr;exact ⟨hb,rfl,hm,A,cap,dA,dc,h0,hs,h28,h29,hd⟩
theorem InL.nil (w : World) : InL w none 0 [] := by
 unfold InL In;rw [IsV];exact ⟨rfl,rfl,rfl,rfl,rfl,by decide,by decide,by decide,by simp,by simp,by simp,by simp,by simp,by simp,⟨rfl,fun h => by simp at h⟩,fun i hi => by simp at hi,fun i hi => by simp at hi⟩
end
section
open Go.RowKit
theorem Kept.of_grown {w w' : World} {row : Option Nat} (h : w.grownBy w' row) : Kept (fun q => row = some q) w w' :=
 ⟨h.os,h.tape,h.output,h.size,fun k hk hs => h.block k hk fun e => hs e.symm⟩
theorem Kept.none_ {w w' : World} (h : Grow w w') : Kept (fun _ => False) w w' := Kept.grow h
section
variable {α β : Type}
structure GR (f : α → List Value) (z : Nat) (T : TypeId) (R : (Addr → Value → Prop) → α → β → Prop) (S : Nat → Prop) (w : World) (lo : Nat) (A : Option Addr) (c : Nat) (xs : List α) (ys : List β) : Prop where
 row : w.ownsRow lo T z (.slice A xs.length c) xs.length ((xs.map f).flatten)
 two : Two (R (AtX w (fun q => ablk A = some q ∨ S q))) xs ys
variable {f : α → List Value} {z : Nat} {T : TypeId} {R : (Addr → Value → Prop) → α → β → Prop} {S : Nat → Prop} {w w' : World} {lo c c' : Nat} {A A' : Option Addr} {xs : List α} {ys : List β}
theorem GR.kept {K : Nat → Prop} (hm : ∀ (C C' : Addr → Value → Prop),(∀ p u,C p u → C' p u) → ∀ a b,R C a b → R C' a b) (h : GR f z T R S w lo A c xs ys) (hk : Kept K w w') (hs : ∀ q,K q → S q) (hA : ∀ g,ablk A = some g → ¬ K g) : GR f z T R S w' lo A c xs ys :=
 ⟨own_kept h.row hk hA,h.two.mono fun a b k => hm _ _ (AtX.kept hk fun q hq => .inr (hs q hq)) a b k⟩
theorem GR.grow (hm : ∀ (C C' : Addr → Value → Prop),(∀ p u,C p u → C' p u) → ∀ a b,R C a b → R C' a b) (h : GR f z T R S w lo A c xs ys) (hg : Grow w w') : GR f z T R S w' lo A c xs ys :=
 h.kept hm (Kept.none_ hg) (fun _ h => h.elim) (fun _ _ h => h)
theorem GR.nil (w : World) : GR f z T R S w lo none 0 [] [] := ⟨by rw [List.map_nil,List.flatten_nil];exact World.ownsRow_nil _ _ _ _,Two.nil⟩
theorem GR.made {g cap : Nat} (h : w.ownsRow lo T z (.slice (some ⟨g,0,none⟩) 0 cap) 0 []) : GR f z T R S w lo (some ⟨g,0,none⟩) cap [] ([] : List β) := ⟨by rw [List.map_nil,List.flatten_nil];exact h,Two.nil⟩
theorem GR.add (hm : ∀ (C C' : Addr → Value → Prop),(∀ p u,C p u → C' p u) → ∀ a b,R C a b → R C' a b) (h : GR f z T R S w lo A c xs ys) {a : α} {b : β} (hv : R (AtX w (fun q => ablk A = some q ∨ S q)) a b)
 (hr : w'.ownsRow lo T z (.slice A' (xs.length + 1) c') (xs.length + 1) ((xs.map f).flatten ++ f a)) (hg : w.grownBy w' (Value.ownBlock (.slice A xs.length c))) (hA : Value.ownBlock (.slice A' (xs.length + 1) c') = Value.ownBlock (.slice A xs.length c) ∨ Value.ownBlock (.slice A' (xs.length + 1) c') = some w.heap.size) :
 GR f z T R S w' lo A' c' (xs ++ [a]) (ys ++ [b]) := by
 rw [ownBlock_slice,ownBlock_slice] at hA;rw [ownBlock_slice] at hg;have hC : ∀ p u,AtX w (fun q => ablk A = some q ∨ S q) p u → AtX w' (fun q => ablk A' = some q ∨ S q) p u := fun p u hp => by
  have hp2 := AtX.kept (Kept.of_grown hg) (fun q hq => .inl hq) p u hp;refine ⟨hp2.1,hp2.2.1,fun hq => ?_⟩;rcases hq with hq | hq
  ·rcases hA with hA | hA
   ·rw [hA] at hq;exact hp.2.2 (.inl hq)
   rw [hA] at hq;injection hq with hq;have := hp.2.1;omega
  exact hp.2.2 (.inr hq)
 refine ⟨?_,(h.two.mono fun x y k => hm _ _ hC x y k).append (Two.one (hm _ _ hC _ _ hv))⟩;rw [List.length_append,List.length_singleton,List.map_append,List.flatten_append];simpa using hr
end
abbrev vF : Cv → List Value := fun c => c.cells.toList
abbrev vR : (Addr → Value → Prop) → Cv → V → Prop := fun C c v => IsV C v c
theorem vR_mono (C C' : Addr → Value → Prop) (h : ∀ p u,C p u → C' p u) (a : Cv) (b : V) (k : vR C a b) : vR C' a b := IsV.mono h _ _ k
abbrev VR (S : Nat → Prop) (w : World) (lo : Nat) (A : Option Addr) (c : Nat) (cs : List Cv) (docs : List V) : Prop := GR vF 5 27 vR S w lo A c cs docs
abbrev cF : Cc → List Value := fun c => c.cells.toList
abbrev cR : (Addr → Value → Prop) → Cc → Co → Prop := fun C e c => CoR C e c
theorem cR_mono (C C' : Addr → Value → Prop) (h : ∀ p u,C p u → C' p u) (a : Cc) (b : Co) (k : cR C a b) : cR C' a b := k.mono h
abbrev CR (S : Nat → Prop) (w : World) (lo : Nat) (A : Option Addr) (c : Nat) (es : List Cc) (st : List Co) : Prop := GR cF 3 48 cR S w lo A c es st
theorem VR.list {S : Nat → Prop} {w : World} {lo c : Nat} {A : Option Addr} {cs : List Cv} {docs : List V} (h : VR S w lo A c cs docs) (hS : ∀ g,ablk A = some g → ¬ S g) (hl : docs.length ≤ 140737488355328) : IsV (AtX w S) (.mk 7 0 [] docs []) (lcv A docs.length c) := by
 have hlen := h.two.1;have hr := h.row;rw [hlen] at hr;refine list_of_row (own_reads hr hS) ⟨hlen.symm,fun j v d hv hd => ?_⟩ (own_le hr).1 hl;exact IsV.mono (AtX.sub fun q hq => .inr hq) _ _ (h.two.2 j d v hd hv)
theorem VR.inL {S : Nat → Prop} {w : World} {lo c : Nat} {A : Option Addr} {cs : List Cv} {docs : List V} (h : VR S w lo A c cs docs) (hS : ∀ g,ablk A = some g → ¬ S g) (hl : docs.length ≤ 140737488355328) : InL w A c docs := IsV.mono AtX.atW _ _ (h.list hS hl)
theorem CR.stIn {S : Nat → Prop} {w : World} {lo c : Nat} {A : Option Addr} {es : List Cc} {st : List Co} (h : CR S w lo A c es st) : StIn w A c st := by
 have hlen := h.two.1;have hr := h.row;rw [hlen] at hr;refine ⟨(own_le hr).1,es,h.two.mono fun a b k => k.mono AtX.atW,?_⟩;exact (own_reads (S := fun _ => False) hr (fun _ _ h => h)).mono AtX.atW
end
section
open Go.RowKit
def Alien (w : World) (S : Nat → Prop) : Prop := ∀ q,S q → ∃ T cs,Blk w q T cs ∧ T ≠ 27 ∧ T ≠ 64
theorem OwnCo.far {S : Nat → Prop} {w : World} {B : Nat} {e : Cc} {c : Co} (h : OwnCo w B e c) (hT : Alien w S) : (∀ g,ablk e.dA = some g → ¬ S g) ∧ (∀ g,ablk e.xA = some g → ¬ S g) := by
 obtain ⟨cs,h1,h2⟩ := h.docs;refine ⟨fun g hg hs => ?_,fun g hg hs => ?_⟩
 ·obtain ⟨T,ds,hb,t1,t2⟩ := hT g hs;exact ownT_blk h1 hb (fun e => t1 e.symm) hg
 obtain ⟨T,ds,hb,t1,t2⟩ := hT g hs;exact ownT_blk h.ixs hb (fun e => t2 e.symm) hg
theorem OwnCo.in_ {w : World} {B : Nat} {e : Cc} {c : Co} (h : OwnCo w B e c) (hB : B ≤ w.heap.size) (hl : c.docs.length ≤ 140737488355328) : CoIn w e c :=
 (h.r (S := fun _ => False) hB (fun _ h => h.elim) (fun _ _ h => h) (fun _ _ h => h) hl).mono AtX.atW
theorem OwnCo.grow {w w' : World} {B : Nat} {e : Cc} {c : Co} (h : OwnCo w B e c) (hB : B ≤ w.heap.size) (hg : Grow w w') : OwnCo w' B e c := h.keep (Kept.grow (S := fun _ => False) hg) hB (fun _ h => h.elim) (fun _ _ h => h) (fun _ _ h => h)
theorem rows_stIn {S : Nat → Prop} {w w' : World} {B cap' : Nat} {A' : Option Addr} {es' : List Cc} {st' : List Co} (two : Two (OwnCo w B) es' st') (hk : Kept S w w') (hB : B ≤ w.heap.size) (hs : ∀ q,S q → B ≤ q) (hT : Alien w S) (hl : ∀ c ∈ st',c.docs.length ≤ 140737488355328)
 (hrow : w'.ownsRow B 48 3 (.slice A' st'.length cap') st'.length (cellsC es')) : StIn w' A' cap' st' := by
 refine ⟨(own_le hrow).1,es',⟨two.1,fun j e c he hc => ?_⟩,(own_reads (S := fun _ => False) hrow (fun _ _ h => h)).mono AtX.atW⟩;have ho := two.2 j e c he hc;have hf := ho.far hT;exact (ho.keep hk hB hs hf.1 hf.2).in_ (Nat.le_trans hB hk.size) (hl c (List.mem_of_getElem? hc))
theorem set_stIn {S : Nat → Prop} {w w' : World} {B cap p : Nat} {A : Option Addr} {es : List Cc} {st : List Co} {e' : Cc} {c' : Co} (h : Own w B A cap es st) (hk : Kept S w w') (hB : B ≤ w.heap.size) (hs : ∀ q,S q → B ≤ q)
 (ho : ∀ (j : Nat) (e : Cc),j ≠ p → es[j]? = some e → (∀ g,ablk e.dA = some g → ¬ S g) ∧ (∀ g,ablk e.xA = some g → ¬ S g)) (hl : ∀ c ∈ st,c.docs.length ≤ 140737488355328) (hp : CoIn w' e' c')
 (hrow : w'.ownsRow B 48 3 (.slice A st.length cap) st.length (cellsC (es.set p e'))) : StIn w' A cap (st.set p c') := by
 refine ⟨by rw [List.length_set];exact (own_le hrow).1,es.set p e',Two.set' h.two.1 p (fun j e c hj he hc => ?_) hp,?_⟩
 ·have ho2 := h.two.2 j e c he hc;have hf := ho j e hj he;exact (ho2.keep hk hB hs hf.1 hf.2).in_ (Nat.le_trans hB hk.size) (hl c (List.mem_of_getElem? hc))
 rw [List.length_set];exact (own_reads (S := fun _ => False) hrow (fun _ _ h => h)).mono AtX.atW
section
variable {w : World} {B mb cap : Nat} {A : Option Addr} {es : List Cc} {st : List Co} {q : Rq} {ck cl ch cx : Cv}
theorem Mach.alien (h : Mach w B mb A cap es st q ck cl ch cx) {gb : Nat} (hA : A = some ⟨gb,0,none⟩) (hn : 0 < st.length) : Alien w (fun q => q = mb ∨ q = gb) := by
 rintro q (rfl | rfl)
 ·exact ⟨_,_,h.blk,by decide,by decide⟩
 subst hA;obtain ⟨g,cur,e,hb,hg,-⟩ := own_open h.own.row hn
 cases e
 exact ⟨_,_,hg,by decide,by decide⟩
theorem Mach.alienM (h : Mach w B mb A cap es st q ck cl ch cx) : Alien w (fun q => q = mb) := by
 rintro q rfl;exact ⟨_,_,h.blk,by decide,by decide⟩
theorem Mach.neA (h : Mach w B mb A cap es st q ck cl ch cx) : ablk A ≠ some mb := ownT_blk h.own.row h.blk (by decide)
theorem Mach.finish (h : Mach w B mb A cap es st q ck cl ch cx) {w' : World} (hk : Kept (fun q => q = mb) w w') (hl : ∀ c ∈ st,c.docs.length ≤ 140737488355328) : StIn w' A cap st :=
 rows_stIn h.own.two hk h.le (fun q hq => hq ▸ h.lo) h.alienM hl (own_kept h.own.row hk (fun g hg e => h.neA (e ▸ hg)))
end
theorem StOk.dl {N : Nat} {st : List Co} (h : StOk N st) (hN : N ≤ 1000000) : ∀ c ∈ st,c.docs.length ≤ 140737488355328 := fun c hc => by have := (h.co c hc).nd;omega
theorem count_any (N B mb cap : Nat) (A : Option Addr) (es : List Cc) (st : List Co) (q : Rq) (ck cl ch cx : Cv) (w : World) (h : Mach w B mb A cap es st q ck cl ch cx) (hok : StOk N st) (hN : N ≤ 1000000) :
 Calls Tryz.prog 87 #[.pointer (some ⟨mb,0,none⟩)] w (MethC w B mb (countP st q)) := by
 have hs : st.length ≤ 140737488355328 := Mach.short hok;have HM := hide h;have HOK := hide hok
 cases hf : plF (cnm st) q.coll with
 | false =>
  have HC := hide (coll_m_no h hs hf);have HF := hide hf;clear h hok hf;go_enter Tryz.func87,Tryz.ntmps87;go_wp2_with fail;refine HC.out.mono ?_;rintro e w1 ⟨rfl,hg⟩;go_wp2_with fail;exact ⟨rfl,MethC.err (hg.below.mono HM.out.le) (by unfold countP;rw [if_pos HF.out])⟩
 | true =>
  obtain ⟨gb,hA,hgb,hgl,hne⟩ := h.gb hf;obtain ⟨e,he,hco,hcell⟩ := h.co hf hA;have HC := hide (coll_m h hs hf hA);have HDN := hide hco.dn;have HDL := hide (hok.dl hN _ (coAt_mem hf).2.1);have hd := hcell 1 _ rfl;have HF := hide hf;have HCELL := hide hcell;have HD := hide hd;have HGL := hide hgl;obtain ⟨P,hP⟩ : ∃ P,plN (cnm st) q.coll = P := ⟨_,rfl⟩;rw [hP] at HC HD;clear h hok hf he hco hcell hd hP hgl;go_enter Tryz.func87,Tryz.ntmps87;go_wp2_with fail;refine HC.out.mono ?_;rintro e w1 ⟨rfl,hg⟩;have hd := (hg.below.cell (p := ⟨gb,P * 3 + 1,none⟩) HGL.out).trans HD.out;have hm := (HM.out.grow hg).blk.cell;have hf := (HM.out.grow hg).blk.frozen;have HG := hide hg;clear hg;go_wp2_with fail;go_end0;have HB := ((HM.out.grow HG.out).blk.set_ 28 (.int .i64 (e.dn : Int)))
  refine MethC.ok (docs := []) (Below.setCell (HG.out.below.mono HM.out.le) (p := ⟨mb,28,none⟩) HM.out.lo _) (by unfold countP;rw [if_neg (by rw [HF.out];decide)]) HB.lt (A := A) (cap := cap) (dA := none) (dc := 0) (HB.cell 0) ?_ ((HB.cell 28).trans (by rw [HDN.out];rfl)) (HB.cell 29) (InL.nil _);exact (HM.out.grow HG.out).finish (Kept.set (S := fun q => q = mb) (Kept.refl _ _) (p := ⟨mb,28,none⟩) rfl _) (HOK.out.dl hN)
end
section
open Go.RowKit
theorem panic_put {P : Program} {F : Func} {R : Ending → World → Prop} {c : List PanicEntry} {a : Act} {d : Option Tmp} {v : Value} {w : World} (h : bodyPost P F R (.panic c) (a.put d v) w) : bodyPost P F R (.panic c) a w := by cases d <;> exact h
abbrev Ix.zero : Ix := ⟨⟨#[]⟩,⟨#[]⟩,false⟩
theorem ixs_rowR {w : World} {B : Nat} {xA : Option Addr} {xc : Nat} {ixs : List Ix} (h : w.ownsRow B 64 3 (.slice xA ixs.length xc) ixs.length (cellsX ixs)) : RowR w xA 3 ixs.length (fun j => (ixs.getD j Ix.zero).cells) := fun j hj => by
 have hr := own_reads (S := fun _ => False) h (fun _ _ h => h);obtain ⟨bk,o,e,hc⟩ := hr.2 (by omega);have hc0 := hc 0 _ (List.getElem?_eq_getElem (by rw [cellsX_len];omega));refine ⟨bk,o,e,hc0.2.1,fun i v hi => ?_⟩;have h3 : i < 3 := by
  rcases Nat.lt_or_ge i 3 with h3 | h3
  ·exact h3
  rw [Array.getElem?_eq_none (by simpa using h3)] at hi;cases hi
 have hget : ixs.getD j Ix.zero = ixs[j] := by rw [List.getD_eq_getElem?_getD,List.getElem?_eq_getElem hj];rfl
 change (ixs.getD j Ix.zero).cells[i]? = some v at hi;rw [hget] at hi;have := hc (j * 3 + i) v (by rw [cellsX,fz_get _ 3 (fun _ => rfl) ixs j i h3 ixs[j] (List.getElem?_eq_getElem hj)];rw [Array.getElem?_toList];exact hi);rw [← Nat.add_assoc] at this;exact this.1
theorem ixs_nms (ixs : List Ix) : (fun j => (ixs.getD j Ix.zero).name) = fun j => (ixs.map Ix.name).getD j ⟨#[]⟩ := by
 funext j;rw [List.getD_eq_getElem?_getD,List.getD_eq_getElem?_getD,List.getElem?_map]
 cases ixs[j]? <;> rfl
section
variable {w : World} {B mb cap gb P : Nat} {A : Option Addr} {es : List Cc} {st : List Co} {q : Rq} {ck cl ch cx : Cv} {e : Cc} {c : Co}
theorem index_m (h : Mach w B mb A cap es st q ck cl ch cx) (hco : OwnCo w B e c) (hcell : ∀ i v,e.cells[i]? = some v → w.cell? ⟨gb,P * 3 + i,none⟩ = some v) (hgl : gb < w.heap.size) (hx : c.ixs.length ≤ 140737488355328) :
 Calls Tryz.prog 125 #[.pointer (some ⟨mb,0,none⟩),.pointer (some ⟨gb,P * 3,none⟩)] w fun r w' => r = .returned (.tuple #[.int .i64 (plN (xnm c) q.index : Nat),.bool (plF (xnm c) q.index)]) ∧ Grow w w' := by
 have h2 := hcell 2 (.slice e.xA e.xn e.xc) rfl;have hr := ixs_rowR hco.ixs;rw [hco.xn] at h2;have := mindex_any c.ixs.length e.xc mb gb (P * 3) e.xA (fun j => c.ixs.getD j Ix.zero) q.index w hx hr h2 (by rw [h.blk.cell];rfl) h.lt hgl;rw [ixs_nms] at this;unfold plN plF;rw [List.length_map];exact this
theorem OwnCo.inL (hco : OwnCo w B e c) (hB : B ≤ w.heap.size) (hl : c.docs.length ≤ 140737488355328) : InL w e.dA e.dc c.docs := (hco.in_ hB hl).docs
theorem found_m (h : Mach w B mb A cap es st q ck cl ch cx) (hco : OwnCo w B e c) (hcell : ∀ i v,e.cells[i]? = some v → w.cell? ⟨gb,P * 3 + i,none⟩ = some v) (hgl : gb < w.heap.size) (hl : c.docs.length ≤ 140737488355328) (hcount : ∀ d ∈ c.docs,d.count ≤ 20000) (hk : q.key.count ≤ 20000) (hT : Tabs w) :
 Calls Tryz.prog 123 #[.pointer (some ⟨mb,0,none⟩),.pointer (some ⟨gb,P * 3,none⟩)] w (FoundC w c.docs q.key) := by
 have h1 := hcell 1 (.slice e.dA e.dn e.dc) rfl;rw [hco.dn] at h1;refine found_any c.docs q.key ck mb gb (P * 3) e.dc e.dA w hk hcount hl hT h1 hgl h.lt (hco.inL h.le hl) (h.key.in_ h.le) fun i v hi => ?_
 have h5 : i < 5 := by
  rcases Nat.lt_or_ge i 5 with h5 | h5
  ·exact h5
  rw [Array.getElem?_eq_none (by simpa using h5)] at hi;cases hi
 rw [h.blk.cell];rcases i with _ | _ | _ | _ | _ | i
 ·exact hi
 ·exact hi
 ·exact hi
 ·exact hi
 ·exact hi
 omega
end
theorem OwnCo.elem {w : World} {B : Nat} {e : Cc} {c : Co} (hco : OwnCo w B e c) (D : Nat) (hD : D < c.docs.length) : ∃ db y,e.dA = some ⟨db,0,none⟩ ∧ db < w.heap.size ∧ B ≤ db ∧ InU w B c.docs[D] y ∧
 w.cell? ⟨db,D * 5,none⟩ = some (.int .i64 y.k) ∧ w.cell? ⟨db,D * 5 + 1,none⟩ = some (.int .u64 y.n) ∧ w.cell? ⟨db,D * 5 + 2,none⟩ = some (.slice y.aB y.nB y.cB) ∧ w.cell? ⟨db,D * 5 + 3,none⟩ = some (.slice y.aL y.nL y.cL) ∧ w.cell? ⟨db,D * 5 + 4,none⟩ = some (.slice y.aF y.nF y.cF) := by
 obtain ⟨cs,hrow,htwo⟩ := hco.docs;obtain ⟨g,cur,e1,hb,hg,-,-,-,ht,-⟩ := own_open hrow (by omega);have hDc : D < cs.length := by rw [← htwo.1];exact hD
 have hc : ∀ i,i < 5 → ∀ v,cs[D].cells.toList[i]? = some v → w.cell? ⟨g,D * 5 + i,none⟩ = some v := fun i hi v hv =>
  own_cell hg ht _ _ (by rw [cellsV,fz_get _ 5 (fun _ => rfl) cs D i hi cs[D] (List.getElem?_eq_getElem hDc)];exact hv)
 exact ⟨g,cs[D],e1,(Array.getElem?_eq_some_iff.1 hg).1,hb,htwo.at_ hD hDc,hc 0 (by omega) _ rfl,hc 1 (by omega) _ rfl,hc 2 (by omega) _ rfl,hc 3 (by omega) _ rfl,hc 4 (by omega) _ rfl⟩
theorem one_list {S : Nat → Prop} {w w' : World} {B : Nat} {v : V} {c : Cv} (hv : InU w B v c) (hB : B ≤ w.heap.size) (hk : Kept S (w.alloc (.cells c.cells 27)) w') (hs : ∀ q,S q → B ≤ q) (hn : ¬ S w.heap.size) : InL w' (some ⟨w.heap.size,0,none⟩) 1 [v] := by
 have hg := (Grow.refl w).alloc (.cells c.cells 27);have hb := Blk.new w 27 c.cells;have hv' : IsV (AtX (w.alloc (.cells c.cells 27)) S) v c := (hv.below hg.below hB (Nat.le_refl _)).atX (Nat.le_trans hB hg.size) hs;have hl := list_of_row (C := AtX (w.alloc (.cells c.cells 27)) S) (A := some ⟨w.heap.size,0,none⟩) (docs := [v]) (cs := [c]) (cap := 1) ⟨by rw [cellsV_len];rfl,fun _ => ⟨w.heap.size,0,rfl,fun j u hu => by
  refine ⟨?_,hb.lt,hn⟩;rw [Nat.zero_add,hb.cell j,← hu,← Array.getElem?_toList];congr 1⟩⟩ (Two.one hv') (Nat.le_refl _) (by simp)
 exact (hl.mono (AtX.kept hk fun _ h => h)).mono AtX.atW
def Sx (mb gb : Nat) (R : Option Addr) (q : Nat) : Prop := q = mb ∨ q = gb ∨ ablk R = some q
end
section
open Go.RowKit
def RowOf (e : Cc) (R : Option Addr) : Prop := R = none ∨ R = e.dA ∨ R = e.xA
section
variable {w : World} {B mb cap gb P : Nat} {A : Option Addr} {es : List Cc} {st : List Co} {q : Rq} {ck cl ch cx : Cv} {e : Cc} {c : Co} {R : Option Addr}
theorem RowOf.le (hR : RowOf e R) (hco : OwnCo w B e c) : ∀ g,ablk R = some g → B ≤ g ∧ g < w.heap.size := by
 intro g hg;obtain ⟨cs,h1,h2⟩ := hco.docs;rcases hR with rfl | rfl | rfl
 ·cases hg
 ·exact World.ownsRow.lt h1 g (by rw [ownBlock_slice];exact hg)
 exact World.ownsRow.lt hco.ixs g (by rw [ownBlock_slice];exact hg)
theorem RowOf.alien (hR : RowOf e R) (hco : OwnCo w B e c) {k : Nat} {T : TypeId} {cs : Array Value} (hb : Blk w k T cs) (h1 : T ≠ 27) (h2 : T ≠ 64) : ablk R ≠ some k := by
 obtain ⟨ds,r1,r2⟩ := hco.docs;rcases hR with rfl | rfl | rfl
 ·intro h;cases h
 ·exact ownT_blk r1 hb (fun e => h1 e.symm)
 exact ownT_blk hco.ixs hb (fun e => h2 e.symm)
theorem Mach.gblk (h : Mach w B mb A cap es st q ck cl ch cx) (hA : A = some ⟨gb,0,none⟩) (hn : 0 < st.length) : ∃ cur,Blk w gb 48 cur ∧ B ≤ gb := by
 obtain ⟨g,cur,e,hb,hg,-⟩ := own_open h.own.row hn;rw [hA] at e
 cases e
 exact ⟨cur,hg,hb⟩
theorem place_close (h : Mach w B mb A cap es st q ck cl ch cx) (hA : A = some ⟨gb,0,none⟩) (he : es[P]? = some e) (hco : OwnCo w B e c) (hP : P < st.length) (hR : RowOf e R) {w5 : World} {e' : Cc} {c' : Co} (hk : Kept (Sx mb gb R) w w5) (hl : ∀ c ∈ st,c.docs.length ≤ 140737488355328) (hp : CoIn w5 e' c')
 (hrow : w5.ownsRow B 48 3 (.slice A st.length cap) st.length (cellsC (es.set P e'))) : StIn w5 A cap (st.set P c') := by
 obtain ⟨cur,hgb,hgB⟩ := h.gblk hA (by omega);refine set_stIn h.own hk h.le ?_ (fun j e2 hj he2 => ?_) hl hp hrow
 ·rintro k (rfl | rfl | hk)
  ·exact h.lo
  ·exact hgB
  exact (hR.le hco k hk).1
 have hj2 : j < st.length := by rw [← h.el];exact (List.getElem?_eq_some_iff.1 he2).1
 have ho2 := h.own.two.2 j e2 st[j] he2 (List.getElem?_eq_getElem hj2);obtain ⟨ds,r1,r2⟩ := ho2.docs;obtain ⟨ds',s1,s2⟩ := hco.docs;refine ⟨fun g hg hs => ?_,fun g hg hs => ?_⟩
 ·rcases hs with rfl | rfl | hs
  ·exact ownT_blk r1 h.blk (by decide) hg
  ·exact ownT_blk r1 hgb (by decide) hg
  rcases hR with rfl | rfl | rfl
  ·cases hs
  ·exact h.own.distD j P e2 e he2 he hj g hg hs
  exact ownT r1 hco.ixs (by decide) g hg hs
 rcases hs with rfl | rfl | hs
 ·exact ownT_blk ho2.ixs h.blk (by decide) hg
 ·exact ownT_blk ho2.ixs hgb (by decide) hg
 rcases hR with rfl | rfl | rfl
 ·cases hs
 ·exact ownT ho2.ixs s1 (by decide) g hg hs
 exact h.own.distX j P e2 e he2 he hj g hg hs
theorem row_close (h : Mach w B mb A cap es st q ck cl ch cx) (hA : A = some ⟨gb,0,none⟩) (he : es[P]? = some e) (hco : OwnCo w B e c) (hP : P < st.length) (hR : RowOf e R) {w4 : World} (hk : Kept (fun k => k = mb ∨ ablk R = some k) w w4) {k : Nat} {v : Value} {e' : Cc} (hk3 : k < 3) (hke : e'.cells.toList = e.cells.toList.set k v) :
 (w4.setCell ⟨gb,P * 3 + k,none⟩ v).ownsRow B 48 3 (.slice A st.length cap) st.length (cellsC (es.set P e')) := by
 obtain ⟨cur,hgb,hgB⟩ := h.gblk hA (by omega);have hel := h.el;obtain ⟨hPe,hee⟩ := List.getElem?_eq_some_iff.1 he;have h4 := own_kept h.own.row hk (fun g hg hs => by
  rw [hA] at hg
  cases hg
  rcases hs with hs | hs
  ·exact h.neA (by rw [hA,← hs];rfl)
  exact hR.alien hco hgb (by decide) (by decide) hs)
 subst hA;exact own_setC h4 hPe hel hk3 (by rw [hee];exact hke)
theorem kept_place {w4 w5 : World} {k : Nat} {v : Value} (hk : Kept (fun k => k = mb ∨ ablk R = some k) w w4) (h5 : w5 = w4.setCell ⟨gb,k,none⟩ v) : Kept (Sx mb gb R) w w5 := by
 subst h5;exact (hk.mono (fun q hq => hq.elim (fun h => .inl h) (fun h => .inr (.inr h)))).set (p := ⟨gb,k,none⟩) (.inr (.inl rfl)) v
end
theorem OwnCo.delD {w w5 : World} {B mb gb D : Nat} {e : Cc} {c : Co} {cs : List Cv} (hco : OwnCo w B e c) (htwo : Two (fun v c => InU w B v c) c.docs cs) (hB : B ≤ w.heap.size) (hk : Kept (Sx mb gb e.dA) w w5) (hmb : B ≤ mb) (hgb : B ≤ gb) (hD : D < c.docs.length) (hne : ablk e.xA ≠ some mb) (hne' : ablk e.xA ≠ some gb)
 (hrow : w5.ownsRow B 27 5 (.slice e.dA (c.docs.length - 1) e.dc) (c.docs.length - 1) ((cellsV cs).take (D * 5) ++ (cellsV cs).drop ((D + 1) * 5))) : OwnCo w5 B ⟨e.nm,e.dA,c.docs.length - 1,e.dc,e.xA,e.xn,e.xc⟩ ⟨c.name,delAt c.docs D,c.ixs⟩ := by
 obtain ⟨ds,r1,-⟩ := hco.docs;have hS : ∀ q,Sx mb gb e.dA q → B ≤ q := fun q hq => by
  rcases hq with rfl | rfl | hq
  ·exact hmb
  ·exact hgb
  exact (World.ownsRow.lt r1 q (by rw [ownBlock_slice];exact hq)).1
 have hl : (delAt c.docs D).length = c.docs.length - 1 := del_len hD;refine ⟨hco.nm,hl.symm,hco.xn,⟨delAt cs D,?_,(htwo.del D).mono fun v c hv => hv.keep hk hB hS⟩,own_kept hco.ixs hk (fun g hg hs => ?_)⟩
 ·dsimp only;rw [hl,show cellsV (delAt cs D) = (cellsV cs).take (D * 5) ++ (cellsV cs).drop ((D + 1) * 5) from (fz_del _ 5 (fun _ => rfl) cs D).symm];exact hrow
 rcases hs with rfl | rfl | hs
 ·exact hne hg
 ·exact hne' hg
 exact ownT hco.ixs r1 (by decide) g hg hs
theorem OwnCo.setX {w w5 : World} {B mb gb c5 : Nat} {e : Cc} {c : Co} {A5 : Option Addr} {ixs : List Ix} (hco : OwnCo w B e c) (hB : B ≤ w.heap.size) (hk : Kept (Sx mb gb e.xA) w w5) (hmb : B ≤ mb) (hgb : B ≤ gb) (hne : ablk e.dA ≠ some mb) (hne' : ablk e.dA ≠ some gb)
 (hrow : w5.ownsRow B 64 3 (.slice A5 ixs.length c5) ixs.length (cellsX ixs)) : OwnCo w5 B ⟨e.nm,e.dA,e.dn,e.dc,A5,ixs.length,c5⟩ ⟨c.name,c.docs,ixs⟩ := by
 obtain ⟨ds,r1,r2⟩ := hco.docs;have hS : ∀ q,Sx mb gb e.xA q → B ≤ q := fun q hq => by
  rcases hq with rfl | rfl | hq
  ·exact hmb
  ·exact hgb
  exact (World.ownsRow.lt hco.ixs q (by rw [ownBlock_slice];exact hq)).1
 refine ⟨hco.nm,hco.dn,rfl,⟨ds,own_kept r1 hk (fun g hg hs => ?_),r2.mono fun v c hv => hv.keep hk hB hS⟩,hrow⟩;rcases hs with rfl | rfl | hs
 ·exact hne hg
 ·exact hne' hg
 exact ownT r1 hco.ixs (by decide) g hg hs
theorem own_put {w : World} {base g n c z D : Nat} {T : TypeId} {xs vs : List Value} (h : w.ownsRow base T z (.slice (some ⟨g,0,none⟩) n c) n xs) (hD : D < n) (hz : vs.length = z) :
 (w.setCells g (D * z) vs).ownsRow base T z (.slice (some ⟨g,0,none⟩) n c) n (xs.take (D * z) ++ vs ++ xs.drop ((D + 1) * z)) := by
 obtain ⟨g',cur,e,hb,hg,h1,h2,h3,ht,hl⟩ := own_open h (by omega)
 cases e
 have hDz : D * z + z ≤ n * z := by rw [← Nat.succ_mul];exact Nat.mul_le_mul_right z hD
 have hnz : n * z ≤ cur.size := by rw [h3];exact Nat.mul_le_mul_right z h1
 obtain ⟨cur',hg',hs',hl'⟩ := own_set hg vs (o := D * z) (by omega);have e1 : (D + 1) * z = D * z + z := by rw [Nat.add_mul,Nat.one_mul]
 refine own_mk hb hg' h1 h2 (by rw [hs',h3]) ?_ ?_
 ·rw [hl',List.take_append,List.take_of_length_le (by simp [hz];omega),← ht,e1,List.drop_take,List.take_take,Nat.min_eq_left (by omega)];simp only [List.length_append,List.length_take,Array.length_toList,Nat.min_eq_left (show D * z ≤ cur.size by omega),hz]
 rw [List.length_append,List.length_append,List.length_take,List.length_drop,hl,hz,e1];omega
theorem at_storeV {P : Program} {ops : Array Oper} {Q : Exit → Act → World → Prop} {rest : List Oper} {a : Act} {w : World} (ty : TypeId) {x y : Operand} {t : TypeId} {p : String} {af : Array Edge} (h : wpList P ops Q (⟨none,.store ty x y,t,p,af,none⟩ :: rest) a w) : wpList P ops Q (⟨none,.store ty x y,t,p,af,none⟩ :: rest) a w := h
end
end Go.Proofs.YtndjopkdbdcmdaaGreatDoor
