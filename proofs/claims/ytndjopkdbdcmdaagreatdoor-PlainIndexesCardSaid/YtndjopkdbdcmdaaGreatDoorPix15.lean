/- Part 15 of the proof of pindexes_card. -/
import Derived.Test.YtndjopkdbdcmdaaGreatDoorPix3
import Derived.Test.YtndjopkdbdcmdaaGreatDoorPix14
set_option linter.unusedVariables false
set_option linter.unusedSimpArgs false
set_option maxRecDepth 100000
set_option maxHeartbeats 12800000
namespace Go.Proofs.YtndjopkdbdcmdaaGreatDoor
section
open Go.Shelf Go.RowKit Go.Lib Go.Sort
theorem Grow.trans' {a b c : World} (h : Grow a b) (k : Below a.heap.size b c) : Grow a c := Below.trans h k
def AtY (Y : Nat → Prop) (w : World) (dlo : Nat) (p : Addr) (u : Value) : Prop := w.cell? p = some u ∧ p.block < dlo ∧ ¬ Y p.block
abbrev InY (Y : Nat → Prop) (w : World) (dlo : Nat) (v : V) (c : Cv) : Prop := IsV (AtY Y w dlo) v c
theorem InY.keep {Y K : Nat → Prop} {w w' : World} {dlo : Nat} {v : V} {c : Cv} (h : InY Y w dlo v c) (hk : Kept K w w') (hd : dlo ≤ w.heap.size) (hs : ∀ q,K q → dlo ≤ q) : InY Y w' dlo v c :=
 IsV.mono (fun p u hp => ⟨(World.cell?_of_block (hk.block p.block (Nat.lt_of_lt_of_le hp.2.1 hd) (fun hq => by have := hs _ hq;have := hp.2.1;omega))).trans hp.1,hp.2.1,hp.2.2⟩) _ _ h
theorem InY.below {Y : Nat → Prop} {w w' : World} {dlo : Nat} {v : V} {c : Cv} (h : InY Y w dlo v c) (hg : Grow w w') (hd : dlo ≤ w.heap.size) : InY Y w' dlo v c := InY.keep h (Kept.grow (S := fun _ => False) hg) hd (fun _ h => h.elim)
theorem InY.in_ {Y : Nat → Prop} {w : World} {dlo : Nat} {v : V} {c : Cv} (h : InY Y w dlo v c) (hd : dlo ≤ w.heap.size) : In w v c := IsV.mono (fun p u hp => ⟨hp.1,Nat.zero_le _,Nat.lt_of_lt_of_le hp.2.1 hd⟩) _ _ h
theorem InY.elemL {Y : Nat → Prop} {w : World} {hi : Nat} {k : Int} {n : Nat} {b : List UInt8} {l : List V} {f : List (ByteArray × V)} {c : Cv} (h : InY Y w hi (.mk k n b l f) c) (i : Nat) (hil : i < l.length) :
 ∃ bk o x,c.aL = some ⟨bk,o,none⟩ ∧ bk < hi ∧ w.cell? ⟨bk,o + i * 5,none⟩ = some (.int .i64 x.k) ∧ w.cell? ⟨bk,o + i * 5 + 1,none⟩ = some (.int .u64 x.n) ∧
  w.cell? ⟨bk,o + i * 5 + 2,none⟩ = some (.slice x.aB x.nB x.cB) ∧ w.cell? ⟨bk,o + i * 5 + 3,none⟩ = some (.slice x.aL x.nL x.cL) ∧
  w.cell? ⟨bk,o + i * 5 + 4,none⟩ = some (.slice x.aF x.nF x.cF) ∧ InY Y w hi l[i] x := by
 unfold InY at h;rw [IsV] at h;obtain ⟨bk,o,x,e,⟨h0,h1,h2,h3,h4⟩,hx⟩ := h.2.2.2.2.2.2.2.2.2.2.2.2.2.2.2.1 i hil;exact ⟨bk,o,x,e,h0.2.1,h0.1,h1.1,h2.1,h3.1,h4.1,hx⟩
structure EnV (Y : Nat → Prop) (w : World) (lo dlo : Nat) (e : Ent) (x : EN) : Prop where
 b : e.b = x.1
 sz : e.sz = x.2.1
 doc : InY Y w dlo x.2.2 e.d
 row : ∃ base,lo ≤ base ∧ Row w base (.slice e.A e.b.length e.c) e.b.length e.b
def cellsE (es : List Ent) : List Value := (es.map fun e => e.cells.toList).flatten
theorem cellsE_len (es : List Ent) : (cellsE es).length = es.length * 7 := fz_len _ 7 (fun _ => rfl) es
theorem EnV.keep {S : Nat → Prop} {w w' : World} {Y : Nat → Prop} {lo dlo : Nat} {e : Ent} {x : EN} (h : EnV Y w lo dlo e x) (hk : Kept S w w') (hlo : lo ≤ w.heap.size) (hdl : dlo ≤ lo) (hs : ∀ q,S q → lo ≤ q) (hd : ∀ g,ablk e.A = some g → ¬ S g) : EnV Y w' lo dlo e x := by
 obtain ⟨base,hb,hr⟩ := h.row;exact ⟨h.b,h.sz,InY.keep h.doc hk (Nat.le_trans hdl hlo) (fun q hq => Nat.le_trans hdl (hs q hq)),base,hb,own_kept hr hk hd⟩
theorem EnV.grow {w w' : World} {Y : Nat → Prop} {lo dlo : Nat} {e : Ent} {x : EN} (h : EnV Y w lo dlo e x) (hg : Grow w w') (hlo : lo ≤ w.heap.size) (hdl : dlo ≤ lo) : EnV Y w' lo dlo e x :=
 h.keep (Kept.grow (S := fun _ => False) hg) hlo hdl (fun _ h => h.elim) (fun _ _ h => h)
structure EnRow (Y : Nat → Prop) (w : World) (lo dlo : Nat) (A : Option Addr) (c : Nat) (es : List Ent) (l : List EN) : Prop where
 row : w.ownsRow lo 115 7 (.slice A es.length c) es.length (cellsE es)
 two : Two (EnV Y w lo dlo) es l
 dl : dlo ≤ lo
theorem EnRow.ne {w : World} {Y : Nat → Prop} {lo dlo c : Nat} {A : Option Addr} {es : List Ent} {l : List EN} (h : EnRow Y w lo dlo A c es l) {e : Ent} {x : EN} (he : EnV Y w lo dlo e x) : ∀ g,ablk e.A = some g → ¬ Value.ownBlock (.slice A es.length c) = some g := by
 intro g hg hA;obtain ⟨base,hb,hr⟩ := he.row;rw [ownBlock_slice] at hA;exact ownT h.row hr (by decide) g hA hg
theorem EnRow.grow {w w' : World} {Y : Nat → Prop} {lo dlo c : Nat} {A : Option Addr} {es : List Ent} {l : List EN} (h : EnRow Y w lo dlo A c es l) (hg : Grow w w') (hlo : lo ≤ w.heap.size) : EnRow Y w' lo dlo A c es l :=
 ⟨ownG h.row hg,h.two.mono fun e x he => he.grow hg hlo h.dl,h.dl⟩
theorem EnRow.add {w w' : World} {Y : Nat → Prop} {lo dlo c c' : Nat} {A A' : Option Addr} {es : List Ent} {l : List EN} (h : EnRow Y w lo dlo A c es l) (hlo : lo ≤ w.heap.size) {e : Ent} {x : EN} (he : EnV Y w lo dlo e x)
 (hr : w'.ownsRow lo 115 7 (.slice A' (es.length + 1) c') (es.length + 1) (cellsE es ++ e.cells.toList)) (hg : w.grownBy w' (Value.ownBlock (.slice A es.length c))) : EnRow Y w' lo dlo A' c' (es ++ [e]) (l ++ [x]) := by
 have hk := Kept.of_grown hg;have hS : ∀ q,Value.ownBlock (.slice A es.length c) = some q → lo ≤ q := fun q hq => (World.ownsRow.lt h.row q hq).1
 refine ⟨?_,(Two.append (h.two.mono fun e x he => he.keep hk hlo h.dl hS (h.ne he)) (Two.one (he.keep hk hlo h.dl hS (h.ne he)))),h.dl⟩;rw [List.length_append,List.length_singleton,cellsE,List.map_append,List.flatten_append,List.map_cons,List.map_nil,List.flatten_cons,List.flatten_nil,List.append_nil];exact hr
theorem EnRow.nil (Y : Nat → Prop) (w : World) (lo dlo : Nat) (h : dlo ≤ lo) : EnRow Y w lo dlo none 0 [] [] := ⟨World.ownsRow_nil _ _ _ _,Two.nil,h⟩
def EnsC (Y : Nat → Prop) (w : World) (dlo : Nat) (path : ByteArray) (docs : List V) (e : Ending) (w' : World) : Prop :=
 Grow w w' ∧ ((entsE path docs ≠ 0 ∧ e = .returned (.tuple #[.slice none 0 0,.int .i64 (entsE path docs)])) ∨
  (entsE path docs = 0 ∧ ∃ A c es,e = .returned (.tuple #[.slice A (entP path docs).length c,.int .i64 0]) ∧ EnRow Y w' w.heap.size dlo A c es (entP path docs)))
theorem underE : Tryz.prog.underlying 111 = some (.slice 115) := by kernel_rfl
theorem infoE : (Tryz.prog.info? 115).map (fun i => (i.zero,i.size,i.bytes)) = some (some (.agg #[.slice none 0 0,.int .i64 0,.int .i64 0,.int .u64 0,.slice none 0 0,.slice none 0 0,.slice none 0 0]),7,120) := by kernel_rfl
theorem Src.ent {w : World} (e : Ent) (t : TypeId) {g : Nat} (hg : g = w.heap.size) : Src Tryz.prog 7 111 (.slice (some ⟨g,0,none⟩) 1 1) 1 e.cells.toList (w.alloc (.cells e.cells t)) := by
 subst hg;exact Src.ofSlice _ underE ⟨w.heap.size,0,none⟩ 1 1 _ rfl (fun j u hu => by
  rw [add_lit,Nat.zero_add,(Blk.new w t e.cells).cell j,← hu,Array.getElem?_toList]) (fun u hu => by
  simp only [List.mem_cons,List.not_mem_nil,or_false] at hu;rcases hu with rfl | rfl | rfl | rfl | rfl | rfl | rfl <;> rfl)
theorem sortW_at {α : Type} [Inhabited α] (enc : α → List Value) (k : Nat) (w : World) (g n : Nat) (d : Array α) (os : Array Obj) {cur : Array Value} {T : TypeId} {fr : Nat × Nat} (hg : w.heap[g]? = some (.cells cur T fr)) :
 (sortWorldK enc k w g 0 n d os).heap[g]? = some (.cells (putCells id 0 (flatK enc k d) cur) T fr) := by
 have hl := (Array.getElem?_eq_some_iff.1 hg).1;unfold sortWorldK grow putRowK putRow mapBlock Sort.ahead;dsimp only;rw [Array.getElem?_append_left (by rw [Array.size_modify];exact hl),Array.getElem?_modify,if_pos rfl,hg];rfl
theorem sortW_far {α : Type} [Inhabited α] (enc : α → List Value) (k : Nat) (w : World) (g n : Nat) (d : Array α) (os : Array Obj) {q : Nat} (hq : q < w.heap.size) (hne : q ≠ g) :
 (sortWorldK enc k w g 0 n d os).heap[q]? = w.heap[q]? := by
 unfold sortWorldK grow putRowK putRow mapBlock Sort.ahead;dsimp only;rw [Array.getElem?_append_left (by rw [Array.size_modify];exact hq),Array.getElem?_modify,if_neg (fun e => hne e.symm)]
theorem sortW_kept {α : Type} [Inhabited α] (enc : α → List Value) (k : Nat) (w : World) (g n : Nat) (d : Array α) (os : Array Obj) : Kept (fun q => q = g) w (sortWorldK enc k w g 0 n d os) :=
 ⟨rfl,rfl,rfl,size_sortWorldK_c _ _ _ _ _ _ _ _,fun q hq hne => sortW_far enc k w g n d os hq hne⟩
theorem two_perm {α β : Type} {R : α → β → Prop} {l m : List α} (hp : l.Perm m) : ∀ {k : List β},Two R m k → ∃ k',k'.Perm k ∧ Two R l k' := by
 induction hp with
 | nil => intro k h;exact ⟨k,List.Perm.refl _,h⟩
 | cons x hp ih =>
  intro k h
  cases k with
  | nil => have := h.1;simp at this
  | cons y k =>
   have hxy : R x y := h.2 0 x y rfl rfl;have ht : Two R _ k := ⟨by have := h.1;simpa using this,fun j a b ha hb => h.2 (j + 1) a b (by simpa using ha) (by simpa using hb)⟩;obtain ⟨k',h1,h2⟩ := ih ht;exact ⟨y :: k',h1.cons y,Two.cons hxy h2⟩
 | swap x y l =>
  intro k h
  match k,h with
  | [],h => have := h.1;simp at this
  | [a],h => have := h.1;simp at this
  | a :: b :: k,h =>
   have h0 : R x a := h.2 0 x a rfl rfl;have h1 : R y b := h.2 1 y b rfl rfl;have ht : Two R l k := ⟨by have := h.1;simpa using this,fun j c d hc hd => h.2 (j + 2) c d (by simpa using hc) (by simpa using hd)⟩;exact ⟨b :: a :: k,List.Perm.swap a b k,Two.cons h1 (Two.cons h0 ht)⟩
 | trans _ _ ih1 ih2 =>
  intro k h;obtain ⟨k1,p1,t1⟩ := ih2 h;obtain ⟨k2,p2,t2⟩ := ih1 t1;exact ⟨k2,p2.trans p1,t2⟩
theorem sort_ents (Y : Nat → Prop) (lo dlo c : Nat) (A : Option Addr) (es : List Ent) (l : List EN) (w : World) (h : EnRow Y w lo dlo A c es l) (hlo : lo ≤ w.heap.size) (hn : es.length < 1152921504606846976) :
 Calls Tryz.prog 107 #[.slice A es.length c,.func (.func 108) #[] #[]] w fun e w' => e = .returned (.tuple #[]) ∧ Below lo w w' ∧ ∃ es' l',EnRow Y w' lo dlo A c es' l' ∧ l'.Perm l ∧ OrdE l' := by
 rcases Nat.eq_zero_or_pos es.length with h0 | h0
 ·rw [h0];refine (sort_none A c _ w).mono ?_;rintro e w' ⟨rfl,rfl⟩;have hes : es = [] := List.eq_nil_of_length_eq_zero h0;subst hes;have hl : l = [] := List.eq_nil_of_length_eq_zero h.two.1.symm;subst hl;exact ⟨rfl,Below.refl _ _,[],[],h,List.Perm.refl _,List.Pairwise.nil⟩
 obtain ⟨g,cur,hA,hb,hg,hnc,hcm,hcs,ht,-⟩ := own_open h.row h0;subst hA;have hin : ∀ e ∈ es,EntIn w g e := fun e he => by
  obtain ⟨j,hj,rfl⟩ := List.getElem_of_mem he;have hj' : j < l.length := by rw [← h.two.1];exact hj
  have hv := h.two.at_ hj hj';obtain ⟨base,hbase,hr⟩ := hv.row;have := own_reads (S := fun q => q = g) hr (fun q hq hqg => by
   subst hqg;exact h.ne hv q hq rfl)
  exact this
 have hi : Inhabited (EntS w g) := ⟨⟨es[0],hin _ (List.getElem_mem h0)⟩⟩;obtain ⟨d,hd⟩ : ∃ d : Array (EntS w g),d = (es.attach.map fun e => (⟨e.1,hin e.1 e.2⟩ : EntS w g)).toArray := ⟨_,rfl⟩;have hsz : d.size = es.length := by rw [hd];simp
 have hval : d.toList.map Subtype.val = es := by
  rw [hd];simp [List.attach_map_subtype_val,List.map_map,Function.comp_def]
 have hat : ∀ j (hj : j < es.length),(d[j]!).1 = es[j] := fun j hj => by
  rw [getElem!_pos d j (by omega)];simp [hd]
 have HR : RowK (encE (w := w) (blk := g)) 7 w g 0 d := by
  refine ⟨encE_len,encE_one,?_,(Array.getElem?_eq_some_iff.1 hg).1⟩;intro t htl;have hts : (flatK (encE (w := w) (blk := g)) 7 d).size = es.length * 7 := by rw [size_flatK,hsz]
  have htl' : t < es.length * 7 := by rw [← hts];exact htl
  have hcell := own_cell hg ht t ((cellsE es)[t]'(by rw [cellsE_len];exact htl')) (List.getElem?_eq_getElem _);have hfr := (own_cells hg t (by rw [hcs];have := Nat.mul_le_mul_right 7 hnc;omega)).2;rw [Nat.zero_add];refine ⟨?_,hfr⟩;rw [hcell,get_flatK _ _ _ _ (by rw [hsz];exact htl')];have hq : t / 7 < es.length := by omega
  have hfz := fz_get (fun e : Ent => e.cells.toList) 7 (fun _ => rfl) es (t / 7) (t % 7) (by omega) es[t / 7] (List.getElem?_eq_getElem hq);have hte : t / 7 * 7 + t % 7 = t := by omega
  rw [hte] at hfz;have hfz' : (cellsE es)[t]? = es[t / 7].cells.toList[t % 7]? := hfz;rw [List.getElem?_eq_getElem (by rw [cellsE_len];exact htl')] at hfz';rw [hfz',show encE d[t / 7]! = es[t / 7].cells.toList by unfold encE;rw [hat _ hq]];simp only [id];rw [getElem!_pos es[t / 7].cells.toList (t % 7) (show t % 7 < es[t / 7].cells.toList.length from Nat.mod_lt _ (by decide)),List.getElem?_eq_getElem]
 have HS := sort_any 7 (fun w => by kernel_rfl) (encE (w := w) (blk := g)) cfE cfE_swo 108 #[] (fun args w => by kernel_rfl) g 0 c d w HR (ecmp_lays w g 0 d.size) (by omega);rw [hsz] at HS;refine HS.mono ?_;rintro e w' ⟨rfl,d',hp,hs,hW⟩;have hsz' : d'.size = es.length := by rw [hp.1,hsz]
 obtain ⟨n,os,hw'⟩ := hW;have hkept : Kept (fun q => q = g) w w' := by rw [hw'];exact sortW_kept _ _ _ _ _ _ _
 have hblk := sortW_at (encE (w := w) (blk := g)) 7 w g n d' os hg;rw [← hw'] at hblk;obtain ⟨es',hes'⟩ : ∃ es',d'.toList.map Subtype.val = es' := ⟨_,rfl⟩;have hlen' : es'.length = es.length := by rw [← hes'];simp [hsz']
 have hat' : ∀ j (hj : j < es'.length),(d'[j]!).1 = es'[j] := fun j hj => by
  rw [getElem!_pos d' j (by omega)];simp [← hes']
 have hperm : es'.Perm es := by
  have hp3 := hp.2.2;have e1 : d'.extract 0 es.length = d' := by rw [← hsz'];exact Array.extract_size
  have e2 : d.extract 0 es.length = d := by rw [← hsz];exact Array.extract_size
  rw [e1,e2] at hp3;rw [← hes',← hval];exact hp3.map _
 have hcur' : (putCells id 0 (flatK (encE (w := w) (blk := g)) 7 d') cur).size = cur.size := by unfold putCells;simp
 have hfl : (flatK (encE (w := w) (blk := g)) 7 d').size = es.length * 7 := by rw [size_flatK,hsz']
 have hbig : es.length * 7 ≤ cur.size := by rw [hcs];exact Nat.mul_le_mul_right 7 hnc
 have htake : (putCells id 0 (flatK (encE (w := w) (blk := g)) 7 d') cur).toList.take (es.length * 7) = cellsE es' := by
  apply List.ext_getElem?;intro t;rw [List.getElem?_take];split
  ·rename_i ht7;have hq : t / 7 < es'.length := by omega
   have hfz := fz_get (fun e : Ent => e.cells.toList) 7 (fun _ => rfl) es' (t / 7) (t % 7) (by omega) es'[t / 7] (List.getElem?_eq_getElem hq);have hte : t / 7 * 7 + t % 7 = t := by omega
   rw [hte] at hfz;have hfz' : (cellsE es')[t]? = es'[t / 7].cells.toList[t % 7]? := hfz;rw [hfz',Array.getElem?_toList,Array.getElem?_eq_getElem (by rw [hcur'];omega)];unfold putCells;rw [Array.getElem_mapIdx,if_pos ⟨Nat.zero_le _,by rw [hfl];omega⟩];rw [Nat.sub_zero,get_flatK _ _ _ _ (by rw [hsz'];exact ht7)];have : encE d'[t / 7]! = es'[t / 7].cells.toList := by unfold encE;rw [hat' _ hq]
   rw [this,getElem!_pos es'[t / 7].cells.toList (t % 7) (show t % 7 < es'[t / 7].cells.toList.length from Nat.mod_lt _ (by decide)),List.getElem?_eq_getElem];rfl
  rw [List.getElem?_eq_none (by rw [cellsE_len];omega)]
 have hrow' : w'.ownsRow lo 115 7 (.slice (some ⟨g,0,none⟩) es'.length c) es'.length (cellsE es') :=
  own_mk hb hblk (by rw [hlen'];exact hnc) hcm (by rw [hcur'];exact hcs) (by rw [hlen'];exact htake) (cellsE_len es')
 have hlB : ∀ q,q = g → lo ≤ q := fun q hq => hq ▸ hb
 obtain ⟨l',hl'p,hl't⟩ := two_perm hperm h.two;refine ⟨rfl,?_,es',l',⟨hrow',hl't.mono fun e x he => he.keep hkept hlo h.dl hlB fun q hq hqg => ?_,h.dl⟩,hl'p,?_⟩
 ·exact ⟨hkept.os,hkept.tape,hkept.output,hkept.size,fun q hq => hkept.block q (Nat.lt_of_lt_of_le hq hlo) (fun e => by omega)⟩
 ·exact h.ne he q hq (by rw [hqg];rfl)
 refine List.pairwise_iff_getElem.2 fun i j hi hj hij => ?_
 have hi' : i < es'.length := by rw [hl't.1];exact hi
 have hj' : j < es'.length := by rw [hl't.1];exact hj
 have e1 := (hl't.at_ hi' hi).b;have e2 := (hl't.at_ hj' hj).b;rw [← e1,← e2];have := hs i j (Nat.zero_le _) hij (by omega);unfold ltOf cfE at this;rw [hat' _ hi',hat' _ hj'] at this;exact this
theorem entP_len_le {path : ByteArray} (docs : List V) (j : Nat) : (entsL path (docs.take j)).length ≤ j := by
 unfold entsL;refine Nat.le_trans (List.length_filterMap_le _ _) ?_;rw [List.length_take];omega
theorem entry_short {path : ByteArray} {d : V} (h : DocOk d) (he : (entryP path d).2.2 = 0) : (entryP path d).1.length ≤ 96 := by
 cases hp : pathV d path with
 | none => rw [(ent_none h hp).1];simp
 | some u =>
  obtain ⟨i,hi,hu,hK,hkey,e,hent⟩ := ent_some h hp he;unfold entryP at he ⊢;rw [if_neg (by simpa using h.key),hp] at he ⊢;dsimp only at he ⊢;rw [hi,Option.getD_some] at he ⊢;by_cases h0 : (allK [u,i] [false,false]).2 = 0
  ·rw [if_neg (by simpa using h0)];exact (allK_ok (b := (allK [u,i] [false,false]).1) (by rw [← h0])).2.2.2
  rw [if_pos h0] at he;exact absurd he h0
theorem entries_any (Y : Nat → Prop) (dlo : Nat) (nm : ByteArray) (docs : List V) (dA xA : Option Addr) (dc xn xc : Nat) (x : Ix) (w : World) (hd : InY Y w dlo (.mk 7 0 [] docs []) (lcv dA docs.length dc)) (hdl : dlo ≤ w.heap.size) (hx : x.path.size < 4294967281) (hok : ∀ d ∈ docs,DocOk d) (hr : Rise (dkB docs)) (hl : docs.length ≤ 1000000000) (hT : Tabs w) (hM : Len1 w) :
 Calls Tryz.prog 60 #[.agg #[.string nm,.slice dA docs.length dc,.slice xA xn xc],.agg x.cells] w (EnsC Y w dlo x.path docs) := by
 have HG0 := hide (((Grow.refl w).alloc (.cells #[.string nm,.slice dA docs.length dc,.slice xA xn xc] 48)).alloc (.cells x.cells 64));have HC0 := hide ((Blk.new w 48 #[.string nm,.slice dA docs.length dc,.slice xA xn xc]).alloc (.cells x.cells 64));have HX0 := hide (Blk.new' (w := w.alloc (.cells #[.string nm,.slice dA docs.length dc,.slice xA xn xc] 48)) (g := w.heap.size + 1) (by simp) 64 x.cells);have HV := hide hd;have HDL := hide hdl;have HT := hide hT;have HM := hide hM;have HOK := hide hok;have HR := hide hr;have HX := hide hx;have HL := hide hl;have hcc := HC0.out.cell;have hcx := HX0.out.cell;have HCALL := hide (fun (v : V) (c : Cv) (W : World) (hcount : v.count ≤ 20000) (hg : Grow w W) (hv : In W v c) => pentry_any x v c W hx hcount (hT.grow hg) (hM.grow hg) hv);clear hd hdl hT hM hok hr hx hl;go_enter Tryz.func60,Tryz.ntmps60;go_wp2_with fail
 go_loopg [6,8,9,10,11,12,13,14,15,19] (docs.length + 1) (fun gk o _ _ _ _ _ _ _ _ i wr => ∃ (j : Nat) (A : Option Addr) (c : Nat) (es : List Ent),j ≤ docs.length ∧ gk + j = docs.length + 1 ∧ i = .int .i64 j ∧ o = .slice A es.length c ∧
  EnRow Y wr w.heap.size dlo A c es (entsL x.path (docs.take j)) ∧ (∀ i (hi : i < docs.length),i < j → (entryP x.path docs[i]).2.2 = 0) ∧ Blk wr (w.heap.size + 1) 64 x.cells ∧ Grow w wr)
 case atStart => exact ⟨0,none,0,[],Nat.zero_le _,rfl,rfl,rfl,EnRow.nil _ _ _ _ HDL.out,fun _ _ h => absurd h (by omega),HX0.out,HG0.out⟩
 case round =>
  obtain ⟨j,A,c,es,hj,hg,rfl,rfl,hrow,hz,hbx,hgr⟩ := hrel;obtain ⟨gk',rfl⟩ := gk_ gk (by omega);have HROW := hide hrow;have HZ := hide hz;have HBX := hide hbx;have HG := hide hgr;have hel : es.length ≤ j := by rw [hrow.two.1];exact entP_len_le docs j
  have HEL := hide hel;have hl2 := HL.out;clear hrow hz hbx hgr hel;by_cases hlt : j < docs.length
  ·obtain ⟨bk,o,y,ha,hbk',e0,e1,e2,e3,e4,hy⟩ := InY.elemL HV.out j hlt;have hbk := Nat.lt_of_lt_of_le hbk' HDL.out;dsimp only [lcv] at ha;subst ha;have HY := hide hy;have hD := HOK.out _ (List.getElem_mem hlt);have HD := hide hD;have h0 := (HG.out.below.cell (p := ⟨bk,o + j * 5,none⟩) hbk).trans e0;have h1 := (HG.out.below.cell (p := ⟨bk,o + j * 5 + 1,none⟩) hbk).trans e1;have h2 := (HG.out.below.cell (p := ⟨bk,o + j * 5 + 2,none⟩) hbk).trans e2;have h3 := (HG.out.below.cell (p := ⟨bk,o + j * 5 + 3,none⟩) hbk).trans e3;have h4 := (HG.out.below.cell (p := ⟨bk,o + j * 5 + 4,none⟩) hbk).trans e4;have hx1 := (HBX.out.alloc (.cells y.cells 27)).cell;have hy1 := (Blk.new wr 27 y.cells).cell;have HG1 := hide (HG.out.alloc (.cells y.cells 27));have HENT := hide (HCALL.out docs[j] y _ hD.count HG1.out ((InY.in_ hy HDL.out).grow HG1.out))
   obtain ⟨eb,et,ee,hEP⟩ : ∃ a b c,entryP x.path docs[j] = (a,b,c) := ⟨_,_,_,rfl⟩;rw [hEP] at HENT;have HEP := hide hEP;clear hy hD e0 e1 e2 e3 e4 hEP;go_wp2_with fail;refine HENT.out.mono ?_;rintro e w2 ⟨base2,B,bc,rfl,hb2,hr2,hg2⟩;dsimp only at hr2 ⊢;have HR2 := hide hr2;have HB2 := hide (show w.heap.size ≤ base2 from Nat.le_trans HG1.out.size hb2);have HG2 := hide (HG1.out.trans hg2);have HROW2 := hide ((HROW.out.grow ((Grow.refl wr).alloc (.cells y.cells 27)) HG.out.size).grow hg2 HG1.out.size);have HBX2 := hide ((HBX.out.alloc (.cells y.cells 27)).grow hg2);have HBY2 := hide ((Blk.new wr 27 y.cells).grow hg2);clear hr2 hb2 hg2 h0 h1 h2 h3 h4 hx1 hy1;by_cases hee : ee = 0
   ·subst hee;have hz' : ∀ i (hi : i < docs.length),i < j + 1 → (entryP x.path docs[i]).2.2 = 0 := fun i hi hij => by
     rcases Nat.lt_succ_iff_lt_or_eq.1 hij with h | rfl
     ·exact HZ.out i hi h
     rw [HEP.out]
    have HZ' := hide hz';clear hz'
    cases et with
    | false =>
     go_wp2_with fail;go_roundg gk'
     case measure => omega
     case rel =>
      have hno : entOf x.path docs[j] = none := by unfold entOf;rw [HEP.out];rfl
      exact ⟨j + 1,A,c,es,by omega,by omega,by go_num,rfl,by rw [entsL_snoc hlt,hno];simpa using HROW2.out,HZ'.out,HBX2.out,HG2.out⟩
    | true =>
     obtain ⟨i,hi,hK,hkey,-,-⟩ := HD.out.id;have hid := id_any docs[j] y w w2 HG2.out (InY.in_ HY.out HDL.out);rw [hi] at hid;have HID := hide hid;have HI := hide hi;have HK := hide hK;have hicount := Nat.le_trans (idP_count hi) HD.out.count;have hy2 := HBY2.out.cell;clear hid hi hkey;go_wp2_with fail;refine HID.out.mono ?_;rintro e w3 ⟨hg3,ci,t,u,rfl,hu,hor⟩;have hut : u = i ∧ t = true := by
      rcases hor with ⟨h,ht⟩ | ⟨h,-⟩
      ·injection h with h;exact ⟨h.symm,ht⟩
      cases h
     obtain ⟨rfl,rfl⟩ := hut;have HU := hide hu;have HG3 := hide (HG2.out.trans hg3);have HBX3 := hide (HBX2.out.grow hg3);have HBY3 := hide (HBY2.out.grow hg3);have HROW3 := hide (HROW2.out.grow hg3 HG2.out.size);have HR3 := hide (HR2.out.grow hg3);have HOF := hide (of_any u ci (w3.alloc (.cells ci.cells 27)) HK.out.fit hicount (HT.out.grow (HG3.out.alloc _)) (hu.grow (HG3.out.alloc _)));rw [HK.out.ofK] at HOF;have hc3 := (Blk.new w3 27 ci.cells).cell;clear hu hor hg3 hy2;go_wp2_with fail;refine HOF.out.mono ?_;rintro e w4 ⟨base4,K,kc,rfl,hb4,hr4,hg4⟩;dsimp only at hr4 ⊢;have HG4 := hide ((HG3.out.alloc (.cells ci.cells 27)).trans hg4);have hg34 := ((Grow.refl w3).alloc (.cells ci.cells 27)).trans hg4;have HBX4 := hide (HBX3.out.grow hg34);have HBY4 := hide (HBY3.out.grow hg34);have HROW4 := hide (HROW3.out.grow hg34 HG3.out.size);have HR4 := hide (HR3.out.grow hg34)
     have hy4 := HBY4.out.cell;have hkl : u.key.length ≤ 96 := HK.out.short;have hel : eb.length ≤ 96 := by have := entry_short HD.out (by rw [HEP.out]);rw [HEP.out] at this;exact this
     have hel2 := HEL.out;obtain ⟨i0,hi0,hz0,hz1,hz2⟩ := info_parts infoE;have Hi0 := hide hi0;have Hz0 := hide hz0;have Hz1 := hide hz1;have Hz2 := hide hz2;clear hr4 hb4 hg4 hg34 hc3 hi0 hz0 hz1 hz2;go_wp2_with (first | (at_builtin;refine wpList_append_src rfl (.tmp 47) (.tmp 56) 111 111 rfl w.heap.size 115 i0 _ 7 120 underE Hi0.out Hz0.out Hz1.out Hz2.out rfl (.slice A es.length c) es.length (cellsE es) rfl (HROW4.out.row.alloc _) _ 1 (Ent.cells ⟨eb,B,bc,(eb.length : Int) - (u.key.length : Int),y⟩).toList rfl (Src.ent ⟨eb,B,bc,(eb.length : Int) - (u.key.length : Int),y⟩ _ rfl) (by omega) (by simp only [maxLen];omega) (by simp;have := HG4.out.size;omega) ?_;intro A5 c5 w5 hown5 hgr5 hat5) | fail)
     have HROW5 := hide (EnRow.add (HROW4.out.grow ((Grow.refl w4).alloc (.cells (Ent.cells ⟨eb,B,bc,(eb.length : Int) - (u.key.length : Int),y⟩) 115)) HG4.out.size) (Nat.le_trans HG4.out.size (by simp)) (x := (eb,(eb.length : Int) - (u.key.length : Int),docs[j])) (e := ⟨eb,B,bc,(eb.length : Int) - (u.key.length : Int),y⟩)
      ⟨rfl,rfl,(InY.below HY.out (HG4.out.alloc _) HDL.out),base2,HB2.out,HR4.out.alloc _⟩ hown5 hgr5)
     have HG5 := hide ((HG4.out.alloc (.cells (Ent.cells ⟨eb,B,bc,(eb.length : Int) - (u.key.length : Int),y⟩) 115)).grown hgr5 (fun k hk => (World.ownsRow.lt HROW4.out.row k hk).1));have HBX5 := hide ((HBX4.out.alloc (.cells (Ent.cells ⟨eb,B,bc,(eb.length : Int) - (u.key.length : Int),y⟩) 115)).own hgr5 (fun k hk e => by rw [ownBlock_slice,e] at hk;exact ownT_blk HROW4.out.row HBX4.out (by decide) hk));clear hown5 hgr5 hat5;go_roundg gk'
     case measure => omega
     case rel =>
      have hyes : entOf x.path docs[j] = some (eb,(eb.length : Int) - (u.key.length : Int),docs[j]) := by unfold entOf;rw [HEP.out,HI.out,Option.getD_some,HK.out.ofK];rfl
      exact ⟨j + 1,A5,c5,es ++ [⟨eb,B,bc,(eb.length : Int) - (u.key.length : Int),y⟩],by omega,by omega,by go_num,by simp,by rw [entsL_snoc hlt,hyes];exact HROW5.out,HZ'.out,HBX5.out,HG5.out⟩
   go_wp2_with fail;go_ret2;exact ⟨HG2.out,.inl ⟨by rw [entsE_first hlt HZ.out (by rw [HEP.out];exact hee),HEP.out];exact hee,by rw [entsE_first hlt HZ.out (by rw [HEP.out];exact hee),HEP.out];rfl⟩⟩
  have hjl : j = docs.length := by omega
  subst hjl;have htk : docs.take docs.length = docs := List.take_length;have HR1 := HROW.out;rw [htk] at HR1;have HLN := hide HR1.two.1;have HS := hide (sort_ents Y w.heap.size dlo c A es _ wr HR1 HG.out.size (by have := HEL.out;omega));have he0 := entsE_zero (path := x.path) (docs := docs) (fun j hj => HZ.out j hj hj);have HE0 := hide he0;clear HR1 he0;go_wp2_with fail;refine HS.out.mono ?_;rintro e w2 ⟨rfl,hb2,es',l',hrow2,hp,ho⟩;have hl' : l' = entP x.path docs := by
   unfold entP;rw [if_pos HE0.out];exact sortE_unique hp ho (entsL_nodup HOK.out HE0.out HR.out)
  have hlen : es.length = (entP x.path docs).length := by rw [HLN.out,← hl',hp.length_eq]
  have hg2 : Grow w w2 := HG.out.trans' hb2;subst hl';have HRR := hide hrow2;have HLEN := hide hlen;clear hrow2 hp ho hb2 hlen;go_wp2_with fail;go_ret2;exact ⟨hg2,.inr ⟨HE0.out,A,c,es',by rw [← HLEN.out];rfl,HRR.out⟩⟩
theorem entries_in (nm : ByteArray) (docs : List V) (dA xA : Option Addr) (dc xn xc : Nat) (x : Ix) (w : World) (hd : InL w dA dc docs) (hx : x.path.size < 4294967281) (hok : ∀ d ∈ docs,DocOk d) (hr : Rise (dkB docs)) (hl : docs.length ≤ 1000000000) (hT : Tabs w) (hM : Len1 w) :
 Calls Tryz.prog 60 #[.agg #[.string nm,.slice dA docs.length dc,.slice xA xn xc],.agg x.cells] w (EnsC (fun _ => False) w w.heap.size x.path docs) :=
 entries_any (fun _ => False) w.heap.size nm docs dA xA dc xn xc x w (IsV.mono (fun p u h => ⟨h.1,h.2.2,fun h => h⟩) _ _ hd) (Nat.le_refl _) hx hok hr hl hT hM
end
section
open Go.RowKit
theorem pbeq_any (a b : List UInt8) (A B : Option Addr) (c d : Nat) (w : World) (h : InB w A a) (g : InB w B b) :
 Calls Tryz.prog 109 #[.slice A a.length c,.slice B b.length d] w fun e w' => e = .returned (.bool (a == b)) ∧ w' = w := by
 have hs1 := conv_str c h;have hs2 := conv_str d g;clear h g;go_enter Tryz.func109,Tryz.ntmps109;go_wp2_with fail;go_ret;exact ⟨rfl,rfl⟩
abbrev enPart (x : EN) : List UInt8 := x.1.take x.2.1.toNat
theorem twiceP_true : ∀ {l : List EN} {j : Nat} (h : j + 1 < l.length),enPart l[j] = enPart l[j + 1] → twiceP l = true
 | [],j,h,_ => by simp at h
 | [a],j,h,_ => by simp at h
 | a :: b :: r,0,h,he => by rw [twiceP];simp only [Bool.or_eq_true,decide_eq_true_eq];exact .inl he
 | a :: b :: r,j + 1,h,he => by
  rw [twiceP];simp only [Bool.or_eq_true,decide_eq_true_eq];exact .inr (twiceP_true (l := b :: r) (j := j) (by simpa using h) he)
theorem twiceP_false : ∀ {l : List EN},(∀ j (h : j + 1 < l.length),enPart l[j] ≠ enPart l[j + 1]) → twiceP l = false
 | [],_ => rfl
 | [a],_ => rfl
 | a :: b :: r,h => by
  rw [twiceP,Bool.or_eq_false_iff,decide_eq_false_iff_not];exact ⟨h 0 (by simp),twiceP_false (l := b :: r) fun j hj => h (j + 1) (by simpa using hj)⟩
theorem InB.part {w : World} {A : Option Addr} {b : List UInt8} (h : InB w A b) (k : Nat) : InB w A (b.take k) := by
 unfold InB at h ⊢;rw [u8s_take,List.length_take];by_cases hk : k ≤ b.length
 ·rw [Nat.min_eq_left hk];exact h.take_ k hk
 rw [Nat.min_eq_right (by omega),List.take_of_length_le (by rw [u8s_length];omega)];exact h
theorem twice_any (Y : Nat → Prop) (lo dlo c : Nat) (A : Option Addr) (es : List Ent) (l : List EN) (w : World) (h : EnRow Y w lo dlo A c es l) (hs : ∀ x ∈ l,∃ s : Nat,x.2.1 = (s : Int) ∧ s ≤ x.1.length) (hn : es.length ≤ 1000000000) :
 Calls Tryz.prog 122 #[.slice A es.length c] w fun e w' => e = .returned (.bool (twiceP l)) ∧ Grow w w' := by
 have hel := h.two.1;have HROW := hide h;have HS := hide hs;have HEL := hide hel;clear h hs hel;go_enter Tryz.func122,Tryz.ntmps122;go_wp2_with fail;go_loopg [3] (es.length + 1) (fun gk i wr => ∃ (j : Nat),1 ≤ j ∧ j ≤ max es.length 1 ∧ gk + j = es.length + 2 ∧ i = .int .i64 j ∧ (∀ i (hi : i + 1 < l.length),i + 1 < j → enPart l[i] ≠ enPart l[i + 1]) ∧ Grow w wr)
 case atStart => exact ⟨1,Nat.le_refl _,by omega,by omega,rfl,fun _ _ h => absurd h (by omega),Grow.refl w⟩
 case round =>
  obtain ⟨j,hj1,hj,hg,rfl,hz,hgr⟩ := hrel;have HZ := hide hz;have HG := hide hgr;clear hz;by_cases hlt : j < es.length
  ·obtain ⟨gk',rfl⟩ := gk_ gk (by omega);obtain ⟨j',rfl⟩ : ∃ q,j = q + 1 := ⟨j - 1,by omega⟩;obtain ⟨g,cur,hA,hb,hgg,hnc,hcm,hcs,ht,-⟩ := own_open HROW.out.row (by omega);subst hA;have hlt' : j' + 1 < l.length := by rw [← HEL.out];exact hlt
   have hcell : ∀ (i k : Nat) (hi : i < es.length),k < 7 → ∀ v,es[i].cells.toList[k]? = some v → wr.cell? ⟨g,i * 7 + k,none⟩ = some v := fun i k hi hk v hv => by
    have hlg : g < w.heap.size := (Array.getElem?_eq_some_iff.1 hgg).1;refine (HG.out.below.cell (p := ⟨g,i * 7 + k,none⟩) hlg).trans (own_cell hgg ht _ _ ?_);rw [cellsE,fz_get _ 7 (fun _ => rfl) es i k hk es[i] (List.getElem?_eq_getElem hi)];exact hv
   have v1 := HROW.out.two.at_ (j := j') (by omega) (by omega);have v2 := HROW.out.two.at_ (j := j' + 1) hlt hlt';obtain ⟨s1,hs1,hs1l⟩ := HS.out _ (List.getElem_mem (show j' < l.length by omega));obtain ⟨s2,hs2,hs2l⟩ := HS.out _ (List.getElem_mem hlt');obtain ⟨x1,hx1⟩ : ∃ x,es[j'] = x := ⟨_,rfl⟩;obtain ⟨x2,hx2⟩ : ∃ x,es[j' + 1] = x := ⟨_,rfl⟩;rw [hx1] at v1;rw [hx2] at v2;obtain ⟨b1,A1,c1,z1,d1⟩ := x1;obtain ⟨b2,A2,c2,z2,d2⟩ := x2;have a0 := hcell j' 0 (by omega) (by omega) _ (by rw [hx1];rfl);have a1 := hcell j' 1 (by omega) (by omega) _ (by rw [hx1];rfl);have a2 := hcell (j' + 1) 0 hlt (by omega) _ (by rw [hx2];rfl);have a3 := hcell (j' + 1) 1 hlt (by omega) _ (by rw [hx2];rfl);obtain ⟨base1,hb1,hr1⟩ := v1.row;obtain ⟨base2,hb2,hr2⟩ := v2.row;have q1 := v1.b;have q2 := v2.b;have q3 := v1.sz;have q4 := v2.sz;dsimp only at q1 q2 q3 q4 hr1 hr2 a0 a1 a2 a3
   rw [Nat.add_zero] at a0 a2;rw [hs1] at q3;rw [hs2] at q4;subst q3 q4;have hi1 : InB wr A1 (b1.take s1) := ((hr1.reads.1).grow HG.out).part s1;have hi2 : InB wr A2 (b2.take s2) := ((hr2.reads.1).grow HG.out).part s2;have hl1 : s1 ≤ b1.length := by rw [q1];exact hs1l
   have hl2 : s2 ≤ b2.length := by rw [q2];exact hs2l
   have hc1 := (own_le hr1).1;have hc2 := (own_le hr2).1;have e1 : (b1.take s1).length = s1 := by rw [List.length_take];omega
   have e2 : (b2.take s2).length = s2 := by rw [List.length_take];omega
   have hpart : (b1.take s1 = b2.take s2) ↔ enPart l[j'] = enPart l[j' + 1] := by
    unfold enPart;rw [hs1,hs2,Int.toNat_natCast,Int.toNat_natCast,← q1,← q2]
   have heq : ∀ p,Calls Tryz.prog 109 #[.slice A1 s1 c1,.slice A2 s2 c2] (wr.drewN p) fun e w' => e = .returned (.bool (b1.take s1 == b2.take s2)) ∧ w' = wr.drewN p := fun p => by
    have := pbeq_any (b1.take s1) (b2.take s2) A1 A2 c1 c2 (wr.drewN p) (hi1.grow ((Grow.refl wr).drewN p)) (hi2.grow ((Grow.refl wr).drewN p));rw [e1,e2] at this;exact this
   have HEQ := hide heq;have HP := hide hpart;have hj2 : ((j' + 1 : Nat) : Int) - 1 = (j' : Int) := by omega
   obtain ⟨BB,hBB⟩ : ∃ B,(b1.take s1 == b2.take s2) = B := ⟨_,rfl⟩;rw [hBB] at HEQ;have HBB := hide hBB;clear v1 v2 hx1 hx2 hi1 hi2 hr1 hr2 hcell heq hpart hBB q1 q2 e1 e2 hs1 hs2 hb1 hb2 ht hcs hgg;go_wp2_with fail;go_big_quiet (first | (go_at_call 109;with_reducible refine Calls.quiet_of_same (HEQ.out _)));have hg1 : Grow w (wr.drewN nq) := HG.out.drewN nq;have HG1 := hide hg1;clear hg1
   cases BB with
   | true =>
    go_wp2_with fail;go_ret;exact ⟨ret_bool (twiceP_true hlt' (HP.out.1 (by simpa using HBB.out))).symm,HG1.out⟩
   | false =>
    go_wp2_with fail;go_roundg gk'
    case measure => omega
    case rel =>
     refine ⟨j' + 1 + 1,by omega,by omega,by omega,by go_num,fun i hi hij => ?_,HG1.out⟩;rcases Nat.lt_or_ge (i + 1) (j' + 1) with h | h
     ·exact HZ.out i hi h
     have : i = j' := by omega
     subst this;intro he;have := HP.out.2 he;rw [this] at HBB;have := HBB.out;simp at this
  go_wp2_with fail;go_ret;exact ⟨ret_bool (twiceP_false fun j1 hj1 => HZ.out j1 hj1 (by have := HEL.out;omega)).symm,HG.out⟩
end
section
open Go.RowKit
theorem make_collsS (S : Nat) (hS : S ≤ 1000000000) : ∃ cur : Array Value,cur.size = S * 3 ∧ ∀ w : World,(Instr.makeSlice 42 (.int .i64 0) (.int .i64 (S : Int))).run Tryz.prog w = .ok (.slice (some ⟨w.heap.size,0,none⟩) 0 S) (w.alloc (.cells cur 48)) := by
 obtain ⟨i0,hi0,hz0,hz1,hz2⟩ := info_parts infoC;refine ⟨madeCells (Value.agg #[.string ⟨#[]⟩,.slice none 0 0,.slice none 0 0]).cells (S * i0.size),?_,fun w => ?_⟩
 ·rw [hz1];simp [madeCells]
 have h := run_make (P := Tryz.prog) (w := w) 42 48 i0 _ underC hi0 hz0 .i64 .i64 0 (S : Int) (by omega) (by omega) (by rw [hz2];omega) (by omega);exact h
theorem make_ixsS (S : Nat) (hS : S ≤ 1000000000) : ∃ cur : Array Value,cur.size = S * 3 ∧ ∀ w : World,(Instr.makeSlice 46 (.int .i64 0) (.int .i64 (S : Int))).run Tryz.prog w = .ok (.slice (some ⟨w.heap.size,0,none⟩) 0 S) (w.alloc (.cells cur 64)) := by
 obtain ⟨i0,hi0,hz0,hz1,hz2⟩ := info_parts infoX;refine ⟨madeCells (Value.agg #[.string ⟨#[]⟩,.string ⟨#[]⟩,.bool false]).cells (S * i0.size),?_,fun w => ?_⟩
 ·rw [hz1];simp [madeCells]
 have h := run_make (P := Tryz.prog) (w := w) 46 64 i0 _ underX hi0 hz0 .i64 .i64 0 (S : Int) (by omega) (by omega) (by rw [hz2];omega) (by omega);exact h
theorem stres {F : Func} {W : World} {vb : Nat} {tmps : Array Value} {u : Value} (hF : F.results = #[ResultVar.cell 2 44]) (h2 : tmps.getD 2 undef = .pointer (some ⟨vb,0,none⟩)) (hv : Blk W vb 44 #[u]) :
 (results F tmps).run Tryz.prog W = .ok (.agg #[u]) W := by
 have hvc := hv.cell;have h2' : tmps[2]?.getD undef = .pointer (some ⟨vb,0,none⟩) := by simpa using h2
 simp [results,hF,go_sem,h2',hvc]
def CpyC (w : World) (st : List Co) (e : Ending) (w' : World) : Prop := Grow w w' ∧ ∃ A c es,e = .returned (.agg #[.slice A st.length c]) ∧ CR (fun q => q < w.heap.size) w' w.heap.size A c es st
structure CoSml (c : Co) : Prop where
 docs : c.docs.length ≤ 1000000000
 ixs : c.ixs.length ≤ 1000000000
 sml : ∀ d ∈ c.docs,d.sml
theorem take_snocC {α : Type} {l xs : List α} {j : Nat} (h : j < l.length) (e : xs = l.take j) : xs ++ [l[j]] = l.take (j + 1) := by rw [e,take_snoc l j h]
theorem Src.coll {w : World} (e : Cc) (t : TypeId) {g : Nat} (hg : g = w.heap.size) : Src Tryz.prog 3 42 (.slice (some ⟨g,0,none⟩) 1 1) 1 e.cells.toList (w.alloc (.cells e.cells t)) := by
 subst hg;exact Src.ofSlice _ underC ⟨w.heap.size,0,none⟩ 1 1 _ rfl (fun j u hu => by
  rw [add_lit,Nat.zero_add,(Blk.new w t e.cells).cell j,← hu,Array.getElem?_toList]) (fun u hu => by
  simp only [List.mem_cons,List.not_mem_nil,or_false] at hu;rcases hu with rfl | rfl | rfl <;> rfl)
theorem cpy_elem {W : World} {lo c6 c7 : Nat} {S0 : Nat → Prop} {A6 A7 A' : Option Addr} {cs : List Cv} {cd : List V} {cx : List Ix} (h : VR (fun q => S0 q ∨ ablk A' = some q) W lo A6 c6 cs cd) (h7 : W.ownsRow lo 64 3 (.slice A7 cx.length c7) cx.length (cellsX cx)) (hB : ∀ q,S0 q → q < lo) (hA : ∀ g,ablk A' = some g → g < lo) (hl : cd.length ≤ 140737488355328) (cn : ByteArray) :
 CoR (AtX W (fun q => ablk A' = some q ∨ S0 q)) ⟨cn,A6,cd.length,c6,A7,cx.length,c7⟩ ⟨cn,cd,cx⟩ := by
 have hs : ∀ q,(S0 q ∨ ablk A' = some q) → q < lo := fun q hq => by
  rcases hq with hq | hq
  ·exact hB q hq
  exact hA q hq
 have ho : ∀ (q : Nat),(ablk A' = some q ∨ S0 q) → (S0 q ∨ ablk A' = some q) := fun q hq => hq.symm
 refine ⟨rfl,rfl,rfl,(own_le h7).1,?_,?_⟩
 ·refine (h.list (fun g hg hq => ?_) hl).mono (AtX.sub ho);have := (World.ownsRow.lt h.row g (by rw [ownBlock_slice];exact hg)).1;have := hs g hq;omega
 refine (own_reads (S := fun q => S0 q ∨ ablk A' = some q) h7 (fun g hg hq => ?_)).mono (AtX.sub ho);have := (World.ownsRow.lt h7 g (by rw [ownBlock_slice];exact hg)).1;have := hs g hq;omega
def CpS (w : World) (q : Nat) : Prop := q = w.heap.size + 1 + 1 + 1 ∨ q = w.heap.size + 1 ∨ q < w.heap.size
theorem copySt_any (st : List Co) (A : Option Addr) (cap : Nat) (w : World) (hst : StIn w A cap st) (hn : st.length ≤ 1000000000) (hs : ∀ c ∈ st,CoSml c) :
 Calls Tryz.prog 37 #[.agg #[.slice A st.length cap]] w (CpyC w st) := by
 obtain ⟨hcap,es0,htwo,hrd⟩ := hst;have HTWO := hide htwo;have HRD := hide hrd;have HSM := hide hs;obtain ⟨curC,hcC,hmC⟩ := make_collsS st.length hn;have HN := hide hn;have HB1 := hide (((Blk.new' (w := w.alloc (.cells #[.slice A st.length cap] 44)) (g := w.heap.size + 1) (by simp) 44 #[.slice none 0 0]).alloc (.cells curC 48)).alloc (.cells #[.slice (some ⟨w.heap.size + 1 + 1,0,none⟩) 0 st.length] 44));have HB4 := hide (Blk.new' (w := ((w.alloc (.cells #[.slice A st.length cap] 44)).alloc (.cells #[.slice none 0 0] 44)).alloc (.cells curC 48)) (g := w.heap.size + 1 + 1 + 1) (by simp) 44 #[.slice (some ⟨w.heap.size + 1 + 1,0,none⟩) 0 st.length]);have hG0 := ((((Grow.refl w).alloc (.cells #[.slice A st.length cap] 44)).alloc (.cells #[.slice none 0 0] 44)).alloc (.cells curC 48)).alloc (.cells #[.slice (some ⟨w.heap.size + 1 + 1,0,none⟩) 0 st.length] 44)
 have hmd : (((w.alloc (.cells #[.slice A st.length cap] 44)).alloc (.cells #[.slice none 0 0] 44)).alloc (.cells curC 48)).ownsRow w.heap.size 48 3 (.slice (some ⟨w.heap.size + 1 + 1,0,none⟩) 0 st.length) 0 [] := by
  have := World.ownsRow_made (base := w.heap.size) (e := 48) (size := 3) ((w.alloc (.cells #[.slice A st.length cap] 44)).alloc (.cells #[.slice none 0 0] 44)) curC st.length (by simp;omega) (by simp only [maxLen];omega) hcC;rw [show ((w.alloc (.cells #[.slice A st.length cap] 44)).alloc (.cells #[.slice none 0 0] 44)).heap.size = w.heap.size + 1 + 1 by simp] at this;exact this
 have HCR0 := hide (GR.made (f := cF) (β := Co) (z := 3) (T := 48) (R := cR) (S := CpS w) (hmd.alloc (.cells #[.slice (some ⟨w.heap.size + 1 + 1,0,none⟩) 0 st.length] 44)));have HG0 := hide hG0;clear hs htwo hrd hcC hG0 hmd;go_enter Tryz.func37,Tryz.ntmps37;go_wp2_with fail;go_loopg [17] (st.length + 1) (fun gk i wr => ∃ (j : Nat) (A' : Option Addr) (c' : Nat) (es' : List Cc),j ≤ st.length ∧ gk + j = st.length + 1 ∧ i = .int .i64 j ∧ CR (CpS w) wr w.heap.size A' c' es' (st.take j) ∧
  Blk wr (w.heap.size + 1 + 1 + 1) 44 #[.slice A' es'.length c'] ∧ Blk wr (w.heap.size + 1) 44 #[.slice none 0 0] ∧ Grow w wr)
 case atStart => exact ⟨0,_,_,[],Nat.zero_le _,rfl,rfl,HCR0.out,HB4.out,HB1.out,HG0.out⟩
 case round =>
  obtain ⟨j,A',c',es',hj,hg,rfl,hcr,hb4,hb1,hgr⟩ := hrel;obtain ⟨gk',rfl⟩ := gk_ gk (by omega);have hel : es'.length = j := by rw [hcr.two.1,List.length_take];omega
  have HEL := hide hel;have HCR := hide hcr;have HB4R := hide hb4;have HB1R := hide hb1;have HG := hide hgr;clear hcr hb4 hb1 hgr hel;by_cases hlt : j < st.length
  ·have hlt0 : j < es0.length := by rw [HTWO.out.1];exact hlt
   have hco := HTWO.out.at_ hlt0 hlt;have hsm := HSM.out _ (List.getElem_mem hlt);obtain ⟨bk,o,hA,hcell⟩ := HRD.out.2 (by omega);have hf : ∀ k v,es0[j].cells.toList[k]? = some v → k < 3 → w.cell? ⟨bk,o + j * 3 + k,none⟩ = some v ∧ bk < w.heap.size := fun k v hv hk => by
    have := hcell (j * 3 + k) v (by rw [cellsC,fz_get _ 3 (fun _ => rfl) es0 j k hk es0[j] (List.getElem?_eq_getElem hlt0)];exact hv);rw [← Nat.add_assoc] at this;exact ⟨this.1,this.2.2⟩
   obtain ⟨⟨nm,dA,dn,dc,xA,xn,xc⟩,he⟩ : ∃ e,es0[j] = e := ⟨_,rfl⟩;obtain ⟨⟨cn,cd,cx⟩,hc⟩ : ∃ c,st[j] = c := ⟨_,rfl⟩;rw [he] at hf hco;rw [hc] at hco hsm;obtain ⟨q1,q2,q3,q4,hdocs,hixs⟩ := hco;obtain ⟨hdl,hxl,hsml⟩ := hsm;dsimp only at q1 q2 q3 q4 hdocs hixs hdl hxl hsml;subst q1 q2 q3 hA;have f0 := (HG.out.below.cell (p := ⟨bk,o + j * 3,none⟩) (hf 0 _ rfl (by omega)).2).trans (hf 0 _ rfl (by omega)).1;have f1 := (HG.out.below.cell (p := ⟨bk,o + j * 3 + 1,none⟩) (hf 1 _ rfl (by omega)).2).trans (hf 1 _ rfl (by omega)).1;have f2 := (HG.out.below.cell (p := ⟨bk,o + j * 3 + 2,none⟩) (hf 2 _ rfl (by omega)).2).trans (hf 2 _ rfl (by omega)).1;obtain ⟨curV,hcV,hmV⟩ := make_valsS cd.length hdl;obtain ⟨curX,hcX,hmX⟩ := make_ixsS cx.length hxl;have HC := hide hc;have HD := hide (show InL w dA dc cd from hdocs);have HIX := hide hixs;have HSML := hide hsml
   have hB5 := (Blk.new wr 48 #[.string nm,.slice dA cd.length dc,.slice xA cx.length xc]).alloc (.cells curV 27);have HB5 := hide hB5;have hV0 : ((wr.alloc (.cells #[.string nm,.slice dA cd.length dc,.slice xA cx.length xc] 48)).alloc (.cells curV 27)).ownsRow wr.heap.size 27 5 (.slice (some ⟨wr.heap.size + 1,0,none⟩) 0 cd.length) 0 [] := by
    have := World.ownsRow_made (base := wr.heap.size) (e := 27) (size := 5) (wr.alloc (.cells #[.string nm,.slice dA cd.length dc,.slice xA cx.length xc] 48)) curV cd.length (by simp) (by simp only [maxLen];omega) hcV;rw [show (wr.alloc (.cells #[.string nm,.slice dA cd.length dc,.slice xA cx.length xc] 48)).heap.size = wr.heap.size + 1 by simp] at this;exact this
   have HV0 := hide (GR.made (f := vF) (β := V) (z := 5) (T := 27) (R := vR) (S := fun q => CpS w q ∨ ablk A' = some q) hV0);have HG5 := hide (((Grow.refl wr).alloc (.cells #[.string nm,.slice dA cd.length dc,.slice xA cx.length xc] 48)).alloc (.cells curV 27));have hb5 := hB5.cell;have HCX := hide hcX;clear hf hdocs hixs hcell hsml hB5 hV0 hcV he hc hcX;go_wp2_with fail;clear f0 f1 f2 hb5;obtain ⟨wo,hwo⟩ : ∃ wo : World,wo = wr := ⟨_,rfl⟩;subst hwo;go_loopg [6,28] (cd.length + 1) (fun gk o i wi => ∃ (k : Nat) (A6 : Option Addr) (c6 : Nat) (cs : List Cv),k ≤ cd.length ∧ gk + k = cd.length + 1 ∧ i = .int .i64 k ∧ o = .slice A6 cs.length c6 ∧
    VR (fun q => CpS w q ∨ ablk A' = some q) wi wo.heap.size A6 c6 cs (cd.take k) ∧ Blk wi wo.heap.size 48 #[.string nm,.slice dA cd.length dc,.slice xA cx.length xc] ∧ Grow wo wi)
   case atStart => exact ⟨0,_,_,[],Nat.zero_le _,rfl,rfl,rfl,HV0.out,HB5.out,HG5.out⟩
   case round =>
    obtain ⟨k,A6,c6,cs,hk,hgk,rfl,rfl,hvr,hb5,hgo⟩ := hrel;have HVR := hide hvr;have HB5R := hide hb5;have HGO := hide hgo;have hcl : cs.length = k := by rw [hvr.two.1,List.length_take];omega
    have HCL := hide hcl;clear hcl;have HAL := hide (fun g (hg : ablk A' = some g) => (World.ownsRow.lt HCR.out.row g (by rw [ownBlock_slice];exact hg)).2);have HBL := hide (show w.heap.size + 1 + 1 + 1 < wo.heap.size from HB4R.out.lt);have HCP := hide (fun q (hq : CpS w q) => show q < wo.heap.size from by
     have := HBL.out;rcases hq with rfl | rfl | hq <;> omega)
    have HSMR := hide (fun q (hq : CpS w q ∨ ablk A' = some q) => show q < wo.heap.size from by
     rcases hq with hq | hq
     ·exact HCP.out q hq
     exact HAL.out q hq)
    clear hvr hb5 hgo;by_cases hkl : k < cd.length
    ·obtain ⟨gk2,rfl⟩ : ∃ g,gk = g + 1 := ⟨gk - 1,by omega⟩;obtain ⟨bk2,o2,y,ha,hbk2,e0,e1,e2,e3,e4,hy⟩ := HD.out.elemL k hkl;dsimp only [lcv] at ha;subst ha;have HGI := hide (HG.out.trans HGO.out);have d0 := (HGI.out.below.cell (p := ⟨bk2,o2 + k * 5,none⟩) hbk2).trans e0;have d1 := (HGI.out.below.cell (p := ⟨bk2,o2 + k * 5 + 1,none⟩) hbk2).trans e1;have d2 := (HGI.out.below.cell (p := ⟨bk2,o2 + k * 5 + 2,none⟩) hbk2).trans e2;have d3 := (HGI.out.below.cell (p := ⟨bk2,o2 + k * 5 + 3,none⟩) hbk2).trans e3;have d4 := (HGI.out.below.cell (p := ⟨bk2,o2 + k * 5 + 4,none⟩) hbk2).trans e4;have HCOPY := hide (copy_any cd[k] (HSML.out _ (List.getElem_mem hkl)) (wr.alloc (.cells y.cells 27)) y (hy.grow (HGI.out.alloc _)));have hy1 := (Blk.new wr 27 y.cells).cell;obtain ⟨iv0,hi0,hz0,hz1,hz2⟩ := info_parts info_val3;have Hi0 := hide hi0;have Hz0 := hide hz0
     have Hz1 := hide hz1;have Hz2 := hide hz2;clear e0 e1 e2 e3 e4 hy hi0 hz0 hz1 hz2;go_wp2_with fail;refine HCOPY.out.mono ?_;rintro e w3 ⟨cv,rfl,hin,hg3⟩;have HIN := hide hin;have HG3 := hide (((Grow.refl wr).alloc (.cells y.cells 27)).trans hg3);have HGO3 := hide (HGO.out.trans HG3.out);have hzz : wr.heap.size < (wr.alloc (.cells y.cells 27)).heap.size := by simp
     have HV4 := hide ((HVR.out.grow vR_mono HG3.out).grow vR_mono ((Grow.refl w3).alloc (.cells cv.cells 27)));have HPART := hide (show IsV (AtX (w3.alloc (.cells cv.cells 27)) (fun q => ablk A6 = some q ∨ (CpS w q ∨ ablk A' = some q))) cd[k] cv from by
      refine IsV.mono (AtX.kept (Kept.none_ ((Grow.refl w3).alloc _)) (fun _ h => h.elim)) _ _ (IsV.mono (AtX.ofW (Nat.le_refl _) fun q hq => ?_) _ _ hin.atW);left;rcases hq with hq | hq
      ·have := (World.ownsRow.lt HVR.out.row q (by rw [ownBlock_slice];exact hq)).2;omega
      have := HSMR.out q hq;have := HGO.out.size;omega)
     clear hin hg3 d0 d1 d2 d3 d4 hy1 hzz;have hsz4 : wo.heap.size ≤ (w3.alloc (.cells cv.cells 27)).heap.size := Nat.le_trans HGO3.out.size (by simp);go_wp2_with (first | (at_builtin;refine wpList_append_src rfl (.tmp 32) (.tmp 35) 24 24 rfl wo.heap.size 27 iv0 _ 5 88 under_vals Hi0.out Hz0.out Hz1.out Hz2.out rfl (.slice A6 cs.length c6) cs.length (cellsV cs) rfl HV4.out.row _ 1 cv.cells.toList rfl (Src.oneW (W := w3) cv _ rfl) (by have := HCL.out;omega) (by simp only [maxLen];have := HCL.out;omega) hsz4 ?_;intro A7 c7 w7 hown7 hgr7 hat7) | fail);have HV7 := hide (GR.add (f := vF) (z := 5) vR_mono HV4.out HPART.out hown7 hgr7 hat7);have HGR7 := hide ((HGO3.out.alloc (.cells cv.cells 27)).grown hgr7 (fun q hq => (World.ownsRow.lt HV4.out.row q hq).1))
     have HB57 := hide (((HB5R.out.grow HG3.out).alloc (.cells cv.cells 27)).own hgr7 (fun q hq e => by rw [ownBlock_slice,e] at hq;exact ownT_blk HVR.out.row HB5R.out (by decide) hq));clear hown7 hgr7 hat7;go_roundg gk2
     case measure => omega
     case rel => exact ⟨k + 1,A7,c7,cs ++ [cv],by omega,by omega,by go_num,by simp,by rw [← take_snocC hkl rfl];exact HV7.out,HB57.out,HGR7.out⟩
    have hkc : k = cd.length := by omega
    subst hkc;have hcl := HCL.out;have hesl : es'.length ≤ 1000000000 := by have := HEL.out;omega
    have hvr := HVR.out;rw [List.take_length] at hvr;have HVR2 := hide hvr;have hb5 := HB5R.out.cell;have HS := hide (fun (W : World) (hg : Grow wr W) => show W.cell? ⟨wo.heap.size,0,none⟩ = some (.string nm) ∧ W.cell? ⟨wo.heap.size,2,none⟩ = some (.slice xA cx.length xc) from
     ⟨(hg.below.cell (p := ⟨wo.heap.size,0,none⟩) HB5R.out.lt).trans (HB5R.out.cell 0),(hg.below.cell (p := ⟨wo.heap.size,2,none⟩) HB5R.out.lt).trans (HB5R.out.cell 2)⟩)
    have HBB := hide (fun (W : World) (hg : Grow wr W) => ((HB4R.out.grow HGO.out).grow hg).cell 0);have HRXF := hide (fun (W : World) (hg : Grow wr W) => show (W.alloc (.cells curX 64)).ownsRow wo.heap.size 64 3 (.slice (some ⟨W.heap.size,0,none⟩) 0 cx.length) 0 [] ∧ Reads (AtW (W.alloc (.cells curX 64)) 0 (W.alloc (.cells curX 64)).heap.size) 3 xA cx.length (cellsX cx) from
     ⟨World.ownsRow_made (base := wo.heap.size) (e := 64) (size := 3) W curX cx.length (Nat.le_trans HGO.out.size hg.size) (by simp only [maxLen];omega) HCX.out,Reads.mono (AtW.below (((HG.out.trans HGO.out).trans hg).alloc _).below (Nat.le_refl _) (Nat.le_refl _) (((HG.out.trans HGO.out).trans hg).alloc _).size) HIX.out⟩)
    have HDL := hide (show cd.length ≤ 140737488355328 by omega);obtain ⟨ix0,hx0,hx1,hx2,hx3⟩ := info_parts infoX;have Hx0 := hide hx0;have Hx1 := hide hx1;have Hx2 := hide hx2;have Hx3 := hide hx3;obtain ⟨i0,hi0,hz0,hz1,hz2⟩ := info_parts infoC;have Hi0 := hide hi0;have Hz0 := hide hz0;have Hz1 := hide hz1;have Hz2 := hide hz2;clear hvr hx0 hx1 hx2 hx3 hi0 hz0 hz1 hz2 hb5;have hhs0 := HS.out _ (Grow.refl wr);go_wp2_with fail;refine wp_region_noPanic ?_;refine wp_region_held_drew (S := fun w' => w'.cell? ⟨wo.heap.size,0,none⟩ = some (.string nm) ∧ w'.cell? ⟨wo.heap.size,2,none⟩ = some (.slice xA cx.length xc)) (by kernel_rfl) (HS.out _ ((Grow.refl _).drew)) (fun hHeld => ?_);have HG2 := hide ((Grow.refl wr).drew);generalize wr.drew = W2 at HG2 hHeld ⊢;have HRX := hide (HRXF.out _ HG2.out).1;have HSX := hide (HRXF.out _ HG2.out).2
    have HLX := hide (show wo.heap.size ≤ (W2.alloc (.cells curX 64)).heap.size from Nat.le_trans HGO.out.size (HG2.out.alloc _).size);refine tk_ 0 ?_;refine tk_ 2 ?_;refine tx_ 3 ?_;refine tk_ 4 ?_;refine tk_ 5 ?_;refine tx_ 6 ?_;refine tk_ 7 ?_;refine tk_ 9 ?_;refine tx_ 10 ?_;refine rr_ [1,8] ?_;refine rd1_ (fun K hK => ?_) (rd1_ (fun K hK => ?_) AllReadyH.nil)
    ·have hbb := HBB.out _ HG2.out;go_simp;refine hK.out _ _ (HS.out _ HG2.out) (fun hHeld => ?_);clear hbb;clear hK K
     try simp only [ly_]
     refine r1_ 8 (fun K hK => ?_);go_simp;refine hk_ hK (HS.out _ (HG2.out.alloc _)) (fun hHeld => ?_);clear hK K;refine r1_ 11 (fun K hK => ?_);refine step_append_src (by rfl) (.tmp 46) (.tmp 48) 46 46 (by rfl) wo.heap.size 64 ix0 _ 3 40 underX Hx0.out Hx1.out Hx2.out Hx3.out (by rfl) (.slice (some ⟨W2.heap.size,0,none⟩) 0 cx.length) 0 [] (by rfl) HRX.out (.slice xA cx.length xc) cx.length (cellsX cx) (by rfl) (Src.ofReads underX HSX.out (cellsX_one cx)) (by omega) (by simp only [maxLen];omega) HLX.out ?_;intro A7 c7 w7 hown7 hgr7 hat7;have HG7 := hide ((HG2.out.alloc (.cells curX 64)).grown hgr7 (fun k hk => by simp [Value.ownBlock] at hk;have := HG2.out.size;omega));rw [List.nil_append] at hown7;simp only [Nat.zero_add] at hown7;have HOWN7 := hide hown7;clear hown7 hgr7 hat7;refine hk_ hK (HS.out _ HG7.out) (fun hHeld => ?_);clear hK K;refine tk_ 12 ?_
     refine r1_ 13 (fun K hK => ?_);go_simp;refine hk_ hK (HS.out _ (HG7.out.alloc _)) (fun hHeld => ?_);clear hK K;refine r1_ 14 (fun K hK => ?_);have HE := hide (cpy_elem (HVR2.out.grow vR_mono (HG7.out.alloc (.cells (Cc.cells ⟨nm,A6,cd.length,c6,A7,cx.length,c7⟩) 48))) (HOWN7.out.alloc (.cells (Cc.cells ⟨nm,A6,cd.length,c6,A7,cx.length,c7⟩) 48)) (A' := A') HCP.out HAL.out HDL.out nm);have HCRE := hide ((HCR.out.grow cR_mono HGO.out).grow cR_mono (HG7.out.alloc (.cells (Cc.cells ⟨nm,A6,cd.length,c6,A7,cx.length,c7⟩) 48)));have HLW := hide (show w.heap.size ≤ (w7.alloc (.cells (Cc.cells ⟨nm,A6,cd.length,c6,A7,cx.length,c7⟩) 48)).heap.size from Nat.le_trans (HG.out.trans HGO.out).size (HG7.out.alloc _).size)
     refine step_append_src (by rfl) (.tmp 39) (.tmp 51) 42 42 (by rfl) w.heap.size 48 i0 _ 3 64 underC Hi0.out Hz0.out Hz1.out Hz2.out (by rfl) (.slice A' es'.length c') es'.length (cellsC es') (by rfl) HCRE.out.row _ 1 (Cc.cells ⟨nm,A6,cd.length,c6,A7,cx.length,c7⟩).toList (by rfl) (Src.coll ⟨nm,A6,cd.length,c6,A7,cx.length,c7⟩ _ rfl) (by omega) (by simp only [maxLen];omega) HLW.out ?_;intro A8 c8 w8 hown8 hgr8 hat8;have HCR8 := hide (GR.add (f := cF) (z := 3) cR_mono HCRE.out HE.out hown8 hgr8 hat8);have HBQ8 := hide ((((HB4R.out.grow HGO.out).grow HG7.out).alloc (.cells (Cc.cells ⟨nm,A6,cd.length,c6,A7,cx.length,c7⟩) 48)).own hgr8 (fun q hq e => by rw [ownBlock_slice,e] at hq;exact ownT_blk HCR.out.row HB4R.out (by decide) hq))
     have HBP8 := hide ((((HB1R.out.grow HGO.out).grow HG7.out).alloc (.cells (Cc.cells ⟨nm,A6,cd.length,c6,A7,cx.length,c7⟩) 48)).own hgr8 (fun q hq e => by rw [ownBlock_slice,e] at hq;exact ownT_blk HCR.out.row HB1R.out (by decide) hq));have HBO8 := hide ((((HB5R.out).grow HG7.out).alloc (.cells (Cc.cells ⟨nm,A6,cd.length,c6,A7,cx.length,c7⟩) 48)).own hgr8 (fun q hq e => by rw [ownBlock_slice,e] at hq;have := HAL.out _ hq;omega));have HG8 := hide (((HG.out.trans HGO.out).trans (HG7.out.alloc (.cells (Cc.cells ⟨nm,A6,cd.length,c6,A7,cx.length,c7⟩) 48))).grown hgr8 (fun q hq => (World.ownsRow.lt HCRE.out.row q hq).1));have hbb8 := HBQ8.out.cell;have hbf8 := HBQ8.out.frozen;clear hown8 hgr8 hat8;refine hK.out _ _ ⟨HBO8.out.cell 0,HBO8.out.cell 2⟩ (fun hHeld => ?_);clear hK K
     try simp only [ly_]
     refine tk_ 15 ?_;refine r1_ 16 (fun K hK => ?_);go_simp;have HC9 := hide (HCR8.out.kept cR_mono (Kept.set (S := CpS w) (Kept.refl _ w8) (p := ⟨w.heap.size + 1 + 1 + 1,0,none⟩) (.inl rfl) (.slice A8 (es'.length + 1) c8)) (fun _ h => h) (fun g hg e => by
      rcases e with rfl | rfl | e
      ·exact ownT_blk HCR8.out.row HBQ8.out (by decide) hg
      ·exact ownT_blk HCR8.out.row HBP8.out (by decide) hg
      have := (World.ownsRow.lt HCR8.out.row g (by rw [ownBlock_slice];exact hg)).1;omega))
     have HB9 := hide (HBQ8.out.set_ 0 (.slice A8 (es'.length + 1) c8));have HP9 := hide (HBP8.out.far (p := ⟨w.heap.size + 1 + 1 + 1,0,none⟩) (by show w.heap.size + 1 ≠ w.heap.size + 1 + 1 + 1;omega) (.slice A8 (es'.length + 1) c8));have HO9 := hide (HBO8.out.far (p := ⟨w.heap.size + 1 + 1 + 1,0,none⟩) (by show wo.heap.size ≠ w.heap.size + 1 + 1 + 1;have := HBL.out;omega) (.slice A8 (es'.length + 1) c8));have HG9 := hide (HG8.out.setCell (p := ⟨w.heap.size + 1 + 1 + 1,0,none⟩) (by show w.heap.size ≤ w.heap.size + 1 + 1 + 1;omega) (.slice A8 (es'.length + 1) c8));refine hK.out _ _ ⟨HO9.out.cell 0,HO9.out.cell 2⟩ (fun hHeld => ?_);clear hK K
     try simp only [ly_]
     refine dn_ ?_;clear hbb8 hbf8;go_wp2_with fail;go_roundg gk'
     case measure => omega
     case rel =>
      have hl : (es' ++ [(⟨nm,A6,cd.length,c6,A7,cx.length,c7⟩ : Cc)]).length = es'.length + 1 := by simp
      refine ⟨j + 1,A8,c8,es' ++ [⟨nm,A6,cd.length,c6,A7,cx.length,c7⟩],by omega,by omega,by go_num,?_,by rw [hl];exact HB9.out,HP9.out,HG9.out⟩;have h9 := HC9.out;rw [← HC.out,take_snocC hlt rfl] at h9;exact h9
    go_simp;refine hk_ hK (HS.out _ (HG2.out.alloc _)) (fun hHeld => ?_);clear hK K;refine rr_ [1,11] ?_;refine rd1_ (fun K hK => ?_) (rd1_ (fun K hK => ?_) AllReadyH.nil)
    ·have hbb := HBB.out _ (HG2.out.alloc (.cells curX 64));go_simp;refine hK.out _ _ (HS.out _ (HG2.out.alloc (.cells curX 64))) (fun hHeld => ?_);clear hbb;clear hK K
     try simp only [ly_]
     refine r1_ 11 (fun K hK => ?_);refine step_append_src (by rfl) (.tmp 46) (.tmp 48) 46 46 (by rfl) wo.heap.size 64 ix0 _ 3 40 underX Hx0.out Hx1.out Hx2.out Hx3.out (by rfl) (.slice (some ⟨W2.heap.size,0,none⟩) 0 cx.length) 0 [] (by rfl) HRX.out (.slice xA cx.length xc) cx.length (cellsX cx) (by rfl) (Src.ofReads underX HSX.out (cellsX_one cx)) (by omega) (by simp only [maxLen];omega) HLX.out ?_;intro A7 c7 w7 hown7 hgr7 hat7;have HG7 := hide ((HG2.out.alloc (.cells curX 64)).grown hgr7 (fun k hk => by simp [Value.ownBlock] at hk;have := HG2.out.size;omega));rw [List.nil_append] at hown7;simp only [Nat.zero_add] at hown7;have HOWN7 := hide hown7;clear hown7 hgr7 hat7;refine hk_ hK (HS.out _ HG7.out) (fun hHeld => ?_);clear hK K;refine tk_ 12 ?_;refine r1_ 13 (fun K hK => ?_);go_simp;refine hk_ hK (HS.out _ (HG7.out.alloc _)) (fun hHeld => ?_);clear hK K
     refine r1_ 14 (fun K hK => ?_);have HE := hide (cpy_elem (HVR2.out.grow vR_mono (HG7.out.alloc (.cells (Cc.cells ⟨nm,A6,cd.length,c6,A7,cx.length,c7⟩) 48))) (HOWN7.out.alloc (.cells (Cc.cells ⟨nm,A6,cd.length,c6,A7,cx.length,c7⟩) 48)) (A' := A') HCP.out HAL.out HDL.out nm);have HCRE := hide ((HCR.out.grow cR_mono HGO.out).grow cR_mono (HG7.out.alloc (.cells (Cc.cells ⟨nm,A6,cd.length,c6,A7,cx.length,c7⟩) 48)));have HLW := hide (show w.heap.size ≤ (w7.alloc (.cells (Cc.cells ⟨nm,A6,cd.length,c6,A7,cx.length,c7⟩) 48)).heap.size from Nat.le_trans (HG.out.trans HGO.out).size (HG7.out.alloc _).size)
     refine step_append_src (by rfl) (.tmp 39) (.tmp 51) 42 42 (by rfl) w.heap.size 48 i0 _ 3 64 underC Hi0.out Hz0.out Hz1.out Hz2.out (by rfl) (.slice A' es'.length c') es'.length (cellsC es') (by rfl) HCRE.out.row _ 1 (Cc.cells ⟨nm,A6,cd.length,c6,A7,cx.length,c7⟩).toList (by rfl) (Src.coll ⟨nm,A6,cd.length,c6,A7,cx.length,c7⟩ _ rfl) (by omega) (by simp only [maxLen];omega) HLW.out ?_;intro A8 c8 w8 hown8 hgr8 hat8;have HCR8 := hide (GR.add (f := cF) (z := 3) cR_mono HCRE.out HE.out hown8 hgr8 hat8);have HBQ8 := hide ((((HB4R.out.grow HGO.out).grow HG7.out).alloc (.cells (Cc.cells ⟨nm,A6,cd.length,c6,A7,cx.length,c7⟩) 48)).own hgr8 (fun q hq e => by rw [ownBlock_slice,e] at hq;exact ownT_blk HCR.out.row HB4R.out (by decide) hq))
     have HBP8 := hide ((((HB1R.out.grow HGO.out).grow HG7.out).alloc (.cells (Cc.cells ⟨nm,A6,cd.length,c6,A7,cx.length,c7⟩) 48)).own hgr8 (fun q hq e => by rw [ownBlock_slice,e] at hq;exact ownT_blk HCR.out.row HB1R.out (by decide) hq));have HBO8 := hide ((((HB5R.out).grow HG7.out).alloc (.cells (Cc.cells ⟨nm,A6,cd.length,c6,A7,cx.length,c7⟩) 48)).own hgr8 (fun q hq e => by rw [ownBlock_slice,e] at hq;have := HAL.out _ hq;omega));have HG8 := hide (((HG.out.trans HGO.out).trans (HG7.out.alloc (.cells (Cc.cells ⟨nm,A6,cd.length,c6,A7,cx.length,c7⟩) 48))).grown hgr8 (fun q hq => (World.ownsRow.lt HCRE.out.row q hq).1));have hbb8 := HBQ8.out.cell;have hbf8 := HBQ8.out.frozen;clear hown8 hgr8 hat8;refine hK.out _ _ ⟨HBO8.out.cell 0,HBO8.out.cell 2⟩ (fun hHeld => ?_);clear hK K
     try simp only [ly_]
     refine tk_ 15 ?_;refine r1_ 16 (fun K hK => ?_);go_simp;have HC9 := hide (HCR8.out.kept cR_mono (Kept.set (S := CpS w) (Kept.refl _ w8) (p := ⟨w.heap.size + 1 + 1 + 1,0,none⟩) (.inl rfl) (.slice A8 (es'.length + 1) c8)) (fun _ h => h) (fun g hg e => by
      rcases e with rfl | rfl | e
      ·exact ownT_blk HCR8.out.row HBQ8.out (by decide) hg
      ·exact ownT_blk HCR8.out.row HBP8.out (by decide) hg
      have := (World.ownsRow.lt HCR8.out.row g (by rw [ownBlock_slice];exact hg)).1;omega))
     have HB9 := hide (HBQ8.out.set_ 0 (.slice A8 (es'.length + 1) c8));have HP9 := hide (HBP8.out.far (p := ⟨w.heap.size + 1 + 1 + 1,0,none⟩) (by show w.heap.size + 1 ≠ w.heap.size + 1 + 1 + 1;omega) (.slice A8 (es'.length + 1) c8));have HO9 := hide (HBO8.out.far (p := ⟨w.heap.size + 1 + 1 + 1,0,none⟩) (by show wo.heap.size ≠ w.heap.size + 1 + 1 + 1;have := HBL.out;omega) (.slice A8 (es'.length + 1) c8));have HG9 := hide (HG8.out.setCell (p := ⟨w.heap.size + 1 + 1 + 1,0,none⟩) (by show w.heap.size ≤ w.heap.size + 1 + 1 + 1;omega) (.slice A8 (es'.length + 1) c8));refine hK.out _ _ ⟨HO9.out.cell 0,HO9.out.cell 2⟩ (fun hHeld => ?_);clear hK K
     try simp only [ly_]
     refine dn_ ?_;clear hbb8 hbf8;go_wp2_with fail;go_roundg gk'
     case measure => omega
     case rel =>
      have hl : (es' ++ [(⟨nm,A6,cd.length,c6,A7,cx.length,c7⟩ : Cc)]).length = es'.length + 1 := by simp
      refine ⟨j + 1,A8,c8,es' ++ [⟨nm,A6,cd.length,c6,A7,cx.length,c7⟩],by omega,by omega,by go_num,?_,by rw [hl];exact HB9.out,HP9.out,HG9.out⟩;have h9 := HC9.out;rw [← HC.out,take_snocC hlt rfl] at h9;exact h9
    refine step_append_src (by rfl) (.tmp 46) (.tmp 48) 46 46 (by rfl) wo.heap.size 64 ix0 _ 3 40 underX Hx0.out Hx1.out Hx2.out Hx3.out (by rfl) (.slice (some ⟨W2.heap.size,0,none⟩) 0 cx.length) 0 [] (by rfl) HRX.out (.slice xA cx.length xc) cx.length (cellsX cx) (by rfl) (Src.ofReads underX HSX.out (cellsX_one cx)) (by omega) (by simp only [maxLen];omega) HLX.out ?_;intro A7 c7 w7 hown7 hgr7 hat7;have HG7 := hide ((HG2.out.alloc (.cells curX 64)).grown hgr7 (fun k hk => by simp [Value.ownBlock] at hk;have := HG2.out.size;omega));rw [List.nil_append] at hown7;simp only [Nat.zero_add] at hown7;have HOWN7 := hide hown7;clear hown7 hgr7 hat7;refine hk_ hK (HS.out _ HG7.out) (fun hHeld => ?_);clear hK K;refine tk_ 12 ?_;refine rr_ [1,13] ?_;refine rd1_ (fun K hK => ?_) (rd1_ (fun K hK => ?_) AllReadyH.nil)
    ·have hbb := HBB.out _ HG7.out;go_simp;refine hK.out _ _ (HS.out _ HG7.out) (fun hHeld => ?_);clear hbb;clear hK K
     try simp only [ly_]
     refine r1_ 13 (fun K hK => ?_);go_simp;refine hk_ hK (HS.out _ (HG7.out.alloc _)) (fun hHeld => ?_);clear hK K;refine r1_ 14 (fun K hK => ?_);have HE := hide (cpy_elem (HVR2.out.grow vR_mono (HG7.out.alloc (.cells (Cc.cells ⟨nm,A6,cd.length,c6,A7,cx.length,c7⟩) 48))) (HOWN7.out.alloc (.cells (Cc.cells ⟨nm,A6,cd.length,c6,A7,cx.length,c7⟩) 48)) (A' := A') HCP.out HAL.out HDL.out nm);have HCRE := hide ((HCR.out.grow cR_mono HGO.out).grow cR_mono (HG7.out.alloc (.cells (Cc.cells ⟨nm,A6,cd.length,c6,A7,cx.length,c7⟩) 48)));have HLW := hide (show w.heap.size ≤ (w7.alloc (.cells (Cc.cells ⟨nm,A6,cd.length,c6,A7,cx.length,c7⟩) 48)).heap.size from Nat.le_trans (HG.out.trans HGO.out).size (HG7.out.alloc _).size)
     refine step_append_src (by rfl) (.tmp 39) (.tmp 51) 42 42 (by rfl) w.heap.size 48 i0 _ 3 64 underC Hi0.out Hz0.out Hz1.out Hz2.out (by rfl) (.slice A' es'.length c') es'.length (cellsC es') (by rfl) HCRE.out.row _ 1 (Cc.cells ⟨nm,A6,cd.length,c6,A7,cx.length,c7⟩).toList (by rfl) (Src.coll ⟨nm,A6,cd.length,c6,A7,cx.length,c7⟩ _ rfl) (by omega) (by simp only [maxLen];omega) HLW.out ?_;intro A8 c8 w8 hown8 hgr8 hat8;have HCR8 := hide (GR.add (f := cF) (z := 3) cR_mono HCRE.out HE.out hown8 hgr8 hat8);have HBQ8 := hide ((((HB4R.out.grow HGO.out).grow HG7.out).alloc (.cells (Cc.cells ⟨nm,A6,cd.length,c6,A7,cx.length,c7⟩) 48)).own hgr8 (fun q hq e => by rw [ownBlock_slice,e] at hq;exact ownT_blk HCR.out.row HB4R.out (by decide) hq))
     have HBP8 := hide ((((HB1R.out.grow HGO.out).grow HG7.out).alloc (.cells (Cc.cells ⟨nm,A6,cd.length,c6,A7,cx.length,c7⟩) 48)).own hgr8 (fun q hq e => by rw [ownBlock_slice,e] at hq;exact ownT_blk HCR.out.row HB1R.out (by decide) hq));have HBO8 := hide ((((HB5R.out).grow HG7.out).alloc (.cells (Cc.cells ⟨nm,A6,cd.length,c6,A7,cx.length,c7⟩) 48)).own hgr8 (fun q hq e => by rw [ownBlock_slice,e] at hq;have := HAL.out _ hq;omega));have HG8 := hide (((HG.out.trans HGO.out).trans (HG7.out.alloc (.cells (Cc.cells ⟨nm,A6,cd.length,c6,A7,cx.length,c7⟩) 48))).grown hgr8 (fun q hq => (World.ownsRow.lt HCRE.out.row q hq).1));have hbb8 := HBQ8.out.cell;have hbf8 := HBQ8.out.frozen;clear hown8 hgr8 hat8;refine hK.out _ _ ⟨HBO8.out.cell 0,HBO8.out.cell 2⟩ (fun hHeld => ?_);clear hK K
     try simp only [ly_]
     refine tk_ 15 ?_;refine r1_ 16 (fun K hK => ?_);go_simp;have HC9 := hide (HCR8.out.kept cR_mono (Kept.set (S := CpS w) (Kept.refl _ w8) (p := ⟨w.heap.size + 1 + 1 + 1,0,none⟩) (.inl rfl) (.slice A8 (es'.length + 1) c8)) (fun _ h => h) (fun g hg e => by
      rcases e with rfl | rfl | e
      ·exact ownT_blk HCR8.out.row HBQ8.out (by decide) hg
      ·exact ownT_blk HCR8.out.row HBP8.out (by decide) hg
      have := (World.ownsRow.lt HCR8.out.row g (by rw [ownBlock_slice];exact hg)).1;omega))
     have HB9 := hide (HBQ8.out.set_ 0 (.slice A8 (es'.length + 1) c8));have HP9 := hide (HBP8.out.far (p := ⟨w.heap.size + 1 + 1 + 1,0,none⟩) (by show w.heap.size + 1 ≠ w.heap.size + 1 + 1 + 1;omega) (.slice A8 (es'.length + 1) c8));have HO9 := hide (HBO8.out.far (p := ⟨w.heap.size + 1 + 1 + 1,0,none⟩) (by show wo.heap.size ≠ w.heap.size + 1 + 1 + 1;have := HBL.out;omega) (.slice A8 (es'.length + 1) c8));have HG9 := hide (HG8.out.setCell (p := ⟨w.heap.size + 1 + 1 + 1,0,none⟩) (by show w.heap.size ≤ w.heap.size + 1 + 1 + 1;omega) (.slice A8 (es'.length + 1) c8));refine hK.out _ _ ⟨HO9.out.cell 0,HO9.out.cell 2⟩ (fun hHeld => ?_);clear hK K
     try simp only [ly_]
     refine dn_ ?_;clear hbb8 hbf8;go_wp2_with fail;go_roundg gk'
     case measure => omega
     case rel =>
      have hl : (es' ++ [(⟨nm,A6,cd.length,c6,A7,cx.length,c7⟩ : Cc)]).length = es'.length + 1 := by simp
      refine ⟨j + 1,A8,c8,es' ++ [⟨nm,A6,cd.length,c6,A7,cx.length,c7⟩],by omega,by omega,by go_num,?_,by rw [hl];exact HB9.out,HP9.out,HG9.out⟩;have h9 := HC9.out;rw [← HC.out,take_snocC hlt rfl] at h9;exact h9
    go_simp;refine hk_ hK (HS.out _ (HG7.out.alloc _)) (fun hHeld => ?_);clear hK K;refine r1_ 1 (fun K hK => ?_);have hbb := HBB.out _ (HG7.out.alloc (.cells (Cc.cells ⟨nm,A6,cd.length,c6,A7,cx.length,c7⟩) 48));go_simp;refine hK.out _ _ (HS.out _ (HG7.out.alloc (.cells (Cc.cells ⟨nm,A6,cd.length,c6,A7,cx.length,c7⟩) 48))) (fun hHeld => ?_);clear hbb;clear hK K
    try simp only [ly_]
    refine r1_ 14 (fun K hK => ?_);have HE := hide (cpy_elem (HVR2.out.grow vR_mono (HG7.out.alloc (.cells (Cc.cells ⟨nm,A6,cd.length,c6,A7,cx.length,c7⟩) 48))) (HOWN7.out.alloc (.cells (Cc.cells ⟨nm,A6,cd.length,c6,A7,cx.length,c7⟩) 48)) (A' := A') HCP.out HAL.out HDL.out nm);have HCRE := hide ((HCR.out.grow cR_mono HGO.out).grow cR_mono (HG7.out.alloc (.cells (Cc.cells ⟨nm,A6,cd.length,c6,A7,cx.length,c7⟩) 48)));have HLW := hide (show w.heap.size ≤ (w7.alloc (.cells (Cc.cells ⟨nm,A6,cd.length,c6,A7,cx.length,c7⟩) 48)).heap.size from Nat.le_trans (HG.out.trans HGO.out).size (HG7.out.alloc _).size)
    refine step_append_src (by rfl) (.tmp 39) (.tmp 51) 42 42 (by rfl) w.heap.size 48 i0 _ 3 64 underC Hi0.out Hz0.out Hz1.out Hz2.out (by rfl) (.slice A' es'.length c') es'.length (cellsC es') (by rfl) HCRE.out.row _ 1 (Cc.cells ⟨nm,A6,cd.length,c6,A7,cx.length,c7⟩).toList (by rfl) (Src.coll ⟨nm,A6,cd.length,c6,A7,cx.length,c7⟩ _ rfl) (by omega) (by simp only [maxLen];omega) HLW.out ?_;intro A8 c8 w8 hown8 hgr8 hat8;have HCR8 := hide (GR.add (f := cF) (z := 3) cR_mono HCRE.out HE.out hown8 hgr8 hat8);have HBQ8 := hide ((((HB4R.out.grow HGO.out).grow HG7.out).alloc (.cells (Cc.cells ⟨nm,A6,cd.length,c6,A7,cx.length,c7⟩) 48)).own hgr8 (fun q hq e => by rw [ownBlock_slice,e] at hq;exact ownT_blk HCR.out.row HB4R.out (by decide) hq))
    have HBP8 := hide ((((HB1R.out.grow HGO.out).grow HG7.out).alloc (.cells (Cc.cells ⟨nm,A6,cd.length,c6,A7,cx.length,c7⟩) 48)).own hgr8 (fun q hq e => by rw [ownBlock_slice,e] at hq;exact ownT_blk HCR.out.row HB1R.out (by decide) hq));have HBO8 := hide ((((HB5R.out).grow HG7.out).alloc (.cells (Cc.cells ⟨nm,A6,cd.length,c6,A7,cx.length,c7⟩) 48)).own hgr8 (fun q hq e => by rw [ownBlock_slice,e] at hq;have := HAL.out _ hq;omega));have HG8 := hide (((HG.out.trans HGO.out).trans (HG7.out.alloc (.cells (Cc.cells ⟨nm,A6,cd.length,c6,A7,cx.length,c7⟩) 48))).grown hgr8 (fun q hq => (World.ownsRow.lt HCRE.out.row q hq).1));have hbb8 := HBQ8.out.cell;have hbf8 := HBQ8.out.frozen;clear hown8 hgr8 hat8;refine hK.out _ _ ⟨HBO8.out.cell 0,HBO8.out.cell 2⟩ (fun hHeld => ?_);clear hK K
    try simp only [ly_]
    refine tk_ 15 ?_;refine r1_ 16 (fun K hK => ?_);go_simp;have HC9 := hide (HCR8.out.kept cR_mono (Kept.set (S := CpS w) (Kept.refl _ w8) (p := ⟨w.heap.size + 1 + 1 + 1,0,none⟩) (.inl rfl) (.slice A8 (es'.length + 1) c8)) (fun _ h => h) (fun g hg e => by
     rcases e with rfl | rfl | e
     ·exact ownT_blk HCR8.out.row HBQ8.out (by decide) hg
     ·exact ownT_blk HCR8.out.row HBP8.out (by decide) hg
     have := (World.ownsRow.lt HCR8.out.row g (by rw [ownBlock_slice];exact hg)).1;omega))
    have HB9 := hide (HBQ8.out.set_ 0 (.slice A8 (es'.length + 1) c8));have HP9 := hide (HBP8.out.far (p := ⟨w.heap.size + 1 + 1 + 1,0,none⟩) (by show w.heap.size + 1 ≠ w.heap.size + 1 + 1 + 1;omega) (.slice A8 (es'.length + 1) c8));have HO9 := hide (HBO8.out.far (p := ⟨w.heap.size + 1 + 1 + 1,0,none⟩) (by show wo.heap.size ≠ w.heap.size + 1 + 1 + 1;have := HBL.out;omega) (.slice A8 (es'.length + 1) c8));have HG9 := hide (HG8.out.setCell (p := ⟨w.heap.size + 1 + 1 + 1,0,none⟩) (by show w.heap.size ≤ w.heap.size + 1 + 1 + 1;omega) (.slice A8 (es'.length + 1) c8));refine hK.out _ _ ⟨HO9.out.cell 0,HO9.out.cell 2⟩ (fun hHeld => ?_);clear hK K
    try simp only [ly_]
    refine dn_ ?_;clear hbb8 hbf8;go_wp2_with fail;go_roundg gk'
    case measure => omega
    case rel =>
     have hl : (es' ++ [(⟨nm,A6,cd.length,c6,A7,cx.length,c7⟩ : Cc)]).length = es'.length + 1 := by simp
     refine ⟨j + 1,A8,c8,es' ++ [⟨nm,A6,cd.length,c6,A7,cx.length,c7⟩],by omega,by omega,by go_num,?_,by rw [hl];exact HB9.out,HP9.out,HG9.out⟩;have h9 := HC9.out;rw [← HC.out,take_snocC hlt rfl] at h9;exact h9
  have hjl : j = st.length := by omega
  subst hjl;have hcr := HCR.out;rw [List.take_length] at hcr;have HC9 := hide (hcr.kept cR_mono (Kept.set (S := CpS w) (Kept.refl _ wr) (p := ⟨w.heap.size + 1,0,none⟩) (.inr (.inl rfl)) (.slice A' es'.length c')) (fun _ h => h) (fun g hg e => by
   rcases e with rfl | rfl | e
   ·exact ownT_blk hcr.row HB4R.out (by decide) hg
   ·exact ownT_blk hcr.row HB1R.out (by decide) hg
   have := (World.ownsRow.lt hcr.row g (by rw [ownBlock_slice];exact hg)).1;omega))
  have HEL2 := hide (show es'.length = st.length from HEL.out);have HBR := hide HB1R.out;have hb1 := HB1R.out.cell;have hb4 := HB4R.out.cell;have hbf := HB1R.out.frozen;clear hcr;have HGF := hide (HG.out.setCell (p := ⟨w.heap.size + 1,0,none⟩) (by show w.heap.size ≤ w.heap.size + 1;omega) (.slice A' es'.length c'));go_wp2_with fail;exact bodyPost_ret (stres rfl rfl (show Blk _ _ _ #[.slice A' es'.length c'] from HBR.out.set_ 0 _)) rfl ⟨HGF.out,A',c',es',by rw [HEL2.out],HC9.out.row,HC9.out.two.mono fun a b k => cR_mono _ _ (AtX.sub fun q hq => hq.imp id fun h => .inr (.inr h)) a b k⟩
end
end Go.Proofs.YtndjopkdbdcmdaaGreatDoor
