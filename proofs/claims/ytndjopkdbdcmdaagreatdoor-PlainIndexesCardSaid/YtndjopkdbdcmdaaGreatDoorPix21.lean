/- Part 21 of the proof of pindexes_card. -/
import Derived.Test.YtndjopkdbdcmdaaGreatDoorPix17
import Derived.Test.YtndjopkdbdcmdaaGreatDoorPix18
import Derived.Test.YtndjopkdbdcmdaaGreatDoorPix19
import Derived.Test.YtndjopkdbdcmdaaGreatDoorPix20
set_option linter.unusedVariables false
set_option linter.unusedSimpArgs false
set_option maxRecDepth 100000
set_option maxHeartbeats 12800000
namespace Go.Proofs.YtndjopkdbdcmdaaGreatDoor
section
open Go.RowKit
theorem find_m (N B mb cap : Nat) (A : Option Addr) (es : List Cc) (st : List Co) (q : Rq) (ck cl ch cx : Cv) (w : World) (h : Mach w B mb A cap es st q ck cl ch cx) (hok : StOk N st) (hN : N ≤ 1000000) (hTB : ∀ W,Below B w W → Tabs W ∧ Len1 W) (hlc : q.low.count ≤ 20000) (hhc : q.high.count ≤ 20000) :
 Calls Tryz.prog 86 #[.pointer (some ⟨mb,0,none⟩)] w (MethC w B mb (findP st q)) := by
 have hs : st.length ≤ 140737488355328 := Mach.short hok;have HM := hide h
 cases hf : plF (cnm st) q.coll with
 | false =>
  have HC := hide (coll_m_no h hs hf);have HF := hide hf;clear h hok hf;go_enter Tryz.func86,Tryz.ntmps86;go_wp2_with fail;refine HC.out.mono ?_;rintro e w1 ⟨rfl,hg⟩;go_wp2_with fail;exact ⟨rfl,MethC.err (hg.below.mono HM.out.le) (by unfold findP;rw [if_pos HF.out])⟩
 | true =>
  cases hFF : plF (xnm (coAt st q.coll)) q.index with
  | false => exact find_noix N B mb cap A es st q ck cl ch cx w h hok hN hf hFF hTB hlc hhc
  | true => exact find_ix N B mb cap A es st q ck cl ch cx w h hok hN hf hFF hTB hlc hhc
end
section
open Go.RowKit
structure RqOk (q : Rq) : Prop where
 key : q.key.count ≤ 20000
 low : q.low.count ≤ 20000
 high : q.high.count ≤ 20000
 doc : q.doc.count ≤ 20000
 fit : q.doc.fit
structure MethOk (q : Rq) (w : World) (B : Nat) : Prop extends RqOk q where
 tabs : Tabs w
 len1 : Len1 w
 all : ∀ W,Below B w W → Tabs W ∧ Len1 W
def methF (k : Int) : Nat := if k = 1 then 79 else if k = 2 then 80 else if k = 3 then 81 else if k = 4 then 81 else if k = 5 then 82 else
 if k = 6 then 83 else if k = 7 then 84 else if k = 8 then 85 else if k = 9 then 86 else 87
theorem reqs_yes (k : Int) (h : 1 ≤ k ∧ k ≤ 10) : ∃ i,Instr.findNow (.int .i64) (.int .i64 k) reqs.toList 0 = some (some (i,.agg #[.func (.func (methF k)) #[] #[]])) := by
 have hk : k = 1 ∨ k = 2 ∨ k = 3 ∨ k = 4 ∨ k = 5 ∨ k = 6 ∨ k = 7 ∨ k = 8 ∨ k = 9 ∨ k = 10 := by omega
 rcases hk with rfl | rfl | rfl | rfl | rfl | rfl | rfl | rfl | rfl | rfl <;> exact ⟨_,rfl⟩
theorem meth_any (N B mb cap : Nat) (A : Option Addr) (es : List Cc) (st : List Co) (q : Rq) (ck cl ch cx : Cv) (w : World) (h : Mach w B mb A cap es st q ck cl ch cx) (hok : StOk N st) (hN : N ≤ 1000000) (hR : MethOk q w B) (hd : 1 ≤ q.do_ ∧ q.do_ ≤ 10) :
 Calls Tryz.prog (methF q.do_) #[.pointer (some ⟨mb,0,none⟩)] w (MethC w B mb (actP st q)) := by
 have hk : q.do_ = 1 ∨ q.do_ = 2 ∨ q.do_ = 3 ∨ q.do_ = 4 ∨ q.do_ = 5 ∨ q.do_ = 6 ∨ q.do_ = 7 ∨ q.do_ = 8 ∨ q.do_ = 9 ∨ q.do_ = 10 := by omega
 rcases hk with e | e | e | e | e | e | e | e | e | e
 ·rw [show methF q.do_ = 79 from by rw [e];rfl,show actP st q = makeP st q from by unfold actP;rw [e];rfl];exact make_any N B mb cap A es st q ck cl ch cx w h hok hN hR.tabs
 ·rw [show methF q.do_ = 80 from by rw [e];rfl,show actP st q = dropP st q from by unfold actP;rw [e];rfl];exact drop_any N B mb cap A es st q ck cl ch cx w h hok hN
 ·rw [show methF q.do_ = 81 from by rw [e];rfl,show actP st q = putP st q from by unfold actP;rw [e];rfl];exact put_m N B mb cap A es st q ck cl ch cx w h hok hN hR.tabs hR.len1 hR.doc hR.fit
 ·rw [show methF q.do_ = 81 from by rw [e];rfl,show actP st q = putP st q from by unfold actP;rw [e];rfl];exact put_m N B mb cap A es st q ck cl ch cx w h hok hN hR.tabs hR.len1 hR.doc hR.fit
 ·rw [show methF q.do_ = 82 from by rw [e];rfl,show actP st q = takeP st q from by unfold actP;rw [e];rfl];exact take_m N B mb cap A es st q ck cl ch cx w h hok hN hR.key hR.tabs
 ·rw [show methF q.do_ = 83 from by rw [e];rfl,show actP st q = getP st q from by unfold actP;rw [e];rfl];exact get_m N B mb cap A es st q ck cl ch cx w h hok hN hR.key hR.tabs
 ·rw [show methF q.do_ = 84 from by rw [e];rfl,show actP st q = addIxP st q from by unfold actP;rw [e];rfl];exact addIndex_m N B mb cap A es st q ck cl ch cx w h hok hN hR.tabs hR.len1
 ·rw [show methF q.do_ = 85 from by rw [e];rfl,show actP st q = unIxP st q from by unfold actP;rw [e];rfl];exact unindex_m N B mb cap A es st q ck cl ch cx w h hok hN
 ·rw [show methF q.do_ = 86 from by rw [e];rfl,show actP st q = findP st q from by unfold actP;rw [e];rfl];exact find_m N B mb cap A es st q ck cl ch cx w h hok hN (fun W hb => hR.all W hb) hR.low hR.high
 rw [show methF q.do_ = 87 from by rw [e];rfl,show actP st q = countP st q from by unfold actP;rw [e];rfl];exact count_any N B mb cap A es st q ck cl ch cx w h hok hN
theorem act_no {st : List Co} {q : Rq} (h : ¬ (1 ≤ q.do_ ∧ q.do_ ≤ 10)) : actP st q = .error 1 := by
 unfold actP;rw [if_neg (by omega),if_neg (by omega),if_neg (by omega),if_neg (by omega),if_neg (by omega),if_neg (by omega),if_neg (by omega),if_neg (by omega),if_neg (by omega),if_neg (by omega)]
end
section
open Go.RowKit
theorem mergeS {σ : Type} {P : Program} {md : Region.Mode} {ops : Array Oper} {Q : Exit → Act → World → Prop} {S : World → Prop} (μ : σ → Nat) (L : σ → Array Bool) (A : σ → Act) (I : σ → World → Prop)
 (h : ∀ s W,I s W → (∀ s' W',μ s' < μ s → I s' W' → wpAnyH P md ops Q S (μ s') (L s') (A s') W') → wpAnyH P md ops Q S (μ s) (L s) (A s) W) : ∀ s W,I s W → wpAnyH P md ops Q S (μ s) (L s) (A s) W := by
 have key : ∀ n s W,μ s = n → I s W → wpAnyH P md ops Q S (μ s) (L s) (A s) W := by
  intro n
  induction n using Nat.strongRecOn with
  | ind n ih =>
   intro s W hs hI;exact h s W hI (fun s' W' hlt hI' => ih (μ s') (by omega) s' W' rfl hI')
 exact fun s W hI => key _ s W rfl hI
theorem mergeA {σ : Type} {P : Program} {md : Region.Mode} {ops : Array Oper} {Q : Exit → Act → World → Prop} {S : World → Prop} (μ : σ → Nat) (L : σ → Array Bool) (pt : σ → Act → Act) (I : σ → World → Prop) (s0 : σ) {l : Array Bool} {a : Act} {W : World} {n : Nat} (hn : n = μ s0) (hl : l = L s0) (ha : pt s0 a = a) (h0 : I s0 W)
 (h : ∀ s W,I s W → (∀ s' W',μ s' < μ s → I s' W' → wpAnyH P md ops Q S (μ s') (L s') (pt s' a) W') → wpAnyH P md ops Q S (μ s) (L s) (pt s a) W) : wpAnyH P md ops Q S n l a W := by
 have h2 := mergeS μ L (fun s => pt s a) I h s0 W h0;subst hn hl;have h3 : wpAnyH P md ops Q S (μ s0) (L s0) (pt s0 a) W := h2;rwa [ha] at h3
abbrev Sob (ob rb q : Nat) : Prop := q = rb ∨ q = ob
theorem Bare.two {w : World} {ob rb : Nat} {T T' : TypeId} {e n k : Int} {A A' : Option Addr} {l c l' c' : Nat} (hb : Blk w rb T (rpCells e n A l c k)) (ho : Blk w ob T' #[.slice A' l' c']) : Bare w (Sob ob rb) := by
 intro p u hp hc;rcases hp with hp | hp
 ·exact Bare.reply hb p u hp hc
 obtain ⟨g,o,pr⟩ := p;have hp' : g = ob := hp;subst hp'
 cases pr with
 | some x =>
  unfold World.cell? at hc;rw [show w.heap[g]? = _ from ho] at hc;simp at hc
 | none =>
  rw [ho.cell] at hc;have ho : o < 1 := by
   rcases Nat.lt_or_ge o 1 with h | h
   ·exact h
   rw [Array.getElem?_eq_none (by simpa using h)] at hc;cases hc
  obtain rfl : o = 0 := by omega
  cases hc
  refine ⟨fun n h => ?_,fun n h => ?_,fun s h => ?_⟩ <;> cases h
theorem src_blkV {w : World} {g : Nat} (c : Cv) (hb : Blk w g 27 c.cells) : Src Tryz.prog 5 24 (.slice (some ⟨g,0,none⟩) 1 1) 1 c.cells.toList w :=
 Src.ofSlice _ under_vals ⟨g,0,none⟩ 1 1 _ rfl (fun j u hu => by
  rw [add_lit,Nat.zero_add,hb.cell j,← hu,Array.getElem?_toList]) (fun u hu => by
  simp only [List.mem_cons,List.not_mem_nil,or_false] at hu;rcases hu with rfl | rfl | rfl | rfl | rfl <;> rfl)
theorem src_rowV {w : World} {base n c : Nat} {A : Option Addr} {hs : List Cv} (h : w.ownsRow base 27 5 (.slice A n c) n (cellsV hs)) : Src Tryz.prog 5 24 (.slice A n c) n (cellsV hs) w := by
 refine Src.ofReads (lo := 0) (hi := w.heap.size) under_vals ⟨h.1,fun hn => ?_⟩ (cellsV_one hs);obtain ⟨g,cap,hv,hb,hlt⟩ := World.ownsRow.form h (by omega);have hA : A = some ⟨g,0,none⟩ := by injection hv
 subst hA;refine ⟨g,0,rfl,fun j u hu => ⟨?_,Nat.zero_le _,hlt⟩⟩;have := World.ownsRow.cells h (g := g) rfl j u hu;rwa [add_lit] at this
theorem Kept.step2 {S T : Nat → Prop} {a b c : World} (h : Kept S a b) (k : Kept T b c) (hT : ∀ q,q < a.heap.size → T q → S q) : Kept S a c :=
 ⟨k.os.trans h.os,k.tape.trans h.tape,k.output.trans h.output,Nat.le_trans h.size k.size,fun i hi hs => (k.block i (Nat.lt_of_lt_of_le hi h.size) (fun ht => hs (hT i hi ht))).trans (h.block i hi hs)⟩
theorem vr_anew {S : Nat → Prop} {W0 w' : World} {lo c6 c9 : Nat} {A6 A9 : Option Addr} {hs : List Cv} {l : List V} {cur : Array Value} (hv : VR S W0 lo A6 c6 hs l)
 (hown : w'.ownsRow lo 27 5 (.slice A9 (0 + hs.length) c9) (0 + hs.length) ([] ++ cellsV hs)) (hgr : (W0.alloc (.cells cur 27)).grownBy w' (Value.ownBlock (.slice (some ⟨W0.heap.size,0,none⟩) 0 hs.length)))
 (hob : Value.ownBlock (.slice A9 (0 + hs.length) c9) = Value.ownBlock (.slice (some ⟨W0.heap.size,0,none⟩) 0 hs.length) ∨ Value.ownBlock (.slice A9 (0 + hs.length) c9) = some (W0.alloc (.cells cur 27)).heap.size) :
 VR S w' lo A9 c9 hs l ∧ Grow W0 w' ∧ ∃ g,A9 = some ⟨g,0,none⟩ ∧ W0.heap.size ≤ g := by
 have hG : Grow W0 w' := ((Grow.refl W0).alloc (.cells cur 27)).grown hgr (fun k hk => by have h2 : W0.heap.size = k := Option.some.inj hk;omega);have hg : ∃ g,A9 = some ⟨g,0,none⟩ ∧ W0.heap.size ≤ g := by
  have hb : ∃ g,ablk A9 = some g ∧ W0.heap.size ≤ g := by
   rw [ownBlock_slice,ownBlock_slice] at hob;rcases hob with h | h
   ·exact ⟨W0.heap.size,h,Nat.le_refl _⟩
   exact ⟨_,h,by simp⟩
  obtain ⟨g,h1,h2⟩ := hb;rcases hown.2 with ⟨e,-⟩ | ⟨g',cap,cu,e,-⟩
  ·injection e with e;rw [e] at h1;cases h1
  injection e with e;rw [e] at h1;injection h1 with h1;exact ⟨g',e,by rw [show g' = g from h1];exact h2⟩
 refine ⟨⟨by rw [Nat.zero_add,List.nil_append] at hown;exact hown,hv.two.mono fun a b k => IsV.mono (fun p u hp => ?_) _ _ k⟩,hG,hg⟩;have hp2 := AtX.kept (Kept.none_ hG) (fun _ h => h.elim) p u hp;refine ⟨hp2.1,hp2.2.1,fun hq => ?_⟩;rcases hq with hq | hq
 ·obtain ⟨g,rfl,h2⟩ := hg;injection hq with hq;have := hp.2.1;have h3 : g = p.block := hq;omega
 exact hp.2.2 (.inr hq)
theorem setCell_same {w : World} {g o : Nat} {T : TypeId} {cs : Array Value} {v : Value} (hb : Blk w g T cs) (hv : cs[o]? = some v) : w.setCell ⟨g,o,none⟩ v = w := by
 have h1 := hb.set_ o v;have h2 : cs.setIfInBounds o v = cs := by
  refine Array.ext_getElem? fun i => ?_
  rw [Array.getElem?_setIfInBounds];split
  ·rename_i h;subst h;split
   ·exact hv.symm
   rename_i h3;rw [Array.getElem?_eq_none (by omega)]
  rfl
 rw [h2] at h1;have h3 := (Kept.refl (S := fun q => q = g) w).set (p := ⟨g,o,none⟩) rfl v;have hz : (w.setCell ⟨g,o,none⟩ v).heap.size = w.heap.size := by simp
 have he : (w.setCell ⟨g,o,none⟩ v).heap = w.heap := by
  refine Array.ext_getElem? fun i => ?_
  by_cases hi : i < w.heap.size
  ·by_cases hg : i = g
   ·subst hg;exact Eq.trans h1 (Eq.symm hb)
   exact h3.block i hi hg
  rw [Array.getElem?_eq_none (by omega),Array.getElem?_eq_none (by omega)]
 show World.setCell w ⟨g,o,none⟩ v = w;unfold World.setCell at he ⊢;dsimp only at he;rw [he]
structure L2 (W0 : World) (ob rb lo c6 : Nat) (A6 : Option Addr) (hs : List Cv) (d : V) (b3 b5 b6 b8 b10 : Bool) (x3 x5 x6 : Value) (W : World) : Prop where
 kept : Kept (fun q => q = rb ∨ ablk A6 = some q) W0 W
 cp : b3 = true → ∃ x : Cv,x3 = x.agg ∧ IsV (AtX W (fun q => Sob ob rb q ∨ ablk A6 = some q ∨ (b6 = true ∧ Value.ownBlock x6 = some q))) d x
 bs : b5 = true → b6 = false → ∃ g,x5 = .slice (some ⟨g,0,none⟩) 1 1 ∧ g ≠ rb ∧ Blk W g 27 Cv.zero.cells
 row : b6 = false → W.ownsRow lo 27 5 (.slice A6 hs.length c6) hs.length (cellsV hs)
 row1 : b6 = true → ∃ g c,x6 = .slice (some ⟨g,0,none⟩) (hs.length + 1) c ∧ lo ≤ g ∧ g ≠ rb ∧ g ≠ ob ∧ (ablk A6 = some g ∨ W0.heap.size ≤ g) ∧
  ((b8 = false ∧ W.ownsRow lo 27 5 (.slice (some ⟨g,0,none⟩) (hs.length + 1) c) (hs.length + 1) (cellsV hs ++ Cv.zero.cells.toList)) ∨ (b8 = true ∧ ∃ x : Cv,x3 = x.agg ∧ W.ownsRow lo 27 5 (.slice (some ⟨g,0,none⟩) (hs.length + 1) c) (hs.length + 1) (cellsV (hs ++ [x]))))
 rep : Blk W rb 31 #[.int .i64 0,.int .i64 0,if b10 = true then x6 else .slice A6 hs.length c6,.int .i64 0]
theorem cellsV_snoc (hs : List Cv) (x : Cv) : cellsV (hs ++ [x]) = cellsV hs ++ x.cells.toList := by simp [cellsV]
section
variable {W0 W W' : World} {ob rb lo c6 : Nat} {A6 : Option Addr} {hs : List Cv} {d : V} {b3 b5 b6 b8 b10 : Bool} {x3 x5 x6 : Value}
structure L2S (W0 : World) (ob rb lo c6 : Nat) (A6 : Option Addr) (hs : List Cv) : Prop where
 orl : ob < lo
 rrl : rb < lo
 le : lo ≤ W0.heap.size
 lt : ∀ g,ablk A6 = some g → lo ≤ g ∧ g < W0.heap.size
theorem L2.size (h : L2 W0 ob rb lo c6 A6 hs d b3 b5 b6 b8 b10 x3 x5 x6 W) : W0.heap.size ≤ W.heap.size := h.kept.size
theorem L2.grow (s : L2S W0 ob rb lo c6 A6 hs) (h : L2 W0 ob rb lo c6 A6 hs d b3 b5 b6 b8 b10 x3 x5 x6 W) (hg : Grow W W') : L2 W0 ob rb lo c6 A6 hs d b3 b5 b6 b8 b10 x3 x5 x6 W' := by
 refine ⟨h.kept.trans (Kept.grow hg),fun e => ?_,fun e e' => ?_,fun e => ownG (h.row e) hg,fun e => ?_,h.rep.grow hg⟩
 ·obtain ⟨x,r1,r2⟩ := h.cp e;exact ⟨x,r1,IsV.mono (AtX.kept (Kept.none_ hg) (fun _ h => h.elim)) _ _ r2⟩
 ·obtain ⟨g,r1,r2,r3⟩ := h.bs e e';exact ⟨g,r1,r2,r3.grow hg⟩
 obtain ⟨g,c,r1,r2,r3,r4,r5,r6⟩ := h.row1 e;refine ⟨g,c,r1,r2,r3,r4,r5,?_⟩;rcases r6 with ⟨k1,k2⟩ | ⟨k1,x,k2,k3⟩
 ·exact .inl ⟨k1,ownG k2 hg⟩
 exact .inr ⟨k1,x,k2,ownG k3 hg⟩
theorem L2.mk3 (s : L2S W0 ob rb lo c6 A6 hs) (h : L2 W0 ob rb lo c6 A6 hs d false b5 b6 false b10 x3 x5 x6 W) (hg : Grow W W') {x : Cv} (hin : InS W' W.heap.size W'.heap.size d x) : L2 W0 ob rb lo c6 A6 hs d true b5 b6 false b10 x.agg x5 x6 W' := by
 have h' := h.grow s hg;have hz := h.size;refine ⟨h'.kept,fun _ => ⟨x,rfl,IsV.mono (AtX.ofW (Nat.le_refl _) fun q hq => ?_) _ _ hin.atW⟩,h'.bs,h'.row,fun e => ?_,h'.rep⟩
 ·left;have h1 := s.orl;have h2 := s.rrl;have h3 := s.le;rcases hq with (hq | hq) | hq | ⟨e,hq⟩
  ·omega
  ·omega
  ·have := (s.lt q hq).2;omega
  obtain ⟨g,c,r1,r2,r3,r4,r5,r6⟩ := h.row1 e;rw [r1] at hq;injection hq with hq;subst hq;rcases r6 with ⟨k1,k2⟩ | ⟨k1,-⟩
  ·exact (World.ownsRow.lt k2 g rfl).2
  cases k1
 obtain ⟨g,c,r1,r2,r3,r4,r5,r6⟩ := h'.row1 e;refine ⟨g,c,r1,r2,r3,r4,r5,?_⟩;rcases r6 with ⟨k1,k2⟩ | ⟨k1,-⟩
 ·exact .inl ⟨k1,k2⟩
 cases k1
theorem L2.mk5 (s : L2S W0 ob rb lo c6 A6 hs) (h : L2 W0 ob rb lo c6 A6 hs d b3 false false b8 b10 x3 x5 x6 W) : L2 W0 ob rb lo c6 A6 hs d b3 true false b8 b10 x3 (.slice (some ⟨W.heap.size,0,none⟩) 1 1) x6 (W.alloc (.cells Cv.zero.cells 27)) := by
 have h' := h.grow s ((Grow.refl W).alloc (.cells Cv.zero.cells 27));have hz := h.size;have h2 := s.rrl;have h3 := s.le;exact ⟨h'.kept,h'.cp,fun _ _ => ⟨_,rfl,by omega,Blk.new _ _ _⟩,h'.row,fun e => (by cases e),h'.rep⟩
theorem L2.mk6 (s : L2S W0 ob rb lo c6 A6 hs) (h : L2 W0 ob rb lo c6 A6 hs d b3 true false false false x3 x5 x6 W) {A : Option Addr} {c : Nat} (hown : W'.ownsRow lo 27 5 (.slice A (hs.length + 1) c) (hs.length + 1) (cellsV hs ++ Cv.zero.cells.toList))
 (hgr : W.grownBy W' (Value.ownBlock (.slice A6 hs.length c6))) (hob : Value.ownBlock (.slice A (hs.length + 1) c) = Value.ownBlock (.slice A6 hs.length c6) ∨ Value.ownBlock (.slice A (hs.length + 1) c) = some W.heap.size) :
 L2 W0 ob rb lo c6 A6 hs d b3 true true false false x3 x5 (.slice A (hs.length + 1) c) W' := by
 have hz := h.size;have h1 := s.orl;have h2 := s.rrl;have h3 := s.le;rw [ownBlock_slice] at hgr;rw [ownBlock_slice,ownBlock_slice] at hob;obtain ⟨g,cur,hA,hb,hgg,-⟩ := own_open hown (by omega);subst hA;have hk := Kept.of_grown hgr;refine ⟨h.kept.trans (hk.mono fun q hq => .inr hq),fun e => ?_,fun _ e => (by cases e),fun e => (by cases e),fun _ => ⟨g,c,rfl,hb,by omega,by omega,?_,.inl ⟨rfl,hown⟩⟩,?_⟩
 ·obtain ⟨x,r1,r2⟩ := h.cp e;refine ⟨x,r1,IsV.mono (fun p u hp => ?_) _ _ r2⟩;have hp2 := AtX.kept hk (fun q hq => .inr (.inl hq)) p u hp;refine ⟨hp2.1,hp2.2.1,fun hq => ?_⟩;rcases hq with hq | hq | ⟨-,hq⟩
  ·exact hp.2.2 (.inl hq)
  ·exact hp.2.2 (.inr (.inl hq))
  rw [ownBlock_slice] at hq;rcases hob with ho | ho
  ·rw [ho] at hq;exact hp.2.2 (.inr (.inl hq))
  rw [ho] at hq;injection hq with hq;have := hp.2.1;omega
 ·rcases hob with ho | ho
  ·exact .inl ho.symm
  right;injection ho with ho;subst ho;exact hz
 exact hk.blk h.rep (fun e => by have := (s.lt rb e).1;omega)
theorem L2.mk8 (s : L2S W0 ob rb lo c6 A6 hs) {g c : Nat} {x : Cv} (h : L2 W0 ob rb lo c6 A6 hs d true b5 true false b10 x.agg x5 (.slice (some ⟨g,0,none⟩) (hs.length + 1) c) W) :
 L2 W0 ob rb lo c6 A6 hs d true b5 true true b10 x.agg x5 (.slice (some ⟨g,0,none⟩) (hs.length + 1) c) (W.setCells g (hs.length * 5) x.cells.toList) := by
 have hz := h.size;have h1 := s.orl;have h2 := s.rrl;have h3 := s.le;obtain ⟨g',c',r1,r2,r3,r4,r5,r6⟩ := h.row1 rfl;injection r1 with r1 _ r1';injection r1 with r1;injection r1 with r1;subst r1 r1';have hk : Kept (fun q => q = g) W (W.setCells g (hs.length * 5) x.cells.toList) := (Kept.of_grown (setCells_grown g (some g) rfl x.cells.toList W (hs.length * 5))).mono (fun q hq => by injection hq with hq;exact hq.symm);have hrow : W.ownsRow lo 27 5 (.slice (some ⟨g,0,none⟩) (hs.length + 1) c) (hs.length + 1) (cellsV hs ++ Cv.zero.cells.toList) := by
  rcases r6 with ⟨-,k⟩ | ⟨k,-⟩
  ·exact k
  cases k
 refine ⟨?_,fun _ => ?_,fun _ e => (by cases e),fun e => (by cases e),fun _ => ⟨g,c,rfl,r2,r3,r4,r5,.inr ⟨rfl,x,rfl,?_⟩⟩,hk.blk h.rep (fun e => r3 e.symm)⟩
 ·refine ⟨hk.os.trans h.kept.os,hk.tape.trans h.kept.tape,hk.output.trans h.kept.output,Nat.le_trans hz hk.size,fun k hkl hs => ?_⟩;refine (hk.block k (Nat.lt_of_lt_of_le hkl hz) (fun e => ?_)).trans (h.kept.block k hkl hs);subst e;rcases r5 with r5 | r5
  ·exact hs (.inr r5)
  omega
 ·obtain ⟨y,q1,q2⟩ := h.cp rfl;injection q1 with q1;have hxy : y = x := by
   obtain ⟨k,n,aB,nB,cB,aL,nL,cL,aF,nF,cF⟩ := x;obtain ⟨k',n',aB',nB',cB',aL',nL',cL',aF',nF',cF'⟩ := y;simp at q1;obtain ⟨rfl,rfl,⟨rfl,rfl,rfl⟩,⟨rfl,rfl,rfl⟩,rfl,rfl,rfl⟩ := q1;rfl
  subst hxy;exact ⟨y,rfl,IsV.mono (AtX.kept hk fun q hq => .inr (.inr ⟨rfl,by rw [hq];rfl⟩)) _ _ q2⟩
 have hput := own_put (D := hs.length) (vs := x.cells.toList) hrow (by omega) rfl;have e0 : (cellsV hs).length = hs.length * 5 := cellsV_len hs;rw [List.take_append_of_le_length (by omega),List.take_of_length_le (by omega),List.drop_of_length_le (by rw [List.length_append,e0];simp;omega),List.append_nil] at hput;rw [cellsV_snoc];exact hput
theorem L2.mk10 (s : L2S W0 ob rb lo c6 A6 hs) (h : L2 W0 ob rb lo c6 A6 hs d b3 b5 true b8 false x3 x5 x6 W) : L2 W0 ob rb lo c6 A6 hs d b3 b5 true b8 true x3 x5 x6 (W.setCell ⟨rb,2,none⟩ x6) := by
 have h2 := s.rrl;have hk : Kept (fun q => q = rb) W (W.setCell ⟨rb,2,none⟩ x6) := (Kept.refl (S := fun q => q = rb) W).set (p := ⟨rb,2,none⟩) rfl x6;refine ⟨h.kept.trans (hk.mono fun q hq => .inl hq),fun e => ?_,fun _ e => (by cases e),fun e => (by cases e),fun _ => ?_,?_⟩
 ·obtain ⟨x,r1,r2⟩ := h.cp e;exact ⟨x,r1,IsV.mono (AtX.kept hk fun q hq => .inl (.inl hq)) _ _ r2⟩
 ·obtain ⟨g,c,r1,r2,r3,r4,r5,r6⟩ := h.row1 rfl;have hn : ∀ g',ablk (some ⟨g,0,none⟩) = some g' → ¬ g' = rb := fun g' hg e => by injection hg with hg;exact r3 (hg.trans e)
  refine ⟨g,c,r1,r2,r3,r4,r5,?_⟩;rcases r6 with ⟨k1,k2⟩ | ⟨k1,x,k2,k3⟩
  ·exact .inl ⟨k1,own_kept k2 hk hn⟩
  exact .inr ⟨k1,x,k2,own_kept k3 hk hn⟩
 have := h.rep.set_ 2 x6;exact this
theorem L2.done (s : L2S W0 ob rb lo c6 A6 hs) {l0 : List V} (h : L2 W0 ob rb lo c6 A6 hs d true true true true true x3 x5 x6 W) (hv : VR (Sob ob rb) W0 lo A6 c6 hs l0) : ∃ g c x,x6 = .slice (some ⟨g,0,none⟩) (hs.length + 1) c ∧ VR (Sob ob rb) W lo (some ⟨g,0,none⟩) c (hs ++ [x]) (l0 ++ [d]) ∧
 Blk W rb 31 (rpCells 0 0 (some ⟨g,0,none⟩) (hs ++ [x]).length c 0) := by
 obtain ⟨g,c,r1,r2,r3,r4,r5,r6⟩ := h.row1 rfl;obtain ⟨x,k2,k3⟩ : ∃ x : Cv,x3 = x.agg ∧ W.ownsRow lo 27 5 (.slice (some ⟨g,0,none⟩) (hs.length + 1) c) (hs.length + 1) (cellsV (hs ++ [x])) := by
  rcases r6 with ⟨k1,k2⟩ | ⟨k1,k⟩
  ·cases k1
  exact k
 obtain ⟨y,q1,q2⟩ := h.cp rfl;have hxy : y = x := by
  rw [k2] at q1;injection q1 with q1;obtain ⟨k,n,aB,nB,cB,aL,nL,cL,aF,nF,cF⟩ := x;obtain ⟨k',n',aB',nB',cB',aL',nL',cL',aF',nF',cF'⟩ := y;simp at q1;obtain ⟨rfl,rfl,⟨rfl,rfl,rfl⟩,⟨rfl,rfl,rfl⟩,rfl,rfl,rfl⟩ := q1;rfl
 subst hxy;have hrep := h.rep;rw [if_pos rfl,r1] at hrep;have hl : (hs ++ [y]).length = hs.length + 1 := by simp
 refine ⟨g,c,y,r1,⟨by rw [hl];exact k3,(hv.two.mono fun a b k => IsV.mono (fun p u hp => ?_) _ _ k).append (Two.one ?_)⟩,by rw [hl];exact hrep⟩
 ·have hp2 := AtX.kept h.kept (fun q hq => by
   rcases hq with hq | hq
   ·exact Or.inr (Or.inl hq)
   exact Or.inl hq) p u hp
  refine ⟨hp2.1,hp2.2.1,fun hq => ?_⟩;rcases hq with hq | hq
  ·have hq2 : g = p.block := Option.some.inj hq;rcases r5 with r5 | r5
   ·exact hp.2.2 (.inl (by rw [r5,hq2]))
   have := hp.2.1;omega
  exact hp.2.2 (.inr hq)
 refine IsV.mono (AtX.sub fun q hq => ?_) _ _ q2;rcases hq with hq | hq
 ·exact .inr (.inr ⟨rfl,by rw [r1,ownBlock_slice];exact hq⟩)
 exact .inl hq
end
theorem actP_docs {N : Nat} {st : List Co} {q : Rq} (h : StOk N st) {st' : List Co} {n : Int} {docs : List V} (he : actP st q = .ok (st',n,docs)) : (∀ d ∈ docs,DocOk d) ∧ docs.length ≤ N + 1 := by
 have nil : ∀ {s : List Co} {k : Int},(Except.ok (s,k,[]) : Res) = .ok (st',n,docs) → (∀ d ∈ docs,DocOk d) ∧ docs.length ≤ N + 1 := fun e => by
  injection e with e;injection e with _ e;injection e with _ e;subst e;exact ⟨fun d hd => (by cases hd),Nat.zero_le _⟩
 have one : ∀ {s : List Co} {k : Int} {c : Co} {i : Nat},c ∈ st → i < c.docs.length → (Except.ok (s,k,[c.docs.getD i V.zero]) : Res) = .ok (st',n,docs) → (∀ d ∈ docs,DocOk d) ∧ docs.length ≤ N + 1 := fun {s k c i} hc hi e => by
  injection e with e;injection e with _ e;injection e with _ e;subst e;refine ⟨fun d hd => ?_,by simp⟩;rw [List.mem_singleton] at hd;subst hd;rw [List.getD_eq_getElem?_getD,List.getElem?_eq_getElem hi];exact (h.co c hc).docs _ (List.getElem_mem hi)
 unfold actP at he;split at he
 ·unfold makeP at he;repeat (split at he;· cases he)
  exact nil he
 split at he
 ·unfold dropP at he;repeat (split at he;· cases he)
  exact nil he
 split at he
 ·unfold putP at he;repeat (split at he;· cases he)
  exact nil he
 split at he
 ·unfold putP at he;repeat (split at he;· cases he)
  exact nil he
 split at he
 ·unfold takeP at he;split at he;· cases he
  rename_i h1;split at he;· cases he
  split at he;· cases he
  rename_i h3;have hF : plF (cnm st) q.coll = true := by simpa using h1
  exact one (coAt_mem hF).2.1 (docF_lt (by simpa using h3)) he
 split at he
 ·unfold getP at he;split at he;· cases he
  rename_i h1;split at he;· cases he
  split at he;· cases he
  rename_i h3;have hF : plF (cnm st) q.coll = true := by simpa using h1
  exact one (coAt_mem hF).2.1 (docF_lt (by simpa using h3)) he
 split at he
 ·unfold addIxP at he;repeat (split at he;· cases he)
  exact nil he
 split at he
 ·unfold unIxP at he;repeat (split at he;· cases he)
  exact nil he
 split at he
 ·unfold findP at he;split at he;· cases he
  rename_i h1;split at he;· cases he
  split at he;· cases he
  split at he;· cases he
  split at he;· cases he
  have hF : plF (cnm st) q.coll = true := by simpa using h1
  have hco := h.co _ (coAt_mem hF).2.1;injection he with he;injection he with _ he;injection he with _ he;subst he;have hfd : (∀ d ∈ findDocs (coAt st q.coll) q,d ∈ (coAt st q.coll).docs) ∧ (findDocs (coAt st q.coll) q).length ≤ (coAt st q.coll).docs.length := by
   unfold findDocs;split
   ·exact ⟨fun d hd => hd,Nat.le_refl _⟩
   refine ⟨fun d hd => ?_,by rw [List.length_map];exact entP_leF _ _⟩;obtain ⟨e,hm,rfl⟩ := List.mem_map.1 hd;unfold entP at hm;split at hm
   ·have := (sortE_perm _).mem_iff.1 hm;unfold entsL at this;rw [List.mem_filterMap] at this;obtain ⟨x,hx,hx2⟩ := this;unfold entOf at hx2;split at hx2
    ·injection hx2 with hx2;rw [← hx2];exact hx
    cases hx2
   cases hm
  refine ⟨fun d hd => hco.docs d (hfd.1 d ?_),?_⟩
  ·unfold findHits at hd;exact (List.mem_filter.1 (List.mem_of_mem_take hd)).1
  unfold findHits;rw [List.length_take];have h2 := List.length_filter_le (fun d => withinP (findV q (findX (coAt st q.coll) q) d) q.low q.high) (findDocs (coAt st q.coll) q);have h3 := hfd.2;have h4 := hco.nd;omega
 split at he
 ·unfold countP at he;split at he;· cases he
  exact nil he
 cases he
end
section
open Go.RowKit
def DoC (w : World) (st : List Co) (q : Rq) (e : Ending) (w' : World) : Prop :=
 Grow w w' ∧ ∃ A c dA dc,e = .returned (.tuple #[.agg #[.slice A (doP st q).1.length c],.agg (rpCells (doP st q).2.e (doP st q).2.n dA (doP st q).2.docs.length dc (doP st q).2.cursor)]) ∧ StIn w' A c (doP st q).1 ∧ InL w' dA dc (doP st q).2.docs
theorem zero_req (w : World) : Sem.run Tryz.prog (zeroValue 88) w = .ok (.agg #[.nilFunc]) w := by kernel_rfl
def Looked (w : World) (k : Int) (t6 t7 : Value) (wx : World) : Prop :=
 Grow w wx ∧ ((1 ≤ k ∧ k ≤ 10) ∧ t7 = .bool true ∧ (∃ mbx,t6 = .pointer (some ⟨mbx,0,none⟩) ∧ w.heap.size ≤ mbx ∧ Blk wx mbx 88 #[.func (.func (methF k)) #[] #[]]) ∨ ¬ (1 ≤ k ∧ k ≤ 10) ∧ t7 = .bool false)
theorem look_any (k : Int) (g : Nat) (w : World) (hm : w.heap[g]? = some (.map reqs 10)) : ∃ u b,(Instr.lookup 90 (.map (some g)) (.int .i64 k) true).run Tryz.prog w = .ok (.tuple #[.agg #[u],.bool b]) w ∧ ((1 ≤ k ∧ k ≤ 10) ∧ u = .func (.func (methF k)) #[] #[] ∧ b = true ∨ ¬ (1 ≤ k ∧ k ≤ 10) ∧ u = .nilFunc ∧ b = false) := by
 by_cases h : 1 ≤ k ∧ k ≤ 10
 ·obtain ⟨i,hi⟩ := reqs_yes k h;exact ⟨_,_,run_lookup_ok 90 3 88 under_do under_int g reqs 10 hm k i _ hi,.inl ⟨h,rfl,rfl⟩⟩
 exact ⟨_,_,run_lookup_no 90 3 88 _ under_do under_int (zero_req w) g reqs 10 hm k (reqs_no k h),.inr ⟨h,rfl,rfl⟩⟩
theorem look_yes (k : Int) (g : Nat) (w : World) (hm : w.heap[g]? = some (.map reqs 10)) (h : 1 ≤ k ∧ k ≤ 10) : (Instr.lookup 90 (.map (some g)) (.int .i64 k) true).run Tryz.prog w = .ok (.tuple #[.agg #[.func (.func (methF k)) #[] #[]],.bool true]) w := by
 obtain ⟨u,b,hr,h1 | h1⟩ := look_any k g w hm
 ·obtain ⟨-,rfl,rfl⟩ := h1;exact hr
 exact absurd h h1.1
theorem look_no (k : Int) (g : Nat) (w : World) (hm : w.heap[g]? = some (.map reqs 10)) (h : ¬ (1 ≤ k ∧ k ≤ 10)) : (Instr.lookup 90 (.map (some g)) (.int .i64 k) true).run Tryz.prog w = .ok (.tuple #[.agg #[.nilFunc],.bool false]) w := by
 obtain ⟨u,b,hr,h1 | h1⟩ := look_any k g w hm
 ·exact absurd h1.1 h
 obtain ⟨-,rfl,rfl⟩ := h1;exact hr
theorem do_results {W : World} {ob rb : Nat} {tmps : Array Value} {u e n d k : Value} (h4 : tmps.getD 4 undef = .pointer (some ⟨ob,0,none⟩)) (h5 : tmps.getD 5 undef = .pointer (some ⟨rb,0,none⟩)) (ho : Blk W ob 44 #[u]) (hr : Blk W rb 31 #[e,n,d,k]) :
 (results Tryz.f18 tmps).run Tryz.prog W = .ok (.tuple #[.agg #[u],.agg #[e,n,d,k]]) W := by
 have hoc := ho.cell;have hrc := hr.cell;have h4' : tmps[4]?.getD undef = .pointer (some ⟨ob,0,none⟩) := by simpa using h4
 have h5' : tmps[5]?.getD undef = .pointer (some ⟨rb,0,none⟩) := by simpa using h5
 simp [results,Tryz.results18,go_sem,h4',h5',hoc,hrc]
theorem StOk.copy {N : Nat} {st : List Co} (h : StOk N st) (hN : N ≤ 1000001) : st.length ≤ 1000000000 ∧ ∀ c ∈ st,CoSml c := by
 refine ⟨by have := h.n;omega,fun c hc => ?_⟩;have h1 := h.co c hc;refine ⟨by have := h1.nd;omega,by have := h1.nx;omega,fun d hd => ?_⟩;obtain ⟨i,-,-,-,hg,-⟩ := (h1.docs d hd).id;exact good_sml hg
theorem CR.old {B : Nat} {w w' : World} {lo c : Nat} {A : Option Addr} {es : List Cc} {st : List Co} (h : CR (fun q => q < B) w lo A c es st) (hB : B ≤ lo) (hk : Kept (fun q => q < B) w w') : CR (fun q => q < B) w' lo A c es st :=
 h.kept cR_mono hk (fun _ h => h) (fun g hg hq => by
  have := (World.ownsRow.lt h.row g (by rw [ownBlock_slice];exact hg)).1;omega)
theorem ret_close {w w5 w6 : World} {st : List Co} {q : Rq} {e : Int} {A6 : Option Addr} {c6 : Nat} {es : List Cc} {ob rb : Nat} {u e0 n0 d0 k0 : Value} {tmps : Array Value} (h5 : Grow w w5) (h6 : Grow w5 w6) (hdo : doP st q = (st,⟨e,0,[],0⟩)) (ho : Blk w6 ob 44 #[u]) (hr : Blk w6 rb 31 #[e0,n0,d0,k0]) (hol : w.heap.size ≤ ob ∧ ob < w5.heap.size ∧ ob ≠ rb) (hrl : w.heap.size ≤ rb ∧ rb < w5.heap.size)
 (hcr : CR (fun q => q < w5.heap.size) w6 w5.heap.size A6 c6 es st) (h4 : tmps.getD 4 undef = .pointer (some ⟨ob,0,none⟩)) (h5' : tmps.getD 5 undef = .pointer (some ⟨rb,0,none⟩)) :
 (results Tryz.f18 tmps).run Tryz.prog (doCaught w6 ob rb (.slice A6 st.length c6) e) = .ok (.tuple #[.agg #[.slice A6 st.length c6],.agg #[.int .i64 e,.int .i64 0,.slice none 0 0,.int .i64 0]]) (doCaught w6 ob rb (.slice A6 st.length c6) e) ∧ DoC w st q (.returned (.tuple #[.agg #[.slice A6 st.length c6],.agg #[.int .i64 e,.int .i64 0,.slice none 0 0,.int .i64 0]])) (doCaught w6 ob rb (.slice A6 st.length c6) e) := by
 have hk : ∀ (v0 v1 v2 v3 v4 : Value),Kept (fun q => q < w5.heap.size) w6 (((((w6.setCell ⟨ob,0,none⟩ v0).setCell ⟨rb,0,none⟩ v1).setCell ⟨rb,1,none⟩ v2).setCell ⟨rb,2,none⟩ v3).setCell ⟨rb,3,none⟩ v4) := fun v0 v1 v2 v3 v4 =>
  (((((Kept.refl _ w6).set (p := ⟨ob,0,none⟩) hol.2.1 v0).set (p := ⟨rb,0,none⟩) hrl.2 v1).set (p := ⟨rb,1,none⟩) hrl.2 v2).set (p := ⟨rb,2,none⟩) hrl.2 v3).set (p := ⟨rb,3,none⟩) hrl.2 v4
 have hc := CR.old hcr (Nat.le_refl _) (hk (.slice A6 st.length c6) (.int .i64 e) (.int .i64 0) (.slice none 0 0) (.int .i64 0));refine ⟨do_results h4 h5' ?_ ?_,?_,A6,c6,none,0,?_,?_,?_⟩
 ·exact ((((ho.set_ 0 _).far (p := ⟨rb,0,none⟩) hol.2.2 _).far (p := ⟨rb,1,none⟩) hol.2.2 _).far (p := ⟨rb,2,none⟩) hol.2.2 _).far (p := ⟨rb,3,none⟩) hol.2.2 _
 ·exact ((((hr.far (p := ⟨ob,0,none⟩) (fun e => hol.2.2 e.symm) _).set_ 0 _).set_ 1 _).set_ 2 _).set_ 3 _
 ·exact (((((h5.trans h6).setCell (p := ⟨ob,0,none⟩) hol.1 _).setCell (p := ⟨rb,0,none⟩) hrl.1 _).setCell (p := ⟨rb,1,none⟩) hrl.1 _).setCell (p := ⟨rb,2,none⟩) hrl.1 _).setCell (p := ⟨rb,3,none⟩) hrl.1 _
 ·rw [hdo];rfl
 ·rw [hdo];exact CR.stIn hc
 rw [hdo];exact InL.nil _
theorem yields_whole {P : Program} {ops : Array Oper} {a : Act} {S : World → Prop} {ty t : TypeId} {x : Operand} {d : Option Tmp} {p : String} {af : Array Edge} {g n : Nat} {cells : Array Value} {td : TypeDesc} (hu : P.underlying ty = some td) (hd : (match td with | .struct _ | .array _ _ => true | _ => false) = true) (hx : a.eval x = .pointer (some ⟨g,0,none⟩)) (hB : ∀ w,S w → Blk w g ty cells) (hi : (P.info? ty).map (·.size) = some n)
 (hn : cells.size = n) : YieldsIf P ops S ⟨d,.load ty x,t,p,af,none⟩ (.agg cells) a :=
 .inl ⟨by simp [Region.wanted],fun w hS => by
  have := run_loadVar_row (P := P) w g ty ty cells (0,0) td (hB w hS) hu hd (by rw [hn];exact hi);simp only [execOp,hx,Instr.loadAt,Instr.sureAddr,Sem.run_bind,Sem.run_pure,Result.andThen_ok,this]⟩
theorem info_rq : (Tryz.prog.info? 33).map (·.size) = some 26 := by kernel_rfl
theorem call_meth (k : Int) (x : Value) (w : World) : Sem.run Tryz.prog (callFunc (methF k) #[x]) w = .ok (.enter (methF k) #[x]) w := by
 unfold methF
 repeat' split
 all_goals kernel_rfl
theorem do_close {w W : World} {st st2 : List Co} {q : Rq} {n : Int} {docs : List V} {A10 A9 : Option Addr} {c10 c9 : Nat} {ob rb : Nat} {tmps : Array Value} (hg : Grow w W) (hdo : doP st q = (st2,⟨0,n,docs,0⟩)) (ho : Blk W ob 44 #[.slice A10 st2.length c10]) (hr : Blk W rb 31 (rpCells 0 n A9 docs.length c9 0))
 (hs : StIn W A10 c10 st2) (hd : InL W A9 c9 docs) (h4 : tmps.getD 4 undef = .pointer (some ⟨ob,0,none⟩)) (h5 : tmps.getD 5 undef = .pointer (some ⟨rb,0,none⟩)) :
 (results Tryz.f18 tmps).run Tryz.prog W = .ok (.tuple #[.agg #[.slice A10 st2.length c10],.agg (rpCells 0 n A9 docs.length c9 0)]) W ∧ DoC w st q (.returned (.tuple #[.agg #[.slice A10 st2.length c10],.agg (rpCells 0 n A9 docs.length c9 0)])) W := by
 refine ⟨do_results h4 h5 ho hr,hg,A10,c10,A9,c9,?_,?_,?_⟩
 ·rw [hdo]
 ·rw [hdo];exact hs
 rw [hdo];exact hd
theorem do_any (N cap : Nat) (A : Option Addr) (st : List Co) (q : Rq) (ck cl ch cx : Cv) (w : World) (hst : StIn w A cap st) (hok : StOk N st) (hN : N ≤ 1000000) (hR : RqOk q) (hTL : ∀ W,Grow w W → Tabs W ∧ Len1 W)
 (hk : In w q.key ck) (hl : In w q.low cl) (hh : In w q.high ch) (hx : In w q.doc cx) :
 Calls Tryz.prog 18 #[.agg #[.slice A st.length cap],.agg (rqCells q.do_ q.coll q.index q.path q.unique ck cl ch cx q.n)] w (DoC w st q) := by
 have HST := hide hst;have HOK := hide hok;have HR := hide hR;have HTL := hide hTL;have HK := hide hk;have HL := hide hl;have HH := hide hh;have HX := hide hx;clear hst hok hR hTL hk hl hh hx;have HG4 := hide (((((Grow.refl w).alloc (.cells #[.slice A st.length cap] 44)).alloc (.cells (rqCells q.do_ q.coll q.index q.path q.unique ck cl ch cx q.n) 33)).alloc (.cells #[.slice none 0 0] 44)).alloc (.cells #[.int .i64 0,.int .i64 0,.slice none 0 0,.int .i64 0] 31));have HBS := hide ((((Blk.new w 44 #[.slice A st.length cap]).alloc (.cells (rqCells q.do_ q.coll q.index q.path q.unique ck cl ch cx q.n) 33)).alloc (.cells #[.slice none 0 0] 44)).alloc (.cells #[.int .i64 0,.int .i64 0,.slice none 0 0,.int .i64 0] 31))
 have HBQ := hide (((Blk.new (w.alloc (.cells #[.slice A st.length cap] 44)) 33 (rqCells q.do_ q.coll q.index q.path q.unique ck cl ch cx q.n)).alloc (.cells #[.slice none 0 0] 44)).alloc (.cells #[.int .i64 0,.int .i64 0,.slice none 0 0,.int .i64 0] 31));have HBO := hide ((Blk.new ((w.alloc (.cells #[.slice A st.length cap] 44)).alloc (.cells (rqCells q.do_ q.coll q.index q.path q.unique ck cl ch cx q.n) 33)) 44 #[.slice none 0 0]).alloc (.cells #[.int .i64 0,.int .i64 0,.slice none 0 0,.int .i64 0] 31));have HBR := hide (Blk.new (((w.alloc (.cells #[.slice A st.length cap] 44)).alloc (.cells (rqCells q.do_ q.coll q.index q.path q.unique ck cl ch cx q.n) 33)).alloc (.cells #[.slice none 0 0] 44)) 31 #[.int .i64 0,.int .i64 0,.slice none 0 0,.int .i64 0]);rw [show (w.alloc (.cells #[.slice A st.length cap] 44)).heap.size = w.heap.size + 1 from by simp] at HBQ
 rw [show ((w.alloc (.cells #[.slice A st.length cap] 44)).alloc (.cells (rqCells q.do_ q.coll q.index q.path q.unique ck cl ch cx q.n) 33)).heap.size = w.heap.size + 1 + 1 from by simp] at HBO;rw [show (((w.alloc (.cells #[.slice A st.length cap] 44)).alloc (.cells (rqCells q.do_ q.coll q.index q.path q.unique ck cl ch cx q.n) 33)).alloc (.cells #[.slice none 0 0] 44)).heap.size = w.heap.size + 1 + 1 + 1 from by simp] at HBR;go_enter_defers Tryz.func18,Tryz.ntmps18;go_upto_region 1 with fail;generalize (((w.alloc (.cells #[.slice A st.length cap] 44)).alloc (.cells (rqCells q.do_ q.coll q.index q.path q.unique ck cl ch cx q.n) 33)).alloc (.cells #[.slice none 0 0] 44)).alloc (.cells #[.int .i64 0,.int .i64 0,.slice none 0 0,.int .i64 0] 31) = W4 at HG4 HBS HBQ HBO HBR ⊢
 have HQ0 := hide (fun (W : World) (hg : Grow W4 W) => show W.cell? ⟨w.heap.size + 1,0,none⟩ = some (.int .i64 q.do_) from (HBQ.out.grow hg).cell 0);go_cut [6,7] from 13 to 19 (fun t6 t7 wx => Looked W4 q.do_ t6 t7 wx)
 case first =>
  by_cases hkn : 1 ≤ q.do_ ∧ q.do_ ≤ 10
  ·have HKN := hide hkn;clear hkn;refine wp_region_noPanic ?_;refine wp_region_held_drew (S := fun w' => w'.cell? ⟨w.heap.size + 1,0,none⟩ = some (.int .i64 q.do_)) (by kernel_rfl) (HQ0.out _ ((Grow.refl _).drew)) (fun hHeld => ?_);have HGV := hide (show Grow W4 W4.drew from (Grow.refl _).drew);generalize W4.drew = V at HGV hHeld ⊢;refine tk_ 1 ?_;refine tk_ 2 ?_;refine rr_ [0,7] ?_;refine rd1_ (fun K hK => ?_) (rd1_ (fun K hK => ?_) AllReadyH.nil)
   ·go_simp;go_at_call 36;refine (requests_any _).mono ?_;rintro ee w7 ⟨g,rfl,hge,hgm,hg7⟩;have HGM := hide hgm;have HG7 := hide (HGV.out.trans hg7);clear hge hgm hg7;refine hk_ hK (HQ0.out _ HG7.out) (fun hHeld => ?_);clear hK K;refine rr_ [3,7] ?_;refine rd1_ (fun K hK => ?_) (rd1_ (fun K hK => ?_) AllReadyH.nil)
    ·have hlk := look_yes q.do_ g w7 HGM.out HKN.out;go_simp;clear hlk;refine hk_ hK (HQ0.out _ HG7.out) (fun hHeld => ?_);clear hK K;refine tk_ 4 ?_;refine tk_ 5 ?_;refine tk_ 6 ?_;refine r1_ 7 (fun K hK => ?_);go_simp;have HG8 := hide (HG7.out.alloc (.cells #[.nilFunc] 88));have HB8 := hide (Blk.new w7 88 #[.nilFunc]);have HMB := hide (show W4.heap.size ≤ w7.heap.size from HG7.out.size);refine hk_ hK (HQ0.out _ HG8.out) (fun hHeld => ?_);clear hK K;generalize w7.alloc (.cells #[.nilFunc] 88) = W8 at HB8 HG8 hHeld ⊢;have hcb := HB8.out.cell;have hstF : ∀ (a : Addr) (w : World) (m : Mode),Sem.run Tryz.prog (store a (.func (.func (methF q.do_)) #[] #[]) m) w = stored Tryz.prog w a (.func (.func (methF q.do_)) #[] #[]) m := fun a w m => run_store _ w a _ m rfl
     have hcf := HB8.out.frozen;refine r1_ 8 (fun K hK => ?_);go_simp;have HBX := hide (HB8.out.set_ 0 (.func (.func (methF q.do_)) #[] #[]));have HGX := hide (HG8.out.grown (grown_set _ w7.heap.size 0 (.func (.func (methF q.do_)) #[] #[])) (fun k hk => by cases hk;exact HMB.out));clear hcb hcf hstF;refine hk_ hK (HQ0.out _ HGX.out) (fun hHeld => ?_);clear hK K;refine tk_ 9 ?_;refine dn_ ?_;clear hHeld;go_wp2_with fail;go_meet;exact ⟨HGX.out,.inl ⟨HKN.out,rfl,_,rfl,HMB.out,HBX.out⟩⟩
    go_simp;have HG8 := hide (HG7.out.alloc (.cells #[.nilFunc] 88));have HB8 := hide (Blk.new w7 88 #[.nilFunc]);have HMB := hide (show W4.heap.size ≤ w7.heap.size from HG7.out.size);have HGM8 := hide (show (w7.alloc (.cells #[.nilFunc] 88)).heap[g]? = some (.map reqs 10) from (((Grow.refl w7).alloc _).below.block g (Array.getElem?_eq_some_iff.1 HGM.out).1).trans HGM.out);refine hk_ hK (HQ0.out _ HG8.out) (fun hHeld => ?_);clear hK K;refine r1_ 3 (fun K hK => ?_);have hlk := look_yes q.do_ g _ HGM8.out HKN.out;go_simp;clear hlk;refine hk_ hK (HQ0.out _ HG8.out) (fun hHeld => ?_);clear hK K;refine tk_ 4 ?_;refine tk_ 5 ?_;refine tk_ 6 ?_;generalize w7.alloc (.cells #[.nilFunc] 88) = W8 at HB8 HG8 hHeld ⊢;have hcb := HB8.out.cell
    have hstF : ∀ (a : Addr) (w : World) (m : Mode),Sem.run Tryz.prog (store a (.func (.func (methF q.do_)) #[] #[]) m) w = stored Tryz.prog w a (.func (.func (methF q.do_)) #[] #[]) m := fun a w m => run_store _ w a _ m rfl
    have hcf := HB8.out.frozen;refine r1_ 8 (fun K hK => ?_);go_simp;have HBX := hide (HB8.out.set_ 0 (.func (.func (methF q.do_)) #[] #[]));have HGX := hide (HG8.out.grown (grown_set _ w7.heap.size 0 (.func (.func (methF q.do_)) #[] #[])) (fun k hk => by cases hk;exact HMB.out));clear hcb hcf hstF;refine hk_ hK (HQ0.out _ HGX.out) (fun hHeld => ?_);clear hK K;refine tk_ 9 ?_;refine dn_ ?_;clear hHeld;go_wp2_with fail;go_meet;exact ⟨HGX.out,.inl ⟨HKN.out,rfl,_,rfl,HMB.out,HBX.out⟩⟩
   go_simp;have HG5 := hide (HGV.out.alloc (.cells #[.nilFunc] 88));have HB5 := hide (Blk.new V 88 #[.nilFunc]);have HMB := hide (show W4.heap.size ≤ V.heap.size from HGV.out.size);refine hk_ hK (HQ0.out _ HG5.out) (fun hHeld => ?_);clear hK K;refine r1_ 0 (fun K hK => ?_);go_simp;go_at_call 36;refine (requests_any _).mono ?_;rintro ee w7 ⟨g,rfl,hge,hgm,hg7⟩;have HGM := hide hgm;have HG8 := hide (HG5.out.trans hg7);have HB8 := hide (HB5.out.grow hg7);clear hge hgm hg7;refine hk_ hK (HQ0.out _ HG8.out) (fun hHeld => ?_);clear hK K;refine r1_ 3 (fun K hK => ?_);have hlk := look_yes q.do_ g w7 HGM.out HKN.out;go_simp;clear hlk;refine hk_ hK (HQ0.out _ HG8.out) (fun hHeld => ?_);clear hK K;refine tk_ 4 ?_;refine tk_ 5 ?_;refine tk_ 6 ?_;have hcb := HB8.out.cell
   have hstF : ∀ (a : Addr) (w : World) (m : Mode),Sem.run Tryz.prog (store a (.func (.func (methF q.do_)) #[] #[]) m) w = stored Tryz.prog w a (.func (.func (methF q.do_)) #[] #[]) m := fun a w m => run_store _ w a _ m rfl
   have hcf := HB8.out.frozen;refine r1_ 8 (fun K hK => ?_);go_simp;have HBX := hide (HB8.out.set_ 0 (.func (.func (methF q.do_)) #[] #[]));have HGX := hide (HG8.out.grown (grown_set _ V.heap.size 0 (.func (.func (methF q.do_)) #[] #[])) (fun k hk => by cases hk;exact HMB.out));clear hcb hcf hstF;refine hk_ hK (HQ0.out _ HGX.out) (fun hHeld => ?_);clear hK K;refine tk_ 9 ?_;refine dn_ ?_;clear hHeld;go_wp2_with fail;go_meet;exact ⟨HGX.out,.inl ⟨HKN.out,rfl,_,rfl,HMB.out,HBX.out⟩⟩
  have HKN := hide hkn;clear hkn;refine wp_region_noPanic ?_;refine wp_region_held_drew (S := fun w' => w'.cell? ⟨w.heap.size + 1,0,none⟩ = some (.int .i64 q.do_)) (by kernel_rfl) (HQ0.out _ ((Grow.refl _).drew)) (fun hHeld => ?_);have HGV := hide (show Grow W4 W4.drew from (Grow.refl _).drew);generalize W4.drew = V at HGV hHeld ⊢;refine tk_ 1 ?_;refine tk_ 2 ?_;refine rr_ [0,7] ?_;refine rd1_ (fun K hK => ?_) (rd1_ (fun K hK => ?_) AllReadyH.nil)
  ·go_simp;go_at_call 36;refine (requests_any _).mono ?_;rintro ee w7 ⟨g,rfl,hge,hgm,hg7⟩;have HGM := hide hgm;have HG7 := hide (HGV.out.trans hg7);clear hge hgm hg7;refine hk_ hK (HQ0.out _ HG7.out) (fun hHeld => ?_);clear hK K;refine rr_ [3,7] ?_;refine rd1_ (fun K hK => ?_) (rd1_ (fun K hK => ?_) AllReadyH.nil)
   ·have hlk := look_no q.do_ g w7 HGM.out HKN.out;go_simp;clear hlk;refine hk_ hK (HQ0.out _ HG7.out) (fun hHeld => ?_);clear hK K;refine tk_ 4 ?_;refine tk_ 5 ?_;refine tk_ 6 ?_;refine r1_ 7 (fun K hK => ?_);go_simp;have HG8 := hide (HG7.out.alloc (.cells #[.nilFunc] 88));have HB8 := hide (Blk.new w7 88 #[.nilFunc]);have HMB := hide (show W4.heap.size ≤ w7.heap.size from HG7.out.size);refine hk_ hK (HQ0.out _ HG8.out) (fun hHeld => ?_);clear hK K;generalize w7.alloc (.cells #[.nilFunc] 88) = W8 at HB8 HG8 hHeld ⊢;have hcb := HB8.out.cell;have hstF : ∀ (a : Addr) (w : World) (m : Mode),Sem.run Tryz.prog (store a .nilFunc m) w = stored Tryz.prog w a .nilFunc m := fun a w m => run_store _ w a _ m rfl
    have hcf := HB8.out.frozen;refine r1_ 8 (fun K hK => ?_);go_simp;have HBX := hide (HB8.out.set_ 0 .nilFunc);have HGX := hide (HG8.out.grown (grown_set _ w7.heap.size 0 .nilFunc) (fun k hk => by cases hk;exact HMB.out));clear hcb hcf hstF;refine hk_ hK (HQ0.out _ HGX.out) (fun hHeld => ?_);clear hK K;refine tk_ 9 ?_;refine dn_ ?_;clear hHeld;go_wp2_with fail;go_meet;exact ⟨HGX.out,.inr ⟨HKN.out,rfl⟩⟩
   go_simp;have HG8 := hide (HG7.out.alloc (.cells #[.nilFunc] 88));have HB8 := hide (Blk.new w7 88 #[.nilFunc]);have HMB := hide (show W4.heap.size ≤ w7.heap.size from HG7.out.size);have HGM8 := hide (show (w7.alloc (.cells #[.nilFunc] 88)).heap[g]? = some (.map reqs 10) from (((Grow.refl w7).alloc _).below.block g (Array.getElem?_eq_some_iff.1 HGM.out).1).trans HGM.out);refine hk_ hK (HQ0.out _ HG8.out) (fun hHeld => ?_);clear hK K;refine r1_ 3 (fun K hK => ?_);have hlk := look_no q.do_ g _ HGM8.out HKN.out;go_simp;clear hlk;refine hk_ hK (HQ0.out _ HG8.out) (fun hHeld => ?_);clear hK K;refine tk_ 4 ?_;refine tk_ 5 ?_;refine tk_ 6 ?_;generalize w7.alloc (.cells #[.nilFunc] 88) = W8 at HB8 HG8 hHeld ⊢;have hcb := HB8.out.cell;have hstF : ∀ (a : Addr) (w : World) (m : Mode),Sem.run Tryz.prog (store a .nilFunc m) w = stored Tryz.prog w a .nilFunc m := fun a w m => run_store _ w a _ m rfl
   have hcf := HB8.out.frozen;refine r1_ 8 (fun K hK => ?_);go_simp;have HBX := hide (HB8.out.set_ 0 .nilFunc);have HGX := hide (HG8.out.grown (grown_set _ w7.heap.size 0 .nilFunc) (fun k hk => by cases hk;exact HMB.out));clear hcb hcf hstF;refine hk_ hK (HQ0.out _ HGX.out) (fun hHeld => ?_);clear hK K;refine tk_ 9 ?_;refine dn_ ?_;clear hHeld;go_wp2_with fail;go_meet;exact ⟨HGX.out,.inr ⟨HKN.out,rfl⟩⟩
  go_simp;have HG5 := hide (HGV.out.alloc (.cells #[.nilFunc] 88));have HB5 := hide (Blk.new V 88 #[.nilFunc]);have HMB := hide (show W4.heap.size ≤ V.heap.size from HGV.out.size);refine hk_ hK (HQ0.out _ HG5.out) (fun hHeld => ?_);clear hK K;refine r1_ 0 (fun K hK => ?_);go_simp;go_at_call 36;refine (requests_any _).mono ?_;rintro ee w7 ⟨g,rfl,hge,hgm,hg7⟩;have HGM := hide hgm;have HG8 := hide (HG5.out.trans hg7);have HB8 := hide (HB5.out.grow hg7);clear hge hgm hg7;refine hk_ hK (HQ0.out _ HG8.out) (fun hHeld => ?_);clear hK K;refine r1_ 3 (fun K hK => ?_);have hlk := look_no q.do_ g w7 HGM.out HKN.out;go_simp;clear hlk;refine hk_ hK (HQ0.out _ HG8.out) (fun hHeld => ?_);clear hK K;refine tk_ 4 ?_;refine tk_ 5 ?_;refine tk_ 6 ?_;have hcb := HB8.out.cell
  have hstF : ∀ (a : Addr) (w : World) (m : Mode),Sem.run Tryz.prog (store a .nilFunc m) w = stored Tryz.prog w a .nilFunc m := fun a w m => run_store _ w a _ m rfl
  have hcf := HB8.out.frozen;refine r1_ 8 (fun K hK => ?_);go_simp;have HBX := hide (HB8.out.set_ 0 .nilFunc);have HGX := hide (HG8.out.grown (grown_set _ V.heap.size 0 .nilFunc) (fun k hk => by cases hk;exact HMB.out));clear hcb hcf hstF;refine hk_ hK (HQ0.out _ HGX.out) (fun hHeld => ?_);clear hK K;refine tk_ 9 ?_;refine dn_ ?_;clear hHeld;go_wp2_with fail;go_meet;exact ⟨HGX.out,.inr ⟨HKN.out,rfl⟩⟩
 case rest =>
  obtain ⟨hg5,hcase⟩ := hcut;rename World => w5;have HG45 := hide hg5;have HG5 := hide (HG4.out.trans hg5);have HBS5 := hide (HBS.out.grow hg5);have HBQ5 := hide (HBQ.out.grow hg5);have HBO5 := hide (HBO.out.grow hg5);have HBR5 := hide (HBR.out.grow hg5);clear hg5;rcases hcase with ⟨hkn,rfl,mbx,rfl,hmx,hbx⟩ | ⟨hkn,rfl⟩
  rotate_left
  ·have hdo : doP st q = (st,⟨1,0,[],0⟩) := by unfold doP;rw [act_no hkn]
   have HDO := hide hdo
   have hsc := HBS5.out.cell;clear hkn hdo
   go_wp2_with fail;refine (copySt_any st A cap _ (HST.out.grow HG5.out) (HOK.out.copy (by omega)).1 (HOK.out.copy (by omega)).2).mono ?_;rintro e w6 ⟨hg6,A6,c6,es6,rfl,hcr⟩;have HG6 := hide hg6;have HCR := hide hcr;have HBO6 := hide (HBO5.out.grow hg6);have HBR6 := hide (HBR5.out.grow hg6);have hoc := HBO6.out.cell;have hof := HBO6.out.frozen;have hrc := HBR6.out.cell;have hrf := HBR6.out.frozen;clear hg6 hcr hsc;go_wp2_with fail;exact ⟨_,ret_close HG5.out HG6.out HDO.out HBO6.out HBR6.out (by have := HBO5.out.lt;omega) (by have := HBR5.out.lt;omega) HCR.out rfl rfl⟩
  have HKN := hide hkn;have HMX := hide hmx;have HBX := hide hbx;obtain ⟨hcp,es0,htwo,hrd⟩ := HST.out;have HTWO := hide htwo;have HRD := hide hrd;clear hkn hmx hbx htwo hrd hcp;go_wp2_with fail;refine wp_region_noPanic ?_;refine wp_region_held_drew (S := fun w' => w'.cell? ⟨w.heap.size,0,none⟩ = some (.slice A st.length cap) ∧ Blk w' (w.heap.size + 1) 33 (rqCells q.do_ q.coll q.index q.path q.unique ck cl ch cx q.n)) (by kernel_rfl) (⟨(HBS5.out.grow ((Grow.refl _).drew)).cell 0,HBQ5.out.grow ((Grow.refl _).drew)⟩) (fun hHeld => ?_);have HGV := hide (show Grow w5 w5.drew from (Grow.refl _).drew);have HVS := hide (show w5.drew.heap.size = w5.heap.size from rfl);generalize w5.drew = V at HGV HVS hHeld ⊢;refine tk_ 0 ?_;refine tx_ 1 ?_
  refine wpAnyH_take (i := 4) (v := .agg (rqCells q.do_ q.coll q.index q.path q.unique ck cl ch cx q.n)) (by simp only [List.getElem?_toArray,List.getElem?_cons_succ,List.getElem?_cons_zero];rfl) (by kernel_rfl) (by kernel_rfl) (by kernel_rfl) (fun _ _ _ h => h) (yields_whole (n := 26) Tryz.underlying33 rfl rfl (fun _ h => h.2) info_rq rfl) (by assumption) ?_
  try simp only [ly_]
  refine r1_ 2 (fun K hK => ?_);go_simp;go_at_call 38;refine (cloneC_any st.length A cap (cellsC es0) V (HRD.out.mono (AtW.below ((HG5.out.trans HGV.out).below) (Nat.le_refl _) (Nat.le_refl _) (HG5.out.trans HGV.out).size)) (cellsC_one es0) (by have := HOK.out.n;omega)).mono ?_;rintro ee w7 ⟨A1,c1,rfl,hown,hg7⟩;have HOW := hide hown;have HG7 := hide (HGV.out.trans hg7);clear hown hg7;refine hk_ hK (⟨(HBS5.out.grow HG7.out).cell 0,HBQ5.out.grow HG7.out⟩) (fun hHeld => ?_);clear hK K;refine tk_ 3 ?_;refine tk_ 5 ?_;refine r1_ 6 (fun K hK => ?_);go_simp;have HM8 := hide (Blk.new w7 96 (mcells A1 st.length c1 q.do_ q.coll q.index q.path q.unique ck cl ch cx q.n));have HG8 := hide (HG7.out.alloc (.cells (mcells A1 st.length c1 q.do_ q.coll q.index q.path q.unique ck cl ch cx q.n) 96));have HMB := hide (show w5.heap.size ≤ w7.heap.size from HG7.out.size)
  have HOW8 := hide (ownG (World.ownsRow.mono HOW.out (Nat.le_of_eq HVS.out.symm)) ((Grow.refl w7).alloc (.cells (mcells A1 st.length c1 q.do_ q.coll q.index q.path q.unique ck cl ch cx q.n) 96)));generalize w7.alloc (.cells (mcells A1 st.length c1 q.do_ q.coll q.index q.path q.unique ck cl ch cx q.n) 96) = W8 at HM8 HG8 HOW8 ⊢;generalize w7.heap.size = mb at HM8 HMB ⊢;refine hK.out _ _ ⟨(HBS5.out.grow HG8.out).cell 0,HBQ5.out.grow HG8.out⟩ (fun hHeld => ?_);clear hK K
  try simp only [ly_]
  refine tk_ 7 ?_;refine dn_ ?_;clear hHeld;have hm8 := HM8.out.cell;go_wp2_with fail;clear hm8;go_loopg [38] (st.length + 1) (fun gk i wr => ∃ (j : Nat) (es : List Cc),j ≤ st.length ∧ gk + j = st.length + 1 ∧ i = .int .i64 j ∧ Cln wr w5.heap.size A1 c1 es0 es st j ∧ Blk wr mb 96 (mcells A1 st.length c1 q.do_ q.coll q.index q.path q.unique ck cl ch cx q.n) ∧ Grow w5 wr)
  case atStart => exact ⟨0,es0,Nat.zero_le _,rfl,rfl,Cln.start HOW8.out HTWO.out.1,HM8.out,HG8.out⟩
  case round =>
   obtain ⟨j,es,hj,hg,rfl,hcl,hbm,hgr⟩ := hrel;obtain ⟨gk',rfl⟩ := gk_ gk (by omega);have HCL := hide hcl;have HBM := hide hbm;have HGR := hide hgr;clear hcl hbm hgr;by_cases hlt : j < st.length
   ·have hel : j < es.length := by rw [HCL.out.len];exact hlt
    obtain ⟨gb,cur,hA,hb,hgg,hnc,hcm,hcs,ht,-⟩ := own_open HCL.out.row (by omega);subst hA;obtain ⟨e0,he0⟩ : ∃ e,es[j]? = some e := ⟨es[j],List.getElem?_eq_getElem hel⟩;obtain ⟨nm,dA,dn,dc,xA,xn,xc⟩ := e0;obtain ⟨c,hc⟩ : ∃ c,st[j] = c := ⟨_,rfl⟩;have hco := HTWO.out.2 j _ st[j] (by rw [← HCL.out.rest j (Nat.le_refl _)];exact he0) (List.getElem?_eq_getElem hlt);rw [hc] at hco;have hdn : dn = c.docs.length := hco.dn;have hxn : xn = c.ixs.length := hco.xn;subst hdn hxn;have hcell : ∀ (k : Nat),k < 3 → ∀ v,(Cc.cells ⟨nm,dA,c.docs.length,dc,xA,c.ixs.length,xc⟩).toList[k]? = some v → wr.cell? ⟨gb,j * 3 + k,none⟩ = some v := fun k hk v hv => by
     refine own_cell hgg ht _ _ ?_;rw [cellsC,fz_get _ 3 (fun _ => rfl) es j k hk _ he0];exact hv
    have a0 := hcell 0 (by omega) _ rfl;have a1 := hcell 1 (by omega) _ rfl;have a2 := hcell 2 (by omega) _ rfl;rw [Nat.add_zero] at a0;have HCO := hide hco;have HE0 := hide he0;have HC := hide hc;have HGB := hide hb;have HGL := hide (Array.getElem?_eq_some_iff.1 hgg).1;have HCI := hide (show c ∈ st from hc ▸ List.getElem_mem hlt);have hndc : c.docs.length ≤ dc := by
     have := hco.docs;rw [IsV] at this;exact this.2.2.2.2.2.2.2.2.2.2.1
    have hnxc : c.ixs.length ≤ xc := hco.xc;have hdcm : c.docs.length ≤ N := (HOK.out.co c HCI.out).nd;have hel2 := hel;clear hcell hgg hcm hcs ht hnc hb hco he0 hc hel cur;go_wp2_with fail;clear a0 a1 a2;have HT1 := hide (Blk.new wr 48 #[.string nm,.slice dA c.docs.length dc,.slice xA c.ixs.length xc]);have HBM1 := hide (HBM.out.alloc (.cells #[.string nm,.slice dA c.docs.length dc,.slice xA c.ixs.length xc] 48));have HGR1 := hide ((Grow.refl wr).alloc (.cells #[.string nm,.slice dA c.docs.length dc,.slice xA c.ixs.length xc] 48));generalize wr.alloc (.cells #[.string nm,.slice dA c.docs.length dc,.slice xA c.ixs.length xc] 48) = W1 at HT1 HBM1 HGR1 ⊢;refine wp_region_noPanic ?_
    refine wp_region_held_drew (S := fun w' => w'.cell? ⟨mb,0,none⟩ = some (.slice (some ⟨gb,0,none⟩) st.length c1) ∧ w'.cell? ⟨wr.heap.size,1,none⟩ = some (.slice dA c.docs.length dc) ∧ w'.cell? ⟨wr.heap.size,2,none⟩ = some (.slice xA c.ixs.length xc)) (by kernel_rfl) (⟨(HBM1.out.grow ((Grow.refl _).drew)).cell 0,(HT1.out.grow ((Grow.refl _).drew)).cell 1,(HT1.out.grow ((Grow.refl _).drew)).cell 2⟩) (fun hHeld => ?_);replace HBM1 := hide HBM1.out.drew;replace HT1 := hide HT1.out.drew;replace HGR1 := hide HGR1.out.drew;generalize W1.drew = W2 at HBM1 HT1 HGR1 hHeld ⊢;refine tk_ 0 ?_;refine tk_ 1 ?_;refine tk_ 2 ?_;refine tk_ 3 ?_;refine tx_ 4 ?_;refine tk_ 5 ?_;refine tk_ 6 ?_;refine tx_ 7 ?_;refine tk_ 8 ?_;refine tx_ 9 ?_;refine tk_ 10 ?_;refine tk_ 11 ?_;refine tx_ 12 ?_;refine tk_ 13 ?_;refine tk_ 14 ?_;refine r1_ 15 (fun K hK => ?_);go_simp;go_at_call 39
    obtain ⟨cs,hrc,htc⟩ := row_of_list HCO.out.docs;refine (cloneV_any c.docs.length dA c.docs.length (cellsV cs) W2 (hrc.mono (AtW.below ((HG5.out.trans (HGR.out.trans HGR1.out)).below) (Nat.le_refl _) (Nat.le_refl _) (HG5.out.trans (HGR.out.trans HGR1.out)).size)) (cellsV_one cs) (by omega)).mono ?_;rintro ee w3 ⟨A3,c3,rfl,hown3,hg3⟩;have HTC := hide htc;have HO3 := hide hown3;have HG3 := hide hg3;clear hrc htc hown3 hg3;refine hk_ hK (⟨(HBM1.out.grow HG3.out).cell 0,(HT1.out.grow HG3.out).cell 1,(HT1.out.grow HG3.out).cell 2⟩) (fun hHeld => ?_);clear hK K;refine tk_ 16 ?_;refine tk_ 17 ?_;have HR3 := hide (ownG HCL.out.row (HGR1.out.trans HG3.out));have hs1 : w3.cell? ⟨gb,j * 3 + 1,none⟩ = some (.slice dA c.docs.length dc) := by
     rw [World.ownsRow.cellAt HR3.out (j * 3 + 1) (by omega),cellsC,fz_get _ 3 (fun _ => rfl) es j 1 (by decide) _ HE0.out];rfl
    have hs2 := World.ownsRow.frozenAt HR3.out (j * 3 + 1);refine r1_ 18 (fun K hK => ?_);go_simp;clear hs1 hs2;have HR4 := hide (own_setC (k := 1) (v := .slice A3 c.docs.length c3) (e' := ⟨nm,A3,c.docs.length,c3,xA,c.ixs.length,xc⟩) HR3.out hel2 HCL.out.len (by decide) (by rw [(List.getElem?_eq_some_iff.1 HE0.out).2];rfl));have hgmb : mb ≠ gb := fun e => ownT_blk HCL.out.row HBM.out (by decide) (by rw [← e];rfl)
    have hgt : wr.heap.size ≠ gb := by have := HGL.out;omega
    have HK4 := hide ((Kept.grow (S := fun k => k = gb) (HGR1.out.trans HG3.out)).set (p := ⟨gb,j * 3 + 1,none⟩) rfl (.slice A3 c.docs.length c3));have HT4 := hide ((HT1.out.grow HG3.out).far (p := ⟨gb,j * 3 + 1,none⟩) hgt (.slice A3 c.docs.length c3));have HBM4 := hide ((HBM1.out.grow HG3.out).far (p := ⟨gb,j * 3 + 1,none⟩) hgmb (.slice A3 c.docs.length c3));have HA3 := hide (fun g (hg : ablk A3 = some g) => show wr.heap.size ≤ g from Nat.le_trans HGR1.out.size (World.ownsRow.lt HO3.out g (by rw [ownBlock_slice];exact hg)).1);have HO4 := hide (own_kept HO3.out ((Kept.refl (S := fun k => k = gb) w3).set (p := ⟨gb,j * 3 + 1,none⟩) rfl (.slice A3 c.docs.length c3)) (fun g hg e => by have h1 := HA3.out g hg;have h2 := HGL.out;omega));generalize w3.setCell ⟨gb,j * 3 + 1,none⟩ (.slice A3 c.docs.length c3) = w4 at HR4 HK4 HT4 HBM4 HO4 ⊢
    refine hK.out _ _ ⟨HBM4.out.cell 0,HT4.out.cell 1,HT4.out.cell 2⟩ (fun hHeld => ?_);clear hK K
    try simp only [ly_]
    refine dn_ ?_;clear hHeld;go_wp2_with fail;refine wp_region_noPanic ?_;refine wp_region_held_drew (S := fun w' => w'.cell? ⟨mb,0,none⟩ = some (.slice (some ⟨gb,0,none⟩) st.length c1) ∧ w'.cell? ⟨wr.heap.size,1,none⟩ = some (.slice dA c.docs.length dc) ∧ w'.cell? ⟨wr.heap.size,2,none⟩ = some (.slice xA c.ixs.length xc)) (by kernel_rfl) (⟨(HBM4.out.grow ((Grow.refl _).drew)).cell 0,(HT4.out.grow ((Grow.refl _).drew)).cell 1,(HT4.out.grow ((Grow.refl _).drew)).cell 2⟩) (fun hHeld => ?_);replace HBM4 := hide HBM4.out.drew;replace HT4 := hide HT4.out.drew;replace HK4 := hide (HK4.out.trans (Kept.grow ((Grow.refl _).drew)));replace HR4 := hide (ownG HR4.out ((Grow.refl _).drew));replace HO4 := hide (ownG HO4.out ((Grow.refl _).drew));generalize w4.drew = W5 at HBM4 HT4 HK4 HR4 HO4 hHeld ⊢;refine tk_ 0 ?_;refine tk_ 1 ?_;refine tk_ 2 ?_;refine tk_ 3 ?_;refine tx_ 4 ?_
    refine tk_ 5 ?_;refine tk_ 6 ?_;refine tx_ 7 ?_;refine tk_ 8 ?_;refine tx_ 9 ?_;refine tk_ 10 ?_;refine tk_ 11 ?_;refine tx_ 12 ?_;refine tk_ 13 ?_;refine tk_ 14 ?_;refine r1_ 15 (fun K hK => ?_);go_simp;go_at_call 40;have hrx := HCO.out.ixs;refine (cloneX_any c.ixs.length xA c.ixs.length (cellsX c.ixs) W5 (hrx.mono (AtW.below ((HG5.out.below.trans ((HGR.out.below).mono HG5.out.size)).trans (HK4.out.below (B := w.heap.size) (Nat.le_trans HG5.out.size HGR.out.size) (fun k hk => by have := HGB.out;have := HG5.out.size;omega))) (Nat.le_refl _) (Nat.le_refl _) (Nat.le_trans HG5.out.size (Nat.le_trans HGR.out.size HK4.out.size)))) (cellsX_one c.ixs) (by have := (HOK.out.co c HCI.out).nx;omega)).mono ?_;rintro ee w6 ⟨A6,c6,rfl,hown6,hg6⟩;have HO6 := hide hown6;have HG6 := hide hg6;clear hrx hown6 hg6
    refine hk_ hK (⟨(HBM4.out.grow HG6.out).cell 0,(HT4.out.grow HG6.out).cell 1,(HT4.out.grow HG6.out).cell 2⟩) (fun hHeld => ?_);clear hK K;refine tk_ 16 ?_;refine tk_ 17 ?_;have HR7 := hide (ownG HR4.out HG6.out);have hsj : (es.set j (⟨nm,A3,c.docs.length,c3,xA,c.ixs.length,xc⟩ : Cc))[j]? = some ⟨nm,A3,c.docs.length,c3,xA,c.ixs.length,xc⟩ := List.getElem?_set_self hel2;have hs1 : w6.cell? ⟨gb,j * 3 + 2,none⟩ = some (.slice xA c.ixs.length xc) := by
     rw [World.ownsRow.cellAt HR7.out (j * 3 + 2) (by omega),cellsC,fz_get _ 3 (fun _ => rfl) _ j 2 (by decide) _ hsj];rfl
    have hs2 := World.ownsRow.frozenAt HR7.out (j * 3 + 2);refine r1_ 18 (fun K hK => ?_);go_simp;clear hs1 hs2;have HR8 := hide (own_setC (k := 2) (v := .slice A6 c.ixs.length c6) (e' := ⟨nm,A3,c.docs.length,c3,A6,c.ixs.length,c6⟩) HR7.out (by rw [List.length_set];exact hel2) (by rw [List.length_set];exact HCL.out.len) (by decide) (by rw [(List.getElem?_eq_some_iff.1 hsj).2];rfl));rw [List.set_set] at HR8;have HK8 := hide ((HK4.out.trans (Kept.grow HG6.out)).set (p := ⟨gb,j * 3 + 2,none⟩) rfl (.slice A6 c.ixs.length c6));have HBM8 := hide ((HBM4.out.grow HG6.out).far (p := ⟨gb,j * 3 + 2,none⟩) hgmb (.slice A6 c.ixs.length c6));have HT8 := hide ((HT4.out.grow HG6.out).far (p := ⟨gb,j * 3 + 2,none⟩) hgt (.slice A6 c.ixs.length c6))
    have HA6 := hide (fun g (hg : ablk A6 = some g) => show wr.heap.size ≤ g from Nat.le_trans HK4.out.size (World.ownsRow.lt HO6.out g (by rw [ownBlock_slice];exact hg)).1);have hk8 : Kept (fun k => k = gb) w6 (w6.setCell ⟨gb,j * 3 + 2,none⟩ (.slice A6 c.ixs.length c6)) := (Kept.refl (S := fun k => k = gb) w6).set (p := ⟨gb,j * 3 + 2,none⟩) rfl (.slice A6 c.ixs.length c6);have HO8 := hide (own_kept HO6.out hk8 (fun g hg e => by have h1 := HA6.out g hg;have h2 := HGL.out;omega));have HO38 := hide (own_kept (ownG HO4.out HG6.out) hk8 (fun g hg e => by have h1 := HA3.out g hg;have h2 := HGL.out;omega));clear hk8;generalize w6.setCell ⟨gb,j * 3 + 2,none⟩ (.slice A6 c.ixs.length c6) = w8 at HR8 HK8 HT8 HBM8 HO8 HO38 ⊢;refine hK.out _ _ ⟨HBM8.out.cell 0,HT8.out.cell 1,HT8.out.cell 2⟩ (fun hHeld => ?_);clear hK K
    try simp only [ly_]
    refine dn_ ?_;clear hHeld;have hj16 : j + 1 ≤ 17 := by have := HOK.out.n;omega
    go_wp2_with fail;have HG8 := hide (show Grow w5 w8 from HGR.out.below.trans (HK8.out.below (B := w5.heap.size) HGR.out.size (fun k hk => hk ▸ HGB.out)));have HNE := hide (show OwnCo w8 w5.heap.size ⟨nm,A3,c.docs.length,c3,A6,c.ixs.length,c6⟩ c from
     ⟨HCO.out.nm,rfl,rfl,⟨cs,World.ownsRow.mono HO38.out (Nat.le_trans HGR.out.size HGR1.out.size),HTC.out.mono fun v x hv => IsV.mono (AtW.below ((HG5.out.trans HG8.out).below) (Nat.le_refl _) (Nat.le_refl _) HG5.out.size) _ _ hv⟩,World.ownsRow.mono HO8.out (Nat.le_trans HGR.out.size HK4.out.size)⟩)
    go_roundg gk'
    case measure => omega
    case rel =>
     exact ⟨j + 1,es.set j ⟨nm,A3,c.docs.length,c3,A6,c.ixs.length,c6⟩,by omega,by omega,by go_num,Cln.step HCL.out HGR.out.size hlt (by rw [List.getElem?_eq_getElem hlt,HC.out]) rfl HGB.out HK8.out HR8.out HNE.out HA3.out HA6.out,HBM8.out,HG8.out⟩
   rename World => wm;have hjl : j = st.length := by omega
   subst hjl;have HOWN := hide (HCL.out.finish (Nat.le_refl _));have HGM := hide (HG5.out.trans HGR.out);have HMACH := hide (show Mach wm w5.heap.size mb A1 c1 es st q ck cl ch cx from ⟨HMB.out,HOWN.out,HBM.out,IsV.mono (AtW.below HGM.out.below (Nat.le_refl _) (Nat.le_refl _) HG5.out.size) _ _ HK.out,IsV.mono (AtW.below HGM.out.below (Nat.le_refl _) (Nat.le_refl _) HG5.out.size) _ _ HL.out,
    IsV.mono (AtW.below HGM.out.below (Nat.le_refl _) (Nat.le_refl _) HG5.out.size) _ _ HH.out,IsV.mono (AtW.below HGM.out.below (Nat.le_refl _) (Nat.le_refl _) HG5.out.size) _ _ HX.out⟩)
   have HMO := hide (show MethOk q wm w5.heap.size from ⟨HR.out,(HTL.out wm HGM.out).1,(HTL.out wm HGM.out).2,fun W hb => HTL.out W (HGM.out.below.trans (hb.mono HG5.out.size))⟩);have HCALL := hide (meth_any N w5.heap.size mb c1 A1 es st q ck cl ch cx wm HMACH.out HOK.out hN HMO.out HKN.out);have hbx := (HBX.out.grow HGR.out).cell;clear hlt hj hg HCL HMACH HMO HOWN;go_wp2_with fail;clear hbx;rw [call_meth,Oper.upon_enter];refine HCALL.out.mono ?_;rintro e w9 ⟨hbw,hM⟩;have HG9 := hide (show Grow w w9 from HGM.out.below.trans (hbw.mono HG5.out.size));have HBS9 := hide (show Blk w9 w.heap.size 44 #[.slice A st.length cap] from (hbw.block _ HBS5.out.lt).trans (HBS5.out.grow HGR.out));have HBO9 := hide (show Blk w9 (w.heap.size + 1 + 1) 44 #[.slice none 0 0] from (hbw.block _ HBO5.out.lt).trans (HBO5.out.grow HGR.out))
   have HBR9 := hide (show Blk w9 (w.heap.size + 1 + 1 + 1) 31 #[.int .i64 0,.int .i64 0,.slice none 0 0,.int .i64 0] from (hbw.block _ HBR5.out.lt).trans (HBR5.out.grow HGR.out));have HLT := hide (show w.heap.size < w9.heap.size ∧ (w.heap.size + 1 + 1) < w9.heap.size ∧ (w.heap.size + 1 + 1 + 1) < w9.heap.size from ⟨HBS9.out.lt,HBO9.out.lt,HBR9.out.lt⟩);have HMR := hide (show (w.heap.size + 1 + 1 + 1) < mb from Nat.lt_of_lt_of_le HBR5.out.lt HMB.out);clear hbw
   cases hact : actP st q with
   | error k =>
    rw [hact] at hM;subst hM;have HDO := hide (show doP st q = (st,⟨k,0,[],0⟩) by unfold doP;rw [hact]);clear hact;go_wp2_with fail;refine leaves_cons (f := 41) (args := #[.pointer (some ⟨w.heap.size,0,none⟩),.pointer (some ⟨w.heap.size + 1 + 1,0,none⟩),.pointer (some ⟨w.heap.size + 1 + 1 + 1,0,none⟩)]) (by simp) (by simp [go_sem]) ?_;refine (catchDo_err w.heap.size (w.heap.size + 1 + 1) (w.heap.size + 1 + 1 + 1) cap A k st _ _ _ _ _ [] w9 HBS9.out HBO9.out HBR9.out (by omega) (copySt_any st A cap w9 (HST.out.grow HG9.out) (HOK.out.copy (by omega)).1 (HOK.out.copy (by omega)).2)).mono ?_;rintro r u' w'' ⟨rfl,rfl,A2,c2,es2,w1,hg1,hcr,rfl⟩;exact ⟨_,ret_close HG9.out hg1 HDO.out (HBO9.out.grow hg1) (HBR9.out.grow hg1) (by have := HLT.out;omega) (by have := HLT.out;omega) hcr rfl rfl⟩
   | ok r =>
    obtain ⟨st2,n,docs⟩ := r;rw [hact] at hM;obtain ⟨rfl,hml,A2,cap2,dA,dc,h0,hs2,h28,h29,hdl⟩ := hM;have HDO := hide (show doP st q = (st2,⟨0,n,docs,0⟩) by unfold doP;rw [hact]);have hdd := actP_docs HOK.out hact;have HDD := hide hdd.1;have HDN := hide (show docs.length ≤ 1000001 by have := hdd.2;omega);have hok2 := doP_ok HOK.out HR.out.fit HR.out.doc;rw [HDO.out] at hok2;have HOK2 := hide hok2;have HBARE := hide (Bare.two HBR9.out HBO9.out);have HS2 := hide hs2;have HMC := hide (show w9.cell? ⟨mb,0,none⟩ = some (.slice A2 st2.length cap2) ∧ w9.cell? ⟨mb,28,none⟩ = some (.int .i64 n) from ⟨h0,h28⟩);have HML := hide hml;have HDL := hide (IsV.bare HBARE.out _ _ hdl);have HDLC := hide (show docs.length ≤ dc from by unfold InL In at hdl;rw [IsV] at hdl;exact hdl.2.2.2.2.2.2.2.2.2.2.1);clear hact hdd hok2 hs2 h0 h28 hml hdl;go_wp2_with fail;clear h29
    go_loopg [91] (docs.length + 1) (fun gk i wr => ∃ (j : Nat) (A6 : Option Addr) (c6 : Nat) (hs : List Cv),j ≤ docs.length ∧ gk + j = docs.length + 1 ∧ i = .int .i64 j ∧ Kept (fun q => q = (w.heap.size + 1 + 1 + 1)) w9 wr ∧ Blk wr (w.heap.size + 1 + 1 + 1) 31 (rpCells 0 0 A6 hs.length c6 0) ∧ VR (Sob (w.heap.size + 1 + 1) (w.heap.size + 1 + 1 + 1)) wr w9.heap.size A6 c6 hs (docs.take j))
    case atStart => exact ⟨0,none,0,[],Nat.zero_le _,rfl,rfl,Kept.refl _ _,HBR9.out,GR.nil _⟩
    case round =>
     obtain ⟨j,A6,c6,hs,hj,hg,rfl,hkw,hbr,hvr⟩ := hrel;obtain ⟨gk',rfl⟩ := gk_ gk (by omega);have HKW := hide hkw;have HBR := hide hbr;have HVR := hide hvr;have HHL := hide (show hs.length = j from by rw [hvr.two.1,List.length_take];omega);clear hkw hbr hvr;by_cases hlt : j < docs.length
     ·obtain ⟨bk2,o2,y,ha,⟨e0,e1,e2,e3,e4⟩,hy⟩ := (HDL.out.mono (C' := AtX wr (fun q => Sob (w.heap.size + 1 + 1) (w.heap.size + 1 + 1 + 1) q ∨ ablk A6 = some q)) (fun p u hp => ⟨(AtX.kept HKW.out (fun _ h => Or.inl h) p u hp).1,Nat.lt_of_lt_of_le hp.2.1 HKW.out.size,fun hq => by
       rcases hq with hq | hq
       ·exact hp.2.2 hq
       have := (World.ownsRow.lt HVR.out.row p.block (by rw [ownBlock_slice];exact hq)).1;have := hp.2.1;omega⟩)).elemG j hlt
      dsimp only [lcv] at ha;subst ha;have d0 := e0.1;have d1 := e1.1;have d2 := e2.1;have d3 := e3.1;have d4 := e4.1;obtain ⟨d,hd⟩ : ∃ d,docs[j] = d := ⟨_,rfl⟩;rw [hd] at hy;have hdok := HDD.out d (hd ▸ List.getElem_mem hlt);have HSML := hide (show d.sml from by obtain ⟨i,-,-,-,hg,-⟩ := hdok.id;exact good_sml hg);have HTK := hide (show docs.take (j + 1) = docs.take j ++ [d] from by rw [take_snoc docs j hlt,hd]);have HD := hide hy;clear e0 e1 e2 e3 e4 hy hdok hd;go_wp2_with fail;clear d0 d1 d2 d3 d4;obtain ⟨iv0,hv0,hv1,hv2,hv3⟩ := info_parts info_val3;have Hv0 := hide hv0;have Hv1 := hide hv1;have Hv2 := hide hv2;have Hv3 := hide hv3;clear hv0 hv1 hv2 hv3;have HYB := hide (Blk.new wr 27 y.cells);have HGD := hide (((Grow.refl wr).alloc (.cells y.cells 27)).drew);refine wp_region_noPanic ?_
      refine wp_region_held_drew (S := fun w' => w'.cell? ⟨wr.heap.size,0,none⟩ = some (.int .i64 y.k) ∧ w'.cell? ⟨wr.heap.size,1,none⟩ = some (.int .u64 y.n) ∧ w'.cell? ⟨wr.heap.size,2,none⟩ = some (.slice y.aB y.nB y.cB) ∧ w'.cell? ⟨wr.heap.size,3,none⟩ = some (.slice y.aL y.nL y.cL) ∧ w'.cell? ⟨wr.heap.size,4,none⟩ = some (.slice y.aF y.nF y.cF)) (by kernel_rfl) (⟨(HYB.out.grow ((Grow.refl _).drew)).cell 0,(HYB.out.grow ((Grow.refl _).drew)).cell 1,(HYB.out.grow ((Grow.refl _).drew)).cell 2,(HYB.out.grow ((Grow.refl _).drew)).cell 3,(HYB.out.grow ((Grow.refl _).drew)).cell 4⟩) (fun hHeld => ?_);replace HYB := hide (HYB.out.grow ((Grow.refl _).drew));generalize (wr.alloc (.cells y.cells 27)).drew = W0 at HYB HGD hHeld ⊢;have HKW0 := hide (HKW.out.trans (Kept.grow HGD.out));have HVR0 := hide (HVR.out.grow vR_mono HGD.out)
      have HD0 := hide (IsV.mono (AtX.kept (Kept.none_ HGD.out) (fun _ h => h.elim)) _ _ HD.out);have HLS := hide (show L2S W0 (w.heap.size + 1 + 1) (w.heap.size + 1 + 1 + 1) w9.heap.size c6 A6 hs from ⟨HLT.out.2.1,HLT.out.2.2,HKW0.out.size,fun g hg => World.ownsRow.lt HVR0.out.row g (by rw [ownBlock_slice];exact hg)⟩);have HYW := hide (fun (W : World) (hk : Kept (fun q => q = (w.heap.size + 1 + 1 + 1) ∨ ablk A6 = some q) W0 W) => show Blk W wr.heap.size 27 y.cells from hk.blk HYB.out (fun hq => by
       rcases hq with hq | hq
       ·have := HLT.out.2.2;have := HKW.out.size;omega
       have := (World.ownsRow.lt HVR.out.row _ (by rw [ownBlock_slice];exact hq)).2;omega))
      have HDW := hide (fun (W : World) (hk : Kept (fun q => q = (w.heap.size + 1 + 1 + 1) ∨ ablk A6 = some q) W0 W) => show In W d y from IsV.mono AtX.atW _ _ (IsV.mono (AtX.kept hk (fun q hq => by
       rcases hq with hq | hq
       ·exact Or.inl (Or.inl hq)
       exact Or.inr hq)) _ _ HD0.out))
      have HL0 := hide (show L2 W0 (w.heap.size + 1 + 1) (w.heap.size + 1 + 1 + 1) w9.heap.size c6 A6 hs d false false false false false undef undef undef W0 from ⟨Kept.refl _ _,fun e => (by cases e),fun e => (by cases e),fun _ => HVR0.out.row,fun e => (by cases e),HBR.out.grow HGD.out⟩);have HHN := hide (show hs.length ≤ 1000001 by have := HHL.out;have := HDN.out;omega);have HZS := hide (show w9.heap.size ≤ W0.heap.size from HKW0.out.size);have HRBL := hide HLT.out.2.2;refine tk_ 0 ?_;refine tx_ 2 ?_
      refine mergeA (σ := Bool × Bool × Bool × Bool × Bool × Bool × Value × Value × Value × Value × Value × Value × Value) (fun ⟨b1,b3,b5,b6,b8,b10,y1,y3,y4,y5,y6,y7,y8⟩ => cond b1 0 2 + cond b3 0 1 + cond b5 0 1 + cond b6 0 3 + cond b8 0 1 + cond b10 0 1) (fun ⟨b1,b3,b5,b6,b8,b10,y1,y3,y4,y5,y6,y7,y8⟩ => #[true,b1,true,b3,b1,b5,b6,b6,b8,b6,b10]) (fun ⟨b1,b3,b5,b6,b8,b10,y1,y3,y4,y5,y6,y7,y8⟩ a => (fun a : Act => cond b6 (((a.put (some 101) y6).put (some 102) y7).put (some 103) y8) a) ((fun a : Act => cond b5 (a.put (some 100) y5) a) ((fun a : Act => cond b3 (a.put (some 98) y3) a) ((fun a : Act => cond b1 ((a.put (some 96) y1).put (some 99) y4) a) (a))))) (fun ⟨b1,b3,b5,b6,b8,b10,y1,y3,y4,y5,y6,y7,y8⟩ W => ((!b6 || (b1 && b3 && b5)) && (!b8 || b6) && (!b10 || b6)) = true ∧ (b1 = true → y1 = .slice A6 hs.length c6 ∧ y4 = .int .i64 hs.length) ∧ (b6 = true → ∃ g c,y6 = .slice (some ⟨g,0,none⟩) (hs.length + 1) c ∧ y7 = .pointer (some ⟨g,hs.length * 5,none⟩) ∧ y8 = .pointer (some ⟨(w.heap.size + 1 + 1 + 1),2,none⟩)) ∧ L2 W0 (w.heap.size + 1 + 1) (w.heap.size + 1 + 1 + 1) w9.heap.size c6 A6 hs d b3 b5 b6 b8 b10 y3 y5 y6 W) ⟨false,false,false,false,false,false,undef,undef,undef,undef,undef,undef,undef⟩ rfl rfl (by rfl) ?_ ?_
      ·exact ⟨rfl,fun e => (by cases e),fun e => (by cases e),HL0.out⟩
      intro s W hI IH;obtain ⟨b1,b3,b5,b6,b8,b10,y1,y3,y4,y5,y6,y7,y8⟩ := s;dsimp only at hI
      cases b1 <;> cases b3 <;> cases b5 <;> cases b6 <;> cases b8 <;> cases b10 <;> first | exact absurd hI.1 (by decide) | skip
      ·show wpAnyH _ _ _ _ _ 9 #[true,false,true,false,false,false,false,false,false,false,false] _ _
       try simp only [lyc_,ly_]
       refine rr_ [1,3,5] ?_;refine rd1_ (fun K hK => ?_) ?_
       ·obtain ⟨-,hy1,hy6,hL⟩ := hI;replace hy1 := hide hy1;replace hy6 := hide hy6;replace hL := hide hL;have hr : W.cell? ⟨(w.heap.size + 1 + 1 + 1),2,none⟩ = some (.slice A6 hs.length c6) := hL.out.rep.cell 2;go_simp;clear hr;have hL2 := hL.out;refine hK.out _ _ (⟨(HYW.out _ hL2.kept).cell 0,(HYW.out _ hL2.kept).cell 1,(HYW.out _ hL2.kept).cell 2,(HYW.out _ hL2.kept).cell 3,(HYW.out _ hL2.kept).cell 4⟩) (fun hHeld => ?_);clear hK K
        try simp only [lyc_,ly_]
        refine tk_ 4 ?_;have hIH := IH ⟨true,false,false,false,false,false,(Value.slice A6 hs.length c6),y3,(Value.int .i64 (hs.length : Int)),y5,y6,y7,y8⟩ _ (show (7 : Nat) < 9 from by decide) ⟨rfl,fun _ => ⟨rfl,rfl⟩,hy6,hL2⟩;dsimp only at hIH;simp only [lyc_,ly_] at hIH;exact hIH
       refine rd1_ (fun K hK => ?_) ?_
       ·obtain ⟨-,hy1,hy6,hL⟩ := hI;replace hy1 := hide hy1;replace hy6 := hide hy6;replace hL := hide hL;have hC := copy_any d HSML.out W y (HDW.out W hL.out.kept);go_simp;go_at_call 42;refine hC.mono ?_;rintro ee W3 ⟨x,rfl,hin,hg3⟩;have hL2 := hL.out.mk3 HLS.out hg3 hin;clear hC hin hg3 hL;refine hK.out _ _ (⟨(HYW.out _ hL2.kept).cell 0,(HYW.out _ hL2.kept).cell 1,(HYW.out _ hL2.kept).cell 2,(HYW.out _ hL2.kept).cell 3,(HYW.out _ hL2.kept).cell 4⟩) (fun hHeld => ?_);clear hK K
        try simp only [lyc_,ly_]
        have hIH := IH ⟨false,true,false,false,false,false,y1,x.agg,y4,y5,y6,y7,y8⟩ _ (show (8 : Nat) < 9 from by decide) ⟨rfl,hy1,hy6,hL2⟩;dsimp only at hIH;simp only [lyc_,ly_] at hIH;exact hIH
       refine rd1_ (fun K hK => ?_) AllReadyH.nil;obtain ⟨-,hy1,hy6,hL⟩ := hI;replace hy1 := hide hy1;replace hy6 := hide hy6;replace hL := hide hL;go_simp;have hL2 := hL.out.mk5 HLS.out;refine hK.out _ _ (⟨(HYW.out _ hL2.kept).cell 0,(HYW.out _ hL2.kept).cell 1,(HYW.out _ hL2.kept).cell 2,(HYW.out _ hL2.kept).cell 3,(HYW.out _ hL2.kept).cell 4⟩) (fun hHeld => ?_);clear hK K
       try simp only [lyc_,ly_]
       have hIH := IH ⟨false,false,true,false,false,false,y1,y3,y4,(.slice (some ⟨W.heap.size,0,none⟩) 1 1),y6,y7,y8⟩ _ (show (8 : Nat) < 9 from by decide) ⟨rfl,hy1,hy6,hL2⟩;dsimp only at hIH;simp only [lyc_,ly_] at hIH;exact hIH
      ·show wpAnyH _ _ _ _ _ 8 #[true,false,true,false,false,true,false,false,false,false,false] _ _
       try simp only [lyc_,ly_]
       refine rr_ [1,3] ?_;refine rd1_ (fun K hK => ?_) ?_
       ·obtain ⟨-,hy1,hy6,hL⟩ := hI;replace hy1 := hide hy1;replace hy6 := hide hy6;replace hL := hide hL;have hr : W.cell? ⟨(w.heap.size + 1 + 1 + 1),2,none⟩ = some (.slice A6 hs.length c6) := hL.out.rep.cell 2;go_simp;clear hr;have hL2 := hL.out;refine hK.out _ _ (⟨(HYW.out _ hL2.kept).cell 0,(HYW.out _ hL2.kept).cell 1,(HYW.out _ hL2.kept).cell 2,(HYW.out _ hL2.kept).cell 3,(HYW.out _ hL2.kept).cell 4⟩) (fun hHeld => ?_);clear hK K
        try simp only [lyc_,ly_]
        refine tk_ 4 ?_;have hIH := IH ⟨true,false,true,false,false,false,(Value.slice A6 hs.length c6),y3,(Value.int .i64 (hs.length : Int)),y5,y6,y7,y8⟩ _ (show (6 : Nat) < 8 from by decide) ⟨rfl,fun _ => ⟨rfl,rfl⟩,hy6,hL2⟩;dsimp only at hIH;simp only [lyc_,ly_] at hIH;exact hIH
       refine rd1_ (fun K hK => ?_) AllReadyH.nil;obtain ⟨-,hy1,hy6,hL⟩ := hI;replace hy1 := hide hy1;replace hy6 := hide hy6;replace hL := hide hL;have hC := copy_any d HSML.out W y (HDW.out W hL.out.kept);go_simp;go_at_call 42;refine hC.mono ?_;rintro ee W3 ⟨x,rfl,hin,hg3⟩;have hL2 := hL.out.mk3 HLS.out hg3 hin;clear hC hin hg3 hL;refine hK.out _ _ (⟨(HYW.out _ hL2.kept).cell 0,(HYW.out _ hL2.kept).cell 1,(HYW.out _ hL2.kept).cell 2,(HYW.out _ hL2.kept).cell 3,(HYW.out _ hL2.kept).cell 4⟩) (fun hHeld => ?_);clear hK K
       try simp only [lyc_,ly_]
       have hIH := IH ⟨false,true,true,false,false,false,y1,x.agg,y4,y5,y6,y7,y8⟩ _ (show (7 : Nat) < 8 from by decide) ⟨rfl,hy1,hy6,hL2⟩;dsimp only at hIH;simp only [lyc_,ly_] at hIH;exact hIH
      ·show wpAnyH _ _ _ _ _ 8 #[true,false,true,true,false,false,false,false,false,false,false] _ _
       try simp only [lyc_,ly_]
       refine rr_ [1,5] ?_;refine rd1_ (fun K hK => ?_) ?_
       ·obtain ⟨-,hy1,hy6,hL⟩ := hI;replace hy1 := hide hy1;replace hy6 := hide hy6;replace hL := hide hL;have hr : W.cell? ⟨(w.heap.size + 1 + 1 + 1),2,none⟩ = some (.slice A6 hs.length c6) := hL.out.rep.cell 2;go_simp;clear hr;have hL2 := hL.out;refine hK.out _ _ (⟨(HYW.out _ hL2.kept).cell 0,(HYW.out _ hL2.kept).cell 1,(HYW.out _ hL2.kept).cell 2,(HYW.out _ hL2.kept).cell 3,(HYW.out _ hL2.kept).cell 4⟩) (fun hHeld => ?_);clear hK K
        try simp only [lyc_,ly_]
        refine tk_ 4 ?_;have hIH := IH ⟨true,true,false,false,false,false,(Value.slice A6 hs.length c6),y3,(Value.int .i64 (hs.length : Int)),y5,y6,y7,y8⟩ _ (show (6 : Nat) < 8 from by decide) ⟨rfl,fun _ => ⟨rfl,rfl⟩,hy6,hL2⟩;dsimp only at hIH;simp only [lyc_,ly_] at hIH;exact hIH
       refine rd1_ (fun K hK => ?_) AllReadyH.nil;obtain ⟨-,hy1,hy6,hL⟩ := hI;replace hy1 := hide hy1;replace hy6 := hide hy6;replace hL := hide hL;go_simp;have hL2 := hL.out.mk5 HLS.out;refine hK.out _ _ (⟨(HYW.out _ hL2.kept).cell 0,(HYW.out _ hL2.kept).cell 1,(HYW.out _ hL2.kept).cell 2,(HYW.out _ hL2.kept).cell 3,(HYW.out _ hL2.kept).cell 4⟩) (fun hHeld => ?_);clear hK K
       try simp only [lyc_,ly_]
       have hIH := IH ⟨false,true,true,false,false,false,y1,y3,y4,(.slice (some ⟨W.heap.size,0,none⟩) 1 1),y6,y7,y8⟩ _ (show (7 : Nat) < 8 from by decide) ⟨rfl,hy1,hy6,hL2⟩;dsimp only at hIH;simp only [lyc_,ly_] at hIH;exact hIH
      ·show wpAnyH _ _ _ _ _ 7 #[true,false,true,true,false,true,false,false,false,false,false] _ _
       try simp only [lyc_,ly_]
       refine r1_ 1 (fun K hK => ?_);obtain ⟨-,hy1,hy6,hL⟩ := hI;replace hy1 := hide hy1;replace hy6 := hide hy6;replace hL := hide hL;have hr : W.cell? ⟨(w.heap.size + 1 + 1 + 1),2,none⟩ = some (.slice A6 hs.length c6) := hL.out.rep.cell 2;go_simp;clear hr;have hL2 := hL.out;refine hK.out _ _ (⟨(HYW.out _ hL2.kept).cell 0,(HYW.out _ hL2.kept).cell 1,(HYW.out _ hL2.kept).cell 2,(HYW.out _ hL2.kept).cell 3,(HYW.out _ hL2.kept).cell 4⟩) (fun hHeld => ?_);clear hK K
       try simp only [lyc_,ly_]
       refine tk_ 4 ?_;have hIH := IH ⟨true,true,true,false,false,false,(Value.slice A6 hs.length c6),y3,(Value.int .i64 (hs.length : Int)),y5,y6,y7,y8⟩ _ (show (5 : Nat) < 7 from by decide) ⟨rfl,fun _ => ⟨rfl,rfl⟩,hy6,hL2⟩;dsimp only at hIH;simp only [lyc_,ly_] at hIH;exact hIH
      ·show wpAnyH _ _ _ _ _ 7 #[true,true,true,false,true,false,false,false,false,false,false] _ _
       try simp only [lyc_,ly_]
       refine rr_ [3,5] ?_;refine rd1_ (fun K hK => ?_) ?_
       ·obtain ⟨-,hy1,hy6,hL⟩ := hI;replace hy1 := hide hy1;replace hy6 := hide hy6;replace hL := hide hL;have hC := copy_any d HSML.out W y (HDW.out W hL.out.kept);go_simp;go_at_call 42;refine hC.mono ?_;rintro ee W3 ⟨x,rfl,hin,hg3⟩;have hL2 := hL.out.mk3 HLS.out hg3 hin;clear hC hin hg3 hL;refine hK.out _ _ (⟨(HYW.out _ hL2.kept).cell 0,(HYW.out _ hL2.kept).cell 1,(HYW.out _ hL2.kept).cell 2,(HYW.out _ hL2.kept).cell 3,(HYW.out _ hL2.kept).cell 4⟩) (fun hHeld => ?_);clear hK K
        try simp only [lyc_,ly_]
        have hIH := IH ⟨true,true,false,false,false,false,y1,x.agg,y4,y5,y6,y7,y8⟩ _ (show (6 : Nat) < 7 from by decide) ⟨rfl,hy1,hy6,hL2⟩;dsimp only at hIH;simp only [lyc_,ly_] at hIH;exact hIH
       refine rd1_ (fun K hK => ?_) AllReadyH.nil;obtain ⟨-,hy1,hy6,hL⟩ := hI;replace hy1 := hide hy1;replace hy6 := hide hy6;replace hL := hide hL;go_simp;have hL2 := hL.out.mk5 HLS.out;refine hK.out _ _ (⟨(HYW.out _ hL2.kept).cell 0,(HYW.out _ hL2.kept).cell 1,(HYW.out _ hL2.kept).cell 2,(HYW.out _ hL2.kept).cell 3,(HYW.out _ hL2.kept).cell 4⟩) (fun hHeld => ?_);clear hK K
       try simp only [lyc_,ly_]
       have hIH := IH ⟨true,false,true,false,false,false,y1,y3,y4,(.slice (some ⟨W.heap.size,0,none⟩) 1 1),y6,y7,y8⟩ _ (show (6 : Nat) < 7 from by decide) ⟨rfl,hy1,hy6,hL2⟩;dsimp only at hIH;simp only [lyc_,ly_] at hIH;exact hIH
      ·show wpAnyH _ _ _ _ _ 6 #[true,true,true,false,true,true,false,false,false,false,false] _ _
       try simp only [lyc_,ly_]
       refine r1_ 3 (fun K hK => ?_);obtain ⟨-,hy1,hy6,hL⟩ := hI;replace hy1 := hide hy1;replace hy6 := hide hy6;replace hL := hide hL;have hC := copy_any d HSML.out W y (HDW.out W hL.out.kept);go_simp;go_at_call 42;refine hC.mono ?_;rintro ee W3 ⟨x,rfl,hin,hg3⟩;have hL2 := hL.out.mk3 HLS.out hg3 hin;clear hC hin hg3 hL;refine hK.out _ _ (⟨(HYW.out _ hL2.kept).cell 0,(HYW.out _ hL2.kept).cell 1,(HYW.out _ hL2.kept).cell 2,(HYW.out _ hL2.kept).cell 3,(HYW.out _ hL2.kept).cell 4⟩) (fun hHeld => ?_);clear hK K
       try simp only [lyc_,ly_]
       have hIH := IH ⟨true,true,true,false,false,false,y1,x.agg,y4,y5,y6,y7,y8⟩ _ (show (5 : Nat) < 6 from by decide) ⟨rfl,hy1,hy6,hL2⟩;dsimp only at hIH;simp only [lyc_,ly_] at hIH;exact hIH
      ·show wpAnyH _ _ _ _ _ 6 #[true,true,true,true,true,false,false,false,false,false,false] _ _
       try simp only [lyc_,ly_]
       refine r1_ 5 (fun K hK => ?_);obtain ⟨-,hy1,hy6,hL⟩ := hI;replace hy1 := hide hy1;replace hy6 := hide hy6;replace hL := hide hL;go_simp;have hL2 := hL.out.mk5 HLS.out;refine hK.out _ _ (⟨(HYW.out _ hL2.kept).cell 0,(HYW.out _ hL2.kept).cell 1,(HYW.out _ hL2.kept).cell 2,(HYW.out _ hL2.kept).cell 3,(HYW.out _ hL2.kept).cell 4⟩) (fun hHeld => ?_);clear hK K
       try simp only [lyc_,ly_]
       have hIH := IH ⟨true,true,true,false,false,false,y1,y3,y4,(.slice (some ⟨W.heap.size,0,none⟩) 1 1),y6,y7,y8⟩ _ (show (5 : Nat) < 6 from by decide) ⟨rfl,hy1,hy6,hL2⟩;dsimp only at hIH;simp only [lyc_,ly_] at hIH;exact hIH
      ·show wpAnyH _ _ _ _ _ 5 #[true,true,true,true,true,true,false,false,false,false,false] _ _
       try simp only [lyc_,ly_]
       refine r1_ 6 (fun K hK => ?_);obtain ⟨-,hy1,hy6,hL⟩ := hI;replace hy1 := hide hy1;replace hy6 := hide hy6;replace hL := hide hL;obtain ⟨rfl,rfl⟩ := hy1.out rfl;obtain ⟨ge,rfl,hge,hbe⟩ := hL.out.bs rfl rfl;refine step_append_src (by rfl) (.tmp 96) (.tmp 100) 24 24 (by rfl) w9.heap.size 27 iv0 _ 5 88 under_vals Hv0.out Hv1.out Hv2.out Hv3.out (by rfl) (.slice A6 hs.length c6) hs.length (cellsV hs) (by rfl) (hL.out.row rfl) _ 1 Cv.zero.cells.toList (by rfl) (src_blkV Cv.zero hbe) (by have := HHN.out;omega) (by simp only [maxLen];have := HHN.out;omega) (Nat.le_trans HZS.out hL.out.size) ?_;intro A7 c7 W3 hown hgr hob;have hL2 := hL.out.mk6 HLS.out hown hgr hob;obtain ⟨g7,cur7,hA7,-⟩ := own_open hown (by omega);subst hA7;clear hown hgr hob hbe hge hL
       refine hK.out _ _ (⟨(HYW.out _ hL2.kept).cell 0,(HYW.out _ hL2.kept).cell 1,(HYW.out _ hL2.kept).cell 2,(HYW.out _ hL2.kept).cell 3,(HYW.out _ hL2.kept).cell 4⟩) (fun hHeld => ?_);clear hK K
       try simp only [lyc_,ly_]
       refine tk_ 7 (hy := Or.inl ⟨by rfl,by intro w hSw;(try dsimp only at hSw);have hix : (hs.length : Int) < (hs.length : Int) + 1 := (by omega);go_simp;try with_reducible rfl⟩) ?_;refine tk_ 9 ?_;have hIH := IH ⟨true,true,true,true,false,false,(Value.slice A6 hs.length c6),y3,(Value.int .i64 (hs.length : Int)),(Value.slice (some ⟨ge,0,none⟩) 1 1),(Value.slice (some ⟨g7,0,none⟩) (hs.length + 1) c7),(Value.pointer (some ⟨g7,hs.length * 5,none⟩)),(Value.pointer (some ⟨(w.heap.size + 1 + 1 + 1),2,none⟩))⟩ _ (show (2 : Nat) < 5 from by decide) ⟨rfl,fun _ => ⟨rfl,rfl⟩,fun _ => ⟨g7,c7,rfl,rfl,rfl⟩,hL2⟩;dsimp only at hIH;simp only [lyc_,ly_] at hIH;exact hIH
      ·show wpAnyH _ _ _ _ _ 2 #[true,true,true,true,true,true,true,true,false,true,false] _ _
       try simp only [lyc_,ly_]
       refine rr_ [8,10] ?_;refine rd1_ (fun K hK => ?_) ?_
       ·obtain ⟨-,hy1,hy6,hL⟩ := hI;replace hy1 := hide hy1;replace hy6 := hide hy6;replace hL := hide hL;obtain ⟨rfl,rfl⟩ := hy1.out rfl;obtain ⟨g7,c7,rfl,rfl,rfl⟩ := hy6.out rfl;obtain ⟨x,rfl,-⟩ := hL.out.cp rfl;have hth : W.there g7 (hs.length * 5) 5 := by
         obtain ⟨g',c',r1,-,-,-,-,r6⟩ := hL.out.row1 rfl;injection r1 with r1 _ r1';injection r1 with r1;injection r1 with r1;subst r1 r1';rcases r6 with ⟨-,k⟩ | ⟨k,-⟩
         ·obtain ⟨g8,cur8,hA8,hb8,hgg8,hnc8,hcm8,hcs8,-,-⟩ := own_open k (by omega)
          cases hA8
          exact fun k hk => own_cells hgg8 (hs.length * 5 + k) (by rw [hcs8];have : (hs.length + 1) * 5 ≤ c7 * 5 := Nat.mul_le_mul_right 5 hnc8;omega)
         cases k
        rw [if_pos (by rfl)];refine wp_store_mid 27 (.tmp 102) (.tmp 98) rfl g7 (hs.length * 5) x.cells rfl rfl hth (by kernel_rfl) (by simp [Value.oneCell']) ?_;have hL2 := hL.out.mk8 HLS.out;clear hth hL;refine hK.out _ _ (⟨(HYW.out _ hL2.kept).cell 0,(HYW.out _ hL2.kept).cell 1,(HYW.out _ hL2.kept).cell 2,(HYW.out _ hL2.kept).cell 3,(HYW.out _ hL2.kept).cell 4⟩) (fun hHeld => ?_);clear hK K
        try simp only [lyc_,ly_]
        have hIH := IH ⟨true,true,true,true,true,false,(Value.slice A6 hs.length c6),x.agg,(Value.int .i64 (hs.length : Int)),y5,(Value.slice (some ⟨g7,0,none⟩) (hs.length + 1) c7),(Value.pointer (some ⟨g7,hs.length * 5,none⟩)),(Value.pointer (some ⟨(w.heap.size + 1 + 1 + 1),2,none⟩))⟩ _ (show (1 : Nat) < 2 from by decide) ⟨rfl,fun _ => ⟨rfl,rfl⟩,fun _ => ⟨g7,c7,rfl,rfl,rfl⟩,hL2⟩;dsimp only at hIH;simp only [lyc_,ly_] at hIH;exact hIH
       refine rd1_ (fun K hK => ?_) AllReadyH.nil;obtain ⟨-,hy1,hy6,hL⟩ := hI;replace hy1 := hide hy1;replace hy6 := hide hy6;replace hL := hide hL;obtain ⟨rfl,rfl⟩ := hy1.out rfl;obtain ⟨g7,c7,rfl,rfl,rfl⟩ := hy6.out rfl;have hrc := hL.out.rep.cell;have hrf := hL.out.rep.frozen;go_simp;clear hrc hrf;have hL2 := hL.out.mk10 HLS.out;clear hL;refine hK.out _ _ (⟨(HYW.out _ hL2.kept).cell 0,(HYW.out _ hL2.kept).cell 1,(HYW.out _ hL2.kept).cell 2,(HYW.out _ hL2.kept).cell 3,(HYW.out _ hL2.kept).cell 4⟩) (fun hHeld => ?_);clear hK K
       try simp only [lyc_,ly_]
       have hIH := IH ⟨true,true,true,true,false,true,(Value.slice A6 hs.length c6),y3,(Value.int .i64 (hs.length : Int)),y5,(Value.slice (some ⟨g7,0,none⟩) (hs.length + 1) c7),(Value.pointer (some ⟨g7,hs.length * 5,none⟩)),(Value.pointer (some ⟨(w.heap.size + 1 + 1 + 1),2,none⟩))⟩ _ (show (1 : Nat) < 2 from by decide) ⟨rfl,fun _ => ⟨rfl,rfl⟩,fun _ => ⟨g7,c7,rfl,rfl,rfl⟩,hL2⟩;dsimp only at hIH;simp only [lyc_,ly_] at hIH;exact hIH
      ·show wpAnyH _ _ _ _ _ 1 #[true,true,true,true,true,true,true,true,false,true,true] _ _
       try simp only [lyc_,ly_]
       refine r1_ 8 (fun K hK => ?_);obtain ⟨-,hy1,hy6,hL⟩ := hI;replace hy1 := hide hy1;replace hy6 := hide hy6;replace hL := hide hL;obtain ⟨rfl,rfl⟩ := hy1.out rfl;obtain ⟨g7,c7,rfl,rfl,rfl⟩ := hy6.out rfl;obtain ⟨x,rfl,-⟩ := hL.out.cp rfl;have hth : W.there g7 (hs.length * 5) 5 := by
        obtain ⟨g',c',r1,-,-,-,-,r6⟩ := hL.out.row1 rfl;injection r1 with r1 _ r1';injection r1 with r1;injection r1 with r1;subst r1 r1';rcases r6 with ⟨-,k⟩ | ⟨k,-⟩
        ·obtain ⟨g8,cur8,hA8,hb8,hgg8,hnc8,hcm8,hcs8,-,-⟩ := own_open k (by omega)
         cases hA8
         exact fun k hk => own_cells hgg8 (hs.length * 5 + k) (by rw [hcs8];have : (hs.length + 1) * 5 ≤ c7 * 5 := Nat.mul_le_mul_right 5 hnc8;omega)
        cases k
       rw [if_pos (by rfl)];refine wp_store_mid 27 (.tmp 102) (.tmp 98) rfl g7 (hs.length * 5) x.cells rfl rfl hth (by kernel_rfl) (by simp [Value.oneCell']) ?_;have hL2 := hL.out.mk8 HLS.out;clear hth hL;refine hK.out _ _ (⟨(HYW.out _ hL2.kept).cell 0,(HYW.out _ hL2.kept).cell 1,(HYW.out _ hL2.kept).cell 2,(HYW.out _ hL2.kept).cell 3,(HYW.out _ hL2.kept).cell 4⟩) (fun hHeld => ?_);clear hK K
       try simp only [lyc_,ly_]
       have hIH := IH ⟨true,true,true,true,true,true,(Value.slice A6 hs.length c6),x.agg,(Value.int .i64 (hs.length : Int)),y5,(Value.slice (some ⟨g7,0,none⟩) (hs.length + 1) c7),(Value.pointer (some ⟨g7,hs.length * 5,none⟩)),(Value.pointer (some ⟨(w.heap.size + 1 + 1 + 1),2,none⟩))⟩ _ (show (0 : Nat) < 1 from by decide) ⟨rfl,fun _ => ⟨rfl,rfl⟩,fun _ => ⟨g7,c7,rfl,rfl,rfl⟩,hL2⟩;dsimp only at hIH;simp only [lyc_,ly_] at hIH;exact hIH
      ·show wpAnyH _ _ _ _ _ 1 #[true,true,true,true,true,true,true,true,true,true,false] _ _
       try simp only [lyc_,ly_]
       refine r1_ 10 (fun K hK => ?_);obtain ⟨-,hy1,hy6,hL⟩ := hI;replace hy1 := hide hy1;replace hy6 := hide hy6;replace hL := hide hL;obtain ⟨rfl,rfl⟩ := hy1.out rfl;obtain ⟨g7,c7,rfl,rfl,rfl⟩ := hy6.out rfl;have hrc := hL.out.rep.cell;have hrf := hL.out.rep.frozen;go_simp;clear hrc hrf;have hL2 := hL.out.mk10 HLS.out;clear hL;refine hK.out _ _ (⟨(HYW.out _ hL2.kept).cell 0,(HYW.out _ hL2.kept).cell 1,(HYW.out _ hL2.kept).cell 2,(HYW.out _ hL2.kept).cell 3,(HYW.out _ hL2.kept).cell 4⟩) (fun hHeld => ?_);clear hK K
       try simp only [lyc_,ly_]
       have hIH := IH ⟨true,true,true,true,true,true,(Value.slice A6 hs.length c6),y3,(Value.int .i64 (hs.length : Int)),y5,(Value.slice (some ⟨g7,0,none⟩) (hs.length + 1) c7),(Value.pointer (some ⟨g7,hs.length * 5,none⟩)),(Value.pointer (some ⟨(w.heap.size + 1 + 1 + 1),2,none⟩))⟩ _ (show (0 : Nat) < 1 from by decide) ⟨rfl,fun _ => ⟨rfl,rfl⟩,fun _ => ⟨g7,c7,rfl,rfl,rfl⟩,hL2⟩;dsimp only at hIH;simp only [lyc_,ly_] at hIH;exact hIH
      show wpAnyH _ _ _ _ _ 0 #[true,true,true,true,true,true,true,true,true,true,true] _ _
      try simp only [lyc_,ly_]
      clear IH;obtain ⟨-,hy1,hy6,hL⟩ := hI;replace hy1 := hide hy1;replace hy6 := hide hy6;replace hL := hide hL;obtain ⟨rfl,rfl⟩ := hy1.out rfl;obtain ⟨g7,c7,x,rfl,hvr,hrp⟩ := hL.out.done HLS.out HVR0.out;have HK1 := hide (show Kept (fun q => q = (w.heap.size + 1 + 1 + 1)) w9 W from HKW0.out.step2 hL.out.kept (fun q hq hs => by
       rcases hs with hs | hs
       ·exact hs
       have := (HLS.out.lt q hs).1;omega))
      have HVR1 := hide hvr;have HRP1 := hide hrp;clear hy1 hy6 hL hvr hrp;refine dn_ ?_;have hjb : j + 1 ≤ 1000001 := by have := HDN.out;omega
      go_wp2_with fail;go_roundg gk'
      case measure => omega
      case rel => exact ⟨j + 1,some ⟨g7,0,none⟩,c7,hs ++ [x],by omega,by omega,by go_num,HK1.out,HRP1.out,by rw [HTK.out];exact HVR1.out⟩
     have hjl : j = docs.length := by omega
     subst hjl;have HVT := hide (show VR (Sob (w.heap.size + 1 + 1) (w.heap.size + 1 + 1 + 1)) wr w9.heap.size A6 c6 hs docs from by have := HVR.out;rwa [List.take_length] at this);obtain ⟨iv0,hv0,hv1,hv2,hv3⟩ := info_parts info_val3;have Hv0 := hide hv0;have Hv1 := hide hv1;have Hv2 := hide hv2;have Hv3 := hide hv3;clear hv0 hv1 hv2 hv3;have HHN := hide (show hs.length ≤ 1000001 by have := HHL.out;have := HDN.out;omega);obtain ⟨cur,hcur,hmk⟩ := make_valsS hs.length (by have := HHN.out;omega);have HCUR := hide hcur;have HMK := hide hmk;clear hcur hmk hlt hj hg;go_wp2_with fail;refine wp_region_noPanic ?_;refine wp_region_held_drew (S := fun _ => True) (by kernel_rfl) (trivial) (fun hHeld => ?_);have HGD := hide (show Grow wr wr.drew from (Grow.refl _).drew);generalize wr.drew = W0 at HGD hHeld ⊢;have HKW0 := hide (HKW.out.trans (Kept.grow HGD.out))
     have HVR0 := hide (HVT.out.grow vR_mono HGD.out);have HBR0 := hide (HBR.out.grow HGD.out);have HZS := hide (show w9.heap.size ≤ W0.heap.size from HKW0.out.size);refine tk_ 0 ?_;refine tk_ 4 ?_
     refine mergeA (σ := Bool × Bool × Bool × Value × Value × Value × Value) (fun ⟨a1,a5,a3,y1,y2,y5,y3⟩ => cond a1 0 2 + cond a5 0 1 + cond a3 0 1 + 3) (fun ⟨a1,a5,a3,y1,y2,y5,y3⟩ => #[true,a1,a1,a3,true,a5,false,false,false]) (fun ⟨a1,a5,a3,y1,y2,y5,y3⟩ a => (fun a : Act => cond a3 (a.put (some 108) y3) a) ((fun a : Act => cond a5 (a.put (some 110) y5) a) ((fun a : Act => cond a1 ((a.put (some 106) y1).put (some 107) y2) a) (a)))) (fun ⟨a1,a5,a3,y1,y2,y5,y3⟩ W => (!a3 || a1) = true ∧ (a1 = true → y1 = .slice A6 hs.length c6 ∧ y2 = .int .i64 hs.length) ∧ (a5 = true → y5 = .slice A6 hs.length c6) ∧ (a3 = true → y3 = .slice (some ⟨W0.heap.size,0,none⟩) 0 hs.length) ∧ W = cond a3 (W0.alloc (.cells cur 27)) W0) ⟨false,false,false,undef,undef,undef,undef⟩ rfl rfl (by rfl) ?_ ?_
     ·exact ⟨rfl,fun e => (by cases e),fun e => (by cases e),fun e => (by cases e),rfl⟩
     intro s W hI IH;obtain ⟨a1,a5,a3,y1,y2,y5,y3⟩ := s;dsimp only at hI
     cases a1 <;> cases a5 <;> cases a3 <;> first | exact absurd hI.1 (by decide) | skip
     ·show wpAnyH _ _ _ _ _ 7 #[true,false,false,false,true,false,false,false,false] _ _
      try simp only [lyc_,ly_]
      refine rr_ [1,5] ?_;refine rd1_ (fun K hK => ?_) ?_
      ·obtain ⟨-,h1,h5,h3,hW⟩ := hI;replace h1 := hide h1;replace h5 := hide h5;replace h3 := hide h3;have hW2 : W0 = W := Eq.symm hW;clear hW;subst hW2;have hr := (HBR0.out).cell 2;go_simp;clear hr;refine hK.out _ _ (trivial) (fun hHeld => ?_);clear hK K
       try simp only [lyc_,ly_]
       refine tk_ 2 ?_;have hIH := IH ⟨true,false,false,(Value.slice A6 hs.length c6),(Value.int .i64 (hs.length : Int)),y5,y3⟩ _ (show (5 : Nat) < 7 from by decide) ⟨rfl,fun _ => ⟨rfl,rfl⟩,h5.out,h3,rfl⟩;dsimp only at hIH;simp only [lyc_,ly_] at hIH;exact hIH
      refine rd1_ (fun K hK => ?_) AllReadyH.nil;obtain ⟨-,h1,h5,h3,hW⟩ := hI;replace h1 := hide h1;replace h5 := hide h5;replace h3 := hide h3;have hW2 : W0 = W := Eq.symm hW;clear hW;subst hW2;have hr := (HBR0.out).cell 2;go_simp;clear hr;refine hK.out _ _ (trivial) (fun hHeld => ?_);clear hK K
      try simp only [lyc_,ly_]
      have hIH := IH ⟨false,true,false,y1,y2,(Value.slice A6 hs.length c6),y3⟩ _ (show (6 : Nat) < 7 from by decide) ⟨rfl,h1.out,fun _ => rfl,h3,rfl⟩;dsimp only at hIH;simp only [lyc_,ly_] at hIH;exact hIH
     ·show wpAnyH _ _ _ _ _ 6 #[true,false,false,false,true,true,false,false,false] _ _
      try simp only [lyc_,ly_]
      refine r1_ 1 (fun K hK => ?_);obtain ⟨-,h1,h5,h3,hW⟩ := hI;replace h1 := hide h1;replace h5 := hide h5;replace h3 := hide h3;have hW2 : W0 = W := Eq.symm hW;clear hW;subst hW2;have hr := (HBR0.out).cell 2;go_simp;clear hr;refine hK.out _ _ (trivial) (fun hHeld => ?_);clear hK K
      try simp only [lyc_,ly_]
      refine tk_ 2 ?_;have hIH := IH ⟨true,true,false,(Value.slice A6 hs.length c6),(Value.int .i64 (hs.length : Int)),y5,y3⟩ _ (show (4 : Nat) < 6 from by decide) ⟨rfl,fun _ => ⟨rfl,rfl⟩,h5.out,h3,rfl⟩;dsimp only at hIH;simp only [lyc_,ly_] at hIH;exact hIH
     ·show wpAnyH _ _ _ _ _ 5 #[true,true,true,false,true,false,false,false,false] _ _
      try simp only [lyc_,ly_]
      refine rr_ [3,5] ?_;refine rd1_ (fun K hK => ?_) ?_
      ·obtain ⟨-,h1,h5,h3,hW⟩ := hI;replace h1 := hide h1;replace h5 := hide h5;replace h3 := hide h3;have hW2 : W0 = W := Eq.symm hW;clear hW;subst hW2;obtain ⟨rfl,rfl⟩ := h1.out rfl;have hmk := HMK.out;go_simp;clear hmk;refine hK.out _ _ (trivial) (fun hHeld => ?_);clear hK K
       try simp only [lyc_,ly_]
       have hIH := IH ⟨true,false,true,(Value.slice A6 hs.length c6),(Value.int .i64 (hs.length : Int)),y5,(Value.slice (some ⟨W0.heap.size,0,none⟩) 0 hs.length)⟩ _ (show (4 : Nat) < 5 from by decide) ⟨rfl,fun _ => ⟨rfl,rfl⟩,h5.out,fun _ => rfl,rfl⟩;dsimp only at hIH;simp only [lyc_,ly_] at hIH;exact hIH
      refine rd1_ (fun K hK => ?_) AllReadyH.nil;obtain ⟨-,h1,h5,h3,hW⟩ := hI;replace h1 := hide h1;replace h5 := hide h5;replace h3 := hide h3;have hW2 : W0 = W := Eq.symm hW;clear hW;subst hW2;have hr := (HBR0.out).cell 2;go_simp;clear hr;refine hK.out _ _ (trivial) (fun hHeld => ?_);clear hK K
      try simp only [lyc_,ly_]
      have hIH := IH ⟨true,true,false,y1,y2,(Value.slice A6 hs.length c6),y3⟩ _ (show (4 : Nat) < 5 from by decide) ⟨rfl,h1.out,fun _ => rfl,h3,rfl⟩;dsimp only at hIH;simp only [lyc_,ly_] at hIH;exact hIH
     ·show wpAnyH _ _ _ _ _ 4 #[true,true,true,true,true,false,false,false,false] _ _
      try simp only [lyc_,ly_]
      refine r1_ 5 (fun K hK => ?_);obtain ⟨-,h1,h5,h3,hW⟩ := hI;replace h1 := hide h1;replace h5 := hide h5;replace h3 := hide h3;have hW2 : W0.alloc (.cells cur 27) = W := Eq.symm hW;clear hW;subst hW2;have hr := (HBR0.out.grow ((Grow.refl W0).alloc (.cells cur 27))).cell 2;go_simp;clear hr;refine hK.out _ _ (trivial) (fun hHeld => ?_);clear hK K
      try simp only [lyc_,ly_]
      have hIH := IH ⟨true,true,true,y1,y2,(Value.slice A6 hs.length c6),y3⟩ _ (show (3 : Nat) < 4 from by decide) ⟨rfl,h1.out,fun _ => rfl,h3,rfl⟩;dsimp only at hIH;simp only [lyc_,ly_] at hIH;exact hIH
     ·show wpAnyH _ _ _ _ _ 4 #[true,true,true,false,true,true,false,false,false] _ _
      try simp only [lyc_,ly_]
      refine r1_ 3 (fun K hK => ?_);obtain ⟨-,h1,h5,h3,hW⟩ := hI;replace h1 := hide h1;replace h5 := hide h5;replace h3 := hide h3;have hW2 : W0 = W := Eq.symm hW;clear hW;subst hW2;obtain ⟨rfl,rfl⟩ := h1.out rfl;have hmk := HMK.out;go_simp;clear hmk;refine hK.out _ _ (trivial) (fun hHeld => ?_);clear hK K
      try simp only [lyc_,ly_]
      have hIH := IH ⟨true,true,true,(Value.slice A6 hs.length c6),(Value.int .i64 (hs.length : Int)),y5,(Value.slice (some ⟨W0.heap.size,0,none⟩) 0 hs.length)⟩ _ (show (3 : Nat) < 4 from by decide) ⟨rfl,fun _ => ⟨rfl,rfl⟩,h5.out,fun _ => rfl,rfl⟩;dsimp only at hIH;simp only [lyc_,ly_] at hIH;exact hIH
     show wpAnyH _ _ _ _ _ 3 #[true,true,true,true,true,true,false,false,false] _ _
     try simp only [lyc_,ly_]
     clear IH;obtain ⟨-,h1,h5,h3,hW⟩ := hI;replace h1 := hide h1;replace h5 := hide h5;replace h3 := hide h3;have hW2 : W0.alloc (.cells cur 27) = W := Eq.symm hW;clear hW;subst hW2;obtain ⟨rfl,rfl⟩ := h1.out rfl;obtain rfl := h5.out rfl;obtain rfl := h3.out rfl;clear h1 h5 h3;refine r1_ 6 (fun K hK => ?_);refine step_append_src (by rfl) (.tmp 108) (.tmp 110) 24 24 (by rfl) w9.heap.size 27 iv0 _ 5 88 under_vals Hv0.out Hv1.out Hv2.out Hv3.out (by rfl) (.slice (some ⟨W0.heap.size,0,none⟩) 0 hs.length) 0 [] (by rfl) (World.ownsRow_made (base := w9.heap.size) (e := 27) (size := 5) W0 cur hs.length HZS.out (by simp only [maxLen];have := HHN.out;omega) HCUR.out) _ hs.length (cellsV hs) (by rfl) (src_rowV (ownG HVR0.out.row ((Grow.refl W0).alloc (.cells cur 27)))) (by have := HHN.out;omega) (by simp only [maxLen];have := HHN.out;omega) (Nat.le_trans HZS.out (by simp)) ?_
     intro A9 c9 w10 hown hgr hob;obtain ⟨hvr,hg10,g9,rfl,hg9⟩ := vr_anew HVR0.out hown hgr hob;clear hown hgr hob;simp only [Nat.zero_add];have HVR10 := hide hvr;have HG10 := hide hg10;have HG9R := hide (show g9 ≠ (w.heap.size + 1 + 1 + 1) ∧ g9 ≠ (w.heap.size + 1 + 1) by have := HLT.out;have := HZS.out;omega);have HBR10 := hide (HBR0.out.grow hg10);clear hvr hg10 hg9;refine hK.out _ _ trivial (fun hHeld => ?_);clear hK K
     try simp only [ly_]
     refine tk_ 7 ?_;refine r1_ 8 (fun K hK => ?_);have hrc := HBR10.out.cell;have hrf := HBR10.out.frozen;go_simp;clear hrc hrf;have HBR11 := hide (HBR10.out.set_ 2 (.slice (some ⟨g9,0,none⟩) hs.length c9));have HK11 := hide ((HKW0.out.trans (Kept.grow HG10.out)).set (p := ⟨(w.heap.size + 1 + 1 + 1),2,none⟩) rfl (.slice (some ⟨g9,0,none⟩) hs.length c9));have HVR11 := hide (HVR10.out.kept vR_mono (Kept.set (S := fun q => q = (w.heap.size + 1 + 1 + 1)) (Kept.refl _ w10) (p := ⟨(w.heap.size + 1 + 1 + 1),2,none⟩) rfl (.slice (some ⟨g9,0,none⟩) hs.length c9)) (fun q hq => Or.inl hq) (fun g hg e => by injection hg with hg;exact HG9R.out.1 (hg.trans e)));generalize w10.setCell ⟨(w.heap.size + 1 + 1 + 1),2,none⟩ (.slice (some ⟨g9,0,none⟩) hs.length c9) = w11 at HBR11 HK11 HVR11 ⊢;refine hK.out _ _ trivial (fun hHeld => ?_);clear hK K
     try simp only [ly_]
     refine dn_ ?_;clear hHeld;have HMB11 := hide (fun (W : World) (hk : Kept (fun q => q = (w.heap.size + 1 + 1 + 1)) w9 W) => show W.cell? ⟨mb,0,none⟩ = some (.slice A2 st2.length cap2) ∧ W.cell? ⟨mb,28,none⟩ = some (.int .i64 n) from by
      have hb := hk.block mb HML.out (fun hq => by have := HMR.out;omega);exact ⟨(World.cell?_of_block hb).trans HMC.out.1,(World.cell?_of_block hb).trans HMC.out.2⟩)
     have hm28 := (HMB11.out _ HK11.out).2;have hrc := HBR11.out.cell;have hrf := HBR11.out.frozen;go_wp2_with fail;clear hm28 hrc hrf;have HBR12 := hide (HBR11.out.set_ 1 (.int .i64 n));have HK12 := hide (HK11.out.set (p := ⟨(w.heap.size + 1 + 1 + 1),1,none⟩) rfl (.int .i64 n));have HVR12 := hide (HVR11.out.kept vR_mono (Kept.set (S := fun q => q = (w.heap.size + 1 + 1 + 1)) (Kept.refl _ w11) (p := ⟨(w.heap.size + 1 + 1 + 1),1,none⟩) rfl (.int .i64 n)) (fun q hq => Or.inl hq) (fun g hg e => by injection hg with hg;exact HG9R.out.1 (hg.trans e)));generalize w11.setCell ⟨(w.heap.size + 1 + 1 + 1),1,none⟩ (.int .i64 n) = w12 at HBR12 HK12 HVR12 ⊢
     have HSW := hide (fun (W : World) (hm : W.heap[mb]? = w12.heap[mb]?) (hb : Blk W (w.heap.size + 1 + 1 + 1) 31 #[.int .i64 0,.int .i64 n,.slice (some ⟨g9,0,none⟩) hs.length c9,.int .i64 0]) => show W.cell? ⟨mb,0,none⟩ = some (.slice A2 st2.length cap2) ∧ W.cell? ⟨(w.heap.size + 1 + 1 + 1),0,none⟩ = some (.int .i64 0) ∧ W.cell? ⟨(w.heap.size + 1 + 1 + 1),1,none⟩ = some (.int .i64 n) ∧ W.cell? ⟨(w.heap.size + 1 + 1 + 1),2,none⟩ = some (.slice (some ⟨g9,0,none⟩) hs.length c9) ∧ W.cell? ⟨(w.heap.size + 1 + 1 + 1),3,none⟩ = some (.int .i64 0) from
      ⟨(World.cell?_of_block (hm.trans ((Kept.refl (S := fun _ => False) w12).block mb (Nat.lt_of_lt_of_le HML.out HK12.out.size) id))).trans (HMB11.out w12 HK12.out).1,hb.cell 0,hb.cell 1,hb.cell 2,hb.cell 3⟩)
     refine wp_region_noPanic ?_;refine wp_region_held_drew (S := fun w' => w'.cell? ⟨mb,0,none⟩ = some (.slice A2 st2.length cap2) ∧ w'.cell? ⟨(w.heap.size + 1 + 1 + 1),0,none⟩ = some (.int .i64 0) ∧ w'.cell? ⟨(w.heap.size + 1 + 1 + 1),1,none⟩ = some (.int .i64 n) ∧ w'.cell? ⟨(w.heap.size + 1 + 1 + 1),2,none⟩ = some (.slice (some ⟨g9,0,none⟩) hs.length c9) ∧ w'.cell? ⟨(w.heap.size + 1 + 1 + 1),3,none⟩ = some (.int .i64 0)) (by kernel_rfl) (HSW.out _ rfl (HBR12.out.grow (Grow.refl _).drew)) (fun hHeld => ?_);have HMBL := hide (Nat.lt_of_lt_of_le HML.out HK12.out.size);have hms : w12.drew.heap = w12.heap := rfl;have HKD := hide (HK12.out.trans (Kept.grow (Grow.refl w12).drew));have HBRD := hide (HBR12.out.grow (Grow.refl w12).drew);have HVRD := hide (HVR12.out.grow vR_mono (Grow.refl w12).drew)
     have HSD := hide (fun (W : World) (hk : Kept (fun q => q = (w.heap.size + 1 + 1)) w12.drew W) (hb : Blk W (w.heap.size + 1 + 1 + 1) 31 #[.int .i64 0,.int .i64 n,.slice (some ⟨g9,0,none⟩) hs.length c9,.int .i64 0]) => HSW.out W (hk.block mb HMBL.out (fun hq => by have := HMR.out;omega)) hb);clear hms HK12 HBR12 HVR12 HSW;generalize w12.drew = W1 at HKD HBRD HVRD HSD hHeld ⊢;have HBOD := hide (HKD.out.blk HBO9.out (by omega));have HSTD := hide (HS2.out.bare (S := Sob (w.heap.size + 1 + 1) (w.heap.size + 1 + 1 + 1)) HBARE.out (HKD.out.mono fun q hq => Or.inl hq));have HZ1 := hide (show w9.heap.size ≤ W1.heap.size from HKD.out.size);have HLT1 := hide (show (w.heap.size + 1 + 1) < W1.heap.size ∧ (w.heap.size + 1 + 1 + 1) < W1.heap.size by have := HLT.out;have := HZ1.out;omega);refine tk_ 0 ?_;refine tk_ 1 ?_;refine tk_ 2 ?_;refine tx_ 3 ?_;refine tx_ 5 ?_
     refine mergeA (σ := Bool × Bool × Bool × Value) (fun ⟨c4,c6,c7,y4⟩ => cond c4 0 1 + cond c6 0 1 + cond c7 0 1) (fun ⟨c4,c6,c7,y4⟩ => #[true,true,true,true,c4,true,c6,c7]) (fun ⟨c4,c6,c7,y4⟩ a => (fun a : Act => cond c4 (a.put (some 123) y4) a) (a)) (fun ⟨c4,c6,c7,y4⟩ W => ((!c6 || c4) && (!c7 || c6)) = true ∧ (c4 = false → W = W1) ∧ Kept (fun q => q = (w.heap.size + 1 + 1)) W1 W ∧ (∃ u,Blk W (w.heap.size + 1 + 1) 44 #[u]) ∧ (c4 = true → ∃ Ax cx_ ex,y4 = .agg #[.slice Ax st2.length cx_] ∧ CR (fun q => q < W1.heap.size) W W1.heap.size Ax cx_ ex st2 ∧ (c6 = true → Blk W (w.heap.size + 1 + 1) 44 #[.slice Ax st2.length cx_]))) ⟨false,false,false,undef⟩ rfl rfl (by rfl) ?_ ?_
     ·exact ⟨rfl,fun _ => rfl,Kept.refl _ _,⟨_,HBOD.out⟩,fun e => (by cases e)⟩
     intro s W hI IH;obtain ⟨c4,c6,c7,y4⟩ := s;dsimp only at hI
     cases c4 <;> cases c6 <;> cases c7 <;> first | exact absurd hI.1 (by decide) | skip
     ·show wpAnyH _ _ _ _ _ 3 #[true,true,true,true,false,true,false,false] _ _
      try simp only [lyc_,ly_]
      refine r1_ 4 (fun K hK => ?_);obtain ⟨-,hW,hk,hbu,h4⟩ := hI;replace hW := hide hW;replace hk := hide hk;replace hbu := hide hbu;replace h4 := hide h4;have hW2 := (hW.out rfl).symm;clear hW;subst hW2;have hC := copySt_any st2 A2 cap2 W1 HSTD.out (HOK2.out.copy (by omega)).1 (HOK2.out.copy (by omega)).2;go_simp;go_at_call 37;refine hC.mono ?_;rintro ee W3 ⟨hg3,A10,c10,es10,rfl,hcr⟩;have hkk := hk.out.trans (Kept.grow hg3);refine hK.out _ _ (HSD.out _ hkk (hkk.blk HBRD.out (by omega))) (fun hHeld => ?_);clear hK K
      try simp only [lyc_,ly_]
      have hIH := IH ⟨true,false,false,(Value.agg #[.slice A10 st2.length c10])⟩ _ (show (2 : Nat) < 3 from by decide) ⟨rfl,fun e => (by cases e),hk.out.trans (Kept.grow hg3),hbu.out.imp fun u hu => hu.grow hg3,fun _ => ⟨A10,c10,es10,rfl,hcr,fun e => (by cases e)⟩⟩;dsimp only at hIH;simp only [lyc_,ly_] at hIH;exact hIH
     ·show wpAnyH _ _ _ _ _ 2 #[true,true,true,true,true,true,false,false] _ _
      try simp only [lyc_,ly_]
      refine r1_ 6 (fun K hK => ?_);obtain ⟨-,hW,hk,hbu,h4⟩ := hI;replace hW := hide hW;replace hk := hide hk;replace hbu := hide hbu;replace h4 := hide h4;obtain ⟨A10,c10,es10,rfl,hcr,-⟩ := h4.out rfl;obtain ⟨u,hbo⟩ := hbu.out;have hoc := hbo.cell;have hof := hbo.frozen;go_simp;clear hoc hof;have hk3 := hk.out.set (p := ⟨(w.heap.size + 1 + 1),0,none⟩) rfl (.slice A10 st2.length c10);have hcr3 := CR.old hcr (Nat.le_refl _) ((Kept.refl (S := fun q => q < W1.heap.size) W).set (p := ⟨(w.heap.size + 1 + 1),0,none⟩) HLT1.out.1 (.slice A10 st2.length c10));have hbo3 := hbo.set_ 0 (.slice A10 st2.length c10);refine hK.out _ _ (HSD.out _ hk3 (hk3.blk HBRD.out (by omega))) (fun hHeld => ?_);clear hK K
      try simp only [lyc_,ly_]
      have hIH := IH ⟨true,true,false,(Value.agg #[.slice A10 st2.length c10])⟩ _ (show (1 : Nat) < 2 from by decide) ⟨rfl,fun e => (by cases e),hk3,⟨_,hbo3⟩,fun _ => ⟨A10,c10,es10,rfl,hcr3,fun _ => hbo3⟩⟩;dsimp only at hIH;simp only [lyc_,ly_] at hIH;exact hIH
     ·show wpAnyH _ _ _ _ _ 1 #[true,true,true,true,true,true,true,false] _ _
      try simp only [lyc_,ly_]
      refine r1_ 7 (fun K hK => ?_);obtain ⟨-,hW,hk,hbu,h4⟩ := hI;replace hW := hide hW;replace hk := hide hk;replace hbu := hide hbu;replace h4 := hide h4;have hbr := hk.out.blk HBRD.out (by omega);have hrc := hbr.cell;have hrf := hbr.frozen;go_simp;clear hrc hrf;rw [setCell_same hbr rfl,setCell_same hbr rfl,setCell_same hbr rfl,setCell_same hbr rfl];refine hK.out _ _ (HSD.out _ hk.out (hk.out.blk HBRD.out (by omega))) (fun hHeld => ?_);clear hK K
      try simp only [lyc_,ly_]
      have hIH := IH ⟨true,true,true,y4⟩ _ (show (0 : Nat) < 1 from by decide) ⟨rfl,hW.out,hk.out,hbu.out,h4.out⟩;dsimp only at hIH;simp only [lyc_,ly_] at hIH;exact hIH
     show wpAnyH _ _ _ _ _ 0 #[true,true,true,true,true,true,true,true] _ _
     try simp only [lyc_,ly_]
     clear IH;obtain ⟨-,hW,hk,hbu,h4⟩ := hI;replace hW := hide hW;replace hk := hide hk;replace hbu := hide hbu;replace h4 := hide h4;obtain ⟨A10,c10,es10,rfl,hcr,hbo⟩ := h4.out rfl;have HBOF := hide (hbo rfl);have HBRF := hide (hk.out.blk HBRD.out (by omega));have HSTF := hide (CR.stIn hcr);have HDF := hide (VR.inL (HVRD.out.kept vR_mono hk.out (fun q hq => Or.inr hq) (fun g hg e => by injection hg with hg;exact HG9R.out.2 (hg.trans e))) (fun g hg e => by
      injection hg with hg;rcases e with e | e
      ·exact HG9R.out.1 (hg.trans e)
      exact HG9R.out.2 (hg.trans e)) (by have := HDN.out;omega))
     have HGF := hide (show Grow w W from HG9.out.below.trans ((HKD.out.below (B := w.heap.size) HG9.out.size (fun q hq => by omega)).trans (hk.out.below (B := w.heap.size) (Nat.le_trans HG9.out.size HZ1.out) (fun q hq => by omega))));clear hW hk h4 hcr hbo;refine dn_ ?_;go_wp2_with fail;refine leaves_cons (f := 41) (args := #[.pointer (some ⟨w.heap.size,0,none⟩),.pointer (some ⟨w.heap.size + 1 + 1,0,none⟩),.pointer (some ⟨w.heap.size + 1 + 1 + 1,0,none⟩)]) (by simp) (by simp [go_sem]) ?_;refine (catchDo_idle w.heap.size (w.heap.size + 1 + 1) (w.heap.size + 1 + 1 + 1) _).mono ?_;rintro r u' w'' ⟨rfl,rfl,rfl⟩;exact ⟨_,do_close HGF.out HDO.out HBOF.out (by rw [← HHL.out];exact HBRF.out) HSTF.out (by exact HDF.out) rfl rfl⟩
end
end Go.Proofs.YtndjopkdbdcmdaaGreatDoor
