/- Part 16 of the proof of pindexes_card. -/
import Derived.Test.YtndjopkdbdcmdaaGreatDoorPix15
set_option linter.unusedVariables false
set_option linter.unusedSimpArgs false
set_option maxRecDepth 100000
set_option maxHeartbeats 12800000
namespace Go.Proofs.YtndjopkdbdcmdaaGreatDoor
section
open Go.RowKit
abbrev mcellsR (A : Option Addr) (n cap : Nat) (d : Int) (c i p : ByteArray) (u : Bool) (k l h x : Cv) (qn rn : Int) (rA : Option Addr) (rl rc : Nat) : Array Value :=
 #[.slice A n cap,.int .i64 d,.string c,.string i,.string p,.bool u,.int .i64 k.k,.int .u64 k.n,.slice k.aB k.nB k.cB,.slice k.aL k.nL k.cL,.slice k.aF k.nF k.cF,
  .int .i64 l.k,.int .u64 l.n,.slice l.aB l.nB l.cB,.slice l.aL l.nL l.cL,.slice l.aF l.nF l.cF,.int .i64 h.k,.int .u64 h.n,.slice h.aB h.nB h.cB,.slice h.aL h.nL h.cL,.slice h.aF h.nF h.cF,
  .int .i64 x.k,.int .u64 x.n,.slice x.aB x.nB x.cB,.slice x.aL x.nL x.cL,.slice x.aF x.nF x.cF,.int .i64 qn,.int .i64 0,.int .i64 rn,.slice rA rl rc,.int .i64 0]
theorem idx_low (cl ch : Cv) (w : World) : (Instr.index 173 (.agg #[.int .i64 cl.k,.int .u64 cl.n,.slice cl.aB cl.nB cl.cB,.slice cl.aL cl.nL cl.cL,.slice cl.aF cl.nF cl.cF,.int .i64 ch.k,.int .u64 ch.n,.slice ch.aB ch.nB ch.cB,.slice ch.aL ch.nL ch.cL,.slice ch.aF ch.nF ch.cF]) (.int .i64 0)).run Tryz.prog w = .ok cl.agg w := by kernel_rfl
theorem idx_high (cl ch : Cv) (w : World) : (Instr.index 173 (.agg #[.int .i64 cl.k,.int .u64 cl.n,.slice cl.aB cl.nB cl.cB,.slice cl.aL cl.nL cl.cL,.slice cl.aF cl.nF cl.cF,.int .i64 ch.k,.int .u64 ch.n,.slice ch.aB ch.nB ch.cB,.slice ch.aL ch.nL ch.cL,.slice ch.aF ch.nF ch.cF]) (.int .i64 1)).run Tryz.prog w = .ok ch.agg w := by kernel_rfl
theorem IsV.elemG {C : Addr → Value → Prop} {k : Int} {n : Nat} {b : List UInt8} {l : List V} {f : List (ByteArray × V)} {c : Cv} (h : IsV C (.mk k n b l f) c) (i : Nat) (hil : i < l.length) : ∃ bk o x,c.aL = some ⟨bk,o,none⟩ ∧ At5 C bk (o + i * 5) x ∧ IsV C l[i] x := by
 rw [IsV] at h;exact h.2.2.2.2.2.2.2.2.2.2.2.2.2.2.2.1 i hil
noncomputable def hitsP (c : Co) (q : Rq) (ds : List V) (j : Nat) : List V := ((ds.take j).filter fun d => withinP (findV q (findX c q) d) q.low q.high).take q.n.toNat
theorem hitsP_yes {c : Co} {q : Rq} {ds : List V} {j : Nat} (hj : j < ds.length) (hl : (hitsP c q ds j).length < q.n.toNat) (hw : withinP (findV q (findX c q) ds[j]) q.low q.high = true) : hitsP c q ds (j + 1) = hitsP c q ds j ++ [ds[j]] := by
 unfold hitsP at hl ⊢;rw [take_snoc ds j hj,List.filter_append,List.filter_cons_of_pos (by exact hw),List.filter_nil];obtain ⟨L,hL⟩ : ∃ L,(ds.take j).filter (fun d => withinP (findV q (findX c q) d) q.low q.high) = L := ⟨_,rfl⟩;rw [hL] at hl ⊢;rw [List.length_take] at hl;have h1 : L.take q.n.toNat = L := List.take_of_length_le (by omega);rw [h1,List.take_of_length_le (by rw [List.length_append,List.length_singleton];omega)]
theorem hitsP_le (c : Co) (q : Rq) (ds : List V) (j : Nat) : (hitsP c q ds j).length ≤ j := by
 unfold hitsP;rw [List.length_take];have h1 := List.length_filter_le (fun d => withinP (findV q (findX c q) d) q.low q.high) (ds.take j);rw [List.length_take] at h1;omega
theorem vr_push {S : Nat → Prop} {w w7 : World} {lo c c7 g : Nat} {A : Option Addr} {hs : List Cv} {l : List V} {d : Cv} {v : V} {zs : List Value} (h : VR S w lo A c hs l) (hv : IsV (AtX w (fun q => ablk A = some q ∨ S q)) v d) (hr : w7.ownsRow lo 27 5 (.slice (some ⟨g,0,none⟩) (hs.length + 1) c7) (hs.length + 1) (cellsV hs ++ zs)) (hz : zs.length = 5)
 (hg : w.grownBy w7 (Value.ownBlock (.slice A hs.length c))) (hat : Value.ownBlock (.slice (some ⟨g,0,none⟩) (hs.length + 1) c7) = Value.ownBlock (.slice A hs.length c) ∨ Value.ownBlock (.slice (some ⟨g,0,none⟩) (hs.length + 1) c7) = some w.heap.size) :
 VR S (w7.setCells g (hs.length * 5) d.cells.toList) lo (some ⟨g,0,none⟩) c7 (hs ++ [d]) (l ++ [v]) := by
 rw [ownBlock_slice] at hg;rw [ownBlock_slice,ownBlock_slice] at hat
 have hput := own_put (D := hs.length) (vs := d.cells.toList) hr (by omega) rfl;have hk : Kept (fun q => ablk A = some q ∨ ablk (some ⟨g,0,none⟩) = some q) w (w7.setCells g (hs.length * 5) d.cells.toList) :=
  ((Kept.of_grown hg).mono (fun q hq => .inl hq)).trans ((Kept.of_grown (setCells_grown g (some g) rfl d.cells.toList w7 (hs.length * 5))).mono (fun q hq => .inr hq))
 have hC : ∀ p u,AtX w (fun q => ablk A = some q ∨ S q) p u → AtX (w7.setCells g (hs.length * 5) d.cells.toList) (fun q => ablk (some ⟨g,0,none⟩) = some q ∨ S q) p u := fun p u hp => by
  have hne : ablk (some ⟨g,0,none⟩) ≠ some p.block := fun e => by
   rcases hat with h1 | h1
   ·exact hp.2.2 (.inl (by rw [← h1];exact e))
   rw [h1] at e;injection e with e;have := hp.2.1;omega
  refine ⟨(World.cell?_of_block (hk.block p.block hp.2.1 (fun hq => ?_))).trans hp.1,Nat.lt_of_lt_of_le hp.2.1 hk.size,fun hq => ?_⟩
  ·rcases hq with hq | hq
   ·exact hp.2.2 (.inl hq)
   exact hne hq
  rcases hq with hq | hq
  ·exact hne hq
  exact hp.2.2 (.inr hq)
 refine ⟨?_,(h.two.mono fun x y k => IsV.mono hC _ _ k).append (Two.one (IsV.mono hC _ _ hv))⟩;have e0 : (cellsV hs).length = hs.length * 5 := cellsV_len hs;rw [List.take_append_of_le_length (by omega),List.take_of_length_le (by omega),List.drop_of_length_le (by rw [List.length_append,e0,hz];omega),List.append_nil] at hput;rw [List.length_append,List.length_singleton,List.map_append,List.flatten_append,List.map_cons,List.map_nil,List.flatten_cons,List.flatten_nil,List.append_nil];exact hput
theorem hitsP_no {c : Co} {q : Rq} {ds : List V} {j : Nat} (hj : j < ds.length) (h : ¬ (hitsP c q ds j).length < q.n.toNat ∨ withinP (findV q (findX c q) ds[j]) q.low q.high = false) : hitsP c q ds (j + 1) = hitsP c q ds j := by
 unfold hitsP at h ⊢;rw [take_snoc ds j hj,List.filter_append];rcases h with h | h
 ·rw [List.length_take] at h;rw [List.take_append_of_le_length (by omega)]
 rw [List.filter_cons_of_neg (by rw [h];decide),List.filter_nil,List.append_nil]
theorem Src.oneW2 {w : World} {o : Obj} (c : Cv) (e : TypeId) : Src Tryz.prog 5 24 (.slice (some ⟨w.heap.size + 1,0,none⟩) 1 1) 1 c.cells.toList ((w.alloc o).alloc (.cells c.cells e)) := by
 have h := Src.oneV (w := w.alloc o) c e;rwa [show (w.alloc o).heap.size = w.heap.size + 1 by simp] at h
theorem Kept.grown_new {S : Nat → Prop} {a w w' : World} {r : Option Nat} (h : Kept S a w) (hg : w.grownBy w' r) (hr : ∀ k,r = some k → a.heap.size ≤ k) : Kept S a w' :=
 ⟨hg.os.trans h.os,hg.tape.trans h.tape,hg.output.trans h.output,Nat.le_trans h.size hg.size,fun k hk hs => (hg.block k (Nat.lt_of_lt_of_le hk h.size) (fun e => by have := hr k e.symm;omega)).trans (h.block k hk hs)⟩
theorem zero_count : V.zero.count ≤ 20000 := by
 unfold V.zero;rw [V.count_mk];decide
theorem setCell_comm (w : World) (p r : Addr) (v u : Value) (h : r.block ≠ p.block) : (w.setCell p v).setCell r u = (w.setCell r u).setCell p v := by
 unfold World.setCell;congr 1;refine Array.ext_getElem? fun i => ?_
 simp only [Array.getElem?_modify];by_cases h1 : r.block = i <;> by_cases h2 : p.block = i <;> simp_all
theorem setCells_setCell {g : Nat} {p : Addr} (h : g ≠ p.block) : ∀ {l : List Value} {w : World} {o : Nat} {v : Value},(w.setCell p v).setCells g o l = (w.setCells g o l).setCell p v
 | [],_,_,_ => rfl
 | x :: r,w,o,v => by
  rw [World.setCells,World.setCells,setCell_comm w p ⟨g,o,none⟩ v x h];exact setCells_setCell h
theorem entP_leF (path : ByteArray) (docs : List V) : (entP path docs).length ≤ docs.length := by
 unfold entP;split
 ·rw [(sortE_perm _).length_eq];exact List.length_filterMap_le _ _
 exact Nat.zero_le _
theorem at_storeF {P : Program} {ops : Array Oper} {Q : Exit → Act → World → Prop} {rest : List Oper} {a : Act} {w : World} (ty : TypeId) {x y : Operand} {t : TypeId} {p : String} {af : Array Edge} (h : wpList P ops Q (⟨none,.store ty x y,t,p,af,none⟩ :: rest) a w) : wpList P ops Q (⟨none,.store ty x y,t,p,af,none⟩ :: rest) a w := h
end
end Go.Proofs.YtndjopkdbdcmdaaGreatDoor
