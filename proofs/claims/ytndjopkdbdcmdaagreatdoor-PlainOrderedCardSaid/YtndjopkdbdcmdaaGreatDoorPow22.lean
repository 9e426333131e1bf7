/- The law PlainOrdered holds of any requests: whatever was done, names and keys rise, each once; of a unique index no two documents have one value. Conditions: the row's own (the listed tables read as their initialisers lay them; the card ties them to the program's text). -/
import Derived.Test.YtndjopkdbdcmdaaGreatDoorPow21
import Derived.Laws.Cover1
set_option linter.unusedVariables false
set_option linter.unusedSimpArgs false
set_option maxRecDepth 100000
set_option maxHeartbeats 12800000
namespace Go.Proofs.YtndjopkdbdcmdaaGreatDoor
section
open Go.RowKit
theorem Bare.state {w : World} {g : Nat} {T : TypeId} {A : Option Addr} {l c : Nat} (ho : Blk w g T #[.slice A l c]) : Bare w (fun q => q = g) := by
 intro p u hp hc;obtain ⟨g',o,pr⟩ := p;have hp' : g' = g := hp;subst hp'
 cases pr with
 | some x =>
  unfold World.cell? at hc;rw [show w.heap[g']? = _ from ho] at hc;simp at hc
 | none =>
  rw [ho.cell] at hc;have ho : o < 1 := by
   rcases Nat.lt_or_ge o 1 with h | h
   ·exact h
   rw [Array.getElem?_eq_none (by simpa using h)] at hc;cases hc
  obtain rfl : o = 0 := by omega
  cases hc
  refine ⟨fun n h => ?_,fun n h => ?_,fun s h => ?_⟩ <;> cases h
structure D2 (W0 : World) (st : List Co) (r : Rp) (d5 d9 d10 d11 d12 : Bool) (y1 y2 y3 y4 : Value) (W : World) : Prop where
 g : Grow W0 W
 res : d5 = true → ∃ A c dA dc,y1 = .agg #[.slice A st.length c] ∧ y2 = .agg (rpCells r.e r.n dA r.docs.length dc r.cursor) ∧ StIn W A c st ∧ InL W dA dc r.docs ∧
  (d9 = true → d11 = true → ∃ g,y3 = .pointer (some ⟨g,0,none⟩) ∧ Blk W g 44 #[.slice A st.length c]) ∧ (d10 = true → d12 = true → ∃ g,y4 = .pointer (some ⟨g,0,none⟩) ∧ Blk W g 31 (rpCells r.e r.n dA r.docs.length dc r.cursor))
 bs : d9 = true → ∃ g,y3 = .pointer (some ⟨g,0,none⟩) ∧ W0.heap.size ≤ g ∧ g < W.heap.size ∧ (d11 = false → Blk W g 44 #[.slice none 0 0])
 br : d10 = true → ∃ g,y4 = .pointer (some ⟨g,0,none⟩) ∧ W0.heap.size ≤ g ∧ g < W.heap.size ∧ (d12 = false → Blk W g 31 #[.int .i64 0,.int .i64 0,.slice none 0 0,.int .i64 0])
 ne : d9 = true → d10 = true → y3 ≠ y4
section
variable {W0 W W' : World} {st : List Co} {r : Rp} {d5 d9 d10 d11 d12 : Bool} {y1 y2 y3 y4 : Value}
theorem D2.start (W0 : World) : D2 W0 st r false false false false false undef undef undef undef W0 := ⟨Grow.refl _,fun e => (by cases e),fun e => (by cases e),fun e => (by cases e),fun e => (by cases e)⟩
theorem D2.grow (h : D2 W0 st r d5 d9 d10 d11 d12 y1 y2 y3 y4 W) (hg : Grow W W') : D2 W0 st r d5 d9 d10 d11 d12 y1 y2 y3 y4 W' := by
 refine ⟨h.g.trans hg,fun e => ?_,fun e => ?_,fun e => ?_,h.ne⟩
 ·obtain ⟨A,c,dA,dc,r1,r2,r3,r4,r5,r6⟩ := h.res e;refine ⟨A,c,dA,dc,r1,r2,r3.grow hg,r4.grow hg,fun e1 e2 => ?_,fun e1 e2 => ?_⟩
  ·obtain ⟨g,k1,k2⟩ := r5 e1 e2;exact ⟨g,k1,k2.grow hg⟩
  obtain ⟨g,k1,k2⟩ := r6 e1 e2;exact ⟨g,k1,k2.grow hg⟩
 ·obtain ⟨g,k1,k2,k3,k4⟩ := h.bs e;exact ⟨g,k1,k2,Nat.lt_of_lt_of_le k3 hg.size,fun e => (k4 e).grow hg⟩
 obtain ⟨g,k1,k2,k3,k4⟩ := h.br e;exact ⟨g,k1,k2,Nat.lt_of_lt_of_le k3 hg.size,fun e => (k4 e).grow hg⟩
theorem D2.call (h : D2 W0 st r false d9 d10 false false y1 y2 y3 y4 W) (hg : Grow W W') {A dA : Option Addr} {c dc : Nat} (hs : StIn W' A c st) (hd : InL W' dA dc r.docs) : D2 W0 st r true d9 d10 false false (.agg #[.slice A st.length c]) (.agg (rpCells r.e r.n dA r.docs.length dc r.cursor)) y3 y4 W' := by
 have h' := h.grow hg;exact ⟨h'.g,fun _ => ⟨A,c,dA,dc,rfl,rfl,hs,hd,fun _ e => (by cases e),fun _ e => (by cases e)⟩,h'.bs,h'.br,h'.ne⟩
theorem D2.mk9 (h : D2 W0 st r d5 false d10 false d12 y1 y2 y3 y4 W) : D2 W0 st r d5 true d10 false d12 y1 y2 (.pointer (some ⟨W.heap.size,0,none⟩)) y4 (W.alloc (.cells #[.slice none 0 0] 44)) := by
 have h' := h.grow ((Grow.refl W).alloc (.cells #[.slice none 0 0] 44));refine ⟨h'.g,fun e => ?_,fun _ => ⟨_,rfl,h.g.size,by simp,fun _ => Blk.new _ _ _⟩,h'.br,fun _ e q => ?_⟩
 ·obtain ⟨A,c,dA,dc,r1,r2,r3,r4,r5,r6⟩ := h'.res e;exact ⟨A,c,dA,dc,r1,r2,r3,r4,fun _ e => (by cases e),r6⟩
 obtain ⟨g,k1,k2,k3,k4⟩ := h.br e;rw [k1] at q;injection q with q;injection q with q;injection q with q;omega
theorem D2.mk10 (h : D2 W0 st r d5 d9 false d11 false y1 y2 y3 y4 W) : D2 W0 st r d5 d9 true d11 false y1 y2 y3 (.pointer (some ⟨W.heap.size,0,none⟩)) (W.alloc (.cells #[.int .i64 0,.int .i64 0,.slice none 0 0,.int .i64 0] 31)) := by
 have h' := h.grow ((Grow.refl W).alloc (.cells #[.int .i64 0,.int .i64 0,.slice none 0 0,.int .i64 0] 31));refine ⟨h'.g,fun e => ?_,h'.bs,fun _ => ⟨_,rfl,h.g.size,by simp,fun _ => Blk.new _ _ _⟩,fun e _ q => ?_⟩
 ·obtain ⟨A,c,dA,dc,r1,r2,r3,r4,r5,r6⟩ := h'.res e;exact ⟨A,c,dA,dc,r1,r2,r3,r4,r5,fun _ e => (by cases e)⟩
 obtain ⟨g,k1,k2,k3,k4⟩ := h.bs e;rw [k1] at q;injection q with q;injection q with q;injection q with q;omega
theorem D2.mk11 (h : D2 W0 st r true true d10 false d12 y1 y2 y3 y4 W) {g : Nat} (h3 : y3 = .pointer (some ⟨g,0,none⟩)) {A : Option Addr} {c : Nat} (h1 : y1 = .agg #[.slice A st.length c]) : D2 W0 st r true true d10 true d12 y1 y2 y3 y4 (W.setCell ⟨g,0,none⟩ (.slice A st.length c)) := by
 obtain ⟨g',k1,k2,k3,k4⟩ := h.bs rfl;rw [h3] at k1;injection k1 with k1;injection k1 with k1;injection k1 with k1;subst k1;have hb := k4 rfl;have hk : Kept (fun q => q = g) W (W.setCell ⟨g,0,none⟩ (.slice A st.length c)) := (Kept.refl (S := fun q => q = g) W).set (p := ⟨g,0,none⟩) rfl _;obtain ⟨A',c',dA,dc,r1,r2,r3,r4,r5,r6⟩ := h.res rfl;rw [h1] at r1;simp at r1;obtain ⟨rfl,rfl⟩ := r1;have hne : ∀ g2,d10 = true → y4 = .pointer (some ⟨g2,0,none⟩) → ¬ g2 = g := fun g2 e q e2 => h.ne rfl e (by rw [h3,q,e2])
 refine ⟨h.g.below.trans (hk.below h.g.size (fun q hq => hq ▸ k2)),fun _ => ⟨A,c,dA,dc,h1,r2,r3.bare (Bare.state hb) hk,r4.bare (Bare.state hb) hk,fun _ _ => ⟨g,h3,hb.set_ 0 _⟩,fun e1 e2 => ?_⟩,fun _ => ⟨g,h3,k2,Nat.lt_of_lt_of_le k3 hk.size,fun e => (by cases e)⟩,fun e => ?_,h.ne⟩
 ·obtain ⟨g2,q1,q2⟩ := r6 e1 e2;exact ⟨g2,q1,hk.blk q2 (hne g2 e1 q1)⟩
 obtain ⟨g2,q1,q2,q3,q4⟩ := h.br e;exact ⟨g2,q1,q2,Nat.lt_of_lt_of_le q3 hk.size,fun e' => hk.blk (q4 e') (hne g2 e q1)⟩
theorem D2.mk12 (h : D2 W0 st r true d9 true d11 false y1 y2 y3 y4 W) {g : Nat} (h3 : y4 = .pointer (some ⟨g,0,none⟩)) {dA : Option Addr} {dc : Nat} (h1 : y2 = .agg (rpCells r.e r.n dA r.docs.length dc r.cursor)) :
 D2 W0 st r true d9 true d11 true y1 y2 y3 y4 ((((W.setCell ⟨g,0,none⟩ (.int .i64 r.e)).setCell ⟨g,1,none⟩ (.int .i64 r.n)).setCell ⟨g,2,none⟩ (.slice dA r.docs.length dc)).setCell ⟨g,3,none⟩ (.int .i64 r.cursor)) := by
 obtain ⟨g',k1,k2,k3,k4⟩ := h.br rfl;rw [h3] at k1;injection k1 with k1;injection k1 with k1;injection k1 with k1;subst k1;have hb := k4 rfl;have hk : Kept (fun q => q = g) W ((((W.setCell ⟨g,0,none⟩ (.int .i64 r.e)).setCell ⟨g,1,none⟩ (.int .i64 r.n)).setCell ⟨g,2,none⟩ (.slice dA r.docs.length dc)).setCell ⟨g,3,none⟩ (.int .i64 r.cursor)) :=
  ((((Kept.refl (S := fun q => q = g) W).set (p := ⟨g,0,none⟩) rfl _).set (p := ⟨g,1,none⟩) rfl _).set (p := ⟨g,2,none⟩) rfl _).set (p := ⟨g,3,none⟩) rfl _
 obtain ⟨A,c,dA',dc',r1,r2,r3,r4,r5,r6⟩ := h.res rfl;rw [h1] at r2;simp at r2;obtain ⟨rfl,rfl⟩ := r2;have hne : ∀ g2,d9 = true → y3 = .pointer (some ⟨g2,0,none⟩) → ¬ g2 = g := fun g2 e q e2 => h.ne e rfl (by rw [h3,q,e2])
 refine ⟨h.g.below.trans (hk.below h.g.size (fun q hq => hq ▸ k2)),fun _ => ⟨A,c,dA,dc,r1,h1,r3.bare (Bare.reply hb) hk,r4.bare (Bare.reply hb) hk,fun e1 e2 => ?_,fun _ _ => ⟨g,h3,(((hb.set_ 0 _).set_ 1 _).set_ 2 _).set_ 3 _⟩⟩,fun e => ?_,fun _ => ⟨g,h3,k2,Nat.lt_of_lt_of_le k3 hk.size,fun e => (by cases e)⟩,h.ne⟩
 ·obtain ⟨g2,q1,q2⟩ := r5 e1 e2;exact ⟨g2,q1,hk.blk q2 (hne g2 e1 q1)⟩
 obtain ⟨g2,q1,q2,q3,q4⟩ := h.bs e;exact ⟨g2,q1,q2,Nat.lt_of_lt_of_le q3 hk.size,fun e' => hk.blk (q4 e') (hne g2 e q1)⟩
theorem D2.done (h : D2 W0 st r true true true true true y1 y2 y3 y4 W) : ∃ A c dA dc gs gr,y1 = .agg #[.slice A st.length c] ∧ y2 = .agg (rpCells r.e r.n dA r.docs.length dc r.cursor) ∧ y3 = .pointer (some ⟨gs,0,none⟩) ∧ y4 = .pointer (some ⟨gr,0,none⟩) ∧ W0.heap.size ≤ gs ∧ W0.heap.size ≤ gr ∧ gs ≠ gr ∧ Grow W0 W ∧
 Blk W gs 44 #[.slice A st.length c] ∧ Blk W gr 31 (rpCells r.e r.n dA r.docs.length dc r.cursor) ∧ StIn W A c st ∧ InL W dA dc r.docs := by
 obtain ⟨A,c,dA,dc,r1,r2,r3,r4,r5,r6⟩ := h.res rfl;obtain ⟨gs,s1,s2⟩ := r5 rfl rfl;obtain ⟨gr,t1,t2⟩ := r6 rfl rfl;obtain ⟨g,k1,k2,-⟩ := h.bs rfl;obtain ⟨g',l1,l2,-⟩ := h.br rfl;have e1 : g = gs := by rw [s1] at k1;injection k1 with k1;injection k1 with k1;injection k1 with k1;exact k1.symm
 have e2 : g' = gr := by rw [t1] at l1;injection l1 with l1;injection l1 with l1;injection l1 with l1;exact l1.symm
 subst e1 e2;exact ⟨A,c,dA,dc,g,g',r1,r2,s1,t1,k2,l2,fun e => h.ne rfl rfl (by rw [s1,t1,e]),h.g,s2,t2,r3,r4⟩
end
end
section
open Go.RowKit
def DoR (w : World) (st : List Co) (r : Rp) (e : Ending) (w' : World) : Prop :=
 Grow w w' ∧ ∃ A c dA dc,e = .returned (.tuple #[.agg #[.slice A st.length c],.agg (rpCells r.e r.n dA r.docs.length dc r.cursor)]) ∧ StIn w' A c st ∧ InL w' dA dc r.docs
section
variable {P : Program} {ops : Array Oper} {Q : Exit → Act → World → Prop} {S : World → Prop}
def mkL (b : Nat) (l : List Bool) : Array Bool := (List.replicate b true ++ l).toArray
theorem mkL_set (b k : Nat) (l : List Bool) : (mkL b l).setIfInBounds (b + k) true = mkL b (l.set k true) := by
 unfold mkL;rw [List.setIfInBounds_toArray,List.set_append_right _ _ (by simp)];simp
def rdT : List (List Bool × List Nat) :=
 [([false,false,false,false,false,false,false,false],[0,4,5]),([false,false,false,false,true,false,false,false],[0,5]),([false,false,false,false,false,true,false,false],[0,4]),([false,false,false,false,true,true,false,false],[0]),
  ([true,true,true,true,false,false,false,false],[4,5]),([true,true,true,true,true,false,false,false],[5]),([true,true,true,true,false,true,false,false],[4]),([true,true,true,true,true,true,false,false],[6]),([true,true,true,true,true,true,true,false],[7]),([true,true,true,true,true,true,true,true],[])]
def rdG : List (List Bool × Nat) :=
 [false,true].flatMap fun x => [false,true].flatMap fun y => [([true,false,false,false,x,y,false,false],1),([true,true,false,false,x,y,false,false],2),([true,true,true,false,x,y,false,false],3)]
def RDok (ops : Array Oper) (b : Nat) (l9 l10 : Nat) : Bool :=
 Region.noSelect ops && rdT.all (fun x => Region.ready .any ops (mkL b x.1) == x.2.map (b + ·)) && rdG.all (fun x => Region.free .any ops (mkL b x.1) (b + x.2) && (Region.ready .any ops (mkL b x.1)).contains (b + x.2)) &&
  (match ops[b]? with | some o => !(o.looksAt ops).contains l9 && !(o.looksAt ops).contains l10 | none => false)
theorem ev_self {a : Act} {i : Nat} {v : Value} (h : i < a.tmps.size) : (a.put (some i) v).eval (.tmp i) = v := by
 simp [Act.put,Act.eval,h]
theorem ev_ne {a : Act} {i j : Nat} {v : Value} (h : i ≠ j) : (a.put (some i) v).eval (.tmp j) = a.eval (.tmp j) := by
 simp [Act.put,Act.eval,Array.getD_eq_getD_getElem?,Array.getElem?_setIfInBounds_ne h]
theorem sz_put {a : Act} {i : Nat} {v : Value} : (a.put (some i) v).tmps.size = a.tmps.size := by simp [Act.put]
theorem pcomm (a : Act) {i j : Nat} (u v : Value) (h : i ≠ j) : (a.put (some i) u).put (some j) v = (a.put (some j) v).put (some i) u :=
 Act.put_comm a u v (fun d hd e => h (by injection hd with hd;injection e with e;rw [hd,e]))
theorem wpOp_val {i : Nat} {d : Option Tmp} {op : Op} {t : TypeId} {p : String} {af : Array Edge} {K : Act → World → Prop} {a : Act} {w w' : World} {v : Value} (ho : ops[i]? = some ⟨d,op,t,p,af,none⟩)
 (hr : (execOp a.eval ⟨d,op,t,p,af,none⟩).run P w = .ok (.value v) w') (h : K (a.put d v) w') : wpOp P ops Q i K a w := by
 refine wpOp_step ho fun K' hK => ?_
 rw [if_pos (by rfl)];unfold Oper.wp;rw [hr,Oper.upon_value];exact hK _ _ h
theorem wpOp_skip {i : Nat} {op : Op} {t : TypeId} {p : String} {af : Array Edge} {K : Act → World → Prop} {a : Act} {w w' : World} (ho : ops[i]? = some ⟨none,op,t,p,af,none⟩)
 (hr : (execOp a.eval ⟨none,op,t,p,af,none⟩).run P w = .ok .skip w') (h : K a w') : wpOp P ops Q i K a w := by
 refine wpOp_step ho fun K' hK => ?_
 rw [if_pos (by rfl)];unfold Oper.wp;rw [hr,Oper.upon_skip];exact hK _ _ h
theorem wpOp_enter {i : Nat} {d : Option Tmp} {op : Op} {t : TypeId} {p : String} {af : Array Edge} {K : Act → World → Prop} {a : Act} {w : World} {f : FuncId} {args : Array Value} {R : Ending → World → Prop} (ho : ops[i]? = some ⟨d,op,t,p,af,none⟩)
 (hr : (execOp a.eval ⟨d,op,t,p,af,none⟩).run P w = .ok (.enter f args) w) (hC : Calls P f args w R) (h : ∀ e w',R e w' → ∃ v,e = .returned v ∧ K (a.put d v) w') : wpOp P ops Q i K a w := by
 refine wpOp_step ho fun K' hK => ?_
 rw [if_pos (by rfl)];unfold Oper.wp;rw [hr,Oper.upon_enter];refine hC.mono fun e w' he => ?_
 obtain ⟨v,rfl,hv⟩ := h e w' he;exact hK _ _ hv
end
section
variable {ops : Array Oper} {Q : Exit → Act → World → Prop} {S : World → Prop}
theorem run_allocS {e : Operand → Value} {d : Option Tmp} {t : TypeId} {p : String} {af : Array Edge} {w : World} : (execOp e ⟨d,.alloc 44,t,p,af,none⟩).run Tryz.prog w = .ok (.value (.pointer (some ⟨w.heap.size,0,none⟩))) (w.alloc (.cells #[.slice none 0 0] 44)) := by
 kernel_rfl
theorem run_allocR {e : Operand → Value} {d : Option Tmp} {t : TypeId} {p : String} {af : Array Edge} {w : World} : (execOp e ⟨d,.alloc 31,t,p,af,none⟩).run Tryz.prog w = .ok (.value (.pointer (some ⟨w.heap.size,0,none⟩))) (w.alloc (.cells #[.int .i64 0,.int .i64 0,.slice none 0 0,.int .i64 0] 31)) := by
 kernel_rfl
theorem run_storeS {x : Act} {i j : Nat} {t : TypeId} {p : String} {af : Array Edge} {w : World} {g : Nat} {A : Option Addr} {l c : Nat} (h1 : x.eval (.tmp i) = .pointer (some ⟨g,0,none⟩)) (h2 : x.eval (.tmp j) = .agg #[.slice A l c]) (hb : Blk w g 44 #[.slice none 0 0]) :
 (execOp x.eval ⟨none,.store 44 (.tmp i) (.tmp j),t,p,af,none⟩).run Tryz.prog w = .ok .skip (w.setCell ⟨g,0,none⟩ (.slice A l c)) := by
 have hbc := hb.cell;have hbf := hb.frozen;unfold execOp;dsimp only;rw [h1,h2];go_simp
theorem run_storeR {x : Act} {i j : Nat} {t : TypeId} {p : String} {af : Array Edge} {w : World} {g : Nat} {A : Option Addr} {l c : Nat} {e n k : Int} (h1 : x.eval (.tmp i) = .pointer (some ⟨g,0,none⟩)) (h2 : x.eval (.tmp j) = .agg (rpCells e n A l c k)) (hb : Blk w g 31 #[.int .i64 0,.int .i64 0,.slice none 0 0,.int .i64 0]) :
 (execOp x.eval ⟨none,.store 31 (.tmp i) (.tmp j),t,p,af,none⟩).run Tryz.prog w = .ok .skip ((((w.setCell ⟨g,0,none⟩ (.int .i64 e)).setCell ⟨g,1,none⟩ (.int .i64 n)).setCell ⟨g,2,none⟩ (.slice A l c)).setCell ⟨g,3,none⟩ (.int .i64 k)) := by
 have hbc := hb.cell;have hbf := hb.frozen;unfold execOp;dsimp only;rw [h1,h2];go_simp
abbrev vSt (st : List Co) (A : Option Addr) (c : Nat) : Value := .agg #[.slice A st.length c]
abbrev vRp (r : Rp) (dA : Option Addr) (dc : Nat) : Value := .agg (rpCells r.e r.n dA r.docs.length dc r.cursor)
abbrev pA (g : Nat) : Value := .pointer (some ⟨g,0,none⟩)
def DoF (W0 W : World) (st : List Co) (r : Rp) (A dA : Option Addr) (c dc gs gr : Nat) : Prop := W0.heap.size ≤ gs ∧ W0.heap.size ≤ gr ∧ gs ≠ gr ∧ Grow W0 W ∧ Blk W gs 44 #[.slice A st.length c] ∧ Blk W gr 31 (rpCells r.e r.n dA r.docs.length dc r.cursor) ∧ StIn W A c st ∧ InL W dA dc r.docs
structure DoOps (ops : Array Oper) (b s5 s6 s7 s8 s9 s10 : Nat) (o5 : Oper) : Prop where
 o5 : ops[b]? = some o5 ∧ o5.dst = some s5 ∧ o5.guard = none
 o6 : ∃ t p e,ops[b + 1]? = some ⟨some s6,.move (.tmp s5),t,p,e,none⟩
 o7 : ∃ t p e,ops[b + 2]? = some ⟨some s7,.extract (.tmp s6) 0,t,p,e,none⟩
 o8 : ∃ t p e,ops[b + 3]? = some ⟨some s8,.extract (.tmp s6) 1,t,p,e,none⟩
 o9 : ∃ t p e,ops[b + 4]? = some ⟨some s9,.alloc 44,t,p,e,none⟩
 o10 : ∃ t p e,ops[b + 5]? = some ⟨some s10,.alloc 31,t,p,e,none⟩
 o11 : ∃ t p e,ops[b + 6]? = some ⟨none,.store 44 (.tmp s9) (.tmp s7),t,p,e,none⟩
 o12 : ∃ t p e,ops[b + 7]? = some ⟨none,.store 31 (.tmp s10) (.tmp s8),t,p,e,none⟩
def DoSlots (s5 s6 s7 s8 s9 s10 n : Nat) : Bool := [s5,s6,s7,s8,s9,s10].all (fun s => Nat.blt s n) && decide ([s5,s6,s7,s8,s9,s10].Nodup)
theorem doSlots {s5 s6 s7 s8 s9 s10 n : Nat} (h : DoSlots s5 s6 s7 s8 s9 s10 n = true) : ((s5 < n ∧ s6 < n) ∧ (s7 < n ∧ s8 < n) ∧ s9 < n ∧ s10 < n) ∧ (s5 ≠ s6 ∧ s5 ≠ s7 ∧ s5 ≠ s8 ∧ s5 ≠ s9 ∧ s5 ≠ s10) ∧ (s6 ≠ s7 ∧ s6 ≠ s8 ∧ s6 ≠ s9 ∧ s6 ≠ s10) ∧ (s7 ≠ s8 ∧ s7 ≠ s9 ∧ s7 ≠ s10) ∧ (s8 ≠ s9 ∧ s8 ≠ s10) ∧ s9 ≠ s10 := by
 simp [DoSlots,Nat.blt_eq] at h;omega
variable {b s5 s6 s7 s8 s9 s10 : Nat} {o5 : Oper}
abbrev put4 (s5 s6 s7 s8 : Nat) (y0 y1 y2 : Value) (a : Act) : Act := (((a.put (some s5) y0).put (some s6) y0).put (some s7) y1).put (some s8) y2
theorem put4_comm {s : Nat} {v y0 y1 y2 : Value} {a : Act} (h5 : s5 ≠ s) (h6 : s6 ≠ s) (h7 : s7 ≠ s) (h8 : s8 ≠ s) : (put4 s5 s6 s7 s8 y0 y1 y2 a).put (some s) v = put4 s5 s6 s7 s8 y0 y1 y2 (a.put (some s) v) := by
 unfold put4;rw [pcomm _ _ _ h8,pcomm _ _ _ h7,pcomm _ _ _ h6,pcomm _ _ _ h5]
def ptD (s9 s10 : Nat) (d9 d10 : Bool) (y3 y4 : Value) (a : Act) : Act := bif d10 then (bif d9 then a.put (some s9) y3 else a).put (some s10) y4 else (bif d9 then a.put (some s9) y3 else a)
abbrev fA (s5 s6 s7 s8 : Nat) (st : List Co) (r : Rp) (A dA : Option Addr) (c dc : Nat) (x : Act) : Act := put4 s5 s6 s7 s8 (.tuple #[vSt st A c,vRp r dA dc]) (vSt st A c) (vRp r dA dc) x
abbrev wA (ops : Array Oper) (Q : Exit → Act → World → Prop) (S : World → Prop) (n : Nat) (l : Array Bool) (a : Act) (w : World) : Prop := wpAnyH Tryz.prog .any ops (NoPanic Q) S n l a w
theorem do_regD (H : DoOps ops b s5 s6 s7 s8 s9 s10 o5)
 (hRD : RDok ops b s9 s10 = true) {a : Act} (hz : DoSlots s5 s6 s7 s8 s9 s10 a.tmps.size = true)
 {W0 : World} {st : List Co} {r : Rp} {f : FuncId} {args : Array Value} (hrun : ∀ W,(execOp a.eval o5).run Tryz.prog W = .ok (.enter f args) W) {G : World → Prop} (hG : ∀ W W',G W → Grow W W' → G W') (hC : ∀ W,G W → Calls Tryz.prog f args W (DoR W st r)) (hS : ∀ W,Grow W0 W → S W)
 (hd : ∀ (W : World) (A dA : Option Addr) (c dc gs gr : Nat),DoF W0 W st r A dA c dc gs gr →
  Q .normal (fA s5 s6 s7 s8 st r A dA c dc ((a.put (some s9) (pA gs)).put (some s10) (pA gr))) W)
 (d9 d10 : Bool) (y3 y4 : Value) (W : World) (hI : D2 W0 st r false d9 d10 false false undef undef y3 y4 W) (hg0 : G W) :
 wA ops Q S (6 + (bif d9 then 0 else 1) + (bif d10 then 0 else 1)) (mkL b [false,false,false,false,d9,d10,false,false]) (ptD s9 s10 d9 d10 y3 y4 a) W := by
 obtain ⟨⟨h5,hd5,hgd5⟩,⟨t6,p6,e6,h6⟩,⟨t7,p7,e7,h7⟩,⟨t8,p8,e8,h8⟩,⟨t9,p9,e9,h9⟩,⟨t10,p10,e10,h10⟩,⟨t11,p11,e11,h11⟩,t12,p12,e12,h12⟩ := H;obtain ⟨d5,op5,t5,p5,e5,g5⟩ := o5;dsimp only at hd5 hgd5;subst hd5 hgd5;unfold RDok at hRD;simp only [Bool.and_eq_true] at hRD;obtain ⟨⟨⟨hns,hT⟩,hF⟩,hlk⟩ := hRD;rw [h5] at hlk;simp only [Bool.and_eq_true,Bool.not_eq_true',← Bool.not_eq_true] at hlk;obtain ⟨hl9,hl10⟩ := hlk;have rdy : ∀ l rs,(l,rs) ∈ rdT → Region.ready .any ops (mkL b l) = rs.map (b + ·) := fun l rs h => by
  have := List.all_eq_true.1 hT _ h;simpa using this
 have fre : ∀ l k,(l,k) ∈ rdG → Region.free .any ops (mkL b l) (b + k) = true ∧ (Region.ready .any ops (mkL b l)).contains (b + k) = true := fun l k h => by
  have := List.all_eq_true.1 hF _ h;simpa using this
 obtain ⟨⟨⟨z5,z6⟩,⟨z7,z8⟩,z9,z10⟩,⟨n56,n57,n58,n59,n5a⟩,⟨n67,n68,n69,n6a⟩,⟨n78,n79,n7a⟩,⟨n89,n8a⟩,n9a⟩ := doSlots hz;have sel5 : ∀ cs bb,(⟨some s5,op5,t5,p5,e5,none⟩ : Oper).op ≠ .select cs bb := fun cs bb => Region.noSelect_spec hns b _ cs bb h5
 have hrunD : ∀ d9 d10 y3 y4 W,(execOp (ptD s9 s10 d9 d10 y3 y4 a).eval ⟨some s5,op5,t5,p5,e5,none⟩).run Tryz.prog W = .ok (.enter f args) W := fun d9 d10 y3 y4 W => by
  have k9 : ∀ (x : Act) y,execOp (x.put (some s9) y).eval (⟨some s5,op5,t5,p5,e5,none⟩ : Oper) = execOp x.eval (⟨some s5,op5,t5,p5,e5,none⟩ : Oper) := fun x y => execOp_put (ops := ops) _ sel5 x (some s9) y (fun d hd hm => by injection hd with hd;subst hd;exact hl9 (by simpa using hm))
  have k10 : ∀ (x : Act) y,execOp (x.put (some s10) y).eval (⟨some s5,op5,t5,p5,e5,none⟩ : Oper) = execOp x.eval (⟨some s5,op5,t5,p5,e5,none⟩ : Oper) := fun x y => execOp_put (ops := ops) _ sel5 x (some s10) y (fun d hd hm => by injection hd with hd;subst hd;exact hl10 (by simpa using hm))
  unfold ptD
  cases d9 <;> cases d10 <;> simp only [cond_true,cond_false] <;> (try rw [k10]) <;> (try rw [k9]) <;> exact hrun W
 have L3 : ∀ (A dA : Option Addr) (c dc gs gr : Nat) (W : World),D2 W0 st r true true true true false (vSt st A c) (vRp r dA dc) (pA gs) (pA gr) W →
  wA ops Q S 1 (mkL b [true,true,true,true,true,true,true,false]) (fA s5 s6 s7 s8 st r A dA c dc ((a.put (some s9) (pA gs)).put (some s10) (pA gr))) W := fun A dA c dc gs gr W hD => by
  refine wpAnyH_all (rdy _ [7] (by decide)) (by simp) fun i hi => ?_
  obtain rfl : i = b + 7 := by simpa using hi
  obtain ⟨g,hg,-,-,hb⟩ := hD.br rfl;injection hg with hg;injection hg with hg;injection hg with hg;subst hg;refine wpOp_skip h12 (run_storeR (g := gr) (e := r.e) (n := r.n) (A := dA) (l := r.docs.length) (c := dc) (k := r.cursor) ?_ ?_ (hb rfl)) ?_
  ·unfold fA put4;rw [ev_ne n8a,ev_ne n7a,ev_ne n6a,ev_ne n5a,ev_self (by simp only [sz_put];exact z10)]
  ·unfold fA put4;rw [ev_self (by simp only [sz_put];exact z8)]
  have hD2 := hD.mk12 rfl rfl;refine ⟨hS _ hD2.g,?_⟩;rw [mkL_set];refine wpAnyH_done (rdy _ [] (by decide)) (NoPanic.normal ?_) _;obtain ⟨A',c',dA',dc',gs',gr',q1,q2,q3,q4,k1,k2,k3,k4,k5,k6,k7,k8⟩ := hD2.done;injection q3 with q3;injection q3 with q3;injection q3 with q3;injection q4 with q4;injection q4 with q4;injection q4 with q4;subst q3 q4;simp only [Value.agg.injEq,Array.mk.injEq,List.cons.injEq,Value.slice.injEq,and_true,true_and] at q1;simp only [rpCells,Value.agg.injEq,Array.mk.injEq,List.cons.injEq,Value.slice.injEq,Value.int.injEq,and_true,true_and] at q2;obtain ⟨rfl,rfl⟩ := q1;obtain ⟨rfl,rfl⟩ := q2;exact hd _ A dA c dc gs gr ⟨k1,k2,k3,k4,k5,k6,k7,k8⟩
 have L2 : ∀ (A dA : Option Addr) (c dc gs gr : Nat) (W : World),D2 W0 st r true true true false false (vSt st A c) (vRp r dA dc) (pA gs) (pA gr) W →
  wA ops Q S 2 (mkL b [true,true,true,true,true,true,false,false]) (fA s5 s6 s7 s8 st r A dA c dc ((a.put (some s9) (pA gs)).put (some s10) (pA gr))) W := fun A dA c dc gs gr W hD => by
  refine wpAnyH_all (rdy _ [6] (by decide)) (by simp) fun i hi => ?_
  obtain rfl : i = b + 6 := by simpa using hi
  obtain ⟨g,hg,-,-,hb⟩ := hD.bs rfl;injection hg with hg;injection hg with hg;injection hg with hg;subst hg;refine wpOp_skip h11 (run_storeS (g := gs) (A := A) (l := st.length) (c := c) ?_ ?_ (hb rfl)) ?_
  ·unfold fA put4;rw [ev_ne n89,ev_ne n79,ev_ne n69,ev_ne n59,ev_ne (Ne.symm n9a),ev_self z9]
  ·unfold fA put4;rw [ev_ne (Ne.symm n78),ev_self (by simp only [sz_put];exact z7)]
  have hD2 := hD.mk11 rfl rfl;refine ⟨hS _ hD2.g,?_⟩;rw [mkL_set];exact L3 A dA c dc gs gr _ hD2
 have fin : ∀ (d9 d10 : Bool) (A dA : Option Addr) (c dc : Nat) (y3 y4 : Value) (W : World),D2 W0 st r true d9 d10 false false (vSt st A c) (vRp r dA dc) y3 y4 W →
  wA ops Q S (2 + (bif d9 then 0 else 1) + (bif d10 then 0 else 1)) (mkL b [true,true,true,true,d9,d10,false,false]) (fA s5 s6 s7 s8 st r A dA c dc (ptD s9 s10 d9 d10 y3 y4 a)) W := by
  have tt : ∀ (A dA : Option Addr) (c dc : Nat) (y3 y4 : Value) (W : World),D2 W0 st r true true true false false (vSt st A c) (vRp r dA dc) y3 y4 W →
   wA ops Q S 2 (mkL b [true,true,true,true,true,true,false,false]) (fA s5 s6 s7 s8 st r A dA c dc ((a.put (some s9) y3).put (some s10) y4)) W := fun A dA c dc y3 y4 W hD => by
   obtain ⟨gs,rfl,-⟩ := hD.bs rfl;obtain ⟨gr,rfl,-⟩ := hD.br rfl;exact L2 A dA c dc gs gr W hD
  have tf : ∀ (A dA : Option Addr) (c dc : Nat) (y3 y4 : Value) (W : World),D2 W0 st r true true false false false (vSt st A c) (vRp r dA dc) y3 y4 W →
   wA ops Q S 3 (mkL b [true,true,true,true,true,false,false,false]) (fA s5 s6 s7 s8 st r A dA c dc (a.put (some s9) y3)) W := fun A dA c dc y3 y4 W hD => by
   refine wpAnyH_all (rdy _ [5] (by decide)) (by simp) fun i hi => ?_
   obtain rfl : i = b + 5 := by simpa using hi
   refine wpOp_val h10 run_allocR ?_;have hD2 := hD.mk10;refine ⟨hS _ hD2.g,?_⟩;rw [mkL_set,put4_comm n5a n6a n7a n8a];exact tt A dA c dc _ _ _ hD2
  have ft : ∀ (A dA : Option Addr) (c dc : Nat) (y3 y4 : Value) (W : World),D2 W0 st r true false true false false (vSt st A c) (vRp r dA dc) y3 y4 W →
   wA ops Q S 3 (mkL b [true,true,true,true,false,true,false,false]) (fA s5 s6 s7 s8 st r A dA c dc (a.put (some s10) y4)) W := fun A dA c dc y3 y4 W hD => by
   refine wpAnyH_all (rdy _ [4] (by decide)) (by simp) fun i hi => ?_
   obtain rfl : i = b + 4 := by simpa using hi
   refine wpOp_val h9 run_allocS ?_;have hD2 := hD.mk9;refine ⟨hS _ hD2.g,?_⟩;rw [mkL_set,put4_comm n59 n69 n79 n89,pcomm _ _ _ (Ne.symm n9a)];exact tt A dA c dc _ _ _ hD2
  intro d9 d10 A dA c dc y3 y4 W hD
  cases d9 <;> cases d10
  ·show wpAnyH _ _ _ _ _ 4 _ (put4 s5 s6 s7 s8 _ _ _ a) _;refine wpAnyH_all (rdy _ [4,5] (by decide)) (by simp) fun i hi => ?_
   have hi' : i = b + 4 ∨ i = b + 5 := by simpa using hi
   rcases hi' with rfl | rfl
   ·refine wpOp_val h9 run_allocS ?_;have hD2 := hD.mk9;refine ⟨hS _ hD2.g,?_⟩;rw [mkL_set,put4_comm n59 n69 n79 n89];exact tf A dA c dc _ _ _ hD2
   refine wpOp_val h10 run_allocR ?_;have hD2 := hD.mk10;refine ⟨hS _ hD2.g,?_⟩;rw [mkL_set,put4_comm n5a n6a n7a n8a];exact ft A dA c dc _ _ _ hD2
  ·exact ft A dA c dc y3 y4 W hD
  ·exact tf A dA c dc y3 y4 W hD
  exact tt A dA c dc y3 y4 W hD
 have cal : ∀ (d9 d10 : Bool) (y3 y4 : Value) (W : World),D2 W0 st r false d9 d10 false false undef undef y3 y4 W → G W →
  wpOp Tryz.prog ops (NoPanic Q) b (fun a' w' => S w' ∧ wA ops Q S (5 + (bif d9 then 0 else 1) + (bif d10 then 0 else 1)) ((mkL b [false,false,false,false,d9,d10,false,false]).setIfInBounds b true) a' w') (ptD s9 s10 d9 d10 y3 y4 a) W := fun d9 d10 y3 y4 W hD hg0 => by
  refine wpOp_enter h5 (hrunD d9 d10 y3 y4 W) (hC W hg0) fun e w' he => ?_
  obtain ⟨hg,A,c,dA,dc,rfl,hs,hl⟩ := he;have hD2 := hD.call hg hs hl;refine ⟨_,rfl,hS _ hD2.g,?_⟩;have hzp : (ptD s9 s10 d9 d10 y3 y4 a).tmps.size = a.tmps.size := by unfold ptD;cases d9 <;> cases d10 <;> simp [sz_put]
  have e0 := mkL_set b 0 [false,false,false,false,d9,d10,false,false];rw [Nat.add_zero] at e0;rw [e0];clear e0;have f1 := fre [true,false,false,false,d9,d10,false,false] 1 (by cases d9 <;> cases d10 <;> decide);have f2 := fre [true,true,false,false,d9,d10,false,false] 2 (by cases d9 <;> cases d10 <;> decide);have f3 := fre [true,true,true,false,d9,d10,false,false] 3 (by cases d9 <;> cases d10 <;> decide);have hfu : 5 + (bif d9 then 0 else 1) + (bif d10 then 0 else 1) = (2 + (bif d9 then 0 else 1) + (bif d10 then 0 else 1)) + 1 + 1 + 1 := by omega
  rw [hfu];refine wpAnyH_take (i := b + 1) (v := .tuple #[vSt st A c,vRp r dA dc]) h6 hns f1.1 f1.2 (fun _ _ _ h => h) (Or.inl ⟨by rfl,fun w _ => ?_⟩) (hS _ hD2.g) ?_
  ·unfold execOp;dsimp only;rw [ev_self (by rw [hzp];exact z5)];rfl
  rw [mkL_set];refine wpAnyH_take (i := b + 2) (v := vSt st A c) h7 hns f2.1 f2.2 (fun _ _ _ h => h) (Or.inl ⟨by rfl,fun w _ => ?_⟩) (hS _ hD2.g) ?_
  ·unfold execOp;dsimp only;rw [ev_self (by rw [sz_put,hzp];exact z6)];rfl
  rw [mkL_set];refine wpAnyH_take (i := b + 3) (v := vRp r dA dc) h8 hns f3.1 f3.2 (fun _ _ _ h => h) (Or.inl ⟨by rfl,fun w _ => ?_⟩) (hS _ hD2.g) ?_
  ·unfold execOp;dsimp only;rw [ev_ne (Ne.symm n67),ev_self (by rw [sz_put,hzp];exact z6)];rfl
  rw [mkL_set];exact fin d9 d10 A dA c dc y3 y4 w' hD2
 have Ltt : ∀ (y3 y4 : Value) (W : World),D2 W0 st r false true true false false undef undef y3 y4 W → G W → wA ops Q S 6 (mkL b [false,false,false,false,true,true,false,false]) (ptD s9 s10 true true y3 y4 a) W := fun y3 y4 W hD hg0 => by
  refine wpAnyH_all (rdy _ [0] (by decide)) (by simp) fun i hi => ?_
  obtain rfl : i = b := by simpa using hi
  exact cal true true y3 y4 W hD hg0
 have Ltf : ∀ (y3 y4 : Value) (W : World),D2 W0 st r false true false false false undef undef y3 y4 W → G W → wA ops Q S 7 (mkL b [false,false,false,false,true,false,false,false]) (ptD s9 s10 true false y3 y4 a) W := fun y3 y4 W hD hg0 => by
  refine wpAnyH_all (rdy _ [0,5] (by decide)) (by simp) fun i hi => ?_
  have hi' : i = b ∨ i = b + 5 := by simpa using hi
  rcases hi' with rfl | rfl
  ·exact cal true false y3 y4 W hD hg0
  refine wpOp_val h10 run_allocR ?_;have hD2 := hD.mk10;refine ⟨hS _ hD2.g,?_⟩;rw [mkL_set];exact Ltt _ _ _ hD2 (hG _ _ hg0 ((Grow.refl W).alloc _))
 have Lft : ∀ (y3 y4 : Value) (W : World),D2 W0 st r false false true false false undef undef y3 y4 W → G W → wA ops Q S 7 (mkL b [false,false,false,false,false,true,false,false]) (ptD s9 s10 false true y3 y4 a) W := fun y3 y4 W hD hg0 => by
  refine wpAnyH_all (rdy _ [0,4] (by decide)) (by simp) fun i hi => ?_
  have hi' : i = b ∨ i = b + 4 := by simpa using hi
  rcases hi' with rfl | rfl
  ·exact cal false true y3 y4 W hD hg0
  refine wpOp_val h9 run_allocS ?_;have hD2 := hD.mk9;refine ⟨hS _ hD2.g,?_⟩;rw [mkL_set];show wpAnyH _ _ _ _ _ 6 _ ((a.put (some s10) y4).put (some s9) _) _;rw [pcomm _ _ _ (Ne.symm n9a)];exact Ltt _ _ _ hD2 (hG _ _ hg0 ((Grow.refl W).alloc _))
 cases d9 <;> cases d10
 ·show wpAnyH _ _ _ _ _ 8 _ a _;refine wpAnyH_all (rdy _ [0,4,5] (by decide)) (by simp) fun i hi => ?_
  have hi' : i = b ∨ i = b + 4 ∨ i = b + 5 := by simpa using hi
  rcases hi' with rfl | rfl | rfl
  ·exact cal false false y3 y4 W hI hg0
  ·refine wpOp_val h9 run_allocS ?_;have hD2 := hI.mk9;refine ⟨hS _ hD2.g,?_⟩;rw [mkL_set];exact Ltf _ _ _ hD2 (hG _ _ hg0 ((Grow.refl W).alloc _))
  refine wpOp_val h10 run_allocR ?_;have hD2 := hI.mk10;refine ⟨hS _ hD2.g,?_⟩;rw [mkL_set];exact Lft _ _ _ hD2 (hG _ _ hg0 ((Grow.refl W).alloc _))
 ·exact Lft _ _ _ hI hg0
 ·exact Ltf _ _ _ hI hg0
 exact Ltt _ _ _ hI hg0
theorem do_reg {listed : Array Bool} {fuel : Nat} (hn : fuel = 8) (hl : listed = mkL b [false,false,false,false,false,false,false,false]) (H : DoOps ops b s5 s6 s7 s8 s9 s10 o5)
 (hRD : RDok ops b s9 s10 = true) {a : Act} (hz : DoSlots s5 s6 s7 s8 s9 s10 a.tmps.size = true)
 {W0 : World} {st : List Co} {r : Rp} {f : FuncId} {args : Array Value} (hrun : ∀ W,(execOp a.eval o5).run Tryz.prog W = .ok (.enter f args) W) (hC : ∀ W,Grow W0 W → Calls Tryz.prog f args W (DoR W st r)) (hS : ∀ W,Grow W0 W → S W)
 (hd : ∀ (W : World) (A dA : Option Addr) (c dc gs gr : Nat),DoF W0 W st r A dA c dc gs gr →
  Q .normal (fA s5 s6 s7 s8 st r A dA c dc ((a.put (some s9) (pA gs)).put (some s10) (pA gr))) W) :
 wA ops Q S fuel listed a W0 := by
 subst hn hl;exact do_regD H hRD hz hrun (G := fun W => Grow W0 W) (fun _ _ h k => h.trans k) hC hS hd false false undef undef W0 (D2.start W0) (Grow.refl W0)
theorem mkL_up (c : Nat) (l : List Bool) : mkL c (true :: true :: l) = mkL (c + 2) l := by
 unfold mkL;congr 1;rw [List.replicate_succ',List.replicate_succ',List.append_assoc,List.append_assoc];rfl
def rdP : List (List Bool × List Nat) :=
 [([false,false,false,false,false,false,false,false,false,false],[0,6,7]),([false,false,false,false,false,false,true,false,false,false],[0,7]),([false,false,false,false,false,false,false,true,false,false],[0,6]),([false,false,false,false,false,false,true,true,false,false],[0])]
def rdQ : List (List Bool × Nat) := [false,true].flatMap fun x => [false,true].map fun y => ([true,false,false,false,false,false,x,y,false,false],1)
def RPok (ops : Array Oper) (c : Nat) (l9 l10 : Nat) : Bool :=
 rdP.all (fun x => Region.ready .any ops (mkL c x.1) == x.2.map (c + ·)) && rdQ.all (fun x => Region.free .any ops (mkL c x.1) (c + x.2) && (Region.ready .any ops (mkL c x.1)).contains (c + x.2)) &&
  (match ops[c]? with | some o => !(o.looksAt ops).contains l9 && !(o.looksAt ops).contains l10 | none => false) && (match ops[c + 1]? with | some o => !(o.looksAt ops).contains l9 && !(o.looksAt ops).contains l10 | none => false)
theorem pre_reg {c s1 s2 : Nat} {op1 op2 : Op} {t1 t2 : TypeId} {p1 p2 : String} {e1 e2 : Array Edge} {listed : Array Bool} {fuel : Nat} (hn : fuel = 10) (hl : listed = mkL c [false,false,false,false,false,false,false,false,false,false]) (hb : b = c + 2)
 (h1 : ops[c]? = some ⟨some s1,op1,t1,p1,e1,none⟩) (h2 : ops[c + 1]? = some ⟨some s2,op2,t2,p2,e2,none⟩) (H : DoOps ops b s5 s6 s7 s8 s9 s10 o5)
 (hRP : RPok ops c s9 s10 = true) (hRD : RDok ops b s9 s10 = true) {a : Act} (hz : DoSlots s5 s6 s7 s8 s9 s10 a.tmps.size = true) (hn1 : (s1 ≠ s9 ∧ s1 ≠ s10) ∧ s2 ≠ s9 ∧ s2 ≠ s10)
 {W0 : World} {st : List Co} {r : Rp} {f1 : FuncId} {args1 : Array Value} (hS : ∀ W,Grow W0 W → S W) (hrun1 : ∀ W,(execOp a.eval ⟨some s1,op1,t1,p1,e1,none⟩).run Tryz.prog W = .ok (.enter f1 args1) W)
 (hC1 : ∀ W,Grow W0 W → Calls Tryz.prog f1 args1 W fun e W' => ∃ (v v2 : Value) (f : FuncId) (args : Array Value),e = .returned v ∧ Grow W W' ∧ (∀ W,(execOp (a.put (some s1) v).eval ⟨some s2,op2,t2,p2,e2,none⟩).run Tryz.prog W = .ok (.value v2) W) ∧
  (∀ W,(execOp ((a.put (some s1) v).put (some s2) v2).eval o5).run Tryz.prog W = .ok (.enter f args) W) ∧ (∀ W2,Grow W' W2 → Calls Tryz.prog f args W2 (DoR W2 st r)) ∧
  (∀ (W : World) (A dA : Option Addr) (c dc gs gr : Nat),DoF W0 W st r A dA c dc gs gr →
  Q .normal (fA s5 s6 s7 s8 st r A dA c dc ((((a.put (some s1) v).put (some s2) v2).put (some s9) (pA gs)).put (some s10) (pA gr))) W)) :
 wA ops Q S fuel listed a W0 := by
 subst hn hl hb;have hns : Region.noSelect ops = true := by
  unfold RDok at hRD;simp only [Bool.and_eq_true] at hRD;exact hRD.1.1.1
 unfold RPok at hRP;simp only [Bool.and_eq_true] at hRP;obtain ⟨⟨⟨hT,hF⟩,hlk1⟩,hlk2⟩ := hRP;rw [h1] at hlk1;rw [h2] at hlk2;simp only [Bool.and_eq_true,Bool.not_eq_true',← Bool.not_eq_true] at hlk1 hlk2;have rdy : ∀ l rs,(l,rs) ∈ rdP → Region.ready .any ops (mkL c l) = rs.map (c + ·) := fun l rs h => by
  have := List.all_eq_true.1 hT _ h;simpa using this
 have fre : ∀ l k,(l,k) ∈ rdQ → Region.free .any ops (mkL c l) (c + k) = true ∧ (Region.ready .any ops (mkL c l)).contains (c + k) = true := fun l k h => by
  have := List.all_eq_true.1 hF _ h;simpa using this
 obtain ⟨⟨n19,n1a⟩,n29,n2a⟩ := hn1;have n9a := (doSlots hz).2.2.2.2.2;obtain ⟨t9,p9,e9,h9⟩ := H.o9;obtain ⟨t10,p10,e10,h10⟩ := H.o10;rw [show c + 2 + 4 = c + 6 from rfl] at h9;rw [show c + 2 + 5 = c + 7 from rfl] at h10;have exD : ∀ (o : Oper) (hs : ∀ cs bb,o.op ≠ .select cs bb) (hl9 : ¬ (o.looksAt ops).contains s9 = true) (hl10 : ¬ (o.looksAt ops).contains s10 = true) d9 d10 y3 y4 (x : Act),execOp (ptD s9 s10 d9 d10 y3 y4 x).eval o = execOp x.eval o := fun o hs hl9 hl10 d9 d10 y3 y4 x => by
  have k9 : ∀ (x : Act) y,execOp (x.put (some s9) y).eval o = execOp x.eval o := fun x y => execOp_put (ops := ops) _ hs x (some s9) y (fun d hd hm => by injection hd with hd;subst hd;exact hl9 (by simpa using hm))
  have k10 : ∀ (x : Act) y,execOp (x.put (some s10) y).eval o = execOp x.eval o := fun x y => execOp_put (ops := ops) _ hs x (some s10) y (fun d hd hm => by injection hd with hd;subst hd;exact hl10 (by simpa using hm))
  unfold ptD
  cases d9 <;> cases d10 <;> simp only [cond_true,cond_false] <;> (try rw [k10]) <;> (try rw [k9])
 have ptp : ∀ (s : Nat) (v : Value) d9 d10 y3 y4 (x : Act),s ≠ s9 → s ≠ s10 → (ptD s9 s10 d9 d10 y3 y4 x).put (some s) v = ptD s9 s10 d9 d10 y3 y4 (x.put (some s) v) := fun s v d9 d10 y3 y4 x q9 q10 => by
  unfold ptD
  cases d9 <;> cases d10 <;> simp only [cond_true,cond_false] <;> (try rw [pcomm _ _ _ (Ne.symm q10)]) <;> (try rw [pcomm _ _ _ (Ne.symm q9)])
 have cal : ∀ (d9 d10 : Bool) (y3 y4 : Value) (W : World),D2 W0 st r false d9 d10 false false undef undef y3 y4 W →
  wpOp Tryz.prog ops (NoPanic Q) c (fun a' w' => S w' ∧ wA ops Q S (7 + (bif d9 then 0 else 1) + (bif d10 then 0 else 1)) ((mkL c [false,false,false,false,false,false,d9,d10,false,false]).setIfInBounds c true) a' w') (ptD s9 s10 d9 d10 y3 y4 a) W := fun d9 d10 y3 y4 W hD => by
  refine wpOp_enter h1 (by rw [exD _ (fun cs bb => Region.noSelect_spec hns c _ cs bb h1) hlk1.1 hlk1.2];exact hrun1 W) (hC1 W hD.g) fun e w' he => ?_
  obtain ⟨v,v2,f,args,rfl,hg,hy,hr,hC,hd⟩ := he;refine ⟨_,rfl,hS _ (hD.g.trans hg),?_⟩;have e0 := mkL_set c 0 [false,false,false,false,false,false,d9,d10,false,false];rw [Nat.add_zero] at e0;rw [e0];clear e0;have f1 := fre [true,false,false,false,false,false,d9,d10,false,false] 1 (by cases d9 <;> cases d10 <;> decide);have hfu : 7 + (bif d9 then 0 else 1) + (bif d10 then 0 else 1) = (6 + (bif d9 then 0 else 1) + (bif d10 then 0 else 1)) + 1 := by omega
  rw [hfu,ptp _ _ _ _ _ _ _ n19 n1a];refine wpAnyH_take (i := c + 1) (v := v2) h2 hns f1.1 f1.2 (fun _ _ _ h => h) (Or.inl ⟨by rfl,fun w _ => ?_⟩) (hS _ (hD.g.trans hg)) ?_
  ·rw [exD _ (fun cs bb => Region.noSelect_spec hns (c + 1) _ cs bb h2) hlk2.1 hlk2.2];exact hy w
  dsimp only;rw [ptp _ _ _ _ _ _ _ n29 n2a,mkL_set];show wpAnyH _ _ _ _ _ _ (mkL c (true :: true :: [false,false,false,false,d9,d10,false,false])) _ _;rw [mkL_up];exact do_regD H hRD (by simp only [sz_put];exact hz) hr (G := fun W => Grow w' W) (fun _ _ h k => h.trans k) hC hS hd d9 d10 y3 y4 w' (hD.grow hg) (Grow.refl w')
 have tt : ∀ (y3 y4 : Value) (W : World),D2 W0 st r false true true false false undef undef y3 y4 W → wA ops Q S 8 (mkL c [false,false,false,false,false,false,true,true,false,false]) (ptD s9 s10 true true y3 y4 a) W := fun y3 y4 W hD => by
  refine wpAnyH_all (rdy _ [0] (by decide)) (by simp) fun i hi => ?_
  obtain rfl : i = c := by simpa using hi
  exact cal true true y3 y4 W hD
 have tf : ∀ (y3 y4 : Value) (W : World),D2 W0 st r false true false false false undef undef y3 y4 W → wA ops Q S 9 (mkL c [false,false,false,false,false,false,true,false,false,false]) (ptD s9 s10 true false y3 y4 a) W := fun y3 y4 W hD => by
  refine wpAnyH_all (rdy _ [0,7] (by decide)) (by simp) fun i hi => ?_
  have hi' : i = c ∨ i = c + 7 := by simpa using hi
  rcases hi' with rfl | rfl
  ·exact cal true false y3 y4 W hD
  refine wpOp_val h10 run_allocR ?_;have hD2 := hD.mk10;refine ⟨hS _ hD2.g,?_⟩;rw [mkL_set];exact tt _ _ _ hD2
 have ft : ∀ (y3 y4 : Value) (W : World),D2 W0 st r false false true false false undef undef y3 y4 W → wA ops Q S 9 (mkL c [false,false,false,false,false,false,false,true,false,false]) (ptD s9 s10 false true y3 y4 a) W := fun y3 y4 W hD => by
  refine wpAnyH_all (rdy _ [0,6] (by decide)) (by simp) fun i hi => ?_
  have hi' : i = c ∨ i = c + 6 := by simpa using hi
  rcases hi' with rfl | rfl
  ·exact cal false true y3 y4 W hD
  refine wpOp_val h9 run_allocS ?_;have hD2 := hD.mk9;refine ⟨hS _ hD2.g,?_⟩;rw [mkL_set];show wpAnyH _ _ _ _ _ 8 _ ((a.put (some s10) y4).put (some s9) _) _;rw [pcomm _ _ _ (Ne.symm n9a)];exact tt _ _ _ hD2
 refine wpAnyH_all (rdy _ [0,6,7] (by decide)) (by simp) fun i hi => ?_
 have hi' : i = c ∨ i = c + 6 ∨ i = c + 7 := by simpa using hi
 have hI := D2.start (st := st) (r := r) W0;rcases hi' with rfl | rfl | rfl
 ·exact cal false false undef undef W0 hI
 ·refine wpOp_val h9 run_allocS ?_;have hD2 := hI.mk9;refine ⟨hS _ hD2.g,?_⟩;rw [mkL_set];exact tf _ undef _ hD2
 refine wpOp_val h10 run_allocR ?_;have hD2 := hI.mk10;refine ⟨hS _ hD2.g,?_⟩;rw [mkL_set];exact ft undef _ _ hD2
end
end
section
open Go.RowKit
theorem do_eq (N cap : Nat) (A : Option Addr) (st st' : List Co) (r : Rp) (q : Rq) (ck cl ch cx : Cv) (w : World) (hst : StIn w A cap st) (hok : StOk N st) (hN : N ≤ 1000000) (hR : RqOk q) (hT : Tabs w) (hM : Len1 w)
 (hk : In w q.key ck) (hl : In w q.low cl) (hh : In w q.high ch) (hx : In w q.doc cx) (h : doP st q = (st',r)) :
 Calls Tryz.prog 18 #[.agg #[.slice A st.length cap],.agg (rqCells q.do_ q.coll q.index q.path q.unique ck cl ch cx q.n)] w (DoR w st' r) := by
 refine (do_any N cap A st q ck cl ch cx w hst hok hN hR (fun W hg => ⟨hT.grow hg,hM.grow hg⟩) hk hl hh hx).mono ?_;intro e w' hd;unfold DoC at hd;rw [h] at hd;exact hd
theorem isv_zero {C : Addr → Value → Prop} : IsV C V.zero Cv.zero := by
 unfold V.zero;rw [IsV];exact ⟨rfl,rfl,rfl,rfl,rfl,by decide,by decide,by decide,by simp,by simp,by simp,by simp,by simp,by simp,⟨rfl,fun h => by simp at h⟩,fun i hi => by simp at hi,fun i hi => by simp at hi⟩
theorem zeroV_count : V.zero.count ≤ 20000 := by unfold V.zero;rw [V.count_mk];decide
theorem dV_count (i x : Nat) : (dV i x).count ≤ 20000 := by unfold dV;rw [V.count_mk];simp [iV_count]
theorem zeroV_fit : V.zero.fit := by unfold V.zero;rw [V.fit];exact ⟨by decide,fun x h => by simp at h,fun x h => by simp at h⟩
theorem rq0_ok (d : Int) (c : ByteArray) : RqOk (rq0 d c) := ⟨zeroV_count,zeroV_count,zeroV_count,zeroV_count,zeroV_fit⟩
theorem rqD_ok (d : Int) (c : ByteArray) {x : V} (h : x.count ≤ 20000) (hf : x.fit) : RqOk (rqD d c x) := ⟨zeroV_count,zeroV_count,zeroV_count,h,hf⟩
theorem InL.oneL {w : World} {v : V} {c : Cv} (h : In w v c) : InL (w.alloc (.cells c.cells 27)) (some ⟨w.heap.size,0,none⟩) 1 [v] := by
 have hg := (Grow.refl w).alloc (.cells c.cells 27);have hB := Blk.new w 27 c.cells;have h' := h.grow hg;have hlt := hB.lt;unfold InL In;rw [IsV];refine ⟨rfl,rfl,rfl,rfl,rfl,by decide,by decide,by decide,by simp,by simp,by simp,by simp,by simp,by simp,⟨rfl,fun h => by simp at h⟩,fun i hi => ?_,fun i hi => by simp at hi⟩;obtain rfl : i = 0 := by simp at hi;omega
 exact ⟨w.heap.size,0,c,rfl,⟨⟨hB.cell 0,Nat.zero_le _,hlt⟩,⟨hB.cell 1,Nat.zero_le _,hlt⟩,⟨hB.cell 2,Nat.zero_le _,hlt⟩,⟨hB.cell 3,Nat.zero_le _,hlt⟩,⟨hB.cell 4,Nat.zero_le _,hlt⟩⟩,h'⟩
theorem StIn.at_ {w : World} {A : Option Addr} {cap : Nat} {st : List Co} (h : StIn w A cap st) (i : Nat) (hi : i < st.length) : ∃ bk o e,A = some ⟨bk,o,none⟩ ∧ bk < w.heap.size ∧ CoIn w e st[i] ∧ (∀ k v,e.cells.toList[k]? = some v → k < 3 → w.cell? ⟨bk,o + i * 3 + k,none⟩ = some v) := by
 obtain ⟨hc,es,h1,h2⟩ := h;have hel : i < es.length := by rw [h1.1];exact hi
 obtain ⟨bk,o,hA,hcell⟩ := h2.2 (by omega);have hf : ∀ k v,es[i].cells.toList[k]? = some v → k < 3 → AtW w 0 w.heap.size ⟨bk,o + (i * 3 + k),none⟩ v := fun k v hv hk =>
  hcell (i * 3 + k) v (by rw [cellsC,fz_get _ 3 (fun _ => rfl) es i k hk es[i] (List.getElem?_eq_getElem hel)];exact hv)
 refine ⟨bk,o,es[i],hA,(hf 0 _ rfl (by omega)).2.2,h1.at_ hel hi,fun k v hv hk => ?_⟩;rw [Nat.add_assoc];exact (hf k v hv hk).1
theorem pawake_any (w : World) (hT : Tabs w) (hM : Len1 w) : Calls Tryz.prog 13 #[] w fun e w' => e = .returned (.bool true) ∧ Grow w w' := by
 have HT := hide hT;have HM := hide hM;have H1 := hide (do_eq 0 0 none [] _ _ (rq0 1 nA) Cv.zero Cv.zero Cv.zero Cv.zero w (StIn.nil w) StOk.nil (by omega) (rq0_ok _ _) hT hM isv_zero isv_zero isv_zero isv_zero kn1);clear hT hM;go_enter Tryz.func13,Tryz.ntmps13;go_wp2_with fail;refine H1.out.mono ?_;rintro e w1 ⟨hg1,A1,c1,dA1,dc1,rfl,hst1,hdl1⟩;have HG1 := hide hg1;have HST1 := hide hst1;have HDL1 := hide hdl1;clear hg1 hst1 hdl1;have HB1 := hide ((Blk.new w1 44 #[.slice A1 (sX [] []).length c1]).alloc (.cells #[.int .i64 Rp.zero.e,.int .i64 Rp.zero.n,.slice dA1 Rp.zero.docs.length dc1,.int .i64 Rp.zero.cursor] 31));have HB2 := hide (Blk.new' (w := w1.alloc (.cells #[.slice A1 (sX [] []).length c1] 44)) (g := w1.heap.size + 1) (by simp) 31 (rpCells Rp.zero.e Rp.zero.n dA1 Rp.zero.docs.length dc1 Rp.zero.cursor))
 have HG2 := hide ((HG1.out.alloc (.cells #[.slice A1 (sX [] []).length c1] 44)).alloc (.cells #[.int .i64 Rp.zero.e,.int .i64 Rp.zero.n,.slice dA1 Rp.zero.docs.length dc1,.int .i64 Rp.zero.cursor] 31));have HST2 := hide (HST1.out.grow (((Grow.refl w1).alloc (.cells #[.slice A1 (sX [] []).length c1] 44)).alloc (.cells #[.int .i64 Rp.zero.e,.int .i64 Rp.zero.n,.slice dA1 Rp.zero.docs.length dc1,.int .i64 Rp.zero.cursor] 31)));have HDL2 := hide (HDL1.out.grow (((Grow.refl w1).alloc (.cells #[.slice A1 (sX [] []).length c1] 44)).alloc (.cells #[.int .i64 Rp.zero.e,.int .i64 Rp.zero.n,.slice dA1 Rp.zero.docs.length dc1,.int .i64 Rp.zero.cursor] 31)));have HOK1 := hide (show StOk 1 (sX [] []) from by have := doP_ok (q := rq0 1 nA) StOk.nil zeroV_fit zeroV_count;rwa [kn1] at this);go_wp2_with fail;refine wp_region_noPanic ?_
 refine wp_region_held_drew (S := fun w' => w'.cell? ⟨w1.heap.size,0,none⟩ = some (.slice A1 (sX [] []).length c1)) (by kernel_rfl) ((HB1.out.grow (Grow.refl _).drew).cell 0) (fun hHeld => ?_);replace HB1 := hide (HB1.out.grow (Grow.refl _).drew);replace HB2 := hide (HB2.out.grow (Grow.refl _).drew);replace HG2 := hide (HG2.out.drew);replace HST2 := hide (HST2.out.grow (Grow.refl _).drew);replace HDL2 := hide (HDL2.out.grow (Grow.refl _).drew);generalize ((w1.alloc (.cells #[.slice A1 (sX [] []).length c1] 44)).alloc (.cells #[.int .i64 Rp.zero.e,.int .i64 Rp.zero.n,.slice dA1 Rp.zero.docs.length dc1,.int .i64 Rp.zero.cursor] 31)).drew = W0 at HB1 HB2 HG2 HST2 HDL2 hHeld ⊢;have HSW := hide (fun (W : World) (hg : Grow W0 W) => (HB1.out.grow hg).cell 0)
 have HDO := hide (fun (W : World) (hg : Grow W0 W) (A : Option Addr) (hx : In W (dV 1 5) (dcv A 2)) => do_eq 1 c1 A1 _ _ _ (rqD 3 nA (dV 1 5)) Cv.zero Cv.zero Cv.zero (dcv A 2) W (HST2.out.grow hg) HOK1.out (by omega) (rqD_ok _ _ (dV_count 1 5) (dV_fit (by decide) (by decide))) (HT.out.grow (HG2.out.trans hg)) (HM.out.grow (HG2.out.trans hg)) isv_zero isv_zero isv_zero hx kn2);refine tk_ 0 ?_;refine pre_reg (b := 3) (c := 1) (f1 := 9) (args1 := #[.int .i64 1,.int .i64 5]) (st := sX [dV 1 5] []) (r := Rp.zero) (by rfl) (by rfl) (by rfl) (by rfl) (by rfl) ⟨⟨by rfl,by rfl,by rfl⟩,⟨_,_,_,by rfl⟩,⟨_,_,_,by rfl⟩,⟨_,_,_,by rfl⟩,⟨_,_,_,by rfl⟩,⟨_,_,_,by rfl⟩,⟨_,_,_,by rfl⟩,⟨_,_,_,by rfl⟩⟩ (by kernel_rfl) (by kernel_rfl) (by kernel_rfl) (by decide) (fun W hg => HSW.out W hg) (fun W => by kernel_rfl) (fun W hg => ?_)
 refine (lDoc_val 1 5 1 5 rfl rfl (by decide) (by decide) W).mono ?_;rintro ee W3 ⟨Ae,rfl,hin,hg3⟩;refine ⟨_,(Value.agg (rqCells 3 ⟨#[97]⟩ ⟨#[]⟩ ⟨#[]⟩ false Cv.zero Cv.zero Cv.zero (dcv Ae 2) 0)),18,#[.agg #[.slice A1 (sX [] []).length c1],(Value.agg (rqCells 3 ⟨#[97]⟩ ⟨#[]⟩ ⟨#[]⟩ false Cv.zero Cv.zero Cv.zero (dcv Ae 2) 0))],rfl,hg3,fun W => by kernel_rfl,fun W => by kernel_rfl,fun W2 hg2 => HDO.out W2 (hg.trans (hg3.trans hg2)) Ae (hin.in_.grow hg2),?_⟩;rintro W A dA c dc gs gr ⟨hgs,hgr,hne,hgW,hbs,hbr,hst,hdl⟩;clear hin hg3 hg;simp only [fA,put4,vSt,vRp,pA,Act.put,List.setIfInBounds_toArray,List.set_cons_zero,List.set_cons_succ];obtain ⟨bk,o,e5,hA,hbk,hco,hcell⟩ := hst.at_ 0 (by decide);subst hA;have hdn : e5.dn = 1 := hco.dn;have hdc := hcell 1 _ rfl (by omega);rw [hdn] at hdc;have HGW := hide (HG2.out.trans hgW);have HGW0 := hide hgW
 have HDL := hide hdl;have HEI := hide (show InL W e5.dA e5.dc [dV 1 5] from hco.docs);have HS3 := hide (fun (W' : World) (hg : Grow W W') => show (∀ k v,(rpCells Rp.zero.e Rp.zero.n dA1 Rp.zero.docs.length dc1 Rp.zero.cursor)[k]? = some v → W'.cell? ⟨w1.heap.size + 1,k,none⟩ = some v) ∧ (∀ k v,(rpCells Rp.zero.e Rp.zero.n dA Rp.zero.docs.length dc Rp.zero.cursor)[k]? = some v → W'.cell? ⟨gr,k,none⟩ = some v) ∧ W'.cell? ⟨gs,0,none⟩ = some (.slice (some ⟨bk,o,none⟩) 1 c) ∧ W'.cell? ⟨bk,o + 1,none⟩ = some (.slice e5.dA 1 e5.dc) from
  ⟨fun k v h => ((HB2.out.grow (hgW.trans hg)).cell k).trans h,fun k v h => ((hbr.grow hg).cell k).trans h,(hbs.grow hg).cell 0,(hg.below.cell (p := ⟨bk,o + 1,none⟩) hbk).trans (by simpa using hdc)⟩)
 clear hgs hgr hne hgW hbs hbr hst hdl hbk hco hcell hdn hdc hHeld;go_wp2_with fail;refine wp_region_noPanic ?_;refine wp_region_held_drew (S := fun w' => (∀ k v,(rpCells Rp.zero.e Rp.zero.n dA1 Rp.zero.docs.length dc1 Rp.zero.cursor)[k]? = some v → w'.cell? ⟨w1.heap.size + 1,k,none⟩ = some v) ∧ (∀ k v,(rpCells Rp.zero.e Rp.zero.n dA Rp.zero.docs.length dc Rp.zero.cursor)[k]? = some v → w'.cell? ⟨gr,k,none⟩ = some v) ∧ w'.cell? ⟨gs,0,none⟩ = some (.slice (some ⟨bk,o,none⟩) 1 c) ∧ w'.cell? ⟨bk,o + 1,none⟩ = some (.slice e5.dA 1 e5.dc)) (by kernel_rfl) (HS3.out _ (Grow.refl _).drew) (fun hHeld => ?_);have HG5 := hide (HGW.out.trans (Grow.refl W).drew);have HDL5 := hide (HDL.out.grow (Grow.refl W).drew);have HDL15 := hide (HDL2.out.grow ((HGW0.out.trans (Grow.refl W).drew)));have HE5 := hide (HEI.out.grow (Grow.refl W).drew)
 have HS5 := hide (fun (W' : World) (hg : Grow W.drew W') => HS3.out W' ((Grow.refl W).drew.trans hg));clear HS3;generalize W.drew = W5 at HG5 HDL5 HDL15 HE5 HS5 hHeld ⊢;have hcl : ((1 : Nat) : Int) = 1 := rfl;refine tk_ 0 (hy := Or.inl ⟨by rfl,by intro w hSw;(try dsimp only at hSw);obtain ⟨hS1,hS2,hS3,hS4⟩ := hSw;have q0 := hS1 0 _ rfl;have q1 := hS1 1 _ rfl;have q2 := hS1 2 _ rfl;have q3 := hS1 3 _ rfl;have p0 := hS2 0 _ rfl;have p1 := hS2 1 _ rfl;have p2 := hS2 2 _ rfl;have p3 := hS2 3 _ rfl;clear hS1 hS2;go_simp;try with_reducible rfl⟩) ?_;refine tk_ 1 ?_;refine r1_ 2 (fun K hK => ?_);have hC := psame_any Rp.zero Rp.zero dA1 none dc1 0 W5 (HDL15.out.grow (Grow.refl W5)) (InL.nil _);go_simp;go_at_call 23;refine hC.mono ?_;rintro ee W6 ⟨x6,rfl,hx,hg⟩;obtain rfl : x6 = true := hx.2 rfl;have HG6 := hide (Grow.trans (Grow.refl W5) hg);clear hC hx hg
 refine hk_ hK (HS5.out _ HG6.out) (fun hHeld => ?_);clear hK K;refine tk_ 3 ?_;refine tk_ 4 (hy := Or.inl ⟨by rfl,by intro w hSw;(try dsimp only at hSw);obtain ⟨hS1,hS2,hS3,hS4⟩ := hSw;have q0 := hS1 0 _ rfl;have q1 := hS1 1 _ rfl;have q2 := hS1 2 _ rfl;have q3 := hS1 3 _ rfl;have p0 := hS2 0 _ rfl;have p1 := hS2 1 _ rfl;have p2 := hS2 2 _ rfl;have p3 := hS2 3 _ rfl;clear hS1 hS2;go_simp;try with_reducible rfl⟩) ?_;refine tk_ 5 ?_;refine r1_ 6 (fun K hK => ?_);have hC := psame_any Rp.zero Rp.zero dA none dc 0 W6 (HDL5.out.grow HG6.out) (InL.nil _);go_simp;go_at_call 23;refine hC.mono ?_;rintro ee W7 ⟨x7,rfl,hx,hg⟩;obtain rfl : x7 = true := hx.2 rfl;have HG7 := hide (Grow.trans HG6.out hg);clear hC hx hg;refine hk_ hK (HS5.out _ HG7.out) (fun hHeld => ?_);clear hK K;refine tk_ 7 ?_;refine tk_ 8 ?_;refine tk_ 9 ?_
 refine tk_ 10 (hy := Or.inl ⟨by rfl,by intro w hSw;(try dsimp only at hSw);obtain ⟨hS1,hS2,hS3,hS4⟩ := hSw;have q0 := hS1 0 _ rfl;have q1 := hS1 1 _ rfl;have q2 := hS1 2 _ rfl;have q3 := hS1 3 _ rfl;have p0 := hS2 0 _ rfl;have p1 := hS2 1 _ rfl;have p2 := hS2 2 _ rfl;have p3 := hS2 3 _ rfl;clear hS1 hS2;go_simp;try with_reducible rfl⟩) ?_;refine tk_ 11 ?_;refine tk_ 12 ?_;refine tk_ 13 ?_;refine tk_ 14 ?_;refine tk_ 15 ?_;refine tk_ 16 (hy := Or.inl ⟨by rfl,by intro w hSw;(try dsimp only at hSw);obtain ⟨hS1,hS2,hS3,hS4⟩ := hSw;have q0 := hS1 0 _ rfl;have q1 := hS1 1 _ rfl;have q2 := hS1 2 _ rfl;have q3 := hS1 3 _ rfl;have p0 := hS2 0 _ rfl;have p1 := hS2 1 _ rfl;have p2 := hS2 2 _ rfl;have p3 := hS2 3 _ rfl;clear hS1 hS2;go_simp;try with_reducible rfl⟩) ?_;refine tk_ 17 ?_;refine tk_ 18 ?_
 refine tk_ 19 (hy := Or.inl ⟨by rfl,by intro w hSw;(try dsimp only at hSw);obtain ⟨hS1,hS2,hS3,hS4⟩ := hSw;have q0 := hS1 0 _ rfl;have q1 := hS1 1 _ rfl;have q2 := hS1 2 _ rfl;have q3 := hS1 3 _ rfl;have p0 := hS2 0 _ rfl;have p1 := hS2 1 _ rfl;have p2 := hS2 2 _ rfl;have p3 := hS2 3 _ rfl;clear hS1 hS2;go_simp;try with_reducible rfl⟩) ?_;refine r1_ 20 (fun K hK => ?_);have hC := lDoc_val 1 5 1 5 rfl rfl (by decide) (by decide) W7;go_simp;go_at_call 9;refine hC.mono ?_;rintro ee W8 ⟨Ae,rfl,hin,hg⟩;have HG8 := hide (HG7.out.trans hg);have HIN8 := hide hin.in_;clear hC hin hg;refine hk_ hK (HS5.out _ HG8.out) (fun hHeld => ?_);clear hK K;refine r1_ 21 (fun K hK => ?_);go_simp;have HIL := hide (InL.oneL HIN8.out);have HG9 := hide (HG8.out.alloc (.cells (dcv Ae 2).cells 27))
 have HL9 := hide (list2_any [dV 1 5] [dV 1 5] e5.dA (some ⟨W8.heap.size,0,none⟩) e5.dc 1 (W8.alloc (.cells (dcv Ae 2).cells 27)) (HE5.out.grow HG9.out) HIL.out);refine hk_ hK (HS5.out _ HG9.out) (fun hHeld => ?_);clear hK K;refine r1_ 22 (fun K hK => ?_);go_simp;go_at_call 19;refine HL9.out.mono ?_;rintro ee W10 ⟨x10,rfl,hx,hg⟩;obtain rfl : x10 = true := hx.2 rfl;have HG10 := hide (HG9.out.trans hg);clear hx hg;refine hk_ hK (HS5.out _ HG10.out) (fun hHeld => ?_);clear hK K;refine tk_ 23 ?_;refine tk_ 24 ?_;refine dn_ ?_;clear hHeld;go_wp2_with fail;go_ret;exact ⟨rfl,HG5.out.trans HG10.out⟩
end
section
open Go.RowKit
section
variable {P : Program} {ops : Array Oper} {a : Act}
theorem yields_cells_at {S : World → Prop} {ty t : TypeId} {x : Operand} {d : Option Tmp} {p : String} {af : Array Edge} {g o n : Nat} {cs : Array Value} {td : TypeDesc} (hu : P.underlying ty = some td) (hd : td.isRow = true) (hx : a.eval x = .pointer (some ⟨g,o,none⟩)) (hi : (P.info? ty).map (·.size) = some n) (hn : cs.size = n)
 (hget : ∀ w,S w → ∀ j v,cs[j]? = some v → w.cell? ⟨g,o + j,none⟩ = some v) : YieldsIf P ops S ⟨d,.load ty x,t,p,af,none⟩ (.agg cs) a := by
 have h := yieldsIf_load_mid (P := P) (ops := ops) (S := S) (op := ⟨d,.load ty x,t,p,af,none⟩) (a := a) (by simp [Region.wanted]) ty x rfl g o hx cs.toList td (fun w hS j v hv => hget w hS j v (by rwa [Array.getElem?_toList] at hv)) hu hd (by rw [Array.length_toList,hn];exact hi);simpa using h
end
noncomputable def runP (l : List Rq) : List Co := l.foldl (fun s q => (doP s q).1) []
theorem runP_snoc (l : List Rq) (j : Nat) (h : j < l.length) : runP (l.take (j + 1)) = (doP (runP (l.take j)) l[j]).1 := by
 unfold runP;rw [take_snoc l j h,List.foldl_append];rfl
theorem runP_ok {l : List Rq} (h : ∀ q ∈ l,RqOk q) : ∀ j,j ≤ l.length → StOk j (runP (l.take j))
 | 0,_ => StOk.nil
 | j + 1,hj => by
  rw [runP_snoc l j (by omega)];have hq := h l[j] (List.getElem_mem (by omega));exact doP_ok (runP_ok h j (by omega)) hq.fit hq.doc
theorem InQs.ok {w : World} {A : Option Addr} {l : List Rq} (h : InQs w A l) (hn : rqsN l ≤ 20000) : ∀ q ∈ l,RqOk q := fun q hq => by
 have h1 := rqsN_mem hq;obtain ⟨i,hi,rfl⟩ := List.mem_iff_getElem.1 hq;obtain ⟨bk,o,ck,cl,ch,cx,-,-,-,-,-,-,hx⟩ := h i hi;exact ⟨by omega,by omega,by omega,by omega,IsV.fit _ _ hx⟩
end
section
open Go.RowKit
theorem less_ltB : ∀ {a b : List UInt8},ltB a b = true → Op.bytesLess a b = true
 | [],[],h => by simp [ltB,Lib.compareBytes] at h
 | [],_ :: _,h => rfl
 | _ :: _,[],h => by simp [ltB,Lib.compareBytes] at h
 | x :: a,y :: b,h => by
  unfold ltB at h;rw [Lib.compareBytes] at h;unfold Op.bytesLess;by_cases h1 : x < y
  ·simp [h1]
  rw [if_neg h1] at h;by_cases h2 : y < x
  ·rw [if_pos h2] at h;simp at h
  rw [if_neg h2] at h;have h3 : x = y := by
   have := UInt8.not_lt.1 h1;have := UInt8.not_lt.1 h2;exact UInt8.le_antisymm ‹x ≤ y› ‹y ≤ x›
  have := less_ltB (a := a) (b := b) (by unfold ltB;exact h);simp [h3,this]
theorem less_cmp : ∀ {a b : List UInt8},ltB a b = true → Lib.compareBytes a b = -1
 | [],[],h => by simp [ltB,Lib.compareBytes] at h
 | [],_ :: _,h => rfl
 | _ :: _,[],h => by simp [ltB,Lib.compareBytes] at h
 | x :: a,y :: b,h => by
  unfold ltB at h;rw [Lib.compareBytes] at h ⊢;by_cases h1 : x < y
  ·rw [if_pos h1]
  rw [if_neg h1] at h ⊢;by_cases h2 : y < x
  ·rw [if_pos h2] at h;simp at h
  rw [if_neg h2] at h ⊢;exact less_cmp (by unfold ltB;exact h)
theorem toList_l (b : ByteArray) : b.toList = b.data.toList := by rw [toList_data]
theorem Row.inB' {w : World} {base c : Nat} {A : Option Addr} {b : List UInt8} (h : Row w base (.slice A b.length c) b.length b) : InB w A b :=
 Reads.mono (fun p u hp => ⟨hp.1,Nat.zero_le _,hp.2.2⟩) h.reads.1
theorem InX.at_ {w : World} {A : Option Addr} {xs : List Ix} (h : InX w A xs) (i : Nat) (hi : i < xs.length) : ∃ bk o,A = some ⟨bk,o,none⟩ ∧ bk < w.heap.size ∧ w.cell? ⟨bk,o + i * 3,none⟩ = some (.string xs[i].name) ∧ w.cell? ⟨bk,o + i * 3 + 1,none⟩ = some (.string xs[i].path) ∧ w.cell? ⟨bk,o + i * 3 + 2,none⟩ = some (.bool xs[i].uniq) := by
 obtain ⟨bk,o,hA,hcell⟩ := h.2 (by omega);have hf : ∀ k v,xs[i].cells.toList[k]? = some v → k < 3 → AtW w 0 w.heap.size ⟨bk,o + (i * 3 + k),none⟩ v := fun k v hv hk =>
  hcell (i * 3 + k) v (by rw [cellsX,fz_get _ 3 (fun _ => rfl) xs i k hk xs[i] (List.getElem?_eq_getElem hi)];exact hv)
 refine ⟨bk,o,hA,(hf 0 _ rfl (by omega)).2.2,(hf 0 _ rfl (by omega)).1,?_,?_⟩
 ·have := (hf 1 _ rfl (by omega)).1;rwa [← Nat.add_assoc] at this
 have := (hf 2 _ rfl (by omega)).1;rwa [← Nat.add_assoc] at this
def PathR (w : World) (g : Option V) (p t : Value) (w' : World) : Prop :=
 Grow w w' ∧ ∃ gb c tt u,p = .pointer (some ⟨gb,0,none⟩) ∧ t = .bool tt ∧ Blk w' gb 27 (Cv.cells c) ∧ In w' u c ∧ ((g = some u ∧ tt = true) ∨ (g = none ∧ tt = false))
theorem path_store {wn W3 : World} {lo g : Nat} {u : V} {c : Cv} (hg : Grow wn W3) (hn : wn.heap.size ≤ g) (hlo : g < lo) (hB : Blk W3 g 27 Cv.zero.cells) (hu : IsV (AtW W3 lo W3.heap.size) u c) :
 Grow wn (((((W3.setCell ⟨g,0,none⟩ (.int .i64 c.k)).setCell ⟨g,1,none⟩ (.int .u64 c.n)).setCell ⟨g,2,none⟩ (.slice c.aB c.nB c.cB)).setCell ⟨g,3,none⟩ (.slice c.aL c.nL c.cL)).setCell ⟨g,4,none⟩ (.slice c.aF c.nF c.cF)) ∧
 Blk (((((W3.setCell ⟨g,0,none⟩ (.int .i64 c.k)).setCell ⟨g,1,none⟩ (.int .u64 c.n)).setCell ⟨g,2,none⟩ (.slice c.aB c.nB c.cB)).setCell ⟨g,3,none⟩ (.slice c.aL c.nL c.cL)).setCell ⟨g,4,none⟩ (.slice c.aF c.nF c.cF)) g 27 c.cells ∧
 In (((((W3.setCell ⟨g,0,none⟩ (.int .i64 c.k)).setCell ⟨g,1,none⟩ (.int .u64 c.n)).setCell ⟨g,2,none⟩ (.slice c.aB c.nB c.cB)).setCell ⟨g,3,none⟩ (.slice c.aL c.nL c.cL)).setCell ⟨g,4,none⟩ (.slice c.aF c.nF c.cF)) u c := by
 have hk : Kept (fun q => q = g) W3 (((((W3.setCell ⟨g,0,none⟩ (.int .i64 c.k)).setCell ⟨g,1,none⟩ (.int .u64 c.n)).setCell ⟨g,2,none⟩ (.slice c.aB c.nB c.cB)).setCell ⟨g,3,none⟩ (.slice c.aL c.nL c.cL)).setCell ⟨g,4,none⟩ (.slice c.aF c.nF c.cF)) :=
  (((((Kept.refl (S := fun q => q = g) W3).set (p := ⟨g,0,none⟩) rfl _).set (p := ⟨g,1,none⟩) rfl _).set (p := ⟨g,2,none⟩) rfl _).set (p := ⟨g,3,none⟩) rfl _).set (p := ⟨g,4,none⟩) rfl _
 refine ⟨hg.below.trans (hk.below hg.size (fun q hq => hq ▸ hn)),((((hB.set_ 0 _).set_ 1 _).set_ 2 _).set_ 3 _).set_ 4 _,?_⟩;exact IsV.mono AtX.atW _ _ (IsV.mono (AtX.kept hk fun _ h => h) _ _ (IsV.mono (AtX.ofW (Nat.le_refl _) (fun q hq => .inl (by rw [hq];exact hlo))) _ _ hu))
theorem nms_less {names : List ByteArray} (h : Rise (nmB names)) {i j : Nat} (hij : i < j) (hj : j < names.length) : Op.bytesLess (names[i]'(by omega)).toList names[j].toList = true := by
 have h1 := h.lt hij (by rw [List.length_map];exact hj);simp only [List.getElem_map] at h1;rw [toList_l,toList_l];exact less_ltB h1
theorem pordered_any (l : List Rq) (A : Option Addr) (cap : Nat) (w : World) (hT : Tabs w) (hM : Len1 w) (hq : InQs w A l) (hl : l.length ≤ 140737488355328) : Calls Tryz.prog 6 #[.slice A l.length cap] w fun e w' => e = .returned (.bool true) ∧ Grow w w' := by
 have HT := hide hT;have HM := hide hM;have HQ := hide hq;have HLL := hide hl;clear hT hM hq;go_enter Tryz.func6,Tryz.ntmps6;go_wp2_with fail;refine (pawake_any w HT.out HM.out).mono ?_;rintro e w1 ⟨rfl,hg1⟩;have HG1 := hide hg1;clear hg1;go_wp2_with fail;refine (vastAsksL_any l A cap w1 (HQ.out.grow HG1.out) HLL.out).mono ?_;rintro e w2 ⟨rfl,hg2⟩;have HG2 := hide (HG1.out.trans hg2);clear hg2;by_cases hbig : 20000 ≤ rqsN l
 ·rw [decide_eq_true hbig];clear hbig;go_wp2_with fail;go_ret;exact ⟨rfl,HG2.out⟩
 rw [decide_eq_false hbig];have HL5 := hide (show l.length ≤ 20000 by have := rqsN_len l;omega);have HQ2 := hide (HQ.out.grow HG2.out);have HOKS := hide (InQs.ok HQ2.out (by omega));have HT2 := hide (HT.out.grow HG2.out);have HM2 := hide (HM.out.grow HG2.out);clear hbig hl;go_wp2_with fail;go_loopg [4] (l.length + 1) (fun gk i wr => ∃ (j : Nat) (A5 : Option Addr) (c5 : Nat),j ≤ l.length ∧ gk + j = l.length + 1 ∧ i = .int .i64 j ∧ Blk wr w2.heap.size 44 #[.slice A5 (runP (l.take j)).length c5] ∧ StIn wr A5 c5 (runP (l.take j)) ∧ Grow w2 wr)
 case atStart => exact ⟨0,none,0,Nat.zero_le _,rfl,rfl,Blk.new w2 _ _,StIn.nil _,(Grow.refl w2).alloc _⟩
 case round =>
  obtain ⟨j,A5,c5,hj,hg,rfl,hb,hst,hgr⟩ := hrel;obtain ⟨gk',rfl⟩ := gk_ gk (by omega);by_cases hlt : j < l.length
  ·have hqj := HQ2.out.grow hgr j hlt;have hsn := runP_snoc l j hlt;have hokj := HOKS.out l[j] (List.getElem_mem hlt);have hsto := runP_ok HOKS.out j hj;obtain ⟨q,hq⟩ : ∃ q,l[j] = q := ⟨_,rfl⟩;obtain ⟨st,hs⟩ : ∃ st,runP (l.take j) = st := ⟨_,rfl⟩;rw [hq] at hqj hsn hokj;rw [hs] at hsn hsto hb hst;obtain ⟨g,o,ck,cl,ch,cx,rfl,hgl,hcell,h3,h4,h5,h6⟩ := hqj;have HB := hide hb;have HGR := hide hgr;have HSN := hide hsn;have HSW := hide (fun (W : World) (hg : Grow wr W) => show W.cell? ⟨w2.heap.size,0,none⟩ = some (.slice A5 st.length c5) ∧ (∀ k v,(rqCells q.do_ q.coll q.index q.path q.unique ck cl ch cx q.n)[k]? = some v → W.cell? ⟨g,o + j * 26 + k,none⟩ = some v) from
    ⟨(hb.grow hg).cell 0,fun k v hv => (hg.below.cell (p := ⟨g,o + j * 26 + k,none⟩) hgl).trans (hcell k v hv)⟩)
   have HDO := hide (fun (W : World) (hg : Grow wr W) => do_eq j c5 A5 st (doP st q).1 (doP st q).2 q ck cl ch cx W (hst.grow hg) hsto (by have := HL5.out;omega) hokj (HT2.out.grow (hgr.trans hg)) (HM2.out.grow (hgr.trans hg)) (h3.grow hg) (h4.grow hg) (h5.grow hg) (h6.grow hg) rfl);clear hsn hokj hsto hq hs hcell h3 h4 h5 h6 hb hst hgr;go_wp2_with fail;refine wp_region_noPanic ?_;refine wp_region_held_drew (S := fun w' => w'.cell? ⟨w2.heap.size,0,none⟩ = some (.slice A5 st.length c5) ∧ (∀ k v,(rqCells q.do_ q.coll q.index q.path q.unique ck cl ch cx q.n)[k]? = some v → w'.cell? ⟨g,o + j * 26 + k,none⟩ = some v)) (by kernel_rfl) (HSW.out _ (Grow.refl _).drew) (fun hHeld => ?_);have HGD := hide (show Grow wr wr.drew from (Grow.refl _).drew);generalize wr.drew = W0 at HGD hHeld ⊢
   refine tk_ 0 (hy := Or.inl ⟨by rfl,by intro w hSw;(try dsimp only at hSw);obtain ⟨hS1,hS2⟩ := hSw;clear hS2;go_simp;try with_reducible rfl⟩) ?_;refine tk_ 1 ?_;refine tk_ 2 ?_;refine tk_ 3 ?_;refine wpAnyH_take (i := 4) (v := .agg (rqCells q.do_ q.coll q.index q.path q.unique ck cl ch cx q.n)) (by simp only [List.getElem?_toArray,List.getElem?_cons_succ,List.getElem?_cons_zero];rfl) (by kernel_rfl) (by kernel_rfl) (by kernel_rfl) (fun _ _ _ h => h) (yields_cells_at (g := g) (o := o + j * 26) (n := 26) (cs := rqCells q.do_ q.coll q.index q.path q.unique ck cl ch cx q.n) Tryz.underlying33 rfl rfl info_rq rfl (fun w' hS k v hv => hS.2 k v hv)) (by assumption) ?_
   try simp only [ly_]
   refine do_reg (b := 5) (st := (doP st q).1) (r := (doP st q).2) (f := 18) (args := #[.agg #[.slice A5 st.length c5],.agg (rqCells q.do_ q.coll q.index q.path q.unique ck cl ch cx q.n)]) (by rfl) (by rfl) ⟨⟨by rfl,by rfl,by rfl⟩,⟨_,_,_,by rfl⟩,⟨_,_,_,by rfl⟩,⟨_,_,_,by rfl⟩,⟨_,_,_,by rfl⟩,⟨_,_,_,by rfl⟩,⟨_,_,_,by rfl⟩,⟨_,_,_,by rfl⟩⟩ (by kernel_rfl) (by kernel_rfl) (fun W => by kernel_rfl) (fun W hg => HDO.out W (HGD.out.trans hg)) (fun W hg => HSW.out W (HGD.out.trans hg)) ?_;rintro W A dA c dc gs gr ⟨hgs,hgr,hne,hgW,hbs,hbr,hst,hdl⟩;simp only [fA,put4,vSt,vRp,pA,Act.put,List.setIfInBounds_toArray,List.set_cons_zero,List.set_cons_succ];have HGW := hide (HGD.out.trans hgW);have HBS := hide hbs;have HSTW := hide hst;have HNS := hide (show gs ≠ w2.heap.size from fun e => by have := HB.out.lt;have := HGD.out.size;omega)
   clear hgs hgr hne hgW hbs hbr hst hdl;clear hHeld;have hbc := HBS.out.cell;have HBW := hide (HB.out.grow HGW.out);have hwc := HBW.out.cell;have hwf := HBW.out.frozen;have hjb : j + 1 ≤ 20001 := by have := HL5.out;omega
   go_wp2_with fail;go_roundg gk'
   case measure => omega
   case rel =>
    have hk : Kept (fun q => q = w2.heap.size) W (W.setCell ⟨w2.heap.size,0,none⟩ (.slice A (doP st q).1.length c)) := (Kept.refl (S := fun q => q = w2.heap.size) W).set (p := ⟨w2.heap.size,0,none⟩) rfl _;refine ⟨j + 1,A,c,by omega,by omega,by go_num,?_,?_,?_⟩
    ·rw [HSN.out];exact HBW.out.set_ 0 _
    ·rw [HSN.out];exact HSTW.out.bare (Bare.state HBW.out) hk
    exact (HGR.out.trans HGW.out).setCell (Nat.le_refl _) _
  rename World => wA;have hjl : j = l.length := by omega
  subst hjl;rw [List.take_length] at hb hst;have hok := runP_ok HOKS.out l.length (Nat.le_refl _);rw [List.take_length] at hok;obtain ⟨st,hs⟩ : ∃ st,runP l = st := ⟨_,rfl⟩;rw [hs] at hb hst hok;have HB := hide hb;have HST := hide hst;have HOK := hide hok;have HGA := hide hgr;clear hb hst hok hgr hs hj hlt hg;go_wp2_with fail;go_loopg [7] (st.length + 1) (fun gk i wr => ∃ j : Nat,j ≤ st.length ∧ gk + j = st.length + 1 ∧ i = .int .i64 j ∧ Grow wA wr)
  case atStart => exact ⟨0,Nat.zero_le _,rfl,rfl,Grow.refl wA⟩
  case round =>
   obtain ⟨j,hj,hg,rfl,hgr⟩ := hrel;obtain ⟨gk',rfl⟩ := gk_ gk (by omega);have HGR := hide hgr;have HB2 := hide (HB.out.grow hgr);have hb2 := HB2.out.cell;clear hgr;by_cases hlt : j < st.length
   ·obtain ⟨bk,o,e,hA,hbk,hco,hcell⟩ := (HST.out.grow HGR.out).at_ j hlt;subst hA;obtain ⟨nm,dA,dn,dc,xA,xn,xc⟩ := e;obtain ⟨c,hc⟩ : ∃ c,st[j] = c := ⟨_,rfl⟩;rw [hc] at hco;obtain ⟨q1,q2,q3,q4,hdocs,hixs⟩ := hco;dsimp only at q1 q2 q3 q4 hdocs hixs;subst q1 q2 q3;have f0 : wr.cell? ⟨bk,o + j * 3,none⟩ = some (.string c.name) := hcell 0 _ rfl (by omega);have f1 : wr.cell? ⟨bk,o + j * 3 + 1,none⟩ = some (.slice dA c.docs.length dc) := hcell 1 _ rfl (by omega);have f2 : wr.cell? ⟨bk,o + j * 3 + 2,none⟩ = some (.slice xA c.ixs.length xc) := hcell 2 _ rfl (by omega);have HC := hide hc;have HCO := hide (show CoOk l.length c from hc ▸ HOK.out.co _ (List.getElem_mem hlt));have HD := hide (show InL wr dA dc c.docs from hdocs);have HIX := hide hixs;have hb8 := Blk.new wr 48 #[.string c.name,.slice dA c.docs.length dc,.slice xA c.ixs.length xc];have HB8 := hide hb8
    have HG8 := hide ((Grow.refl wr).alloc (.cells #[.string c.name,.slice dA c.docs.length dc,.slice xA c.ixs.length xc] 48));have HPN := hide (fun (p : Nat) (hp : p + 1 = j) => (show Op.bytesLess (st[p]'(by omega)).name.toList c.name.toList = true ∧ wr.cell? ⟨bk,o + p * 3,none⟩ = some (.string (st[p]'(by omega)).name) from by
     subst hp;refine ⟨?_,?_⟩
     ·have h := nms_less (names := cnm st) HOK.out.nms (i := p) (j := p + 1) (by omega) (by unfold cnm;rw [List.length_map];exact hlt);simp only [cnm,List.getElem_map] at h;rw [← hc];exact h
     obtain ⟨bk',o',e',hA',hbk',hco',hcell'⟩ := (HST.out.grow HGR.out).at_ p (by omega);obtain ⟨rfl,rfl⟩ : bk = bk' ∧ o = o' := by injection hA' with h;injection h with h1 h2;exact ⟨h1,h2⟩
     have := hcell' 0 _ rfl (by omega);rw [← hco'.nm];exact this))
    clear hcell hdocs hixs hc;have HJG := hide (show gk' + 1 + j = st.length + 1 from hg);go_upto_region 15 with fail;clear f0 f1 f2;generalize wr.alloc (.cells #[.string c.name,.slice dA c.docs.length dc,.slice xA c.ixs.length xc] 48) = w8 at HB8 HG8 hb8 ⊢;generalize hG8 : wr.heap.size = G8 at HB8 hb8 ⊢;clear hG8;have HB3 := hide (HB2.out.grow HG8.out);have HBN := hide HB8.out.cell;clear hb8 hb2;go_cut [67] from 54 to 67 (fun t wx => t = .bool false ∧ Grow w8 wx)
    case first =>
     have hb3 := HB3.out.cell;have hbn := HBN.out;by_cases h0 : 0 < j
     ·obtain ⟨p,hp⟩ : ∃ p,p + 1 = j := ⟨j - 1,by omega⟩;obtain ⟨n1,n2⟩ := HPN.out p hp;have n3 : w8.cell? ⟨bk,o + p * 3,none⟩ = some (.string (st[p]'(by omega)).name) := (HG8.out.below.cell (p := ⟨bk,o + p * 3,none⟩) hbk).trans n2;have ep : (j : Int) - 1 = (p : Int) := by omega
      have rp : IntKind.i64.wrap (p : Int) = (p : Int) := by rw [IntKind.wrap_i64];have := HOK.out.n;omega
      have hps : p < st.length := by omega
      generalize (st[p]'(by omega)).name = pn at n1 n3;have hd : decide ((0 : Int) < (j : Int)) = true := decide_eq_true (by omega);have hd2 : (0 : Int) < (j : Int) := by omega
      clear n2 hp HPN;go_quiet (fail);go_wp2_with fail;go_meet;exact ⟨by simp [n1],(Grow.refl _).drewN _⟩
     have hd : decide ((0 : Int) < (j : Int)) = false := decide_eq_false (by omega);go_quiet (fail);go_wp2_with fail;go_meet;exact ⟨rfl,(Grow.refl _).drewN _⟩
    case rest =>
     obtain ⟨rfl,hg8⟩ := hcut;have HB9 := hide (HB8.out.grow hg8);have HD9 := hide (HD.out.grow (HG8.out.trans hg8));have HX9 := hide (InX.grow (show InX wr xA c.ixs from HIX.out) (HG8.out.trans hg8));have HGW := hide (HGR.out.trans (HG8.out.trans hg8));have HTW := hide (HT2.out.grow (HGA.out.trans HGW.out));have HMW := hide (HM2.out.grow (HGA.out.trans HGW.out));clear HB3 HBN HPN hg8;go_wp2_with fail;go_loopg [9] (c.docs.length + 1) (fun gk i wr => ∃ k : Nat,1 ≤ k ∧ (k ≤ c.docs.length ∨ k = 1) ∧ gk + k = c.docs.length + 2 ∧ i = .int .i64 k ∧ Grow wc wr)
     case atStart => exact ⟨1,Nat.le_refl _,.inr rfl,by omega,rfl,Grow.refl wc⟩
     case round =>
      obtain ⟨k,hk1,hk2,hgk,rfl,hgw⟩ := hrel;obtain ⟨gk2,rfl⟩ : ∃ g,gk = g + 1 := ⟨gk - 1,by omega⟩;have HGK := hide hgw;have HBK := hide (HB9.out.grow hgw);have hbk := HBK.out.cell;clear hgw;by_cases hkl : k < c.docs.length
      ·obtain ⟨p,hp⟩ : ∃ p,p + 1 = k := ⟨k - 1,by omega⟩;have hpl : p < c.docs.length := by omega
       have HDK := HD9.out.grow HGK.out;have o1 := HCO.out.docs _ (List.getElem_mem hpl);have o2 := HCO.out.docs _ (List.getElem_mem hkl);have hcmp : Lib.compareBytes (keyP c.docs[p]).1 (keyP c.docs[k]).1 = -1 := less_cmp (by
        have := HCO.out.keys.lt (i := p) (j := k) (by omega) (by unfold dkB;rw [List.length_map];exact hkl);simpa [dkB] using this)
       obtain ⟨b1,q1,x1,ha1,hb1,e0,e1,e2,e3,e4,hx1⟩ := HDK.elemL p hpl;obtain ⟨b2,q2,x2,ha2,hb2,d0,d1,d2,d3,d4,hx2⟩ := HDK.elemL k hkl;dsimp only [lcv] at ha1 ha2;subst ha1;obtain ⟨rfl,rfl⟩ : b1 = b2 ∧ q1 = q2 := by injection ha2 with h;injection h with h1 h2;exact ⟨h1,h2⟩
       have HK1 := hide (pkey_any c.docs[p] x1 wr o1.count (HTW.out.grow HGK.out) hx1);have HK2 := hide (fun (W : World) (hg : Grow wr W) => pkey_any c.docs[k] x2 W o2.count (HTW.out.grow (HGK.out.trans hg)) (hx2.grow hg));unfold OfC at HK1 HK2;rw [o1.key] at HK1;rw [o2.key] at HK2;generalize (keyP c.docs[p]).1 = k1 at HK1 hcmp;generalize (keyP c.docs[k]).1 = k2 at HK2 hcmp;have HCM := hide hcmp;have HE := hide (fun (W : World) (hg : Grow wr W) => (show _ ∧ _ ∧ _ ∧ _ ∧ _ from ⟨(hg.below.cell (p := ⟨b1,q1 + k * 5,none⟩) hb1).trans d0,(hg.below.cell (p := ⟨b1,q1 + k * 5 + 1,none⟩) hb1).trans d1,(hg.below.cell (p := ⟨b1,q1 + k * 5 + 2,none⟩) hb1).trans d2,(hg.below.cell (p := ⟨b1,q1 + k * 5 + 3,none⟩) hb1).trans d3,(hg.below.cell (p := ⟨b1,q1 + k * 5 + 4,none⟩) hb1).trans d4⟩));have ep : (k : Int) - 1 = (p : Int) := by omega
       have rp : IntKind.i64.wrap (p : Int) = (p : Int) := by rw [IntKind.wrap_i64];have := HCO.out.nd;have := HL5.out;omega
       have HP := hide hp;have HGE := hide hgk;clear HDK o1 o2 hcmp hx1 hx2 hb1 hb2 ha2 d0 d1 d2 d3 d4 hp hgk;go_wp2_with fail;clear e0 e1 e2 e3 e4 hbk;refine HK1.out.mono ?_;rintro e w1 ⟨base1,A1,c1,rfl,hbase1,hrow1,hg1⟩;have HR1 := hide (Row.inB' hrow1);have HG1 := hide hg1;have hbk := (HBK.out.grow hg1).cell;obtain ⟨d0,d1,d2,d3,d4⟩ := HE.out w1 hg1;clear hrow1 hg1 hbase1;go_wp2_with fail;clear d0 d1 d2 d3 d4 hbk;refine (HK2.out w1 HG1.out).mono ?_;rintro e w2' ⟨base2,A2,c2,rfl,hbase2,hrow2,hg2⟩;have HR2 := hide (Row.inB' hrow2);have HG2' := hide hg2;clear hrow2 hg2 hbase2;have hkc := kcmp_any k1 k2 A1 A2 c1 c2 w2' (HR1.out.grow HG2'.out) HR2.out;rw [HCM.out] at hkc;have HKC := hide hkc;clear hkc;go_wp2_with fail;refine HKC.out.mono ?_;rintro e w3 ⟨rfl,rfl⟩;have hkb : k + 1 ≤ 20001 := by have := HCO.out.nd;have := HL5.out;omega
       go_wp2_with fail;go_roundg gk2
       case measure => omega
       case rel => exact ⟨k + 1,by omega,.inl (by omega),by have := HGE.out;omega,by go_num,(HGK.out.trans HG1.out).trans HG2'.out⟩
      obtain ⟨wd,hwd⟩ : ∃ wd : World,wd = wr := ⟨_,rfl⟩;subst hwd;have HB4 := HBK;have HD4 := hide (HD9.out.grow HGK.out);have HX4 := hide (HX9.out.grow HGK.out);have HGD := hide (HGW.out.trans HGK.out);have HT4 := hide (HTW.out.grow HGK.out);have HM4 := hide (HMW.out.grow HGK.out);clear HBK HD9 HX9 HGW HTW HMW HB9 hk1 hk2 hgk;go_wp2_with fail;clear hbk hkl;go_loopg [14] (c.ixs.length + 1) (fun gk i wr => ∃ m : Nat,m ≤ c.ixs.length ∧ gk + m = c.ixs.length + 1 ∧ i = .int .i64 m ∧ Grow wd wr)
      case atStart => exact ⟨0,Nat.zero_le _,rfl,rfl,Grow.refl wd⟩
      case round =>
       obtain ⟨m,hm,hgk,rfl,hgw⟩ := hrel;obtain ⟨gk3,rfl⟩ : ∃ g,gk = g + 1 := ⟨gk - 1,by omega⟩;have HGM := hide hgw;have HBM := hide (HB4.out.grow hgw);have hbm := HBM.out.cell;clear hgw;by_cases hml : m < c.ixs.length
       ·obtain ⟨b3,q3,ha3,hb3,n0,n1,n2⟩ := (HX4.out.grow HGM.out).at_ m hml;obtain ⟨x,hx⟩ : ∃ x,c.ixs[m] = x := ⟨_,rfl⟩;rw [hx] at n0 n1 n2;have HXP := hide (show x.path.size ≤ 200 ∧ (x.uniq = true → UniqV x.path c.docs) from hx ▸ ⟨HCO.out.path _ (List.getElem_mem hml),HCO.out.uniq _ (List.getElem_mem hml)⟩);have HQN := hide (fun (p : Nat) (hp : p + 1 = m) => (show Op.bytesLess (c.ixs[p]'(by omega)).name.toList x.name.toList = true ∧ wr.cell? ⟨b3,q3 + p * 3,none⟩ = some (.string (c.ixs[p]'(by omega)).name) from by
         subst hp;refine ⟨?_,?_⟩
         ·have h := nms_less (names := xnm c) HCO.out.ixs (i := p) (j := p + 1) (by omega) (by unfold xnm;rw [List.length_map];exact hml);simp only [xnm,List.getElem_map] at h;rw [← hx];exact h
         obtain ⟨b4,q4,ha4,hb4,m0,m1,m2⟩ := (HX4.out.grow HGM.out).at_ p (by omega);obtain ⟨rfl,rfl⟩ : b3 = b4 ∧ q3 = q4 := by
          rw [ha3] at ha4;injection ha4 with h;injection h with h1 h2;exact ⟨h1,h2⟩
         exact m0))
        obtain ⟨xn,xp,xu⟩ := x;dsimp only at n0 n1 n2 HXP HQN;have HHX := hide hx;have HMG := hide hgk;have HA3 := hide ha3;clear hx;have hb15 := Blk.new wr 64 #[.string xn,.string xp,.bool xu];have HB15 := hide hb15;have HG15 := hide ((Grow.refl wr).alloc (.cells #[.string xn,.string xp,.bool xu] 64));subst ha3;go_upto_region 28 with fail;clear n0 n1 n2 hbm;generalize wr.alloc (.cells #[.string xn,.string xp,.bool xu] 64) = w15 at HB15 HG15 hb15 ⊢;generalize hG15 : wr.heap.size = G15 at HB15 hb15 ⊢;clear hG15;have HBC := hide (HBM.out.grow HG15.out);have HBI := hide HB15.out.cell;clear hb15;go_cut [131] from 118 to 131 (fun t wx => t = .bool false ∧ Grow w15 wx)
        case first =>
         have hbc := HBC.out.cell;have hbi := HBI.out;by_cases h0 : 0 < m
         ·obtain ⟨p,hp⟩ : ∃ p,p + 1 = m := ⟨m - 1,by omega⟩;obtain ⟨n1,n2⟩ := HQN.out p hp;have n3 : w15.cell? ⟨b3,q3 + p * 3,none⟩ = some (.string (c.ixs[p]'(by omega)).name) := (HG15.out.below.cell (p := ⟨b3,q3 + p * 3,none⟩) hb3).trans n2;have ep : (m : Int) - 1 = (p : Int) := by omega
          have rp : IntKind.i64.wrap (p : Int) = (p : Int) := by rw [IntKind.wrap_i64];have := HCO.out.nx;omega
          have hps : p < c.ixs.length := by omega
          generalize (c.ixs[p]'(by omega)).name = pn at n1 n3;have hd : decide ((0 : Int) < (m : Int)) = true := decide_eq_true (by omega);have hd2 : (0 : Int) < (m : Int) := by omega
          clear n2 hp HQN;go_quiet (fail);go_wp2_with fail;go_meet;exact ⟨by simp [n1],(Grow.refl _).drewN _⟩
         have hd : decide ((0 : Int) < (m : Int)) = false := decide_eq_false (by omega);go_quiet (fail);go_wp2_with fail;go_meet;exact ⟨rfl,(Grow.refl _).drewN _⟩
        case rest =>
         obtain ⟨rfl,hg15⟩ := hcut;have HB16 := hide (HB15.out.grow hg15);have HBD := hide (HBC.out.grow hg15);have HGX := hide (HGM.out.trans (HG15.out.trans hg15));clear HBC HBI HQN hg15;obtain ⟨we,hwe⟩ : ∃ we : World,we = wc := ⟨_,rfl⟩;subst hwe;go_wp2_with fail;go_loopg [16] (c.docs.length + 1) (fun gk i wr => ∃ a : Nat,a ≤ c.docs.length ∧ gk + a = c.docs.length + 1 ∧ i = .int .i64 a ∧ Grow we wr)
         case atStart => exact ⟨0,Nat.zero_le _,rfl,rfl,Grow.refl we⟩
         case round =>
          obtain ⟨a,ha,hgk5,rfl,hgw⟩ := hrel;obtain ⟨gk5,rfl⟩ : ∃ g,gk = g + 1 := ⟨gk - 1,by omega⟩;have HGA5 := hide hgw;have HBE := hide (HBD.out.grow hgw);have HBX := hide (HB16.out.grow hgw);have HAG := hide hgk5;have hbe := HBE.out.cell;have hbx := HBX.out.cell;clear hgw hgk5;by_cases hh : a < c.docs.length ∧ xu = true
          ·obtain ⟨hal,rfl⟩ := hh;go_wp2_with fail;clear hbe hbx;obtain ⟨wf,hwf⟩ : ∃ wf : World,wf = wr := ⟨_,rfl⟩;subst hwf;go_loopg [17] (a + 1) (fun gk i wr => ∃ b : Nat,b ≤ a ∧ gk + b = a + 1 ∧ i = .int .i64 b ∧ Grow wf wr)
           case atStart => exact ⟨0,Nat.zero_le _,rfl,rfl,Grow.refl wf⟩
           case round =>
            obtain ⟨b,hb,hgk6,rfl,hgw⟩ := hrel;obtain ⟨gk6,rfl⟩ : ∃ g,gk = g + 1 := ⟨gk - 1,by omega⟩;have HGB := hide hgw;have HBG := hide (HBE.out.grow hgw);have HBY := hide (HBX.out.grow hgw);have HBK6 := hide hgk6;clear hgw hgk6;by_cases hba : b < a
            ·have hbl : b < c.docs.length := by omega
             have HDK := HD4.out.grow (HGX.out.trans (HGA5.out.trans HGB.out));have HTK := hide (HT4.out.grow (HGX.out.trans (HGA5.out.trans HGB.out)));have HMK := hide (HM4.out.grow (HGX.out.trans (HGA5.out.trans HGB.out)));have ob := HCO.out.docs _ (List.getElem_mem hbl);have oa := HCO.out.docs _ (List.getElem_mem hal);have huq := (List.pairwise_iff_getElem.1 (HXP.out.2 (by simp))) b a hbl hal hba;have hxp : xp.size < 4294967281 := by have := HXP.out.1;omega
             obtain ⟨b1,q1,x1,ha1,hb1,e0,e1,e2,e3,e4,hx1⟩ := HDK.elemL b hbl;obtain ⟨b2,q2,x2,ha2,hb2,d0,d1,d2,d3,d4,hx2⟩ := HDK.elemL a hal;dsimp only [lcv] at ha1 ha2;subst ha1;obtain ⟨rfl,rfl⟩ : b1 = b2 ∧ q1 = q2 := by injection ha2 with h;injection h with h1 h2;exact ⟨h1,h2⟩
             have HP1 := hide (fun (W : World) (hg : Grow wr W) => vpath_any c.docs[b] xp x1 W (HTK.out.grow hg) (HMK.out.grow hg) ob.count hxp (hx1.grow hg));have HP2 := hide (fun (W : World) (hg : Grow wr W) => vpath_any c.docs[a] xp x2 W (HTK.out.grow hg) (HMK.out.grow hg) oa.count hxp (hx2.grow hg));generalize pathV c.docs[b] xp = g1 at HP1 huq;generalize pathV c.docs[a] xp = g2 at HP2 huq;have HUQ := hide huq;have HSb := hide (fun (W : World) (hg : Grow wr W) => (⟨(HBG.out.grow hg).cell 1,(HBY.out.grow hg).cell 1,(hg.below.cell (p := ⟨b1,q1 + b * 5,none⟩) hb1).trans e0,(hg.below.cell (p := ⟨b1,q1 + b * 5 + 1,none⟩) hb1).trans e1,(hg.below.cell (p := ⟨b1,q1 + b * 5 + 2,none⟩) hb1).trans e2,(hg.below.cell (p := ⟨b1,q1 + b * 5 + 3,none⟩) hb1).trans e3,(hg.below.cell (p := ⟨b1,q1 + b * 5 + 4,none⟩) hb1).trans e4⟩ : _ ∧ _ ∧ _ ∧ _ ∧ _ ∧ _ ∧ _))
             have HSa := hide (fun (W : World) (hg : Grow wr W) => (⟨(HBG.out.grow hg).cell 1,(HBY.out.grow hg).cell 1,(hg.below.cell (p := ⟨b1,q1 + a * 5,none⟩) hb1).trans d0,(hg.below.cell (p := ⟨b1,q1 + a * 5 + 1,none⟩) hb1).trans d1,(hg.below.cell (p := ⟨b1,q1 + a * 5 + 2,none⟩) hb1).trans d2,(hg.below.cell (p := ⟨b1,q1 + a * 5 + 3,none⟩) hb1).trans d3,(hg.below.cell (p := ⟨b1,q1 + a * 5 + 4,none⟩) hb1).trans d4⟩ : _ ∧ _ ∧ _ ∧ _ ∧ _ ∧ _ ∧ _));clear HDK ob oa huq hx1 hx2 ha2 hb1 hb2 e0 e1 e2 e3 e4 d0 d1 d2 d3 d4;go_upto_region 36 with fail;go_cut [18,19] from 148 to 158 (fun p t wx => PathR wr g1 p t wx)
             case first =>
              have HSW := hide (fun (W : World) (hg : Grow wr W) => show W.cell? ⟨G8,1,none⟩ = some (.slice (some ⟨b1,q1,none⟩) c.docs.length dc) ∧ W.cell? ⟨G15,1,none⟩ = some (.string xp) ∧ W.cell? ⟨b1,q1 + b * 5,none⟩ = some (.int .i64 x1.k) ∧ W.cell? ⟨b1,q1 + b * 5 + 1,none⟩ = some (.int .u64 x1.n) ∧ W.cell? ⟨b1,q1 + b * 5 + 2,none⟩ = some (.slice x1.aB x1.nB x1.cB) ∧ W.cell? ⟨b1,q1 + b * 5 + 3,none⟩ = some (.slice x1.aL x1.nL x1.cL) ∧ W.cell? ⟨b1,q1 + b * 5 + 4,none⟩ = some (.slice x1.aF x1.nF x1.cF) from
               HSb.out W hg)
              refine wp_region_noPanic ?_;refine wp_region_held_drew (S := fun w' => w'.cell? ⟨G8,1,none⟩ = some (.slice (some ⟨b1,q1,none⟩) c.docs.length dc) ∧ w'.cell? ⟨G15,1,none⟩ = some (.string xp) ∧ w'.cell? ⟨b1,q1 + b * 5,none⟩ = some (.int .i64 x1.k) ∧ w'.cell? ⟨b1,q1 + b * 5 + 1,none⟩ = some (.int .u64 x1.n) ∧ w'.cell? ⟨b1,q1 + b * 5 + 2,none⟩ = some (.slice x1.aB x1.nB x1.cB) ∧ w'.cell? ⟨b1,q1 + b * 5 + 3,none⟩ = some (.slice x1.aL x1.nL x1.cL) ∧ w'.cell? ⟨b1,q1 + b * 5 + 4,none⟩ = some (.slice x1.aF x1.nF x1.cF)) (by kernel_rfl) (HSW.out _ (Grow.refl _).drew) (fun hHeld => ?_);have HGD := hide (show Grow wr wr.drew from (Grow.refl _).drew);generalize wr.drew = W0 at HGD hHeld ⊢;refine tk_ 0 ?_;refine tx_ 1 ?_;refine tk_ 2 ?_;refine tk_ 3 ?_;refine tx_ 4 ?_;refine tk_ 5 ?_;refine tx_ 6 ?_;refine rr_ [7,11] ?_
              refine rd1_ (fun K hK => ?_) (rd1_ (fun K hK => ?_) AllReadyH.nil)
              ·have HGY := hide (Grow.refl W0);go_simp;go_at_call 21;refine (HP1.out _ (HGD.out.trans HGY.out)).mono ?_;rintro ee W3 ⟨hg3,cc,tt,uu,rfl,hu,hres⟩;refine hk_ hK (HSW.out _ (HGD.out.trans hg3)) (fun hHeld => ?_);clear hK K;refine tk_ 8 ?_;refine tk_ 9 ?_;refine tk_ 10 ?_;refine r1_ 11 (fun K hK => ?_);go_simp;refine hk_ hK (HSW.out _ ((HGD.out.trans hg3).alloc _)) (fun hHeld => ?_);clear hK K;refine r1_ 12 (fun K hK => ?_);go_simp;refine hk_ hK (HSW.out _ ((HGD.out.trans hg3).alloc _)) (fun hHeld => ?_);clear hK K;refine tk_ 13 ?_;refine dn_ ?_;go_wp2_with fail;go_meet;exact ⟨(HGD.out.trans hg3).alloc _,_,cc,tt,uu,rfl,rfl,Blk.new W3 _ _,In.grow (isv_in hu) ((Grow.refl W3).alloc _),hres.imp id (fun h => ⟨h.1,h.2.1⟩)⟩
              go_simp;refine hk_ hK (HSW.out _ (HGD.out.alloc _)) (fun hHeld => ?_);clear hK K;refine r1_ 7 (fun K hK => ?_);go_simp;go_at_call 21;refine (HP1.out _ (HGD.out.alloc _)).mono ?_;rintro ee W3 ⟨hg3,cc,tt,uu,rfl,hu,hres⟩;refine hk_ hK (HSW.out _ ((HGD.out.alloc _).trans hg3)) (fun hHeld => ?_);clear hK K;refine tk_ 8 ?_;refine tk_ 9 ?_;refine tk_ 10 ?_;refine r1_ 12 (fun K hK => ?_);have hBB := (Blk.new W0 27 Cv.zero.cells).grow hg3;obtain ⟨hps1,hps2,hps3⟩ := path_store ((HGD.out.alloc _).trans hg3) HGD.out.size (by simp) hBB hu;have hbc := hBB.cell;have hbf := hBB.frozen;have HPS1 := hide hps1;have HPS2 := hide hps2;have HPS3 := hide hps3;clear hBB hps1 hps2 hps3;go_simp;clear hbc hbf;refine hk_ hK (HSW.out _ HPS1.out) (fun hHeld => ?_);clear hK K;refine tk_ 13 ?_;refine dn_ ?_;go_wp2_with fail;go_meet
              exact ⟨HPS1.out,_,cc,tt,uu,rfl,rfl,HPS2.out,HPS3.out,hres.imp id (fun h => ⟨h.1,h.2.1⟩)⟩
             case rest =>
              obtain ⟨hgc,gb1,c1,tt1,u1,rfl,rfl,hbb1,hi1,hr1⟩ := hcut;obtain ⟨w36,hw36⟩ : ∃ x : World,x = wc := ⟨_,rfl⟩;subst hw36;have HG36 := hide hgc;have HB36 := hide hbb1;have HI36 := hide hi1;have HR36 := hide hr1;clear hgc hbb1 hi1 hr1;go_upto_region 37 with fail;go_cut [20,21] from 159 to 169 (fun p t wx => PathR w36 g2 p t wx)
              case first =>
               have HSW := hide (fun (W : World) (hg : Grow w36 W) => show W.cell? ⟨G8,1,none⟩ = some (.slice (some ⟨b1,q1,none⟩) c.docs.length dc) ∧ W.cell? ⟨G15,1,none⟩ = some (.string xp) ∧ W.cell? ⟨b1,q1 + a * 5,none⟩ = some (.int .i64 x2.k) ∧ W.cell? ⟨b1,q1 + a * 5 + 1,none⟩ = some (.int .u64 x2.n) ∧ W.cell? ⟨b1,q1 + a * 5 + 2,none⟩ = some (.slice x2.aB x2.nB x2.cB) ∧ W.cell? ⟨b1,q1 + a * 5 + 3,none⟩ = some (.slice x2.aL x2.nL x2.cL) ∧ W.cell? ⟨b1,q1 + a * 5 + 4,none⟩ = some (.slice x2.aF x2.nF x2.cF) from
                HSa.out W (HG36.out.trans hg))
               refine wp_region_noPanic ?_;refine wp_region_held_drew (S := fun w' => w'.cell? ⟨G8,1,none⟩ = some (.slice (some ⟨b1,q1,none⟩) c.docs.length dc) ∧ w'.cell? ⟨G15,1,none⟩ = some (.string xp) ∧ w'.cell? ⟨b1,q1 + a * 5,none⟩ = some (.int .i64 x2.k) ∧ w'.cell? ⟨b1,q1 + a * 5 + 1,none⟩ = some (.int .u64 x2.n) ∧ w'.cell? ⟨b1,q1 + a * 5 + 2,none⟩ = some (.slice x2.aB x2.nB x2.cB) ∧ w'.cell? ⟨b1,q1 + a * 5 + 3,none⟩ = some (.slice x2.aL x2.nL x2.cL) ∧ w'.cell? ⟨b1,q1 + a * 5 + 4,none⟩ = some (.slice x2.aF x2.nF x2.cF)) (by kernel_rfl) (HSW.out _ (Grow.refl _).drew) (fun hHeld => ?_);have HGD := hide (show Grow w36 w36.drew from (Grow.refl _).drew);generalize w36.drew = W0 at HGD hHeld ⊢;refine tk_ 0 ?_;refine tx_ 1 ?_;refine tk_ 2 ?_;refine tk_ 3 ?_;refine tx_ 4 ?_;refine tk_ 5 ?_;refine tx_ 6 ?_;refine rr_ [7,11] ?_
               refine rd1_ (fun K hK => ?_) (rd1_ (fun K hK => ?_) AllReadyH.nil)
               ·have HGY := hide (Grow.refl W0);go_simp;go_at_call 21;refine (HP2.out _ (HG36.out.trans (HGD.out.trans HGY.out))).mono ?_;rintro ee W3 ⟨hg3,cc,tt,uu,rfl,hu,hres⟩;refine hk_ hK (HSW.out _ (HGD.out.trans hg3)) (fun hHeld => ?_);clear hK K;refine tk_ 8 ?_;refine tk_ 9 ?_;refine tk_ 10 ?_;refine r1_ 11 (fun K hK => ?_);go_simp;refine hk_ hK (HSW.out _ ((HGD.out.trans hg3).alloc _)) (fun hHeld => ?_);clear hK K;refine r1_ 12 (fun K hK => ?_);go_simp;refine hk_ hK (HSW.out _ ((HGD.out.trans hg3).alloc _)) (fun hHeld => ?_);clear hK K;refine tk_ 13 ?_;refine dn_ ?_;go_wp2_with fail;go_meet;exact ⟨(HGD.out.trans hg3).alloc _,_,cc,tt,uu,rfl,rfl,Blk.new W3 _ _,In.grow (isv_in hu) ((Grow.refl W3).alloc _),hres.imp id (fun h => ⟨h.1,h.2.1⟩)⟩
               go_simp;refine hk_ hK (HSW.out _ (HGD.out.alloc _)) (fun hHeld => ?_);clear hK K;refine r1_ 7 (fun K hK => ?_);go_simp;go_at_call 21;refine (HP2.out _ (HG36.out.trans (HGD.out.alloc _))).mono ?_;rintro ee W3 ⟨hg3,cc,tt,uu,rfl,hu,hres⟩;refine hk_ hK (HSW.out _ ((HGD.out.alloc _).trans hg3)) (fun hHeld => ?_);clear hK K;refine tk_ 8 ?_;refine tk_ 9 ?_;refine tk_ 10 ?_;refine r1_ 12 (fun K hK => ?_);have hBB := (Blk.new W0 27 Cv.zero.cells).grow hg3;obtain ⟨hps1,hps2,hps3⟩ := path_store ((HGD.out.alloc _).trans hg3) HGD.out.size (by simp) hBB hu;have hbc := hBB.cell;have hbf := hBB.frozen;have HPS1 := hide hps1;have HPS2 := hide hps2;have HPS3 := hide hps3;clear hBB hps1 hps2 hps3;go_simp;clear hbc hbf;refine hk_ hK (HSW.out _ HPS1.out) (fun hHeld => ?_);clear hK K;refine tk_ 13 ?_;refine dn_ ?_;go_wp2_with fail;go_meet
               exact ⟨HPS1.out,_,cc,tt,uu,rfl,rfl,HPS2.out,HPS3.out,hres.imp id (fun h => ⟨h.1,h.2.1⟩)⟩
              case rest =>
               obtain ⟨hgc,gb2,c2,tt2,u2,rfl,rfl,hbb2,hi2,hr2⟩ := hcut;have HG37 := hide (HG36.out.trans hgc);have HB1 := hide (HB36.out.grow hgc);have HI1 := hide (HI36.out.grow hgc);have HB2 := hide hbb2;have HI2 := hide hi2;have HR37 := hide hr2;have HGF := hide (HGB.out.trans HG37.out);clear hgc hbb2 hi2 hr2 HSa HSb HP1 HP2
               cases tt1 with
               | false =>
                have hbb : b + 1 ≤ 20001 := by have := HCO.out.nd;have := HL5.out;omega
                go_wp2_with fail;go_roundg gk6
                case measure => omega
                case rel => exact ⟨b + 1,by omega,by have := HBK6.out;omega,by go_num,HGF.out⟩
               | true =>
                cases tt2 with
                | false =>
                 have hbb : b + 1 ≤ 20001 := by have := HCO.out.nd;have := HL5.out;omega
                 go_wp2_with fail;go_roundg gk6
                 case measure => omega
                 case rel => exact ⟨b + 1,by omega,by have := HBK6.out;omega,by go_num,HGF.out⟩
                | true =>
                 have hne : sameB u1 u2 = false := by
                  rcases Bool.eq_false_or_eq_true (sameB u1 u2) with h | h
                  ·rw [sameB_iff] at h;have e1 : g1 = some u1 := by rcases HR36.out with e | e;exact e.1;exact absurd e.2 (by decide)
                   have e2 : g2 = some u2 := by rcases HR37.out with e | e;exact e.1;exact absurd e.2 (by decide)
                   exact absurd (e2.trans (congrArg some h.symm)) (HUQ.out u1 e1)
                  exact h
                 have hsm := same_any u1 u2 _ c1 c2 HI1.out HI2.out;rw [hne] at hsm;have HSM := hide hsm;have hc1 := HB1.out.cell;have hc2 := HB2.out.cell;clear hne hsm;go_wp2_with fail;refine HSM.out.mono ?_;rintro e w5 ⟨rfl,hg5⟩;replace HGF := hide (HGF.out.trans hg5);clear hg5 hc1 hc2;have hbb : b + 1 ≤ 20001 := by have := HCO.out.nd;have := HL5.out;omega
                 go_wp2_with fail;go_roundg gk6
                 case measure => omega
                 case rel => exact ⟨b + 1,by omega,by have := HBK6.out;omega,by go_num,HGF.out⟩
            have HGF := hide (HGA5.out.trans HGB.out);have hab : a + 1 ≤ 20001 := by have := HCO.out.nd;have := HL5.out;omega
            go_wp2_with fail;go_roundg gk5
            case measure => omega
            case rel => exact ⟨a + 1,by omega,by have := HAG.out;omega,by go_num,HGF.out⟩
          by_cases hal : a < c.docs.length
          ·obtain rfl : xu = false := by
            cases xu
            ·rfl
            exact absurd ⟨hal,rfl⟩ hh
           clear hh;have HGF := hide (HGX.out.trans HGA5.out);have hmb : m + 1 ≤ 9 := by have := HCO.out.nx;omega
           go_wp2_with fail;go_roundg gk3
           case measure => omega
           case rel => exact ⟨m + 1,by omega,by have := HMG.out;omega,by go_num,HGF.out⟩
          clear hh;have HGF := hide (HGX.out.trans HGA5.out);have hmb : m + 1 ≤ 9 := by have := HCO.out.nx;omega
          go_wp2_with fail;go_roundg gk3
          case measure => omega
          case rel => exact ⟨m + 1,by omega,by have := HMG.out;omega,by go_num,HGF.out⟩
       have HGF := hide (HGD.out.trans HGM.out);have hjb : j + 1 ≤ 17 := by have := HOK.out.n;omega
       go_wp2_with fail;go_roundg gk'
       case measure => omega
       case rel => exact ⟨j + 1,by omega,by have := HJG.out;omega,by go_num,HGF.out⟩
   go_wp2_with fail;go_ret;exact ⟨rfl,HG2.out.trans (HGA.out.trans HGR.out)⟩
end
section
open Go.RowKit Go.ChangeShapes Go.ChangeAt Go.Shelf Go.WideShapes Go.Deep
theorem pordered_reading (os : Os) {H : Type} (enc : TypeId × Value → H) : ∃ places,DataW.whole enc Tryz.prog ((laidWorld os).forCall (fun _ _ => 0) ⟨#[],#[.slice none 0 0],[]⟩).memory Tryz.f6.params.toList Rows.plainOrderedSpec.vars false (#[.slice none 0 0] : Array Value).toList 8 = some ([.nil],[],places) :=
 ⟨[],by kernel_rfl⟩
theorem pordered_lifted (os : Os) (started : os.Started) (H : Type) (enc : TypeId × Value → H) (F : Stop.Interp) :
 ReturnsInHanded {} Tryz.checked os 6 .any ((OpenSpec.ofChange Rows.plainOrderedSpec).preRow enc Tryz.prog Tryz.f6 Rows.plainOrderedRow.domain false Rows.plainOrderedRow.laid) (((OpenSpec.ofChange Rows.plainOrderedSpec).at F).post enc Tryz.prog Tryz.f6 false true false false) := by
 obtain ⟨places,hx⟩ := pordered_reading os enc;refine returnsInHanded_of_row (C := Tryz.checked) (s := OpenSpec.ofChange Rows.plainOrderedSpec) own_ started (by kernel_rfl) Tryz.func6
  (witness_row_atRef (enc := enc) (C := Tryz.checked) false (laidWorld os) #[.slice none 0 0] rfl (by kernel_rfl) (by kernel_rfl) (by kernel_rfl)
   (OpenSpec.preRow_of_cond 8 hx (by kernel_rfl) (fun k hk => by cases hk) (by kernel_rfl) (laid_row os _))) ?_
 intro W base args ds gs before hval0 hW _ _ hsz hL hsh _;have hval : ∀ (j : Nat) t v,Tryz.f6.params[j]? = some t → args[j]? = some v → Value.okWide Tryz.prog W .any base t v := hval0;have hW' := hW;obtain ⟨p,q,hA0,hV0,rfl,_,_⟩ := hW;have hA : DataW.TrodAll enc Tryz.prog W 0 (fun _ => true) true Tryz.f6.params.toList args.toList ds p := hA0;rw [Tryz.params6] at hA hval;obtain ⟨v0,d0,rfl,rfl,h0⟩ := trodAll_one hA;obtain ⟨rfl,rfl⟩ := trodVars_none hV0;obtain ⟨A00,len0,cap00,rfl⟩ := okWide_slice under_requests (hval 0 36 v0 rfl rfl);have h0k := h0;obtain ⟨fuel0,h0f⟩ := h0;obtain ⟨A0,cap0,l0,hv0,hin0,hll0⟩ := open_requests (c := .slice A00 len0 cap00) h0f (fun n hn => by
  have := List.all_eq_true.1 hsz _ (DataW.weights_mem_each (j := 0) (t := 36) (d := d0) (by rw [Tryz.params6];rfl) rfl n hn);simpa using this)
 rw [hv0] at h0k hW' ⊢;have hM : Len1 W := laysSplit_len W hsh;have hlt0 : ∀ x ∈ p,x.block < W.heap.size := fun x hx => by
  have := hW'.lt x (by simpa using hx);simpa using this
 refine (pordered_any l0 A0 cap0 W (tabs_row hL) hM hin0 hll0).mono ?_;rintro e W' ⟨rfl,bel⟩;have e1 : ((OpenSpec.ofChange Rows.plainOrderedSpec).at F).fn H ([d0] ++ []) = { results := [.lit (.bool true)],args := [d0] } := rfl;refine ⟨_,rfl,_,_,_,[],p,[],hW',?_,?_,?_,bel.below.frame _,fun h => by cases h⟩
 ·rw [e1];exact trodAll_mk1 (shut_bool Tryz.underlying4 _)
 ·rw [e1];exact trodAll_mk1 (Below.trod laidOut_ (by kernel_rfl) (of_decide_eq_true (by kernel_rfl)) h0k bel.below hlt0)
 rw [e1];rfl
theorem pordered_said : Rows.PlainOrderedSaid :=
 OpenClaim.holds_of_cond 6 Tryz.f6 rfl rfl rfl rfl rfl rfl rfl ⟨rfl,rfl,rfl,rfl,rfl⟩ rfl rfl rfl rfl rfl (by kernel_rfl) Tryz.func6 (by kernel_rfl)
  (of_decide_eq_true (by kernel_rfl)) (by unfold Func.isWrapper;first | (rw [if_pos (by decide +kernel)];kernel_rfl) | (rw [if_neg (by decide +kernel)];exact ⟨rfl,rfl⟩))
  (fun os started H enc _ F => by rw [OpenClaim.pre_eq_preRow];exact pordered_lifted os started H enc F)
theorem pordered_plain (f : FuncId) (fn : Func) (hf : Tryz.pinned.checked.prog.funcNamed "muniment/munimentlaw15.PlainOrdered" = some f) (hfn : Tryz.pinned.checked.prog.funcs[f]? = some fn) :
 true = Tryz.pinned.checked.prog.looks [] ∧ ∀ (j : Nat) t,fn.params[j]? = some t → Tryz.pinned.checked.prog.wantsStandIn t = false := by
 obtain rfl : f = 6 := Option.some.inj ((show Tryz.prog.funcNamed "muniment/munimentlaw15.PlainOrdered" = some 6 by kernel_rfl).symm.trans hf) |>.symm;obtain rfl : fn = Tryz.f6 := (Option.some.inj (Tryz.func6.symm.trans hfn)).symm;refine ⟨by kernel_rfl, fun j t ht => ?_⟩;rw [Tryz.params6] at ht;obtain rfl : t = 36 := by simpa using Array.mem_of_getElem? ht
 exact (show Tryz.prog.wantsStandIn 36 = false by kernel_rfl)
theorem pordered_card : Rows.PlainOrderedCardSaid :=
 Claim7.holds_tied_plain_at .later [] _ _ _ _ pordered_said (fun _ h => by cases h) (by kernel_rfl) (fun _ h => by cases h) plainOrdered_row_tie rfl ⟨rfl,rfl⟩ (by kernel_rfl) rfl pordered_plain (by kernel_rfl)
end
end Go.Proofs.YtndjopkdbdcmdaaGreatDoor
