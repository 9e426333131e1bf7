/- The law PlainIndexes holds of any requests and any path: indexes that are not unique change no reply to requests on documents. Conditions: the row's own (the listed tables read as their initialisers lay them; the card ties them to the program's text). -/
import Derived.Test.YtndjopkdbdcmdaaGreatDoorPix21
import Derived.Laws.Cover1
set_option linter.unusedVariables false
set_option linter.unusedSimpArgs false
set_option maxRecDepth 100000
set_option maxHeartbeats 12800000
namespace Go.Proofs.YtndjopkdbdcmdaaGreatDoor
section
open Go.RowKit
theorem Bare.state {w : World} {g : Nat} {T : TypeId} {A : Option Addr} {l c : Nat} (ho : Blk w g T #[.slice A l c]) : Bare w (fun q => q = g) := by
 intro p u hp hc;obtain ⟨g',o,pr⟩ := p;have hp' : g' = g := hp;subst hp'
 cases pr with
 | some x =>
  unfold World.cell? at hc;rw [show w.heap[g']? = _ from ho] at hc;simp at hc
 | none =>
  rw [ho.cell] at hc;have ho : o < 1 := by
   rcases Nat.lt_or_ge o 1 with h | h
   ·exact h
   rw [Array.getElem?_eq_none (by simpa using h)] at hc;cases hc
  obtain rfl : o = 0 := by omega
  cases hc
  refine ⟨fun n h => ?_,fun n h => ?_,fun s h => ?_⟩ <;> cases h
structure D2 (W0 : World) (st : List Co) (r : Rp) (d5 d9 d10 d11 d12 : Bool) (y1 y2 y3 y4 : Value) (W : World) : Prop where
 g : Grow W0 W
 res : d5 = true → ∃ A c dA dc,y1 = .agg #[.slice A st.length c] ∧ y2 = .agg (rpCells r.e r.n dA r.docs.length dc r.cursor) ∧ StIn W A c st ∧ InL W dA dc r.docs ∧
  (d9 = true → d11 = true → ∃ g,y3 = .pointer (some ⟨g,0,none⟩) ∧ Blk W g 44 #[.slice A st.length c]) ∧ (d10 = true → d12 = true → ∃ g,y4 = .pointer (some ⟨g,0,none⟩) ∧ Blk W g 31 (rpCells r.e r.n dA r.docs.length dc r.cursor))
 bs : d9 = true → ∃ g,y3 = .pointer (some ⟨g,0,none⟩) ∧ W0.heap.size ≤ g ∧ g < W.heap.size ∧ (d11 = false → Blk W g 44 #[.slice none 0 0])
 br : d10 = true → ∃ g,y4 = .pointer (some ⟨g,0,none⟩) ∧ W0.heap.size ≤ g ∧ g < W.heap.size ∧ (d12 = false → Blk W g 31 #[.int .i64 0,.int .i64 0,.slice none 0 0,.int .i64 0])
 ne : d9 = true → d10 = true → y3 ≠ y4
section
variable {W0 W W' : World} {st : List Co} {r : Rp} {d5 d9 d10 d11 d12 : Bool} {y1 y2 y3 y4 : Value}
theorem D2.start (W0 : World) : D2 W0 st r false false false false false undef undef undef undef W0 := ⟨Grow.refl _,fun e => (by cases e),fun e => (by cases e),fun e => (by cases e),fun e => (by cases e)⟩
theorem D2.grow (h : D2 W0 st r d5 d9 d10 d11 d12 y1 y2 y3 y4 W) (hg : Grow W W') : D2 W0 st r d5 d9 d10 d11 d12 y1 y2 y3 y4 W' := by
 refine ⟨h.g.trans hg,fun e => ?_,fun e => ?_,fun e => ?_,h.ne⟩
 ·obtain ⟨A,c,dA,dc,r1,r2,r3,r4,r5,r6⟩ := h.res e;refine ⟨A,c,dA,dc,r1,r2,r3.grow hg,r4.grow hg,fun e1 e2 => ?_,fun e1 e2 => ?_⟩
  ·obtain ⟨g,k1,k2⟩ := r5 e1 e2;exact ⟨g,k1,k2.grow hg⟩
  obtain ⟨g,k1,k2⟩ := r6 e1 e2;exact ⟨g,k1,k2.grow hg⟩
 ·obtain ⟨g,k1,k2,k3,k4⟩ := h.bs e;exact ⟨g,k1,k2,Nat.lt_of_lt_of_le k3 hg.size,fun e => (k4 e).grow hg⟩
 obtain ⟨g,k1,k2,k3,k4⟩ := h.br e;exact ⟨g,k1,k2,Nat.lt_of_lt_of_le k3 hg.size,fun e => (k4 e).grow hg⟩
theorem D2.call (h : D2 W0 st r false d9 d10 false false y1 y2 y3 y4 W) (hg : Grow W W') {A dA : Option Addr} {c dc : Nat} (hs : StIn W' A c st) (hd : InL W' dA dc r.docs) : D2 W0 st r true d9 d10 false false (.agg #[.slice A st.length c]) (.agg (rpCells r.e r.n dA r.docs.length dc r.cursor)) y3 y4 W' := by
 have h' := h.grow hg;exact ⟨h'.g,fun _ => ⟨A,c,dA,dc,rfl,rfl,hs,hd,fun _ e => (by cases e),fun _ e => (by cases e)⟩,h'.bs,h'.br,h'.ne⟩
theorem D2.mk9 (h : D2 W0 st r d5 false d10 false d12 y1 y2 y3 y4 W) : D2 W0 st r d5 true d10 false d12 y1 y2 (.pointer (some ⟨W.heap.size,0,none⟩)) y4 (W.alloc (.cells #[.slice none 0 0] 44)) := by
 have h' := h.grow ((Grow.refl W).alloc (.cells #[.slice none 0 0] 44));refine ⟨h'.g,fun e => ?_,fun _ => ⟨_,rfl,h.g.size,by simp,fun _ => Blk.new _ _ _⟩,h'.br,fun _ e q => ?_⟩
 ·obtain ⟨A,c,dA,dc,r1,r2,r3,r4,r5,r6⟩ := h'.res e;exact ⟨A,c,dA,dc,r1,r2,r3,r4,fun _ e => (by cases e),r6⟩
 obtain ⟨g,k1,k2,k3,k4⟩ := h.br e;rw [k1] at q;injection q with q;injection q with q;injection q with q;omega
theorem D2.mk10 (h : D2 W0 st r d5 d9 false d11 false y1 y2 y3 y4 W) : D2 W0 st r d5 d9 true d11 false y1 y2 y3 (.pointer (some ⟨W.heap.size,0,none⟩)) (W.alloc (.cells #[.int .i64 0,.int .i64 0,.slice none 0 0,.int .i64 0] 31)) := by
 have h' := h.grow ((Grow.refl W).alloc (.cells #[.int .i64 0,.int .i64 0,.slice none 0 0,.int .i64 0] 31));refine ⟨h'.g,fun e => ?_,h'.bs,fun _ => ⟨_,rfl,h.g.size,by simp,fun _ => Blk.new _ _ _⟩,fun e _ q => ?_⟩
 ·obtain ⟨A,c,dA,dc,r1,r2,r3,r4,r5,r6⟩ := h'.res e;exact ⟨A,c,dA,dc,r1,r2,r3,r4,r5,fun _ e => (by cases e)⟩
 obtain ⟨g,k1,k2,k3,k4⟩ := h.bs e;rw [k1] at q;injection q with q;injection q with q;injection q with q;omega
theorem D2.mk11 (h : D2 W0 st r true true d10 false d12 y1 y2 y3 y4 W) {g : Nat} (h3 : y3 = .pointer (some ⟨g,0,none⟩)) {A : Option Addr} {c : Nat} (h1 : y1 = .agg #[.slice A st.length c]) : D2 W0 st r true true d10 true d12 y1 y2 y3 y4 (W.setCell ⟨g,0,none⟩ (.slice A st.length c)) := by
 obtain ⟨g',k1,k2,k3,k4⟩ := h.bs rfl;rw [h3] at k1;injection k1 with k1;injection k1 with k1;injection k1 with k1;subst k1;have hb := k4 rfl;have hk : Kept (fun q => q = g) W (W.setCell ⟨g,0,none⟩ (.slice A st.length c)) := (Kept.refl (S := fun q => q = g) W).set (p := ⟨g,0,none⟩) rfl _;obtain ⟨A',c',dA,dc,r1,r2,r3,r4,r5,r6⟩ := h.res rfl;rw [h1] at r1;simp at r1;obtain ⟨rfl,rfl⟩ := r1;have hne : ∀ g2,d10 = true → y4 = .pointer (some ⟨g2,0,none⟩) → ¬ g2 = g := fun g2 e q e2 => h.ne rfl e (by rw [h3,q,e2])
 refine ⟨h.g.below.trans (hk.below h.g.size (fun q hq => hq ▸ k2)),fun _ => ⟨A,c,dA,dc,h1,r2,r3.bare (Bare.state hb) hk,r4.bare (Bare.state hb) hk,fun _ _ => ⟨g,h3,hb.set_ 0 _⟩,fun e1 e2 => ?_⟩,fun _ => ⟨g,h3,k2,Nat.lt_of_lt_of_le k3 hk.size,fun e => (by cases e)⟩,fun e => ?_,h.ne⟩
 ·obtain ⟨g2,q1,q2⟩ := r6 e1 e2;exact ⟨g2,q1,hk.blk q2 (hne g2 e1 q1)⟩
 obtain ⟨g2,q1,q2,q3,q4⟩ := h.br e;exact ⟨g2,q1,q2,Nat.lt_of_lt_of_le q3 hk.size,fun e' => hk.blk (q4 e') (hne g2 e q1)⟩
theorem D2.mk12 (h : D2 W0 st r true d9 true d11 false y1 y2 y3 y4 W) {g : Nat} (h3 : y4 = .pointer (some ⟨g,0,none⟩)) {dA : Option Addr} {dc : Nat} (h1 : y2 = .agg (rpCells r.e r.n dA r.docs.length dc r.cursor)) :
 D2 W0 st r true d9 true d11 true y1 y2 y3 y4 ((((W.setCell ⟨g,0,none⟩ (.int .i64 r.e)).setCell ⟨g,1,none⟩ (.int .i64 r.n)).setCell ⟨g,2,none⟩ (.slice dA r.docs.length dc)).setCell ⟨g,3,none⟩ (.int .i64 r.cursor)) := by
 obtain ⟨g',k1,k2,k3,k4⟩ := h.br rfl;rw [h3] at k1;injection k1 with k1;injection k1 with k1;injection k1 with k1;subst k1;have hb := k4 rfl;have hk : Kept (fun q => q = g) W ((((W.setCell ⟨g,0,none⟩ (.int .i64 r.e)).setCell ⟨g,1,none⟩ (.int .i64 r.n)).setCell ⟨g,2,none⟩ (.slice dA r.docs.length dc)).setCell ⟨g,3,none⟩ (.int .i64 r.cursor)) :=
  ((((Kept.refl (S := fun q => q = g) W).set (p := ⟨g,0,none⟩) rfl _).set (p := ⟨g,1,none⟩) rfl _).set (p := ⟨g,2,none⟩) rfl _).set (p := ⟨g,3,none⟩) rfl _
 obtain ⟨A,c,dA',dc',r1,r2,r3,r4,r5,r6⟩ := h.res rfl;rw [h1] at r2;simp at r2;obtain ⟨rfl,rfl⟩ := r2;have hne : ∀ g2,d9 = true → y3 = .pointer (some ⟨g2,0,none⟩) → ¬ g2 = g := fun g2 e q e2 => h.ne e rfl (by rw [h3,q,e2])
 refine ⟨h.g.below.trans (hk.below h.g.size (fun q hq => hq ▸ k2)),fun _ => ⟨A,c,dA,dc,r1,h1,r3.bare (Bare.reply hb) hk,r4.bare (Bare.reply hb) hk,fun e1 e2 => ?_,fun _ _ => ⟨g,h3,(((hb.set_ 0 _).set_ 1 _).set_ 2 _).set_ 3 _⟩⟩,fun e => ?_,fun _ => ⟨g,h3,k2,Nat.lt_of_lt_of_le k3 hk.size,fun e => (by cases e)⟩,h.ne⟩
 ·obtain ⟨g2,q1,q2⟩ := r5 e1 e2;exact ⟨g2,q1,hk.blk q2 (hne g2 e1 q1)⟩
 obtain ⟨g2,q1,q2,q3,q4⟩ := h.bs e;exact ⟨g2,q1,q2,Nat.lt_of_lt_of_le q3 hk.size,fun e' => hk.blk (q4 e') (hne g2 e q1)⟩
theorem D2.done (h : D2 W0 st r true true true true true y1 y2 y3 y4 W) : ∃ A c dA dc gs gr,y1 = .agg #[.slice A st.length c] ∧ y2 = .agg (rpCells r.e r.n dA r.docs.length dc r.cursor) ∧ y3 = .pointer (some ⟨gs,0,none⟩) ∧ y4 = .pointer (some ⟨gr,0,none⟩) ∧ W0.heap.size ≤ gs ∧ W0.heap.size ≤ gr ∧ gs ≠ gr ∧ Grow W0 W ∧
 Blk W gs 44 #[.slice A st.length c] ∧ Blk W gr 31 (rpCells r.e r.n dA r.docs.length dc r.cursor) ∧ StIn W A c st ∧ InL W dA dc r.docs := by
 obtain ⟨A,c,dA,dc,r1,r2,r3,r4,r5,r6⟩ := h.res rfl;obtain ⟨gs,s1,s2⟩ := r5 rfl rfl;obtain ⟨gr,t1,t2⟩ := r6 rfl rfl;obtain ⟨g,k1,k2,-⟩ := h.bs rfl;obtain ⟨g',l1,l2,-⟩ := h.br rfl;have e1 : g = gs := by rw [s1] at k1;injection k1 with k1;injection k1 with k1;injection k1 with k1;exact k1.symm
 have e2 : g' = gr := by rw [t1] at l1;injection l1 with l1;injection l1 with l1;injection l1 with l1;exact l1.symm
 subst e1 e2;exact ⟨A,c,dA,dc,g,g',r1,r2,s1,t1,k2,l2,fun e => h.ne rfl rfl (by rw [s1,t1,e]),h.g,s2,t2,r3,r4⟩
end
end
section
open Go.RowKit
def DoR (w : World) (st : List Co) (r : Rp) (e : Ending) (w' : World) : Prop :=
 Grow w w' ∧ ∃ A c dA dc,e = .returned (.tuple #[.agg #[.slice A st.length c],.agg (rpCells r.e r.n dA r.docs.length dc r.cursor)]) ∧ StIn w' A c st ∧ InL w' dA dc r.docs
section
variable {P : Program} {ops : Array Oper} {Q : Exit → Act → World → Prop} {S : World → Prop}
def mkL (b : Nat) (l : List Bool) : Array Bool := (List.replicate b true ++ l).toArray
theorem mkL_set (b k : Nat) (l : List Bool) : (mkL b l).setIfInBounds (b + k) true = mkL b (l.set k true) := by
 unfold mkL;rw [List.setIfInBounds_toArray,List.set_append_right _ _ (by simp)];simp
def rdT : List (List Bool × List Nat) :=
 [([false,false,false,false,false,false,false,false],[0,4,5]),([false,false,false,false,true,false,false,false],[0,5]),([false,false,false,false,false,true,false,false],[0,4]),([false,false,false,false,true,true,false,false],[0]),
  ([true,true,true,true,false,false,false,false],[4,5]),([true,true,true,true,true,false,false,false],[5]),([true,true,true,true,false,true,false,false],[4]),([true,true,true,true,true,true,false,false],[6]),([true,true,true,true,true,true,true,false],[7]),([true,true,true,true,true,true,true,true],[])]
def rdG : List (List Bool × Nat) :=
 [false,true].flatMap fun x => [false,true].flatMap fun y => [([true,false,false,false,x,y,false,false],1),([true,true,false,false,x,y,false,false],2),([true,true,true,false,x,y,false,false],3)]
def RDok (ops : Array Oper) (b : Nat) (l9 l10 : Nat) : Bool :=
 Region.noSelect ops && rdT.all (fun x => Region.ready .any ops (mkL b x.1) == x.2.map (b + ·)) && rdG.all (fun x => Region.free .any ops (mkL b x.1) (b + x.2) && (Region.ready .any ops (mkL b x.1)).contains (b + x.2)) &&
  (match ops[b]? with | some o => !(o.looksAt ops).contains l9 && !(o.looksAt ops).contains l10 | none => false)
theorem ev_self {a : Act} {i : Nat} {v : Value} (h : i < a.tmps.size) : (a.put (some i) v).eval (.tmp i) = v := by
 simp [Act.put,Act.eval,h]
theorem ev_ne {a : Act} {i j : Nat} {v : Value} (h : i ≠ j) : (a.put (some i) v).eval (.tmp j) = a.eval (.tmp j) := by
 simp [Act.put,Act.eval,Array.getD_eq_getD_getElem?,Array.getElem?_setIfInBounds_ne h]
theorem sz_put {a : Act} {i : Nat} {v : Value} : (a.put (some i) v).tmps.size = a.tmps.size := by simp [Act.put]
theorem pcomm (a : Act) {i j : Nat} (u v : Value) (h : i ≠ j) : (a.put (some i) u).put (some j) v = (a.put (some j) v).put (some i) u :=
 Act.put_comm a u v (fun d hd e => h (by injection hd with hd;injection e with e;rw [hd,e]))
theorem wpOp_val {i : Nat} {d : Option Tmp} {op : Op} {t : TypeId} {p : String} {af : Array Edge} {K : Act → World → Prop} {a : Act} {w w' : World} {v : Value} (ho : ops[i]? = some ⟨d,op,t,p,af,none⟩)
 (hr : (execOp a.eval ⟨d,op,t,p,af,none⟩).run P w = .ok (.value v) w') (h : K (a.put d v) w') : wpOp P ops Q i K a w := by
 refine wpOp_step ho fun K' hK => ?_
 rw [if_pos (by rfl)];unfold Oper.wp;rw [hr,Oper.upon_value];exact hK _ _ h
theorem wpOp_skip {i : Nat} {op : Op} {t : TypeId} {p : String} {af : Array Edge} {K : Act → World → Prop} {a : Act} {w w' : World} (ho : ops[i]? = some ⟨none,op,t,p,af,none⟩)
 (hr : (execOp a.eval ⟨none,op,t,p,af,none⟩).run P w = .ok .skip w') (h : K a w') : wpOp P ops Q i K a w := by
 refine wpOp_step ho fun K' hK => ?_
 rw [if_pos (by rfl)];unfold Oper.wp;rw [hr,Oper.upon_skip];exact hK _ _ h
theorem wpOp_enter {i : Nat} {d : Option Tmp} {op : Op} {t : TypeId} {p : String} {af : Array Edge} {K : Act → World → Prop} {a : Act} {w : World} {f : FuncId} {args : Array Value} {R : Ending → World → Prop} (ho : ops[i]? = some ⟨d,op,t,p,af,none⟩)
 (hr : (execOp a.eval ⟨d,op,t,p,af,none⟩).run P w = .ok (.enter f args) w) (hC : Calls P f args w R) (h : ∀ e w',R e w' → ∃ v,e = .returned v ∧ K (a.put d v) w') : wpOp P ops Q i K a w := by
 refine wpOp_step ho fun K' hK => ?_
 rw [if_pos (by rfl)];unfold Oper.wp;rw [hr,Oper.upon_enter];refine hC.mono fun e w' he => ?_
 obtain ⟨v,rfl,hv⟩ := h e w' he;exact hK _ _ hv
end
section
variable {ops : Array Oper} {Q : Exit → Act → World → Prop} {S : World → Prop}
theorem run_allocS {e : Operand → Value} {d : Option Tmp} {t : TypeId} {p : String} {af : Array Edge} {w : World} : (execOp e ⟨d,.alloc 44,t,p,af,none⟩).run Tryz.prog w = .ok (.value (.pointer (some ⟨w.heap.size,0,none⟩))) (w.alloc (.cells #[.slice none 0 0] 44)) := by
 kernel_rfl
theorem run_allocR {e : Operand → Value} {d : Option Tmp} {t : TypeId} {p : String} {af : Array Edge} {w : World} : (execOp e ⟨d,.alloc 31,t,p,af,none⟩).run Tryz.prog w = .ok (.value (.pointer (some ⟨w.heap.size,0,none⟩))) (w.alloc (.cells #[.int .i64 0,.int .i64 0,.slice none 0 0,.int .i64 0] 31)) := by
 kernel_rfl
theorem run_storeS {x : Act} {i j : Nat} {t : TypeId} {p : String} {af : Array Edge} {w : World} {g : Nat} {A : Option Addr} {l c : Nat} (h1 : x.eval (.tmp i) = .pointer (some ⟨g,0,none⟩)) (h2 : x.eval (.tmp j) = .agg #[.slice A l c]) (hb : Blk w g 44 #[.slice none 0 0]) :
 (execOp x.eval ⟨none,.store 44 (.tmp i) (.tmp j),t,p,af,none⟩).run Tryz.prog w = .ok .skip (w.setCell ⟨g,0,none⟩ (.slice A l c)) := by
 have hbc := hb.cell;have hbf := hb.frozen;unfold execOp;dsimp only;rw [h1,h2];go_simp
theorem run_storeR {x : Act} {i j : Nat} {t : TypeId} {p : String} {af : Array Edge} {w : World} {g : Nat} {A : Option Addr} {l c : Nat} {e n k : Int} (h1 : x.eval (.tmp i) = .pointer (some ⟨g,0,none⟩)) (h2 : x.eval (.tmp j) = .agg (rpCells e n A l c k)) (hb : Blk w g 31 #[.int .i64 0,.int .i64 0,.slice none 0 0,.int .i64 0]) :
 (execOp x.eval ⟨none,.store 31 (.tmp i) (.tmp j),t,p,af,none⟩).run Tryz.prog w = .ok .skip ((((w.setCell ⟨g,0,none⟩ (.int .i64 e)).setCell ⟨g,1,none⟩ (.int .i64 n)).setCell ⟨g,2,none⟩ (.slice A l c)).setCell ⟨g,3,none⟩ (.int .i64 k)) := by
 have hbc := hb.cell;have hbf := hb.frozen;unfold execOp;dsimp only;rw [h1,h2];go_simp
abbrev vSt (st : List Co) (A : Option Addr) (c : Nat) : Value := .agg #[.slice A st.length c]
abbrev vRp (r : Rp) (dA : Option Addr) (dc : Nat) : Value := .agg (rpCells r.e r.n dA r.docs.length dc r.cursor)
abbrev pA (g : Nat) : Value := .pointer (some ⟨g,0,none⟩)
def DoF (W0 W : World) (st : List Co) (r : Rp) (A dA : Option Addr) (c dc gs gr : Nat) : Prop := W0.heap.size ≤ gs ∧ W0.heap.size ≤ gr ∧ gs ≠ gr ∧ Grow W0 W ∧ Blk W gs 44 #[.slice A st.length c] ∧ Blk W gr 31 (rpCells r.e r.n dA r.docs.length dc r.cursor) ∧ StIn W A c st ∧ InL W dA dc r.docs
structure DoOps (ops : Array Oper) (b s5 s6 s7 s8 s9 s10 : Nat) (o5 : Oper) : Prop where
 o5 : ops[b]? = some o5 ∧ o5.dst = some s5 ∧ o5.guard = none
 o6 : ∃ t p e,ops[b + 1]? = some ⟨some s6,.move (.tmp s5),t,p,e,none⟩
 o7 : ∃ t p e,ops[b + 2]? = some ⟨some s7,.extract (.tmp s6) 0,t,p,e,none⟩
 o8 : ∃ t p e,ops[b + 3]? = some ⟨some s8,.extract (.tmp s6) 1,t,p,e,none⟩
 o9 : ∃ t p e,ops[b + 4]? = some ⟨some s9,.alloc 44,t,p,e,none⟩
 o10 : ∃ t p e,ops[b + 5]? = some ⟨some s10,.alloc 31,t,p,e,none⟩
 o11 : ∃ t p e,ops[b + 6]? = some ⟨none,.store 44 (.tmp s9) (.tmp s7),t,p,e,none⟩
 o12 : ∃ t p e,ops[b + 7]? = some ⟨none,.store 31 (.tmp s10) (.tmp s8),t,p,e,none⟩
def DoSlots (s5 s6 s7 s8 s9 s10 n : Nat) : Bool := [s5,s6,s7,s8,s9,s10].all (fun s => Nat.blt s n) && decide ([s5,s6,s7,s8,s9,s10].Nodup)
theorem doSlots {s5 s6 s7 s8 s9 s10 n : Nat} (h : DoSlots s5 s6 s7 s8 s9 s10 n = true) : ((s5 < n ∧ s6 < n) ∧ (s7 < n ∧ s8 < n) ∧ s9 < n ∧ s10 < n) ∧ (s5 ≠ s6 ∧ s5 ≠ s7 ∧ s5 ≠ s8 ∧ s5 ≠ s9 ∧ s5 ≠ s10) ∧ (s6 ≠ s7 ∧ s6 ≠ s8 ∧ s6 ≠ s9 ∧ s6 ≠ s10) ∧ (s7 ≠ s8 ∧ s7 ≠ s9 ∧ s7 ≠ s10) ∧ (s8 ≠ s9 ∧ s8 ≠ s10) ∧ s9 ≠ s10 := by
 simp [DoSlots,Nat.blt_eq] at h;omega
variable {b s5 s6 s7 s8 s9 s10 : Nat} {o5 : Oper}
abbrev put4 (s5 s6 s7 s8 : Nat) (y0 y1 y2 : Value) (a : Act) : Act := (((a.put (some s5) y0).put (some s6) y0).put (some s7) y1).put (some s8) y2
theorem put4_comm {s : Nat} {v y0 y1 y2 : Value} {a : Act} (h5 : s5 ≠ s) (h6 : s6 ≠ s) (h7 : s7 ≠ s) (h8 : s8 ≠ s) : (put4 s5 s6 s7 s8 y0 y1 y2 a).put (some s) v = put4 s5 s6 s7 s8 y0 y1 y2 (a.put (some s) v) := by
 unfold put4;rw [pcomm _ _ _ h8,pcomm _ _ _ h7,pcomm _ _ _ h6,pcomm _ _ _ h5]
def ptD (s9 s10 : Nat) (d9 d10 : Bool) (y3 y4 : Value) (a : Act) : Act := bif d10 then (bif d9 then a.put (some s9) y3 else a).put (some s10) y4 else (bif d9 then a.put (some s9) y3 else a)
abbrev fA (s5 s6 s7 s8 : Nat) (st : List Co) (r : Rp) (A dA : Option Addr) (c dc : Nat) (x : Act) : Act := put4 s5 s6 s7 s8 (.tuple #[vSt st A c,vRp r dA dc]) (vSt st A c) (vRp r dA dc) x
abbrev wA (ops : Array Oper) (Q : Exit → Act → World → Prop) (S : World → Prop) (n : Nat) (l : Array Bool) (a : Act) (w : World) : Prop := wpAnyH Tryz.prog .any ops (NoPanic Q) S n l a w
theorem do_regD (H : DoOps ops b s5 s6 s7 s8 s9 s10 o5)
 (hRD : RDok ops b s9 s10 = true) {a : Act} (hz : DoSlots s5 s6 s7 s8 s9 s10 a.tmps.size = true)
 {W0 : World} {st : List Co} {r : Rp} {f : FuncId} {args : Array Value} (hrun : ∀ W,(execOp a.eval o5).run Tryz.prog W = .ok (.enter f args) W) {G : World → Prop} (hG : ∀ W W',G W → Grow W W' → G W') (hC : ∀ W,G W → Calls Tryz.prog f args W (DoR W st r)) (hS : ∀ W,Grow W0 W → S W)
 (hd : ∀ (W : World) (A dA : Option Addr) (c dc gs gr : Nat),DoF W0 W st r A dA c dc gs gr →
  Q .normal (fA s5 s6 s7 s8 st r A dA c dc ((a.put (some s9) (pA gs)).put (some s10) (pA gr))) W)
 (d9 d10 : Bool) (y3 y4 : Value) (W : World) (hI : D2 W0 st r false d9 d10 false false undef undef y3 y4 W) (hg0 : G W) :
 wA ops Q S (6 + (bif d9 then 0 else 1) + (bif d10 then 0 else 1)) (mkL b [false,false,false,false,d9,d10,false,false]) (ptD s9 s10 d9 d10 y3 y4 a) W := by
 obtain ⟨⟨h5,hd5,hgd5⟩,⟨t6,p6,e6,h6⟩,⟨t7,p7,e7,h7⟩,⟨t8,p8,e8,h8⟩,⟨t9,p9,e9,h9⟩,⟨t10,p10,e10,h10⟩,⟨t11,p11,e11,h11⟩,t12,p12,e12,h12⟩ := H;obtain ⟨d5,op5,t5,p5,e5,g5⟩ := o5;dsimp only at hd5 hgd5;subst hd5 hgd5;unfold RDok at hRD;simp only [Bool.and_eq_true] at hRD;obtain ⟨⟨⟨hns,hT⟩,hF⟩,hlk⟩ := hRD;rw [h5] at hlk;simp only [Bool.and_eq_true,Bool.not_eq_true',← Bool.not_eq_true] at hlk;obtain ⟨hl9,hl10⟩ := hlk;have rdy : ∀ l rs,(l,rs) ∈ rdT → Region.ready .any ops (mkL b l) = rs.map (b + ·) := fun l rs h => by
  have := List.all_eq_true.1 hT _ h;simpa using this
 have fre : ∀ l k,(l,k) ∈ rdG → Region.free .any ops (mkL b l) (b + k) = true ∧ (Region.ready .any ops (mkL b l)).contains (b + k) = true := fun l k h => by
  have := List.all_eq_true.1 hF _ h;simpa using this
 obtain ⟨⟨⟨z5,z6⟩,⟨z7,z8⟩,z9,z10⟩,⟨n56,n57,n58,n59,n5a⟩,⟨n67,n68,n69,n6a⟩,⟨n78,n79,n7a⟩,⟨n89,n8a⟩,n9a⟩ := doSlots hz;have sel5 : ∀ cs bb,(⟨some s5,op5,t5,p5,e5,none⟩ : Oper).op ≠ .select cs bb := fun cs bb => Region.noSelect_spec hns b _ cs bb h5
 have hrunD : ∀ d9 d10 y3 y4 W,(execOp (ptD s9 s10 d9 d10 y3 y4 a).eval ⟨some s5,op5,t5,p5,e5,none⟩).run Tryz.prog W = .ok (.enter f args) W := fun d9 d10 y3 y4 W => by
  have k9 : ∀ (x : Act) y,execOp (x.put (some s9) y).eval (⟨some s5,op5,t5,p5,e5,none⟩ : Oper) = execOp x.eval (⟨some s5,op5,t5,p5,e5,none⟩ : Oper) := fun x y => execOp_put (ops := ops) _ sel5 x (some s9) y (fun d hd hm => by injection hd with hd;subst hd;exact hl9 (by simpa using hm))
  have k10 : ∀ (x : Act) y,execOp (x.put (some s10) y).eval (⟨some s5,op5,t5,p5,e5,none⟩ : Oper) = execOp x.eval (⟨some s5,op5,t5,p5,e5,none⟩ : Oper) := fun x y => execOp_put (ops := ops) _ sel5 x (some s10) y (fun d hd hm => by injection hd with hd;subst hd;exact hl10 (by simpa using hm))
  unfold ptD
  cases d9 <;> cases d10 <;> simp only [cond_true,cond_false] <;> (try rw [k10]) <;> (try rw [k9]) <;> exact hrun W
 have L3 : ∀ (A dA : Option Addr) (c dc gs gr : Nat) (W : World),D2 W0 st r true true true true false (vSt st A c) (vRp r dA dc) (pA gs) (pA gr) W →
  wA ops Q S 1 (mkL b [true,true,true,true,true,true,true,false]) (fA s5 s6 s7 s8 st r A dA c dc ((a.put (some s9) (pA gs)).put (some s10) (pA gr))) W := fun A dA c dc gs gr W hD => by
  refine wpAnyH_all (rdy _ [7] (by decide)) (by simp) fun i hi => ?_
  obtain rfl : i = b + 7 := by simpa using hi
  obtain ⟨g,hg,-,-,hb⟩ := hD.br rfl;injection hg with hg;injection hg with hg;injection hg with hg;subst hg;refine wpOp_skip h12 (run_storeR (g := gr) (e := r.e) (n := r.n) (A := dA) (l := r.docs.length) (c := dc) (k := r.cursor) ?_ ?_ (hb rfl)) ?_
  ·unfold fA put4;rw [ev_ne n8a,ev_ne n7a,ev_ne n6a,ev_ne n5a,ev_self (by simp only [sz_put];exact z10)]
  ·unfold fA put4;rw [ev_self (by simp only [sz_put];exact z8)]
  have hD2 := hD.mk12 rfl rfl;refine ⟨hS _ hD2.g,?_⟩;rw [mkL_set];refine wpAnyH_done (rdy _ [] (by decide)) (NoPanic.normal ?_) _;obtain ⟨A',c',dA',dc',gs',gr',q1,q2,q3,q4,k1,k2,k3,k4,k5,k6,k7,k8⟩ := hD2.done;injection q3 with q3;injection q3 with q3;injection q3 with q3;injection q4 with q4;injection q4 with q4;injection q4 with q4;subst q3 q4;simp only [Value.agg.injEq,Array.mk.injEq,List.cons.injEq,Value.slice.injEq,and_true,true_and] at q1;simp only [rpCells,Value.agg.injEq,Array.mk.injEq,List.cons.injEq,Value.slice.injEq,Value.int.injEq,and_true,true_and] at q2;obtain ⟨rfl,rfl⟩ := q1;obtain ⟨rfl,rfl⟩ := q2;exact hd _ A dA c dc gs gr ⟨k1,k2,k3,k4,k5,k6,k7,k8⟩
 have L2 : ∀ (A dA : Option Addr) (c dc gs gr : Nat) (W : World),D2 W0 st r true true true false false (vSt st A c) (vRp r dA dc) (pA gs) (pA gr) W →
  wA ops Q S 2 (mkL b [true,true,true,true,true,true,false,false]) (fA s5 s6 s7 s8 st r A dA c dc ((a.put (some s9) (pA gs)).put (some s10) (pA gr))) W := fun A dA c dc gs gr W hD => by
  refine wpAnyH_all (rdy _ [6] (by decide)) (by simp) fun i hi => ?_
  obtain rfl : i = b + 6 := by simpa using hi
  obtain ⟨g,hg,-,-,hb⟩ := hD.bs rfl;injection hg with hg;injection hg with hg;injection hg with hg;subst hg;refine wpOp_skip h11 (run_storeS (g := gs) (A := A) (l := st.length) (c := c) ?_ ?_ (hb rfl)) ?_
  ·unfold fA put4;rw [ev_ne n89,ev_ne n79,ev_ne n69,ev_ne n59,ev_ne (Ne.symm n9a),ev_self z9]
  ·unfold fA put4;rw [ev_ne (Ne.symm n78),ev_self (by simp only [sz_put];exact z7)]
  have hD2 := hD.mk11 rfl rfl;refine ⟨hS _ hD2.g,?_⟩;rw [mkL_set];exact L3 A dA c dc gs gr _ hD2
 have fin : ∀ (d9 d10 : Bool) (A dA : Option Addr) (c dc : Nat) (y3 y4 : Value) (W : World),D2 W0 st r true d9 d10 false false (vSt st A c) (vRp r dA dc) y3 y4 W →
  wA ops Q S (2 + (bif d9 then 0 else 1) + (bif d10 then 0 else 1)) (mkL b [true,true,true,true,d9,d10,false,false]) (fA s5 s6 s7 s8 st r A dA c dc (ptD s9 s10 d9 d10 y3 y4 a)) W := by
  have tt : ∀ (A dA : Option Addr) (c dc : Nat) (y3 y4 : Value) (W : World),D2 W0 st r true true true false false (vSt st A c) (vRp r dA dc) y3 y4 W →
   wA ops Q S 2 (mkL b [true,true,true,true,true,true,false,false]) (fA s5 s6 s7 s8 st r A dA c dc ((a.put (some s9) y3).put (some s10) y4)) W := fun A dA c dc y3 y4 W hD => by
   obtain ⟨gs,rfl,-⟩ := hD.bs rfl;obtain ⟨gr,rfl,-⟩ := hD.br rfl;exact L2 A dA c dc gs gr W hD
  have tf : ∀ (A dA : Option Addr) (c dc : Nat) (y3 y4 : Value) (W : World),D2 W0 st r true true false false false (vSt st A c) (vRp r dA dc) y3 y4 W →
   wA ops Q S 3 (mkL b [true,true,true,true,true,false,false,false]) (fA s5 s6 s7 s8 st r A dA c dc (a.put (some s9) y3)) W := fun A dA c dc y3 y4 W hD => by
   refine wpAnyH_all (rdy _ [5] (by decide)) (by simp) fun i hi => ?_
   obtain rfl : i = b + 5 := by simpa using hi
   refine wpOp_val h10 run_allocR ?_;have hD2 := hD.mk10;refine ⟨hS _ hD2.g,?_⟩;rw [mkL_set,put4_comm n5a n6a n7a n8a];exact tt A dA c dc _ _ _ hD2
  have ft : ∀ (A dA : Option Addr) (c dc : Nat) (y3 y4 : Value) (W : World),D2 W0 st r true false true false false (vSt st A c) (vRp r dA dc) y3 y4 W →
   wA ops Q S 3 (mkL b [true,true,true,true,false,true,false,false]) (fA s5 s6 s7 s8 st r A dA c dc (a.put (some s10) y4)) W := fun A dA c dc y3 y4 W hD => by
   refine wpAnyH_all (rdy _ [4] (by decide)) (by simp) fun i hi => ?_
   obtain rfl : i = b + 4 := by simpa using hi
   refine wpOp_val h9 run_allocS ?_;have hD2 := hD.mk9;refine ⟨hS _ hD2.g,?_⟩;rw [mkL_set,put4_comm n59 n69 n79 n89,pcomm _ _ _ (Ne.symm n9a)];exact tt A dA c dc _ _ _ hD2
  intro d9 d10 A dA c dc y3 y4 W hD
  cases d9 <;> cases d10
  ·show wpAnyH _ _ _ _ _ 4 _ (put4 s5 s6 s7 s8 _ _ _ a) _;refine wpAnyH_all (rdy _ [4,5] (by decide)) (by simp) fun i hi => ?_
   have hi' : i = b + 4 ∨ i = b + 5 := by simpa using hi
   rcases hi' with rfl | rfl
   ·refine wpOp_val h9 run_allocS ?_;have hD2 := hD.mk9;refine ⟨hS _ hD2.g,?_⟩;rw [mkL_set,put4_comm n59 n69 n79 n89];exact tf A dA c dc _ _ _ hD2
   refine wpOp_val h10 run_allocR ?_;have hD2 := hD.mk10;refine ⟨hS _ hD2.g,?_⟩;rw [mkL_set,put4_comm n5a n6a n7a n8a];exact ft A dA c dc _ _ _ hD2
  ·exact ft A dA c dc y3 y4 W hD
  ·exact tf A dA c dc y3 y4 W hD
  exact tt A dA c dc y3 y4 W hD
 have cal : ∀ (d9 d10 : Bool) (y3 y4 : Value) (W : World),D2 W0 st r false d9 d10 false false undef undef y3 y4 W → G W →
  wpOp Tryz.prog ops (NoPanic Q) b (fun a' w' => S w' ∧ wA ops Q S (5 + (bif d9 then 0 else 1) + (bif d10 then 0 else 1)) ((mkL b [false,false,false,false,d9,d10,false,false]).setIfInBounds b true) a' w') (ptD s9 s10 d9 d10 y3 y4 a) W := fun d9 d10 y3 y4 W hD hg0 => by
  refine wpOp_enter h5 (hrunD d9 d10 y3 y4 W) (hC W hg0) fun e w' he => ?_
  obtain ⟨hg,A,c,dA,dc,rfl,hs,hl⟩ := he;have hD2 := hD.call hg hs hl;refine ⟨_,rfl,hS _ hD2.g,?_⟩;have hzp : (ptD s9 s10 d9 d10 y3 y4 a).tmps.size = a.tmps.size := by unfold ptD;cases d9 <;> cases d10 <;> simp [sz_put]
  have e0 := mkL_set b 0 [false,false,false,false,d9,d10,false,false];rw [Nat.add_zero] at e0;rw [e0];clear e0;have f1 := fre [true,false,false,false,d9,d10,false,false] 1 (by cases d9 <;> cases d10 <;> decide);have f2 := fre [true,true,false,false,d9,d10,false,false] 2 (by cases d9 <;> cases d10 <;> decide);have f3 := fre [true,true,true,false,d9,d10,false,false] 3 (by cases d9 <;> cases d10 <;> decide);have hfu : 5 + (bif d9 then 0 else 1) + (bif d10 then 0 else 1) = (2 + (bif d9 then 0 else 1) + (bif d10 then 0 else 1)) + 1 + 1 + 1 := by omega
  rw [hfu];refine wpAnyH_take (i := b + 1) (v := .tuple #[vSt st A c,vRp r dA dc]) h6 hns f1.1 f1.2 (fun _ _ _ h => h) (Or.inl ⟨by rfl,fun w _ => ?_⟩) (hS _ hD2.g) ?_
  ·unfold execOp;dsimp only;rw [ev_self (by rw [hzp];exact z5)];rfl
  rw [mkL_set];refine wpAnyH_take (i := b + 2) (v := vSt st A c) h7 hns f2.1 f2.2 (fun _ _ _ h => h) (Or.inl ⟨by rfl,fun w _ => ?_⟩) (hS _ hD2.g) ?_
  ·unfold execOp;dsimp only;rw [ev_self (by rw [sz_put,hzp];exact z6)];rfl
  rw [mkL_set];refine wpAnyH_take (i := b + 3) (v := vRp r dA dc) h8 hns f3.1 f3.2 (fun _ _ _ h => h) (Or.inl ⟨by rfl,fun w _ => ?_⟩) (hS _ hD2.g) ?_
  ·unfold execOp;dsimp only;rw [ev_ne (Ne.symm n67),ev_self (by rw [sz_put,hzp];exact z6)];rfl
  rw [mkL_set];exact fin d9 d10 A dA c dc y3 y4 w' hD2
 have Ltt : ∀ (y3 y4 : Value) (W : World),D2 W0 st r false true true false false undef undef y3 y4 W → G W → wA ops Q S 6 (mkL b [false,false,false,false,true,true,false,false]) (ptD s9 s10 true true y3 y4 a) W := fun y3 y4 W hD hg0 => by
  refine wpAnyH_all (rdy _ [0] (by decide)) (by simp) fun i hi => ?_
  obtain rfl : i = b := by simpa using hi
  exact cal true true y3 y4 W hD hg0
 have Ltf : ∀ (y3 y4 : Value) (W : World),D2 W0 st r false true false false false undef undef y3 y4 W → G W → wA ops Q S 7 (mkL b [false,false,false,false,true,false,false,false]) (ptD s9 s10 true false y3 y4 a) W := fun y3 y4 W hD hg0 => by
  refine wpAnyH_all (rdy _ [0,5] (by decide)) (by simp) fun i hi => ?_
  have hi' : i = b ∨ i = b + 5 := by simpa using hi
  rcases hi' with rfl | rfl
  ·exact cal true false y3 y4 W hD hg0
  refine wpOp_val h10 run_allocR ?_;have hD2 := hD.mk10;refine ⟨hS _ hD2.g,?_⟩;rw [mkL_set];exact Ltt _ _ _ hD2 (hG _ _ hg0 ((Grow.refl W).alloc _))
 have Lft : ∀ (y3 y4 : Value) (W : World),D2 W0 st r false false true false false undef undef y3 y4 W → G W → wA ops Q S 7 (mkL b [false,false,false,false,false,true,false,false]) (ptD s9 s10 false true y3 y4 a) W := fun y3 y4 W hD hg0 => by
  refine wpAnyH_all (rdy _ [0,4] (by decide)) (by simp) fun i hi => ?_
  have hi' : i = b ∨ i = b + 4 := by simpa using hi
  rcases hi' with rfl | rfl
  ·exact cal false true y3 y4 W hD hg0
  refine wpOp_val h9 run_allocS ?_;have hD2 := hD.mk9;refine ⟨hS _ hD2.g,?_⟩;rw [mkL_set];show wpAnyH _ _ _ _ _ 6 _ ((a.put (some s10) y4).put (some s9) _) _;rw [pcomm _ _ _ (Ne.symm n9a)];exact Ltt _ _ _ hD2 (hG _ _ hg0 ((Grow.refl W).alloc _))
 cases d9 <;> cases d10
 ·show wpAnyH _ _ _ _ _ 8 _ a _;refine wpAnyH_all (rdy _ [0,4,5] (by decide)) (by simp) fun i hi => ?_
  have hi' : i = b ∨ i = b + 4 ∨ i = b + 5 := by simpa using hi
  rcases hi' with rfl | rfl | rfl
  ·exact cal false false y3 y4 W hI hg0
  ·refine wpOp_val h9 run_allocS ?_;have hD2 := hI.mk9;refine ⟨hS _ hD2.g,?_⟩;rw [mkL_set];exact Ltf _ _ _ hD2 (hG _ _ hg0 ((Grow.refl W).alloc _))
  refine wpOp_val h10 run_allocR ?_;have hD2 := hI.mk10;refine ⟨hS _ hD2.g,?_⟩;rw [mkL_set];exact Lft _ _ _ hD2 (hG _ _ hg0 ((Grow.refl W).alloc _))
 ·exact Lft _ _ _ hI hg0
 ·exact Ltf _ _ _ hI hg0
 exact Ltt _ _ _ hI hg0
theorem mkL_up (c : Nat) (l : List Bool) : mkL c (true :: true :: l) = mkL (c + 2) l := by
 unfold mkL;congr 1;rw [List.replicate_succ',List.replicate_succ',List.append_assoc,List.append_assoc];rfl
def rdP : List (List Bool × List Nat) :=
 [([false,false,false,false,false,false,false,false,false,false],[0,6,7]),([false,false,false,false,false,false,true,false,false,false],[0,7]),([false,false,false,false,false,false,false,true,false,false],[0,6]),([false,false,false,false,false,false,true,true,false,false],[0])]
def rdQ : List (List Bool × Nat) := [false,true].flatMap fun x => [false,true].map fun y => ([true,false,false,false,false,false,x,y,false,false],1)
def RPok (ops : Array Oper) (c : Nat) (l9 l10 : Nat) : Bool :=
 rdP.all (fun x => Region.ready .any ops (mkL c x.1) == x.2.map (c + ·)) && rdQ.all (fun x => Region.free .any ops (mkL c x.1) (c + x.2) && (Region.ready .any ops (mkL c x.1)).contains (c + x.2)) &&
  (match ops[c]? with | some o => !(o.looksAt ops).contains l9 && !(o.looksAt ops).contains l10 | none => false) && (match ops[c + 1]? with | some o => !(o.looksAt ops).contains l9 && !(o.looksAt ops).contains l10 | none => false)
theorem pre_reg {c s1 s2 : Nat} {op1 op2 : Op} {t1 t2 : TypeId} {p1 p2 : String} {e1 e2 : Array Edge} {listed : Array Bool} {fuel : Nat} (hn : fuel = 10) (hl : listed = mkL c [false,false,false,false,false,false,false,false,false,false]) (hb : b = c + 2)
 (h1 : ops[c]? = some ⟨some s1,op1,t1,p1,e1,none⟩) (h2 : ops[c + 1]? = some ⟨some s2,op2,t2,p2,e2,none⟩) (H : DoOps ops b s5 s6 s7 s8 s9 s10 o5)
 (hRP : RPok ops c s9 s10 = true) (hRD : RDok ops b s9 s10 = true) {a : Act} (hz : DoSlots s5 s6 s7 s8 s9 s10 a.tmps.size = true) (hn1 : (s1 ≠ s9 ∧ s1 ≠ s10) ∧ s2 ≠ s9 ∧ s2 ≠ s10)
 {W0 : World} {st : List Co} {r : Rp} {f1 : FuncId} {args1 : Array Value} (hS : ∀ W,Grow W0 W → S W) (hrun1 : ∀ W,(execOp a.eval ⟨some s1,op1,t1,p1,e1,none⟩).run Tryz.prog W = .ok (.enter f1 args1) W)
 (hC1 : ∀ W,Grow W0 W → Calls Tryz.prog f1 args1 W fun e W' => ∃ (v v2 : Value) (f : FuncId) (args : Array Value),e = .returned v ∧ Grow W W' ∧ (∀ W,(execOp (a.put (some s1) v).eval ⟨some s2,op2,t2,p2,e2,none⟩).run Tryz.prog W = .ok (.value v2) W) ∧
  (∀ W,(execOp ((a.put (some s1) v).put (some s2) v2).eval o5).run Tryz.prog W = .ok (.enter f args) W) ∧ (∀ W2,Grow W' W2 → Calls Tryz.prog f args W2 (DoR W2 st r)) ∧
  (∀ (W : World) (A dA : Option Addr) (c dc gs gr : Nat),DoF W0 W st r A dA c dc gs gr →
  Q .normal (fA s5 s6 s7 s8 st r A dA c dc ((((a.put (some s1) v).put (some s2) v2).put (some s9) (pA gs)).put (some s10) (pA gr))) W)) :
 wA ops Q S fuel listed a W0 := by
 subst hn hl hb;have hns : Region.noSelect ops = true := by
  unfold RDok at hRD;simp only [Bool.and_eq_true] at hRD;exact hRD.1.1.1
 unfold RPok at hRP;simp only [Bool.and_eq_true] at hRP;obtain ⟨⟨⟨hT,hF⟩,hlk1⟩,hlk2⟩ := hRP;rw [h1] at hlk1;rw [h2] at hlk2;simp only [Bool.and_eq_true,Bool.not_eq_true',← Bool.not_eq_true] at hlk1 hlk2;have rdy : ∀ l rs,(l,rs) ∈ rdP → Region.ready .any ops (mkL c l) = rs.map (c + ·) := fun l rs h => by
  have := List.all_eq_true.1 hT _ h;simpa using this
 have fre : ∀ l k,(l,k) ∈ rdQ → Region.free .any ops (mkL c l) (c + k) = true ∧ (Region.ready .any ops (mkL c l)).contains (c + k) = true := fun l k h => by
  have := List.all_eq_true.1 hF _ h;simpa using this
 obtain ⟨⟨n19,n1a⟩,n29,n2a⟩ := hn1;have n9a := (doSlots hz).2.2.2.2.2;obtain ⟨t9,p9,e9,h9⟩ := H.o9;obtain ⟨t10,p10,e10,h10⟩ := H.o10;rw [show c + 2 + 4 = c + 6 from rfl] at h9;rw [show c + 2 + 5 = c + 7 from rfl] at h10;have exD : ∀ (o : Oper) (hs : ∀ cs bb,o.op ≠ .select cs bb) (hl9 : ¬ (o.looksAt ops).contains s9 = true) (hl10 : ¬ (o.looksAt ops).contains s10 = true) d9 d10 y3 y4 (x : Act),execOp (ptD s9 s10 d9 d10 y3 y4 x).eval o = execOp x.eval o := fun o hs hl9 hl10 d9 d10 y3 y4 x => by
  have k9 : ∀ (x : Act) y,execOp (x.put (some s9) y).eval o = execOp x.eval o := fun x y => execOp_put (ops := ops) _ hs x (some s9) y (fun d hd hm => by injection hd with hd;subst hd;exact hl9 (by simpa using hm))
  have k10 : ∀ (x : Act) y,execOp (x.put (some s10) y).eval o = execOp x.eval o := fun x y => execOp_put (ops := ops) _ hs x (some s10) y (fun d hd hm => by injection hd with hd;subst hd;exact hl10 (by simpa using hm))
  unfold ptD
  cases d9 <;> cases d10 <;> simp only [cond_true,cond_false] <;> (try rw [k10]) <;> (try rw [k9])
 have ptp : ∀ (s : Nat) (v : Value) d9 d10 y3 y4 (x : Act),s ≠ s9 → s ≠ s10 → (ptD s9 s10 d9 d10 y3 y4 x).put (some s) v = ptD s9 s10 d9 d10 y3 y4 (x.put (some s) v) := fun s v d9 d10 y3 y4 x q9 q10 => by
  unfold ptD
  cases d9 <;> cases d10 <;> simp only [cond_true,cond_false] <;> (try rw [pcomm _ _ _ (Ne.symm q10)]) <;> (try rw [pcomm _ _ _ (Ne.symm q9)])
 have cal : ∀ (d9 d10 : Bool) (y3 y4 : Value) (W : World),D2 W0 st r false d9 d10 false false undef undef y3 y4 W →
  wpOp Tryz.prog ops (NoPanic Q) c (fun a' w' => S w' ∧ wA ops Q S (7 + (bif d9 then 0 else 1) + (bif d10 then 0 else 1)) ((mkL c [false,false,false,false,false,false,d9,d10,false,false]).setIfInBounds c true) a' w') (ptD s9 s10 d9 d10 y3 y4 a) W := fun d9 d10 y3 y4 W hD => by
  refine wpOp_enter h1 (by rw [exD _ (fun cs bb => Region.noSelect_spec hns c _ cs bb h1) hlk1.1 hlk1.2];exact hrun1 W) (hC1 W hD.g) fun e w' he => ?_
  obtain ⟨v,v2,f,args,rfl,hg,hy,hr,hC,hd⟩ := he;refine ⟨_,rfl,hS _ (hD.g.trans hg),?_⟩;have e0 := mkL_set c 0 [false,false,false,false,false,false,d9,d10,false,false];rw [Nat.add_zero] at e0;rw [e0];clear e0;have f1 := fre [true,false,false,false,false,false,d9,d10,false,false] 1 (by cases d9 <;> cases d10 <;> decide);have hfu : 7 + (bif d9 then 0 else 1) + (bif d10 then 0 else 1) = (6 + (bif d9 then 0 else 1) + (bif d10 then 0 else 1)) + 1 := by omega
  rw [hfu,ptp _ _ _ _ _ _ _ n19 n1a];refine wpAnyH_take (i := c + 1) (v := v2) h2 hns f1.1 f1.2 (fun _ _ _ h => h) (Or.inl ⟨by rfl,fun w _ => ?_⟩) (hS _ (hD.g.trans hg)) ?_
  ·rw [exD _ (fun cs bb => Region.noSelect_spec hns (c + 1) _ cs bb h2) hlk2.1 hlk2.2];exact hy w
  dsimp only;rw [ptp _ _ _ _ _ _ _ n29 n2a,mkL_set];show wpAnyH _ _ _ _ _ _ (mkL c (true :: true :: [false,false,false,false,d9,d10,false,false])) _ _;rw [mkL_up];exact do_regD H hRD (by simp only [sz_put];exact hz) hr (G := fun W => Grow w' W) (fun _ _ h k => h.trans k) hC hS hd d9 d10 y3 y4 w' (hD.grow hg) (Grow.refl w')
 have tt : ∀ (y3 y4 : Value) (W : World),D2 W0 st r false true true false false undef undef y3 y4 W → wA ops Q S 8 (mkL c [false,false,false,false,false,false,true,true,false,false]) (ptD s9 s10 true true y3 y4 a) W := fun y3 y4 W hD => by
  refine wpAnyH_all (rdy _ [0] (by decide)) (by simp) fun i hi => ?_
  obtain rfl : i = c := by simpa using hi
  exact cal true true y3 y4 W hD
 have tf : ∀ (y3 y4 : Value) (W : World),D2 W0 st r false true false false false undef undef y3 y4 W → wA ops Q S 9 (mkL c [false,false,false,false,false,false,true,false,false,false]) (ptD s9 s10 true false y3 y4 a) W := fun y3 y4 W hD => by
  refine wpAnyH_all (rdy _ [0,7] (by decide)) (by simp) fun i hi => ?_
  have hi' : i = c ∨ i = c + 7 := by simpa using hi
  rcases hi' with rfl | rfl
  ·exact cal true false y3 y4 W hD
  refine wpOp_val h10 run_allocR ?_;have hD2 := hD.mk10;refine ⟨hS _ hD2.g,?_⟩;rw [mkL_set];exact tt _ _ _ hD2
 have ft : ∀ (y3 y4 : Value) (W : World),D2 W0 st r false false true false false undef undef y3 y4 W → wA ops Q S 9 (mkL c [false,false,false,false,false,false,false,true,false,false]) (ptD s9 s10 false true y3 y4 a) W := fun y3 y4 W hD => by
  refine wpAnyH_all (rdy _ [0,6] (by decide)) (by simp) fun i hi => ?_
  have hi' : i = c ∨ i = c + 6 := by simpa using hi
  rcases hi' with rfl | rfl
  ·exact cal false true y3 y4 W hD
  refine wpOp_val h9 run_allocS ?_;have hD2 := hD.mk9;refine ⟨hS _ hD2.g,?_⟩;rw [mkL_set];show wpAnyH _ _ _ _ _ 8 _ ((a.put (some s10) y4).put (some s9) _) _;rw [pcomm _ _ _ (Ne.symm n9a)];exact tt _ _ _ hD2
 refine wpAnyH_all (rdy _ [0,6,7] (by decide)) (by simp) fun i hi => ?_
 have hi' : i = c ∨ i = c + 6 ∨ i = c + 7 := by simpa using hi
 have hI := D2.start (st := st) (r := r) W0;rcases hi' with rfl | rfl | rfl
 ·exact cal false false undef undef W0 hI
 ·refine wpOp_val h9 run_allocS ?_;have hD2 := hI.mk9;refine ⟨hS _ hD2.g,?_⟩;rw [mkL_set];exact tf _ undef _ hD2
 refine wpOp_val h10 run_allocR ?_;have hD2 := hI.mk10;refine ⟨hS _ hD2.g,?_⟩;rw [mkL_set];exact ft undef _ _ hD2
end
end
section
open Go.RowKit
theorem do_eq (N cap : Nat) (A : Option Addr) (st st' : List Co) (r : Rp) (q : Rq) (ck cl ch cx : Cv) (w : World) (hst : StIn w A cap st) (hok : StOk N st) (hN : N ≤ 1000000) (hR : RqOk q) (hT : Tabs w) (hM : Len1 w)
 (hk : In w q.key ck) (hl : In w q.low cl) (hh : In w q.high ch) (hx : In w q.doc cx) (h : doP st q = (st',r)) :
 Calls Tryz.prog 18 #[.agg #[.slice A st.length cap],.agg (rqCells q.do_ q.coll q.index q.path q.unique ck cl ch cx q.n)] w (DoR w st' r) := by
 refine (do_any N cap A st q ck cl ch cx w hst hok hN hR (fun W hg => ⟨hT.grow hg,hM.grow hg⟩) hk hl hh hx).mono ?_;intro e w' hd;unfold DoC at hd;rw [h] at hd;exact hd
theorem isv_zero {C : Addr → Value → Prop} : IsV C V.zero Cv.zero := by
 unfold V.zero;rw [IsV];exact ⟨rfl,rfl,rfl,rfl,rfl,by decide,by decide,by decide,by simp,by simp,by simp,by simp,by simp,by simp,⟨rfl,fun h => by simp at h⟩,fun i hi => by simp at hi,fun i hi => by simp at hi⟩
theorem zeroV_count : V.zero.count ≤ 20000 := by unfold V.zero;rw [V.count_mk];decide
theorem dV_count (i x : Nat) : (dV i x).count ≤ 20000 := by unfold dV;rw [V.count_mk];simp [iV_count]
theorem zeroV_fit : V.zero.fit := by unfold V.zero;rw [V.fit];exact ⟨by decide,fun x h => by simp at h,fun x h => by simp at h⟩
theorem rq0_ok (d : Int) (c : ByteArray) : RqOk (rq0 d c) := ⟨zeroV_count,zeroV_count,zeroV_count,zeroV_count,zeroV_fit⟩
theorem rqD_ok (d : Int) (c : ByteArray) {x : V} (h : x.count ≤ 20000) (hf : x.fit) : RqOk (rqD d c x) := ⟨zeroV_count,zeroV_count,zeroV_count,h,hf⟩
theorem InL.oneL {w : World} {v : V} {c : Cv} (h : In w v c) : InL (w.alloc (.cells c.cells 27)) (some ⟨w.heap.size,0,none⟩) 1 [v] := by
 have hg := (Grow.refl w).alloc (.cells c.cells 27);have hB := Blk.new w 27 c.cells;have h' := h.grow hg;have hlt := hB.lt;unfold InL In;rw [IsV];refine ⟨rfl,rfl,rfl,rfl,rfl,by decide,by decide,by decide,by simp,by simp,by simp,by simp,by simp,by simp,⟨rfl,fun h => by simp at h⟩,fun i hi => ?_,fun i hi => by simp at hi⟩;obtain rfl : i = 0 := by simp at hi;omega
 exact ⟨w.heap.size,0,c,rfl,⟨⟨hB.cell 0,Nat.zero_le _,hlt⟩,⟨hB.cell 1,Nat.zero_le _,hlt⟩,⟨hB.cell 2,Nat.zero_le _,hlt⟩,⟨hB.cell 3,Nat.zero_le _,hlt⟩,⟨hB.cell 4,Nat.zero_le _,hlt⟩⟩,h'⟩
theorem StIn.at_ {w : World} {A : Option Addr} {cap : Nat} {st : List Co} (h : StIn w A cap st) (i : Nat) (hi : i < st.length) : ∃ bk o e,A = some ⟨bk,o,none⟩ ∧ bk < w.heap.size ∧ CoIn w e st[i] ∧ (∀ k v,e.cells.toList[k]? = some v → k < 3 → w.cell? ⟨bk,o + i * 3 + k,none⟩ = some v) := by
 obtain ⟨hc,es,h1,h2⟩ := h;have hel : i < es.length := by rw [h1.1];exact hi
 obtain ⟨bk,o,hA,hcell⟩ := h2.2 (by omega);have hf : ∀ k v,es[i].cells.toList[k]? = some v → k < 3 → AtW w 0 w.heap.size ⟨bk,o + (i * 3 + k),none⟩ v := fun k v hv hk =>
  hcell (i * 3 + k) v (by rw [cellsC,fz_get _ 3 (fun _ => rfl) es i k hk es[i] (List.getElem?_eq_getElem hel)];exact hv)
 refine ⟨bk,o,es[i],hA,(hf 0 _ rfl (by omega)).2.2,h1.at_ hel hi,fun k v hv hk => ?_⟩;rw [Nat.add_assoc];exact (hf k v hv hk).1
theorem pawake_any (w : World) (hT : Tabs w) (hM : Len1 w) : Calls Tryz.prog 13 #[] w fun e w' => e = .returned (.bool true) ∧ Grow w w' := by
 have HT := hide hT;have HM := hide hM;have H1 := hide (do_eq 0 0 none [] _ _ (rq0 1 nA) Cv.zero Cv.zero Cv.zero Cv.zero w (StIn.nil w) StOk.nil (by omega) (rq0_ok _ _) hT hM isv_zero isv_zero isv_zero isv_zero kn1);clear hT hM;go_enter Tryz.func13,Tryz.ntmps13;go_wp2_with fail;refine H1.out.mono ?_;rintro e w1 ⟨hg1,A1,c1,dA1,dc1,rfl,hst1,hdl1⟩;have HG1 := hide hg1;have HST1 := hide hst1;have HDL1 := hide hdl1;clear hg1 hst1 hdl1;have HB1 := hide ((Blk.new w1 44 #[.slice A1 (sX [] []).length c1]).alloc (.cells #[.int .i64 Rp.zero.e,.int .i64 Rp.zero.n,.slice dA1 Rp.zero.docs.length dc1,.int .i64 Rp.zero.cursor] 31));have HB2 := hide (Blk.new' (w := w1.alloc (.cells #[.slice A1 (sX [] []).length c1] 44)) (g := w1.heap.size + 1) (by simp) 31 (rpCells Rp.zero.e Rp.zero.n dA1 Rp.zero.docs.length dc1 Rp.zero.cursor))
 have HG2 := hide ((HG1.out.alloc (.cells #[.slice A1 (sX [] []).length c1] 44)).alloc (.cells #[.int .i64 Rp.zero.e,.int .i64 Rp.zero.n,.slice dA1 Rp.zero.docs.length dc1,.int .i64 Rp.zero.cursor] 31));have HST2 := hide (HST1.out.grow (((Grow.refl w1).alloc (.cells #[.slice A1 (sX [] []).length c1] 44)).alloc (.cells #[.int .i64 Rp.zero.e,.int .i64 Rp.zero.n,.slice dA1 Rp.zero.docs.length dc1,.int .i64 Rp.zero.cursor] 31)));have HDL2 := hide (HDL1.out.grow (((Grow.refl w1).alloc (.cells #[.slice A1 (sX [] []).length c1] 44)).alloc (.cells #[.int .i64 Rp.zero.e,.int .i64 Rp.zero.n,.slice dA1 Rp.zero.docs.length dc1,.int .i64 Rp.zero.cursor] 31)));have HOK1 := hide (show StOk 1 (sX [] []) from by have := doP_ok (q := rq0 1 nA) StOk.nil zeroV_fit zeroV_count;rwa [kn1] at this);go_wp2_with fail;refine wp_region_noPanic ?_
 refine wp_region_held_drew (S := fun w' => w'.cell? ⟨w1.heap.size,0,none⟩ = some (.slice A1 (sX [] []).length c1)) (by kernel_rfl) ((HB1.out.grow (Grow.refl _).drew).cell 0) (fun hHeld => ?_);replace HB1 := hide (HB1.out.grow (Grow.refl _).drew);replace HB2 := hide (HB2.out.grow (Grow.refl _).drew);replace HG2 := hide (HG2.out.drew);replace HST2 := hide (HST2.out.grow (Grow.refl _).drew);replace HDL2 := hide (HDL2.out.grow (Grow.refl _).drew);generalize ((w1.alloc (.cells #[.slice A1 (sX [] []).length c1] 44)).alloc (.cells #[.int .i64 Rp.zero.e,.int .i64 Rp.zero.n,.slice dA1 Rp.zero.docs.length dc1,.int .i64 Rp.zero.cursor] 31)).drew = W0 at HB1 HB2 HG2 HST2 HDL2 hHeld ⊢;have HSW := hide (fun (W : World) (hg : Grow W0 W) => (HB1.out.grow hg).cell 0)
 have HDO := hide (fun (W : World) (hg : Grow W0 W) (A : Option Addr) (hx : In W (dV 1 5) (dcv A 2)) => do_eq 1 c1 A1 _ _ _ (rqD 3 nA (dV 1 5)) Cv.zero Cv.zero Cv.zero (dcv A 2) W (HST2.out.grow hg) HOK1.out (by omega) (rqD_ok _ _ (dV_count 1 5) (dV_fit (by decide) (by decide))) (HT.out.grow (HG2.out.trans hg)) (HM.out.grow (HG2.out.trans hg)) isv_zero isv_zero isv_zero hx kn2);refine tk_ 0 ?_;refine pre_reg (b := 3) (c := 1) (f1 := 9) (args1 := #[.int .i64 1,.int .i64 5]) (st := sX [dV 1 5] []) (r := Rp.zero) (by rfl) (by rfl) (by rfl) (by rfl) (by rfl) ⟨⟨by rfl,by rfl,by rfl⟩,⟨_,_,_,by rfl⟩,⟨_,_,_,by rfl⟩,⟨_,_,_,by rfl⟩,⟨_,_,_,by rfl⟩,⟨_,_,_,by rfl⟩,⟨_,_,_,by rfl⟩,⟨_,_,_,by rfl⟩⟩ (by kernel_rfl) (by kernel_rfl) (by kernel_rfl) (by decide) (fun W hg => HSW.out W hg) (fun W => by kernel_rfl) (fun W hg => ?_)
 refine (lDoc_val 1 5 1 5 rfl rfl (by decide) (by decide) W).mono ?_;rintro ee W3 ⟨Ae,rfl,hin,hg3⟩;refine ⟨_,(Value.agg (rqCells 3 ⟨#[97]⟩ ⟨#[]⟩ ⟨#[]⟩ false Cv.zero Cv.zero Cv.zero (dcv Ae 2) 0)),18,#[.agg #[.slice A1 (sX [] []).length c1],(Value.agg (rqCells 3 ⟨#[97]⟩ ⟨#[]⟩ ⟨#[]⟩ false Cv.zero Cv.zero Cv.zero (dcv Ae 2) 0))],rfl,hg3,fun W => by kernel_rfl,fun W => by kernel_rfl,fun W2 hg2 => HDO.out W2 (hg.trans (hg3.trans hg2)) Ae (hin.in_.grow hg2),?_⟩;rintro W A dA c dc gs gr ⟨hgs,hgr,hne,hgW,hbs,hbr,hst,hdl⟩;clear hin hg3 hg;simp only [fA,put4,vSt,vRp,pA,Act.put,List.setIfInBounds_toArray,List.set_cons_zero,List.set_cons_succ];obtain ⟨bk,o,e5,hA,hbk,hco,hcell⟩ := hst.at_ 0 (by decide);subst hA;have hdn : e5.dn = 1 := hco.dn;have hdc := hcell 1 _ rfl (by omega);rw [hdn] at hdc;have HGW := hide (HG2.out.trans hgW);have HGW0 := hide hgW
 have HDL := hide hdl;have HEI := hide (show InL W e5.dA e5.dc [dV 1 5] from hco.docs);have HS3 := hide (fun (W' : World) (hg : Grow W W') => show (∀ k v,(rpCells Rp.zero.e Rp.zero.n dA1 Rp.zero.docs.length dc1 Rp.zero.cursor)[k]? = some v → W'.cell? ⟨w1.heap.size + 1,k,none⟩ = some v) ∧ (∀ k v,(rpCells Rp.zero.e Rp.zero.n dA Rp.zero.docs.length dc Rp.zero.cursor)[k]? = some v → W'.cell? ⟨gr,k,none⟩ = some v) ∧ W'.cell? ⟨gs,0,none⟩ = some (.slice (some ⟨bk,o,none⟩) 1 c) ∧ W'.cell? ⟨bk,o + 1,none⟩ = some (.slice e5.dA 1 e5.dc) from
  ⟨fun k v h => ((HB2.out.grow (hgW.trans hg)).cell k).trans h,fun k v h => ((hbr.grow hg).cell k).trans h,(hbs.grow hg).cell 0,(hg.below.cell (p := ⟨bk,o + 1,none⟩) hbk).trans (by simpa using hdc)⟩)
 clear hgs hgr hne hgW hbs hbr hst hdl hbk hco hcell hdn hdc hHeld;go_wp2_with fail;refine wp_region_noPanic ?_;refine wp_region_held_drew (S := fun w' => (∀ k v,(rpCells Rp.zero.e Rp.zero.n dA1 Rp.zero.docs.length dc1 Rp.zero.cursor)[k]? = some v → w'.cell? ⟨w1.heap.size + 1,k,none⟩ = some v) ∧ (∀ k v,(rpCells Rp.zero.e Rp.zero.n dA Rp.zero.docs.length dc Rp.zero.cursor)[k]? = some v → w'.cell? ⟨gr,k,none⟩ = some v) ∧ w'.cell? ⟨gs,0,none⟩ = some (.slice (some ⟨bk,o,none⟩) 1 c) ∧ w'.cell? ⟨bk,o + 1,none⟩ = some (.slice e5.dA 1 e5.dc)) (by kernel_rfl) (HS3.out _ (Grow.refl _).drew) (fun hHeld => ?_);have HG5 := hide (HGW.out.trans (Grow.refl W).drew);have HDL5 := hide (HDL.out.grow (Grow.refl W).drew);have HDL15 := hide (HDL2.out.grow ((HGW0.out.trans (Grow.refl W).drew)));have HE5 := hide (HEI.out.grow (Grow.refl W).drew)
 have HS5 := hide (fun (W' : World) (hg : Grow W.drew W') => HS3.out W' ((Grow.refl W).drew.trans hg));clear HS3;generalize W.drew = W5 at HG5 HDL5 HDL15 HE5 HS5 hHeld ⊢;have hcl : ((1 : Nat) : Int) = 1 := rfl;refine tk_ 0 (hy := Or.inl ⟨by rfl,by intro w hSw;(try dsimp only at hSw);obtain ⟨hS1,hS2,hS3,hS4⟩ := hSw;have q0 := hS1 0 _ rfl;have q1 := hS1 1 _ rfl;have q2 := hS1 2 _ rfl;have q3 := hS1 3 _ rfl;have p0 := hS2 0 _ rfl;have p1 := hS2 1 _ rfl;have p2 := hS2 2 _ rfl;have p3 := hS2 3 _ rfl;clear hS1 hS2;go_simp;try with_reducible rfl⟩) ?_;refine tk_ 1 ?_;refine r1_ 2 (fun K hK => ?_);have hC := psame_any Rp.zero Rp.zero dA1 none dc1 0 W5 (HDL15.out.grow (Grow.refl W5)) (InL.nil _);go_simp;go_at_call 23;refine hC.mono ?_;rintro ee W6 ⟨x6,rfl,hx,hg⟩;obtain rfl : x6 = true := hx.2 rfl;have HG6 := hide (Grow.trans (Grow.refl W5) hg);clear hC hx hg
 refine hk_ hK (HS5.out _ HG6.out) (fun hHeld => ?_);clear hK K;refine tk_ 3 ?_;refine tk_ 4 (hy := Or.inl ⟨by rfl,by intro w hSw;(try dsimp only at hSw);obtain ⟨hS1,hS2,hS3,hS4⟩ := hSw;have q0 := hS1 0 _ rfl;have q1 := hS1 1 _ rfl;have q2 := hS1 2 _ rfl;have q3 := hS1 3 _ rfl;have p0 := hS2 0 _ rfl;have p1 := hS2 1 _ rfl;have p2 := hS2 2 _ rfl;have p3 := hS2 3 _ rfl;clear hS1 hS2;go_simp;try with_reducible rfl⟩) ?_;refine tk_ 5 ?_;refine r1_ 6 (fun K hK => ?_);have hC := psame_any Rp.zero Rp.zero dA none dc 0 W6 (HDL5.out.grow HG6.out) (InL.nil _);go_simp;go_at_call 23;refine hC.mono ?_;rintro ee W7 ⟨x7,rfl,hx,hg⟩;obtain rfl : x7 = true := hx.2 rfl;have HG7 := hide (Grow.trans HG6.out hg);clear hC hx hg;refine hk_ hK (HS5.out _ HG7.out) (fun hHeld => ?_);clear hK K;refine tk_ 7 ?_;refine tk_ 8 ?_;refine tk_ 9 ?_
 refine tk_ 10 (hy := Or.inl ⟨by rfl,by intro w hSw;(try dsimp only at hSw);obtain ⟨hS1,hS2,hS3,hS4⟩ := hSw;have q0 := hS1 0 _ rfl;have q1 := hS1 1 _ rfl;have q2 := hS1 2 _ rfl;have q3 := hS1 3 _ rfl;have p0 := hS2 0 _ rfl;have p1 := hS2 1 _ rfl;have p2 := hS2 2 _ rfl;have p3 := hS2 3 _ rfl;clear hS1 hS2;go_simp;try with_reducible rfl⟩) ?_;refine tk_ 11 ?_;refine tk_ 12 ?_;refine tk_ 13 ?_;refine tk_ 14 ?_;refine tk_ 15 ?_;refine tk_ 16 (hy := Or.inl ⟨by rfl,by intro w hSw;(try dsimp only at hSw);obtain ⟨hS1,hS2,hS3,hS4⟩ := hSw;have q0 := hS1 0 _ rfl;have q1 := hS1 1 _ rfl;have q2 := hS1 2 _ rfl;have q3 := hS1 3 _ rfl;have p0 := hS2 0 _ rfl;have p1 := hS2 1 _ rfl;have p2 := hS2 2 _ rfl;have p3 := hS2 3 _ rfl;clear hS1 hS2;go_simp;try with_reducible rfl⟩) ?_;refine tk_ 17 ?_;refine tk_ 18 ?_
 refine tk_ 19 (hy := Or.inl ⟨by rfl,by intro w hSw;(try dsimp only at hSw);obtain ⟨hS1,hS2,hS3,hS4⟩ := hSw;have q0 := hS1 0 _ rfl;have q1 := hS1 1 _ rfl;have q2 := hS1 2 _ rfl;have q3 := hS1 3 _ rfl;have p0 := hS2 0 _ rfl;have p1 := hS2 1 _ rfl;have p2 := hS2 2 _ rfl;have p3 := hS2 3 _ rfl;clear hS1 hS2;go_simp;try with_reducible rfl⟩) ?_;refine r1_ 20 (fun K hK => ?_);have hC := lDoc_val 1 5 1 5 rfl rfl (by decide) (by decide) W7;go_simp;go_at_call 9;refine hC.mono ?_;rintro ee W8 ⟨Ae,rfl,hin,hg⟩;have HG8 := hide (HG7.out.trans hg);have HIN8 := hide hin.in_;clear hC hin hg;refine hk_ hK (HS5.out _ HG8.out) (fun hHeld => ?_);clear hK K;refine r1_ 21 (fun K hK => ?_);go_simp;have HIL := hide (InL.oneL HIN8.out);have HG9 := hide (HG8.out.alloc (.cells (dcv Ae 2).cells 27))
 have HL9 := hide (list2_any [dV 1 5] [dV 1 5] e5.dA (some ⟨W8.heap.size,0,none⟩) e5.dc 1 (W8.alloc (.cells (dcv Ae 2).cells 27)) (HE5.out.grow HG9.out) HIL.out);refine hk_ hK (HS5.out _ HG9.out) (fun hHeld => ?_);clear hK K;refine r1_ 22 (fun K hK => ?_);go_simp;go_at_call 19;refine HL9.out.mono ?_;rintro ee W10 ⟨x10,rfl,hx,hg⟩;obtain rfl : x10 = true := hx.2 rfl;have HG10 := hide (HG9.out.trans hg);clear hx hg;refine hk_ hK (HS5.out _ HG10.out) (fun hHeld => ?_);clear hK K;refine tk_ 23 ?_;refine tk_ 24 ?_;refine dn_ ?_;clear hHeld;go_wp2_with fail;go_ret;exact ⟨rfl,HG5.out.trans HG10.out⟩
end
section
open Go.RowKit
theorem InQs.ok {w : World} {A : Option Addr} {l : List Rq} (h : InQs w A l) (hn : rqsN l ≤ 20000) : ∀ q ∈ l,RqOk q := fun q hq => by
 have h1 := rqsN_mem hq;obtain ⟨i,hi,rfl⟩ := List.mem_iff_getElem.1 hq;obtain ⟨bk,o,ck,cl,ch,cx,-,-,-,-,-,-,hx⟩ := h i hi;exact ⟨by omega,by omega,by omega,by omega,IsV.fit _ _ hx⟩
end
section
open Go.RowKit
def skB (q : Rq) : Bool := q.do_ == 7 || q.do_ == 8 || (q.do_ == 9 && !q.index.toList.isEmpty)
theorem skB_no {q : Rq} (h : skB q = false) : q.do_ ≠ 7 ∧ q.do_ ≠ 8 ∧ (q.do_ = 9 → q.index = ⟨#[]⟩) := by
 unfold skB at h;simp only [Bool.or_eq_false_iff,Bool.and_eq_false_iff,beq_eq_false_iff_ne,Bool.not_eq_false',List.isEmpty_iff,ne_eq] at h;refine ⟨h.1.1,h.1.2,fun h9 => ?_⟩;rcases h.2 with h2 | h2
 ·exact absurd h9 h2
 rw [toList_data] at h2;exact ByteArray.ext (Array.ext' h2)
theorem ixRq_ok (c p s : ByteArray) : RqOk (ixRq c p s) := ⟨zeroV_count,zeroV_count,zeroV_count,zeroV_count,zeroV_fit⟩
structure Turn (w w' : World) (g : Nat) : Prop where
 kept : Kept (fun q => q = g) w w'
 bare : Bare w (fun q => q = g)
theorem Turn.st {w w' : World} {g : Nat} (h : Turn w w' g) {A : Option Addr} {c : Nat} {st : List Co} (k : StIn w A c st) : StIn w' A c st := k.bare h.bare h.kept
theorem Turn.blk {w w' : World} {g g' : Nat} {T : TypeId} {cs : Array Value} (h : Turn w w' g) (k : Blk w g' T cs) (hne : g' ≠ g) : Blk w' g' T cs := h.kept.blk k hne
theorem Turn.grow {w0 w w' : World} {g : Nat} (h : Turn w w' g) (k : Grow w0 w) (hg : w0.heap.size ≤ g) : Grow w0 w' := k.below.trans (h.kept.below k.size (fun q hq => hq ▸ hg))
theorem turn_st {w : World} {g l0 c0 : Nat} {A0 : Option Addr} {v : Value} (hb : Blk w g 44 #[.slice A0 l0 c0]) : Turn w (w.setCell ⟨g,0,none⟩ v) g := ⟨(Kept.refl (S := fun q => q = g) w).set (p := ⟨g,0,none⟩) rfl _,Bare.state hb⟩
theorem turn_rp {w : World} {g l c : Nat} {e n k : Int} {A : Option Addr} {v0 v1 v2 v3 : Value} (hb : Blk w g 31 (rpCells e n A l c k)) : Turn w ((((w.setCell ⟨g,0,none⟩ v0).setCell ⟨g,1,none⟩ v1).setCell ⟨g,2,none⟩ v2).setCell ⟨g,3,none⟩ v3) g :=
 ⟨((((Kept.refl (S := fun q => q = g) w).set (p := ⟨g,0,none⟩) rfl _).set (p := ⟨g,1,none⟩) rfl _).set (p := ⟨g,2,none⟩) rfl _).set (p := ⟨g,3,none⟩) rfl _,Bare.reply hb⟩
theorem pindexes_any (l : List Rq) (s : ByteArray) (A : Option Addr) (cap : Nat) (w : World) (hT : Tabs w) (hM : Len1 w) (hq : InQs w A l) (hl : l.length ≤ 140737488355328) : Calls Tryz.prog 5 #[.slice A l.length cap,.string s] w fun e w' => e = .returned (.bool true) ∧ Grow w w' := by
 have HT := hide hT;have HM := hide hM;have HQ := hide hq;have HLL := hide hl;clear hT hM hq;go_enter Tryz.func5,Tryz.ntmps5;go_wp2_with fail;refine (pawake_any w HT.out HM.out).mono ?_;rintro e w1 ⟨rfl,hg1⟩;have HG1 := hide hg1;clear hg1;go_wp2_with fail;refine (vastAsksL_any l A cap w1 (HQ.out.grow HG1.out) HLL.out).mono ?_;rintro e w2 ⟨rfl,hg2⟩;have HG2 := hide (HG1.out.trans hg2);clear hg2;by_cases hbig : 20000 ≤ rqsN l
 ·rw [decide_eq_true hbig];clear hbig;go_wp2_with fail;go_ret;exact ⟨rfl,HG2.out⟩
 rw [decide_eq_false hbig];have HL5 := hide (show l.length ≤ 20000 by have := rqsN_len l;omega);have HQ2 := hide (HQ.out.grow HG2.out);have HOKS := hide (InQs.ok HQ2.out (by omega));have HT2 := hide (HT.out.grow HG2.out);have HM2 := hide (HM.out.grow HG2.out);clear hbig hl HG1;go_wp2_with fail;go_loopg [7] (l.length + 1) (fun gk i wr => ∃ (j : Nat) (S t : List Co) (A5 A6 : Option Addr) (c5 c6 : Nat),j ≤ l.length ∧ gk + j = l.length + 1 ∧ i = .int .i64 j ∧ S = t.map fg ∧ Blk wr w2.heap.size 44 #[.slice A5 S.length c5] ∧ Blk wr (w2.heap.size + 1) 44 #[.slice A6 t.length c6] ∧ StIn wr A5 c5 S ∧ StIn wr A6 c6 t ∧ StOk (2 * j) S ∧ StOk (2 * j) t ∧ (∀ c ∈ t,IxP ⟨#[112]⟩ s c) ∧ Grow w2 wr)
 case atStart => exact ⟨0,[],[],none,none,0,0,Nat.zero_le _,rfl,rfl,rfl,(Blk.new w2 _ _).alloc _,Blk.new' (by simp) _ _,StIn.nil _,StIn.nil _,StOk.nil,StOk.nil,fun c h => (by cases h),((Grow.refl w2).alloc _).alloc _⟩
 case round =>
  obtain ⟨j,S,t,A5,A6,c5,c6,hj,hg,rfl,hSt,hbs,hbt,hst,htt,hos,hot,hix,hgr⟩ := hrel;obtain ⟨gk',rfl⟩ := gk_ gk (by omega);by_cases hlt : j < l.length
  ·have hqj := HQ2.out.grow hgr j hlt;have hokj := HOKS.out l[j] (List.getElem_mem hlt);obtain ⟨q,hq⟩ : ∃ q,l[j] = q := ⟨_,rfl⟩;rw [hq] at hqj hokj;obtain ⟨g,o,ck,cl,ch,cx,rfl,hgl,hcell,h3,h4,h5,h6⟩ := hqj;have HSE := hide hSt;clear hSt;have HGR := hide hgr;have HOK := hide hokj;have HOS := hide hos;have HOT := hide hot;have HIX := hide hix;have HIN := hide (fun (W : World) (hg : Grow wr W) => (⟨h3.grow hg,h4.grow hg,h5.grow hg,h6.grow hg⟩ : In W q.key ck ∧ In W q.low cl ∧ In W q.high ch ∧ In W q.doc cx));have HST := hide hst;have HTT := hide htt;have HC := hide hcell;have HWT := hide (fun (W : World) (hg : Grow wr W) => (⟨HT2.out.grow (hgr.trans hg),HM2.out.grow (hgr.trans hg)⟩ : Tabs W ∧ Len1 W));have HBS0 := hide hbs;have HBT0 := hide hbt;clear hokj hq hcell h3 h4 h5 h6 hbs hbt hst htt hos hot hix hgr
   go_upto_region 11 with (first | ((with_reducible refine atL_ 33 ?_);refine ldM_ (g := g) (o := o + j * 26) (n := 26) (cells := rqCells q.do_ q.coll q.index q.path q.unique ck cl ch cx q.n) Tryz.underlying33 rfl rfl info_rq rfl HC.out ?_) | ((with_reducible refine atA_ 33 ?_);refine alB_ (cells := zeroQ) (fun w => by kernel_rfl) ?_) | ((with_reducible refine atS_ 33 ?_);refine stB_ (g := wr.heap.size) (n := 26) (cells := rqCells q.do_ q.coll q.index q.path q.unique ck cl ch cx q.n) rfl rfl (Blk.new wr 33 zeroQ) info_rq rfl rfl (rqC_one _ _ _ _ _ _ _ _ _ _) ?_;intro w3 hb3 hg3 hz3));have HG1 := hide (show Grow wr w3 from ((Grow.refl wr).alloc _).grown hg3 (fun k e => by injection e with e;omega));have HRB := hide hb3;have HBS := hide (HBS0.out.grow HG1.out);have HBT := hide (HBT0.out.grow HG1.out);clear HC HBS0 hb3 hg3 hz3;generalize hGB : wr.heap.size = GB at HRB ⊢
   have HGB := hide (show w2.heap.size + 1 < GB from hGB ▸ HBT0.out.lt);clear hGB
   try simp only [ly_]
   go_cut [45] from 28 to 45 (fun tt wx => tt = .bool (skB q) ∧ wx = w3)
   case first =>
    have hrb := HRB.out.cell;by_cases k7 : q.do_ = 7
    ·go_wp2_with fail;go_meet;simp [skB,k7]
    by_cases k8 : q.do_ = 8
    ·go_wp2_with fail;go_meet;simp [skB,k8]
    by_cases k9 : q.do_ = 9
    ·go_wp2_with fail;go_meet;simp [skB,k7,k8,k9]
    go_wp2_with fail;go_meet;simp [skB,k7,k8,k9]
   case rest =>
    obtain ⟨rfl,rfl⟩ := hcut;rename World => wb
    cases hsk : skB q with
    | true =>
     clear hsk;have hjb : j + 1 ≤ 20001 := by have := HL5.out;omega
     go_wp2_with fail;go_roundg gk'
     case measure => omega
     case rel => exact ⟨j + 1,S,t,_,_,_,_,by omega,by omega,by go_num,HSE.out,HBS.out,HBT.out,HST.out.grow HG1.out,HTT.out.grow HG1.out,HOS.out.mono (by omega),HOT.out.mono (by omega),HIX.out,HGR.out.trans HG1.out⟩
    | false =>
     have HSK := hide (skB_no hsk);clear hsk;have hfg := do_fg HOT.out HIX.out HOK.out.fit HOK.out.doc HSK.out.1 HSK.out.2.1 HSK.out.2.2;rw [← HSE.out] at hfg;have HFG := hide hfg;clear hfg;have HOS1 := hide (doP_ok HOS.out HOK.out.fit HOK.out.doc);have HOT1 := hide (doP_ok HOT.out HOK.out.fit HOK.out.doc);have hj2 : 2 * j ≤ 1000000 := by have := HL5.out;omega
     have H1 := hide (do_eq (2 * j) c5 A5 S (doP S q).1 (doP S q).2 q ck cl ch cx wb (HST.out.grow HG1.out) HOS.out hj2 HOK.out (HWT.out wb HG1.out).1 (HWT.out wb HG1.out).2 (HIN.out wb HG1.out).1 (HIN.out wb HG1.out).2.1 (HIN.out wb HG1.out).2.2.1 (HIN.out wb HG1.out).2.2.2 rfl);have H2 := hide (fun (W : World) (hg : Grow wr W) => do_eq (2 * j) c6 A6 t (doP t q).1 (doP t q).2 q ck cl ch cx W (HTT.out.grow hg) HOT.out hj2 HOK.out (HWT.out W hg).1 (HWT.out W hg).2 (HIN.out W hg).1 (HIN.out W hg).2.1 (HIN.out W hg).2.2.1 (HIN.out W hg).2.2.2 rfl);generalize (doP S q).1 = S1 at H1 HFG HOS1;generalize (doP S q).2 = R1 at H1 HFG;generalize hT2 : (doP t q).1 = S2 at H2 HFG HOT1;generalize hR2 : (doP t q).2 = R2 at H2 HFG;have HDT := hide hT2;have HDR := hide hR2;clear hT2 hR2;have hbs := HBS.out.cell
     go_wp2_with ((with_reducible refine atL_ 33 ?_);refine ldB_ (g := GB) (n := 26) (cells := rqCells q.do_ q.coll q.index q.path q.unique ck cl ch cx q.n) Tryz.underlying33 rfl rfl HRB.out info_rq rfl ?_);clear hbs;refine H1.out.mono ?_;rintro e w4 ⟨hg4,A7,c7,dA7,dc7,rfl,hs4,hd4⟩;have HG5 := hide ((hg4.alloc (.cells #[.slice A7 S1.length c7] 44)).alloc (.cells (rpCells R1.e R1.n dA7 R1.docs.length dc7 R1.cursor) 31));have HB9 := hide ((Blk.new w4 44 #[.slice A7 S1.length c7]).alloc (.cells (rpCells R1.e R1.n dA7 R1.docs.length dc7 R1.cursor) 31));have HB10 := hide (Blk.new' (w := w4.alloc (.cells #[.slice A7 S1.length c7] 44)) (g := w4.heap.size + 1) (by simp) 31 (rpCells R1.e R1.n dA7 R1.docs.length dc7 R1.cursor));have HS7 := hide (hs4.grow (((Grow.refl w4).alloc (.cells #[.slice A7 S1.length c7] 44)).alloc (.cells (rpCells R1.e R1.n dA7 R1.docs.length dc7 R1.cursor) 31)))
     have HD7 := hide (hd4.grow (((Grow.refl w4).alloc (.cells #[.slice A7 S1.length c7] 44)).alloc (.cells (rpCells R1.e R1.n dA7 R1.docs.length dc7 R1.cursor) 31)));have HRB5 := hide (HRB.out.grow HG5.out);have HBT5 := hide (HBT.out.grow HG5.out);have hbt := HBT5.out.cell;have HN4 := hide (show w2.heap.size < w4.heap.size ∧ (w2.heap.size + 1) < w4.heap.size ∧ GB < w4.heap.size from ⟨Nat.lt_of_lt_of_le HBS.out.lt hg4.size,Nat.lt_of_lt_of_le HBT.out.lt hg4.size,Nat.lt_of_lt_of_le HRB.out.lt hg4.size⟩);clear hg4 hs4 hd4 H1;go_wp2_with ((with_reducible refine atL_ 33 ?_);refine ldB_ (g := GB) (n := 26) (cells := rqCells q.do_ q.coll q.index q.path q.unique ck cl ch cx q.n) Tryz.underlying33 rfl rfl HRB5.out info_rq rfl ?_);refine (H2.out _ (HG1.out.trans HG5.out)).mono ?_;rintro e w6 ⟨hg6,A8,c8,dA8,dc8,rfl,hs6,hd6⟩
     have HG67 := hide (((Grow.refl w6).alloc (.cells #[.slice A8 S2.length c8] 44)).alloc (.cells (rpCells R2.e R2.n dA8 R2.docs.length dc8 R2.cursor) 31));have HG57 := hide (hg6.trans HG67.out);have HG7 := hide (HG5.out.trans HG57.out);have HB11 := hide ((Blk.new w6 44 #[.slice A8 S2.length c8]).alloc (.cells (rpCells R2.e R2.n dA8 R2.docs.length dc8 R2.cursor) 31));have HB12 := hide (Blk.new' (w := w6.alloc (.cells #[.slice A8 S2.length c8] 44)) (g := w6.heap.size + 1) (by simp) 31 (rpCells R2.e R2.n dA8 R2.docs.length dc8 R2.cursor));have HS8 := hide (hs6.grow HG67.out);have HD8 := hide (hd6.grow HG67.out);replace HB9 := hide (HB9.out.grow HG57.out);replace HB10 := hide (HB10.out.grow HG57.out);replace HS7 := hide (HS7.out.grow HG57.out);replace HD7 := hide (HD7.out.grow HG57.out);replace HBS := hide (HBS.out.grow HG7.out);replace HBT := hide (HBT.out.grow HG7.out)
     replace HRB := hide (HRB.out.grow HG7.out);have HN6 := hide (show w4.heap.size + 1 < w6.heap.size from Nat.lt_of_lt_of_le (by simp) hg6.size);clear hg6 hs6 hd6 hbt HBT5 HRB5 H2 HG67 HG57;go_upto_region 14 with fail;generalize (w6.alloc (.cells #[.slice A8 S2.length c8] 44)).alloc (.cells (rpCells R2.e R2.n dA8 R2.docs.length dc8 R2.cursor) 31) = w7 at HB9 HB10 HB11 HB12 HS7 HD7 HS8 HD8 HBS HBT HRB HG7 ⊢;rcases HFG.out with ⟨hb14,ha14⟩ | ⟨heq,hsS,hix2⟩
     ·have hb12 := HB12.out.cell;have hb10 := HB10.out.cell;rw [hb14] at hb12;have hjb : j + 1 ≤ 20001 := by have := HL5.out;omega
      go_wp2_with fail;go_roundg gk'
      case measure => omega
      case rel => exact ⟨j + 1,S,t,_,_,_,_,by omega,by omega,by go_num,HSE.out,HBS.out,HBT.out,HST.out.grow (HG1.out.trans HG7.out),HTT.out.grow (HG1.out.trans HG7.out),HOS.out.mono (by omega),HOT.out.mono (by omega),HIX.out,HGR.out.trans (HG1.out.trans HG7.out)⟩
     rw [heq] at HB10 HD7;have HSS := hide hsS;have HIX2 := hide hix2;clear heq hsS hix2 HFG;go_cut [65] from 58 to 65 (fun tt wx => tt = .bool false ∧ wx = w7)
     case first =>
      have hb12 := HB12.out.cell;have hb10 := HB10.out.cell;by_cases h14 : R2.e = 14
      ·go_wp2_with fail;go_meet;simp [h14]
      go_wp2_with fail;go_meet;simp [h14]
     case rest =>
      obtain ⟨rfl,rfl⟩ := hcut;have hb10 := HB10.out.cell;have hb12 := HB12.out.cell;have HSM := hide (psame_any R2 R2 dA7 dA8 dc7 dc8 _ HD7.out HD8.out);go_wp2_with fail;refine HSM.out.mono ?_;rintro e w8 ⟨x,rfl,hx,hg8⟩;obtain rfl : x = true := by simpa using hx
      have HGR8 := hide (HGR.out.trans (HG1.out.trans (HG7.out.trans hg8)));replace HB9 := hide (HB9.out.grow hg8);replace HB10 := hide (HB10.out.grow hg8);replace HB11 := hide (HB11.out.grow hg8);replace HB12 := hide (HB12.out.grow hg8);replace HS7 := hide (HS7.out.grow hg8);replace HS8 := hide (HS8.out.grow hg8);replace HBS := hide (HBS.out.grow hg8);replace HBT := hide (HBT.out.grow hg8);replace HRB := hide (HRB.out.grow hg8);clear hx hg8 hb10 hb12 HSM HD7 HD8 HG7 HST HTT HIN HG1;have hn1 : (w2.heap.size + 1) ≠ w2.heap.size := by omega
      have hn2 : w6.heap.size ≠ w2.heap.size ∧ w6.heap.size ≠ (w2.heap.size + 1) ∧ w6.heap.size + 1 ≠ w2.heap.size ∧ w6.heap.size + 1 ≠ (w2.heap.size + 1) ∧ w4.heap.size + 1 ≠ w2.heap.size ∧ w4.heap.size + 1 ≠ (w2.heap.size + 1) ∧ GB ≠ w2.heap.size ∧ GB ≠ (w2.heap.size + 1) := by
       have := HN4.out;have := HN6.out;have := HGB.out;omega
      have T1 := turn_st (v := .slice A7 S1.length c7) HBS.out;have T2 := turn_st (v := .slice A8 S2.length c8) (T1.blk HBT.out hn1);have HBS9 := hide (T2.blk (HBS.out.set_ 0 (.slice A7 S1.length c7)) (Ne.symm hn1));have HBT9 := hide ((T1.blk HBT.out hn1).set_ 0 (.slice A8 S2.length c8));have HB10_9 := hide (T2.blk (T1.blk HB10.out hn2.2.2.2.2.1) hn2.2.2.2.2.2.1);have HB11_9 := hide (T2.blk (T1.blk HB11.out hn2.1) hn2.2.1);have HB12_9 := hide (T2.blk (T1.blk HB12.out hn2.2.2.1) hn2.2.2.2.1);have HRB_9 := hide (T2.blk (T1.blk HRB.out hn2.2.2.2.2.2.2.1) hn2.2.2.2.2.2.2.2);have HS7_9 := hide (T2.st (T1.st HS7.out));have HS8_9 := hide (T2.st (T1.st HS8.out));have HGR9 := hide (T2.grow (T1.grow HGR8.out (Nat.le_refl _)) (by omega));have hb9 := HB9.out.cell;have hbsf := HBS.out.frozen;have hbs := HBS.out.cell;have hb11 := (T1.blk HB11.out hn2.1).cell;have hbtf := (T1.blk HBT.out hn1).frozen
      have hbt := (T1.blk HBT.out hn1).cell;clear T1 T2 hn1 hn2;go_upto_region 19 with fail;clear hb9 hbsf hbs hb11 hbtf hbt HB9 HB10 HB11 HB12 HS7 HS8 HBS HBT HRB HGR8;generalize (w8.setCell ⟨w2.heap.size,0,none⟩ (.slice A7 S1.length c7)).setCell ⟨(w2.heap.size + 1),0,none⟩ (.slice A8 S2.length c8) = w9 at HBS9 HBT9 HB10_9 HB11_9 HB12_9 HRB_9 HS7_9 HS8_9 HGR9 ⊢;go_cut [84] from 72 to 84 (fun tt wx => tt = .bool (decide (q.do_ = 1 ∧ R2.e = 0 ∧ s.size ≤ 200)) ∧ wx = w9)
      case first =>
       have hrb := HRB_9.out.cell;have hb10 := HB10_9.out.cell;by_cases k1 : q.do_ = 1
       ·have b1 : (q.do_ == 1) = true := by simp [k1]
        have K1 := hide k1;clear k1;by_cases k2 : R2.e = 0
        ·have b2 : (R2.e == 0) = true := by simp [k2]
         have K2 := hide k2;clear k2;by_cases k3 : s.size ≤ 200
         ·have hd : decide ((s.size : Int) ≤ 200) = true := decide_eq_true (by omega);go_wp2_with fail;go_meet;simp [K1.out,K2.out,k3]
         have hd : decide ((s.size : Int) ≤ 200) = false := decide_eq_false (by omega);go_wp2_with fail;go_meet;simp [K1.out,K2.out,k3]
        have b2 : (R2.e == 0) = false := by simp [k2]
        have K2 := hide k2;clear k2;go_wp2_with fail;go_meet;simp [K1.out,K2.out]
       have b1 : (q.do_ == 1) = false := by simp [k1]
       have K1 := hide k1;clear k1;go_wp2_with fail;go_meet;simp [K1.out]
      case rest =>
       obtain ⟨rfl,rfl⟩ := hcut;by_cases hm : q.do_ = 1 ∧ R2.e = 0 ∧ s.size ≤ 200
       ·rw [decide_eq_true hm];obtain ⟨k1,k2,k3⟩ := hm;have hmk := mk_fg HOT.out HIX.out HOK.out.fit HOK.out.doc k1 (by rw [HDR.out];exact k2) (p := ⟨#[112]⟩) (by decide +kernel) k3;rw [HDT.out] at hmk;have H3 := hide (do_eq (2 * j + 1) c8 A8 S2 (doP S2 (ixRq q.coll ⟨#[112]⟩ s)).1 (doP S2 (ixRq q.coll ⟨#[112]⟩ s)).2 (ixRq q.coll ⟨#[112]⟩ s) Cv.zero Cv.zero Cv.zero Cv.zero _ HS8_9.out HOT1.out (by have := HL5.out;omega) (ixRq_ok _ _ _) (HT2.out.grow HGR9.out) (HM2.out.grow HGR9.out) isv_zero isv_zero isv_zero isv_zero rfl);have HOT3 := hide (doP_ok (q := ixRq q.coll ⟨#[112]⟩ s) HOT1.out zeroV_fit zeroV_count);generalize (doP S2 (ixRq q.coll ⟨#[112]⟩ s)).1 = S3 at H3 hmk HOT3;generalize (doP S2 (ixRq q.coll ⟨#[112]⟩ s)).2 = R3 at H3 hmk;obtain ⟨rfl,hm2,hm3⟩ := hmk;have HM2' := hide hm2;have HM3' := hide hm3;have hrb := HRB_9.out.cell;have hbt := HBT9.out.cell;clear k1 k2 k3 hm2 hm3
        go_wp2_with fail;refine H3.out.mono ?_;rintro e w10 ⟨hg10,A9,c9,dA9,dc9,rfl,hs10,-⟩;have HB10 := hide (HB11_9.out.grow hg10);have HB12b := hide (HB12_9.out.grow hg10);have n1 : w6.heap.size + 1 ≠ w6.heap.size := by omega
        have n2 := HN6.out;have n3 := HN4.out;have T1 := turn_st (v := .slice A9 S3.length c9) HB10.out;have T2 := turn_rp (v0 := .int .i64 0) (v1 := .int .i64 0) (v2 := .slice dA9 0 dc9) (v3 := .int .i64 0) (T1.blk HB12b.out n1);have HB11c := T2.blk (HB10.out.set_ 0 (.slice A9 S3.length c9)) (Ne.symm n1);have HB12c := ((((T1.blk HB12b.out n1).set_ 0 (.int .i64 0)).set_ 1 (.int .i64 0)).set_ 2 (.slice dA9 0 dc9)).set_ 3 (.int .i64 0);have HBTc := T2.blk (T1.blk (HBT9.out.grow hg10) (by omega)) (by omega);have HBSc := T2.blk (T1.blk (HBS9.out.grow hg10) (by omega)) (by omega);have T3 := turn_st (v := .slice A9 S3.length c9) HBTc;have HS3 := hide (T3.st (T2.st (T1.st hs10)));have HS1 := hide (T3.st (T2.st (T1.st (HS7_9.out.grow hg10))));have HG3 := hide (T3.grow (T2.grow (T1.grow (HGR9.out.trans hg10) (by omega)) (by omega)) (by omega));have HBS3 := hide (T3.blk HBSc (by omega))
        have HBT3 := hide (HBTc.set_ 0 (.slice A9 S3.length c9));have q1 := HB10.out.frozen;have q2 := HB10.out.cell;have q3 := (T1.blk HB12b.out n1).cell;have q4 := (T1.blk HB12b.out n1).frozen;have q5 := HB12c.cell;have q6 := HB11c.cell;have q7 := HBTc.cell;have q8 := HBTc.frozen;clear T1 T2 T3 hs10 hg10 n1 n2 n3 hrb hbt HB11c HB12c HBTc HBSc H3;have hjb : j + 1 ≤ 20001 := by have := HL5.out;omega
        go_wp2_with fail;go_roundg gk'
        case measure => omega
        case rel => exact ⟨j + 1,S1,S3,_,_,_,_,by omega,by omega,by go_num,HSS.out.trans HM2'.out.symm,HBS3.out,HBT3.out,HS1.out,HS3.out,HOS1.out.mono (by omega),HOT3.out.mono (by omega),HM3'.out,HG3.out⟩
       rw [decide_eq_false hm];clear hm;have hjb : j + 1 ≤ 20001 := by have := HL5.out;omega
       go_wp2_with fail;go_roundg gk'
       case measure => omega
       case rel => exact ⟨j + 1,S1,S2,_,_,_,_,by omega,by omega,by go_num,HSS.out,HBS9.out,HBT9.out,HS7_9.out,HS8_9.out,HOS1.out.mono (by omega),HOT1.out.mono (by omega),HIX2.out,HGR9.out⟩
  have hjl : j = l.length := by omega
  subst hjl;obtain ⟨wz,hwz⟩ : ∃ x : World,x = wr := ⟨_,rfl⟩;subst hwz;have HSE := hide hSt;have HGR := hide hgr;have HBS := hide hbs;have HBT := hide hbt;have HST := hide hst;have HTT := hide htt;have HLEN := hide (show S.length = t.length by rw [hSt,List.length_map]);have HN16 := hide hot.n;clear hSt hgr hbs hbt hst htt hos hot hix hg hj hlt;go_wp2_with fail;go_loopg [13] (t.length + 1) (fun gk i wr => ∃ m : Nat,m ≤ t.length ∧ gk + m = t.length + 1 ∧ i = .int .i64 m ∧ Grow wz wr)
  case atStart => exact ⟨0,Nat.zero_le _,rfl,rfl,Grow.refl wz⟩
  case round =>
   obtain ⟨m,hm,hgk,rfl,hgw⟩ := hrel;obtain ⟨gk2,rfl⟩ : ∃ g,gk = g + 1 := ⟨gk - 1,by omega⟩;have HGW := hide hgw;have HBS2 := hide (HBS.out.grow hgw);have HBT2 := hide (HBT.out.grow hgw);have hbs := HBS2.out.cell;have hbt := HBT2.out.cell;by_cases hlt : m < S.length
   ·have hltt : m < t.length := by rw [← HLEN.out];exact hlt
    obtain ⟨b5,o5,e5,h5,hb5,hc5,hcell5⟩ := (HST.out.grow hgw).at_ m hlt;obtain ⟨b6,o6,e6,h6,hb6,hc6,hcell6⟩ := (HTT.out.grow hgw).at_ m hltt;subst h5 h6;obtain ⟨c,hc⟩ : ∃ c,t[m] = c := ⟨_,rfl⟩;have hsc : S[m] = fg c := by
     have h1 : S[m]? = some (fg c) := by rw [HSE.out,List.getElem?_map,List.getElem?_eq_getElem hltt,hc];rfl
     rw [List.getElem?_eq_getElem hlt] at h1;exact Option.some.inj h1
    rw [hsc] at hc5;rw [hc] at hc6;have a0 := hcell5 0 _ rfl (by omega);have a1 := hcell5 1 _ rfl (by omega);have d0 := hcell6 0 _ rfl (by omega);have d1 := hcell6 1 _ rfl (by omega);rw [hc5.nm,Nat.add_zero] at a0;rw [hc5.dn] at a1;rw [hc6.nm,Nat.add_zero] at d0;rw [hc6.dn] at d1;have HD5 := hide (show InL wr e5.dA e5.dc c.docs from hc5.docs);have HD6 := hide (show InL wr e6.dA e6.dc c.docs from hc6.docs);replace a0 : wr.cell? ⟨b5,o5 + m * 3,none⟩ = some (.string c.name) := a0;replace a1 : wr.cell? ⟨b5,o5 + m * 3 + 1,none⟩ = some (.slice e5.dA c.docs.length e5.dc) := a1;generalize c.name = nm at a0 d0;generalize c.docs = ds at a1 d1 HD5 HD6
    have HSW := hide (fun (W : World) (hg : Grow wr W) => show W.cell? ⟨w2.heap.size,0,none⟩ = some (.slice (some ⟨b5,o5,none⟩) S.length c5) ∧ W.cell? ⟨(w2.heap.size + 1),0,none⟩ = some (.slice (some ⟨b6,o6,none⟩) t.length c6) ∧ W.cell? ⟨b5,o5 + m * 3,none⟩ = some (.string nm) ∧ W.cell? ⟨b6,o6 + m * 3,none⟩ = some (.string nm) ∧ W.cell? ⟨b5,o5 + m * 3 + 1,none⟩ = some (.slice e5.dA ds.length e5.dc) ∧ W.cell? ⟨b6,o6 + m * 3 + 1,none⟩ = some (.slice e6.dA ds.length e6.dc) from
     ⟨(HBS2.out.grow hg).cell 0,(HBT2.out.grow hg).cell 0,(hg.below.cell (p := ⟨b5,o5 + m * 3,none⟩) hb5).trans a0,(hg.below.cell (p := ⟨b6,o6 + m * 3,none⟩) hb6).trans d0,(hg.below.cell (p := ⟨b5,o5 + m * 3 + 1,none⟩) hb5).trans a1,(hg.below.cell (p := ⟨b6,o6 + m * 3 + 1,none⟩) hb6).trans d1⟩)
    have hle : decide ((t.length : Int) ≤ (m : Int)) = false := decide_eq_false (by omega);have hle2 : ¬ (t.length : Int) ≤ (m : Int) := by omega
    have hss : (nm.toList == nm.toList) = true := by simp
    have hi1 : (m : Int) < (S.length : Int) := by omega
    have hi2 : (m : Int) < (t.length : Int) := by omega
    clear hc5 hc6 hcell5 hcell6 a0 a1 d0 d1 hsc hc hb5 hb6 hgw;go_upto_region 27 with fail;clear hbs hbt;refine wp_region_noPanic ?_;refine wp_region_held_drew (S := fun w' => w'.cell? ⟨w2.heap.size,0,none⟩ = some (.slice (some ⟨b5,o5,none⟩) S.length c5) ∧ w'.cell? ⟨(w2.heap.size + 1),0,none⟩ = some (.slice (some ⟨b6,o6,none⟩) t.length c6) ∧ w'.cell? ⟨b5,o5 + m * 3,none⟩ = some (.string nm) ∧ w'.cell? ⟨b6,o6 + m * 3,none⟩ = some (.string nm) ∧ w'.cell? ⟨b5,o5 + m * 3 + 1,none⟩ = some (.slice e5.dA ds.length e5.dc) ∧ w'.cell? ⟨b6,o6 + m * 3 + 1,none⟩ = some (.slice e6.dA ds.length e6.dc)) (by kernel_rfl) (HSW.out _ (Grow.refl _).drew) (fun hHeld => ?_);have HGD := hide (show Grow wr wr.drew from (Grow.refl _).drew);replace HD5 := hide (HD5.out.grow HGD.out);replace HD6 := hide (HD6.out.grow HGD.out);generalize wr.drew = W0 at HGD HD5 HD6 hHeld ⊢;refine tk_ 0 ?_
    refine tk_ 1 ?_;refine tx_ 2 ?_;refine tk_ 3 ?_;refine tk_ 4 ?_;refine tk_ 5 ?_;refine tk_ 6 ?_;refine tx_ 7 ?_;refine tk_ 8 ?_;refine tk_ 9 ?_;refine tk_ 10 ?_;refine tx_ 11 ?_;refine tk_ 12 ?_;refine tx_ 13 ?_;refine tk_ 14 ?_;refine tk_ 15 ?_;refine tk_ 16 ?_;refine tx_ 17 ?_;refine tk_ 18 ?_;refine tk_ 19 ?_;refine tk_ 20 ?_;refine tk_ 21 ?_;refine tx_ 22 ?_;refine tk_ 23 ?_;refine tk_ 24 ?_;refine tk_ 25 ?_;refine tx_ 26 ?_;refine tk_ 27 ?_;refine tx_ 28 ?_;refine tk_ 29 ?_;refine tk_ 30 ?_;refine tk_ 31 ?_;refine tx_ 32 ?_;refine r1_ 33 (fun K hK => ?_);have hC := list2_any ds ds e5.dA e6.dA e5.dc e6.dc W0 HD5.out HD6.out;go_simp;go_at_call 19;refine hC.mono ?_;rintro ee W3 ⟨x,rfl,hx,hg3⟩;obtain rfl : x = true := by simpa using hx
    refine hk_ hK (HSW.out _ (HGD.out.trans hg3)) (fun hHeld => ?_);clear hK K;refine tk_ 34 ?_;refine tk_ 35 ?_;refine dn_ ?_;clear hHeld;have HGF := hide (HGW.out.trans (HGD.out.trans hg3));clear hC hx hg3;have hmb : m + 1 ≤ 17 := by have := HN16.out;omega
    go_wp2_with fail;go_roundg gk2
    case measure => omega
    case rel => exact ⟨m + 1,by omega,by omega,by go_num,HGF.out⟩
   have hml : m = t.length := by have := HLEN.out;omega
   have hlen : (S.length : Int) = (t.length : Int) := by rw [HLEN.out]
   clear hlt hgw;go_wp2_with fail;go_ret;exact ⟨ret_bool (by simp [HLEN.out]),HG2.out.trans (HGR.out.trans HGW.out)⟩
end
section
open Go.RowKit Go.ChangeShapes Go.ChangeAt Go.Shelf Go.WideShapes Go.Deep
theorem pindexes_reading (os : Os) {H : Type} (enc : TypeId × Value → H) : ∃ places,DataW.whole enc Tryz.prog ((laidWorld os).forCall (fun _ _ => 0) ⟨#[],#[.slice none 0 0,.string ⟨#[]⟩],[]⟩).memory Tryz.f5.params.toList Rows.plainIndexesSpec.vars false (#[.slice none 0 0,.string ⟨#[]⟩] : Array Value).toList 8 = some ([.nil,.lit (.string [])],[],places) :=
 ⟨[],by kernel_rfl⟩
theorem pindexes_lifted (os : Os) (started : os.Started) (H : Type) (enc : TypeId × Value → H) (F : Stop.Interp) :
 ReturnsInHanded {} Tryz.checked os 5 .any ((OpenSpec.ofChange Rows.plainIndexesSpec).preRow enc Tryz.prog Tryz.f5 Rows.plainIndexesRow.domain false Rows.plainIndexesRow.laid) (((OpenSpec.ofChange Rows.plainIndexesSpec).at F).post enc Tryz.prog Tryz.f5 false true false false) := by
 obtain ⟨places,hx⟩ := pindexes_reading os enc;refine returnsInHanded_of_row (C := Tryz.checked) (s := OpenSpec.ofChange Rows.plainIndexesSpec) own_ started (by kernel_rfl) Tryz.func5
  (witness_row_atRef (enc := enc) (C := Tryz.checked) false (laidWorld os) #[.slice none 0 0,.string ⟨#[]⟩] rfl (by kernel_rfl) (by kernel_rfl) (by kernel_rfl)
   (OpenSpec.preRow_of_cond 8 hx (by kernel_rfl) (fun k hk => by cases hk) (by kernel_rfl) (laid_row os _))) ?_
 intro W base args ds gs before hval0 hW _ _ hsz hL hsh _;have hval : ∀ (j : Nat) t v,Tryz.f5.params[j]? = some t → args[j]? = some v → Value.okWide Tryz.prog W .any base t v := hval0;have hW' := hW;obtain ⟨p,q,hA0,hV0,rfl,_,_⟩ := hW;have hA : DataW.TrodAll enc Tryz.prog W 0 (fun _ => true) true Tryz.f5.params.toList args.toList ds p := hA0;rw [Tryz.params5] at hA hval;obtain ⟨v0,v1,d0,d1,p0,p1,rfl,rfl,rfl,h0,h1⟩ := trodAll_two hA;obtain ⟨rfl,rfl⟩ := trodVars_none hV0;obtain ⟨A00,len0,cap00,rfl⟩ := okWide_slice under_requests (hval 0 36 v0 rfl rfl);have h0k := h0;obtain ⟨fuel0,h0f⟩ := h0;obtain ⟨A0,cap0,l0,hv0,hin0,hll0⟩ := open_requests (c := .slice A00 len0 cap00) h0f (fun n hn => by
  have := List.all_eq_true.1 hsz _ (DataW.weights_mem_each (j := 0) (t := 36) (d := d0) (by rw [Tryz.params5];rfl) rfl n hn);simpa using this)
 obtain ⟨s1,rfl,hsb1⟩ := open_strB (hval 1 9 v1 rfl rfl) h1;rw [hv0] at h0k hW' ⊢;have hM : Len1 W := laysSplit_len W hsh;have hlt0 : ∀ x ∈ p0,x.block < W.heap.size := fun x hx => by
  have := hW'.lt x (by simp [hx]);simpa using this
 have hlt1 : ∀ x ∈ p1,x.block < W.heap.size := fun x hx => by
  have := hW'.lt x (by simp [hx]);simpa using this
 refine (pindexes_any l0 s1 A0 cap0 W (tabs_row hL) hM hin0 hll0).mono ?_;rintro e W' ⟨rfl,bel⟩;have e1 : ((OpenSpec.ofChange Rows.plainIndexesSpec).at F).fn H ([d0,d1] ++ []) = { results := [.lit (.bool true)],args := [d0,d1] } := rfl;refine ⟨_,rfl,_,_,_,[],p0 ++ p1,[],hW',?_,?_,?_,bel.below.frame _,fun h => by cases h⟩
 ·rw [e1];exact trodAll_mk1 (shut_bool Tryz.underlying4 _)
 ·rw [e1];exact trodAll_mk2 (Below.trod laidOut_ (by kernel_rfl) (of_decide_eq_true (by kernel_rfl)) h0k bel.below hlt0) (Below.trod laidOut_ (by kernel_rfl) (of_decide_eq_true (by kernel_rfl)) h1 bel.below hlt1)
 rw [e1];rfl
theorem pindexes_said : Rows.PlainIndexesSaid :=
 OpenClaim.holds_of_cond 5 Tryz.f5 rfl rfl rfl rfl rfl rfl rfl ⟨rfl,rfl,rfl,rfl,rfl⟩ rfl rfl rfl rfl rfl (by kernel_rfl) Tryz.func5 (by kernel_rfl)
  (of_decide_eq_true (by kernel_rfl)) (by unfold Func.isWrapper;first | (rw [if_pos (by decide +kernel)];kernel_rfl) | (rw [if_neg (by decide +kernel)];exact ⟨rfl,rfl⟩))
  (fun os started H enc _ F => by rw [OpenClaim.pre_eq_preRow];exact pindexes_lifted os started H enc F)
theorem pindexes_plain (f : FuncId) (fn : Func) (hf : Tryz.pinned.checked.prog.funcNamed "muniment/munimentlaw15.PlainIndexes" = some f) (hfn : Tryz.pinned.checked.prog.funcs[f]? = some fn) :
 true = Tryz.pinned.checked.prog.looks [] ∧ ∀ (j : Nat) t,fn.params[j]? = some t → Tryz.pinned.checked.prog.wantsStandIn t = false := by
 obtain rfl : f = 5 := Option.some.inj ((show Tryz.prog.funcNamed "muniment/munimentlaw15.PlainIndexes" = some 5 by kernel_rfl).symm.trans hf) |>.symm;obtain rfl : fn = Tryz.f5 := (Option.some.inj (Tryz.func5.symm.trans hfn)).symm;refine ⟨by kernel_rfl, fun j t ht => ?_⟩;rw [Tryz.params5] at ht;have hm := Array.mem_of_getElem? ht;have : t = 36 ∨ t = 9 := by simpa using hm
 rcases this with rfl | rfl
 ·exact (show Tryz.prog.wantsStandIn 36 = false by kernel_rfl)
 exact (show Tryz.prog.wantsStandIn 9 = false by kernel_rfl)
theorem pindexes_card : Rows.PlainIndexesCardSaid :=
 Claim7.holds_tied_plain_at .later [] _ _ _ _ pindexes_said (fun _ h => by cases h) (by kernel_rfl) (fun _ h => by cases h) plainIndexes_row_tie rfl ⟨rfl,rfl⟩ (by kernel_rfl) rfl pindexes_plain (by kernel_rfl)
end
end Go.Proofs.YtndjopkdbdcmdaaGreatDoor
