/- The steps through a region that draws its order, in short words. No program in sight. -/
import Derived.Deep.RegionHeld3
import Derived.Below
set_option linter.unusedVariables false
namespace Go.Proofs.YtndjopkdbdcmdaaGreatDoor
abbrev ai:=@if_neg
abbrev aw:=@if_pos
abbrev ay:=@Nat.le_refl
abbrev aT:=@List.length_cons
abbrev aW:=@List.getElem_mem
abbrev ba:=@Nat.zero_le
abbrev bn:=@Nat.le_trans
abbrev bz:=@List.length_nil
abbrev bC:=@Go.AllReadyH.cons
abbrev bG:=@List.length_append
abbrev cT:=@congrArg
abbrev bO:=@Go.World.ownsRow.lt
abbrev bW:=@decide_eq_true
abbrev bX:=@decide_eq_false
abbrev bY:=@Go.AllReadyH.nil
abbrev cJ:=@List.getElem?_eq_getElem
abbrev cU:=@Go.RowKit.Below.trans
abbrev df:=@Nat.lt_of_lt_of_le
abbrev dJ:=@Go.World.size_alloc
abbrev dN:=@Go.wp_region_noPanic
abbrev dO:=@Go.wp_region_held_drew
abbrev dS:=@List.length_take
abbrev dY:=@Nat.zero_add
abbrev dZ:=@List.length_map
abbrev eJ:=@Go.RowKit.Below.mono
abbrev eT:=@List.length_pos_iff
abbrev fh:=@Nat.lt_or_ge
abbrev fD:=@Nat.le_succ
abbrev fH:=@List.map_cons
abbrev fS:=@List.take_length
abbrev fW:=@Go.wp_loop_once
abbrev gf:=@Nat.add_zero
abbrev il:=@Bool.and_eq_true
abbrev iB:=@Nat.mul_le_mul_right
abbrev iC:=@decide_eq_true_eq
abbrev iD:=@if_true
abbrev iE:=@Go.bodyPost_ret
abbrev iM:=@List.length_drop
abbrev iN:=@if_false
abbrev iY:=@Go.World.ownsRow_nil
abbrev iZ:=@List.getElem_map
abbrev je:=@List.mem_cons
abbrev jf:=@List.getD_eq_getElem?_getD
abbrev js:=@Nat.pow_pos
abbrev jD:=@List.take_of_length_le
abbrev jE:=@Nat.pow_add
abbrev jZ:=@Go.RowKit.Below.refl
abbrev j3:=@List.mem_map
abbrev j4:=@decide_eq_false_iff_not
abbrev kC:=@List.getElem?_eq_some_iff
abbrev kD:=@List.length_set
abbrev kU:=@Nat.add_assoc
abbrev lC:=@List.eq_nil_of_length_eq_zero
abbrev lD:=@Bool.and_eq_false_iff
abbrev lF:=@Bool.or_eq_false_iff
abbrev lG:=@List.map_map
abbrev lH:=@List.getElem_of_mem
abbrev lI:=@Bool.false_eq_true
abbrev lJ:=@Go.IntKind.wrap_i64
abbrev lK:=@Eq.symm
abbrev ml:=@List.append_nil
abbrev mn:=@Nat.add_mul
abbrev mo:=@List.flatten_cons
abbrev mq:=@Nat.pow_le_pow_right
abbrev mr:=@Go.wpAnyH_take
abbrev mU:=@Option.some.inj
abbrev mV:=@Int.natCast_mul
abbrev mW:=@List.pairwise_cons
abbrev nQ:=@List.append_assoc
abbrev nR:=@List.map_append
abbrev nS:=@List.all_eq_true
abbrev oH:=@Go.RowKit.Below.alloc
abbrev oI:=@Go.World.ownsRow.kept
abbrev pE:=@List.nil_append
abbrev pF:=@List.map_nil
abbrev pG:=@List.sum_cons
abbrev pH:=@Array.getElem?_toList
abbrev pI:=@Nat.le_of_lt
abbrev pJ:=@List.getElem?_toArray
abbrev pK:=@List.getElem?_cons_succ
abbrev pL:=@List.getElem?_cons_zero
abbrev qq:=@List.take_append_drop
abbrev qs:=@Nat.mul_comm
abbrev qu:=@Nat.min_eq_left
abbrev qw:=@Int.lt_trichotomy
abbrev qx:=@Int.neg_mul
abbrev qy:=@Go.wpAnyH_all
abbrev rM:=@Nat.mul_one
abbrev rN:=@Bool.true_and
abbrev rO:=@Nat.one_mul
abbrev rP:=@Option.getD_some
abbrev rQ:=@List.mem_of_mem_drop
abbrev tD:=@Array.getElem?_eq_none
abbrev tE:=@Go.World.ownsRow_made
abbrev tF:=@UInt8.toNat_inj
abbrev tG:=@List.mem_iff_getElem
abbrev tH:=@Decidable.byContradiction
abbrev tI:=@List.mem_append
abbrev tJ:=@beq_eq_false_iff_ne
abbrev tK:=@List.mem_cons_of_mem
abbrev tL:=@List.getElem?_map
abbrev tM:=@Array.getElem?_eq_some_iff
abbrev tN:=@Ne.symm
abbrev vC:=@List.sizeOf_lt_of_mem
abbrev vD:=@Go.cell_of_row
abbrev vE:=@Nat.pow_succ
abbrev vG:=@Go.World.cell?_of_block
abbrev vH:=@Nat.lt_log2_self
abbrev vI:=@Nat.mul_lt_mul_of_pos_right
abbrev vJ:=@Nat.mul_assoc
abbrev vK:=@List.mem_cons_self
abbrev vL:=@Bool.eq_false_or_eq_true
abbrev wX:=@Go.run_underlying
abbrev wY:=@List.getElem?_drop
abbrev wZ:=@List.not_mem_nil
abbrev w_:=@or_false
abbrev xa:=@Nat.lt_or_eq_of_le
abbrev xb:=@Nat.div_add_mod
abbrev yI:=@of_decide_eq_true
abbrev xd:=@Classical.choose_spec
abbrev yJ:=@Array.length_toList
abbrev yK:=@List.mem_singleton
abbrev yL:=@Int.toNat_natCast
abbrev yM:=@Nat.shiftLeft_eq
abbrev yN:=@Nat.mod_lt
abbrev yO:=@List.mem_of_getElem?
abbrev yP:=@List.mem_of_mem_take
abbrev Am:=@Go.RowKit.Below.drew
abbrev Ap:=@Go.RowKit.Below.heap_setCell
abbrev Aq:=@Nat.eq_zero_or_pos
abbrev Ar:=@Go.Sem.run_bind
abbrev Au:=@UInt8.toNat_ofNat'
abbrev Av:=@List.flatten_append
abbrev Aw:=@List.drop_eq_getElem_cons
abbrev Ay:=@List.length_eq_zero_iff
abbrev Az:=@Array.ext'
abbrev AA:=@List.getElem_take
abbrev AE:=@Nat.sub_self
abbrev AG:=@Nat.pow_zero
abbrev AH:=@Bool.toNat_false
abbrev AJ:=@UInt8.lt_iff_toNat_lt
abbrev CL:=@List.cons_append
abbrev CM:=@Go.Sem.run_pure
abbrev CN:=@Go.Result.andThen_ok
abbrev CO:=@List.map_attach_eq_pmap
abbrev CP:=@List.pmap_eq_map
abbrev CQ:=@ByteArray.ext
abbrev CS:=@Bool.false_ne_true
abbrev CT:=@List.sum_nil
abbrev CU:=@List.all_eq_false
abbrev CV:=@Nat.succ_mul
abbrev CW:=@List.getElem_cons_zero
abbrev CX:=@Nat.div_lt_iff_lt_mul
abbrev CY:=@Prod.ext_iff
abbrev CZ:=@Option.map_eq_some_iff
abbrev C0:=@List.mem_of_find?_eq_some
abbrev C2:=@Nat.and_two_pow_sub_one_eq_mod
abbrev C3:=@Go.wp_store_mid
abbrev C4:=@Go.DataW.trod_struct
abbrev C5:=@Go.DataW.agg.sizeOf_spec
abbrev Ff:=@Array.getElem?_modify
abbrev Fg:=@Bool.eq_iff_iff
abbrev Fh:=@Go.World.ownsRow.alloc
abbrev Fi:=@List.all_append
abbrev Fj:=@beq_iff_eq
abbrev Fk:=@List.length_flatten
abbrev Fl:=@List.length_singleton
abbrev Fm:=@Nat.lt_trans
abbrev Fp:=@Go.run_loadVar_row
abbrev Fq:=@List.getElem_cons_succ
abbrev Fs:=@Nat.div_one
abbrev Fu:=@Nat.mul_pos
abbrev Fv:=@Nat.pos_of_ne_zero
abbrev Fw:=@Nat.div_eq_of_lt
abbrev Fx:=@Nat.add_sub_cancel
abbrev Fy:=@List.take_zero
abbrev Fz:=@Nat.add_comm
abbrev FA:=@Nat.lt_trichotomy
abbrev FC:=@List.take_add_one
abbrev FE:=@Int.mul_lt_mul_of_pos_right
abbrev FH:=@Nat.min_eq_right
abbrev FI:=@List.getElem?_take
abbrev FJ:=@List.take_left'
abbrev FK:=@List.take_append_of_le_length
abbrev FL:=@List.mem_flatten
abbrev FM:=@List.pairwise_iff_getElem
abbrev FN:=@Go.DataW.trod_int
abbrev FO:=@Go.DataW.trod_string
abbrev J0:=@Go.heap_alloc_new
abbrev J1:=@List.set_cons_succ
abbrev J2:=@List.size_toArray
abbrev J3:=@Go.growslice_fits
abbrev J4:=@List.take_succ_eq_append_getElem
abbrev J5:=@List.foldl_cons
abbrev J6:=@List.flatten_nil
abbrev J7:=@Bool.or_eq_true
abbrev J8:=@Go.World.ownsRow.cells
abbrev J9:=@List.drop_of_length_le
abbrev J_:=@List.drop_eq_nil_of_le
abbrev Ka:=@List.drop_drop
abbrev Kb:=@List.sum_append
abbrev Kc:=@Nat.or_lt_two_pow
abbrev Ke:=@List.getElem?_append_left
abbrev Kf:=@Go.World.ownsRow.frozenAt
abbrev Kg:=@List.getElem_append_left
abbrev Kh:=@List.getElem?_eq_none
abbrev Ki:=@Nat.log2_self_le
abbrev Kj:=@Bool.toNat_true
abbrev Kk:=@Nat.testBit_two_pow
abbrev Kl:=@Go.IntKind.wrap_u8
abbrev Km:=@Go.MapKept.run_getObj_map
abbrev Kn:=@Option.bind_eq_some_iff
abbrev Ko:=@Go.Oper.upon_value
abbrev Kp:=@List.mem_range
abbrev Kq:=@Int.mul_le_mul_of_nonneg_right
abbrev Kr:=@Int.lt_or_eq_of_le
abbrev Ks:=@List.take_take
abbrev Kt:=@List.Perm.refl
abbrev Ku:=@List.filter_append
abbrev Kv:=@List.filter_nil
abbrev Kw:=@Option.map_some
abbrev NG:=@List.take_succ_cons
abbrev NH:=@Array.size_append
abbrev NI:=@Array.toList_append
abbrev NJ:=@Go.run_firstCells_some
abbrev NK:=@List.mem_map_of_mem
abbrev NL:=@List.nodup_append
abbrev NP:=@Bool.eq_false_iff
abbrev NQ:=@List.getElem?_append_right
abbrev NR:=@Nat.shiftLeft_zero
abbrev NT:=@Nat.mul_div_cancel
abbrev NU:=@Nat.le_div_iff_mul_le
abbrev NV:=@Nat.eq_of_testBit_eq
abbrev NW:=@Nat.testBit_lt_two_pow
abbrev NY:=@List.set_eq_take_append_cons_drop
abbrev NZ:=@List.getElem_drop
abbrev N0:=@List.drop_sublist
abbrev N1:=@List.forall_mem_cons
abbrev N2:=@List.mem_filterMap
abbrev N3:=@Nat.le_succ_of_le
abbrev N4:=@Array.setIfInBounds_comm
abbrev N5:=@Array.ext_getElem?
abbrev N6:=@List.any_eq_false
abbrev N7:=@List.setIfInBounds_toArray
abbrev N8:=@Go.Region.noSelect_spec
abbrev N9:=@Go.World.block_lt_of_cell?
theorem _root_.Go.RowKit.Hid.o{p:Prop}(h:Go.RowKit.Hid p):p:=h
theorem ak:(∀(a:Act) (d:Tmp) (v:Value), a.put (some d) v=⟨a.tmps.setIfInBounds d v, a.defers⟩)∧(∀(a:Act) (v:Value), a.put none v=a)∧(∀{α:Type} (l:List α) (i:Nat) (v:α), l.toArray.setIfInBounds i v=(l.set i v).toArray) ∧
    (∀{α:Type} (x y:α) (l:List α), (x::l).set 0 y=y::l)∧(∀{α:Type} (x y:α) (i:Nat) (l:List α), (x::l).set (i+1) y=x::l.set i y):=
  ⟨fun _ _ _=>rfl, fun _ _=>rfl, fun l i v=>List.setIfInBounds_toArray l i v, fun _ _ _=>rfl, fun _ _ _ _=>rfl⟩
theorem bR:(∀{α:Type} (x y:α), cond true x y=x)∧(∀{α:Type} (x y:α), cond false x y=y):=⟨fun _ _=>rfl, fun _ _=>rfl⟩
theorem bS(n:Nat)(h:0<n):∃g, n=g+1:=⟨n-1, by omega⟩
section
variable {P:Program} {ops:Array Oper} {Q:Exit→Act→World→Prop} {md:Region.Mode} {S:World→Prop}
theorem bt{o:Oper}{v:Value}{a:Act}(h:∀w, S w→(execOp a.eval o).run P w=.ok (.value v) w)(hw:Region.wanted o (yielded ops a.tmps)=true:=by rfl):YieldsIf P ops S o v a:=Or.inl ⟨hw, h⟩
theorem aj(i:Nat){oi:Oper}{v:Value}{fuel:Nat}{listed:Array Bool}{a:Act}{w:World}{l2:Array Bool}{a2:Act}(h:wpAnyH P md ops Q S fuel l2 a2 w)
    (hi:ops[i]?=some oi:=by simp only[List.getElem?_toArray, List.getElem?_cons_succ, List.getElem?_cons_zero];rfl) (hs:Region.noSelect ops=true:=by kernel_rfl) (hf:Region.free md ops listed i=true:=by kernel_rfl) (hr:(Region.ready md ops listed).contains i=true:=by kernel_rfl)
    (hQ:∀c a w, Q (.panic c) (a.put oi.dst v) w→Q (.panic c) a w:=by exact fun _ _ _ h=>h) (hy:YieldsIf P ops S oi v a:=by exact Or.inl ⟨by rfl, by intro w hSw;(try dsimp only at hSw);go_simp;try with_reducible rfl⟩) (hS:S w:=by assumption) (hl:listed.setIfInBounds i true=l2:=by first | (simp only[ak];rfl) | rfl) (ha:a.put oi.dst v=a2:=by first | (simp only[ak];rfl) | rfl):wpAnyH P md ops Q S (fuel+1) listed a w:=
  wpAnyH_take hi hs hf hr hQ hy hS (by rw[hl, ha];exact h)
theorem eK{fuel:Nat}{listed:Array Bool}{a:Act}{w:World}{i:Nat}{o:Oper}{rs:List Nat}
    (h:∀K':Act→World→Prop, Shut (∀a w, S w→(S w→wpAnyH P md ops Q S fuel (listed.setIfInBounds i true) a w)→K' a w)→if Region.wanted o (yielded ops a.tmps)=true then Oper.wp P o a w K' Q else K' (a.put o.dst undef) w)
    (hs:AllReadyH P md ops Q S fuel listed a w rs) (ho:ops[i]?=some o:=by simp only[List.getElem?_toArray, List.getElem?_cons_succ, List.getElem?_cons_zero];rfl):AllReadyH P md ops Q S fuel listed a w (i::rs):=AllReadyH.cons ho h hs
theorem eB(i:Nat){oi:Oper}{v:Value}{fuel:Nat}{listed:Array Bool}{a:Act}{w:World}{l2:Array Bool}{a2:Act}(h:wpAnyH P md ops Q S fuel l2 a2 w)
    (hi:ops[i]?=some oi:=by simp only[List.getElem?_toArray, List.getElem?_cons_succ, List.getElem?_cons_zero];rfl) (hs:Region.noSelect ops=true:=by kernel_rfl) (hf:Region.free md ops listed i=true:=by kernel_rfl) (hr:(Region.ready md ops listed).contains i=true:=by kernel_rfl)
    (hQ:∀c a w, Q (.panic c) (a.put oi.dst v) w→Q (.panic c) a w:=by exact fun _ _ _ h=>h) (hy:YieldsIf P ops S oi v a:=by exact Or.inl ⟨by rfl, by intro w hSw;(try dsimp only at hSw);(repeat (rcases hSw with ⟨_, hSw⟩));go_simp;try with_reducible rfl⟩) (hS:S w:=by assumption) (hl:listed.setIfInBounds i true=l2:=by first | (simp only[ak];rfl) | rfl) (ha:a.put oi.dst v=a2:=by first | (simp only[ak];rfl) | rfl):wpAnyH P md ops Q S (fuel+1) listed a w:=
  wpAnyH_take hi hs hf hr hQ hy hS (by rw[hl, ha];exact h)
theorem aJ(i:Nat){oi:Oper}{v:Value}{fuel:Nat}{listed:Array Bool}{a:Act}{w:World}{l2:Array Bool}{a2:Act}(h:wpAnyH P md ops Q S fuel l2 a2 w)
    (hi:ops[i]?=some oi:=by simp only[List.getElem?_toArray, List.getElem?_cons_succ, List.getElem?_cons_zero];rfl) (hs:Region.noSelect ops=true:=by kernel_rfl) (hf:Region.free md ops listed i=true:=by kernel_rfl) (hr:(Region.ready md ops listed).contains i=true:=by kernel_rfl)
    (hQ:∀c a w, Q (.panic c) (a.put oi.dst v) w→Q (.panic c) a w:=by exact fun _ _ _ h=>h) (hy:YieldsIf P ops S oi v a:=by exact Or.inl ⟨by rfl, by intro w hSw;clear hSw;go_simp;try with_reducible rfl⟩) (hS:S w:=by assumption) (hl:listed.setIfInBounds i true=l2:=by first | (simp only[ak];rfl) | rfl) (ha:a.put oi.dst v=a2:=by first | (simp only[ak];rfl) | rfl):wpAnyH P md ops Q S (fuel+1) listed a w:=
  wpAnyH_take hi hs hf hr hQ hy hS (by rw[hl, ha];exact h)
theorem aK(i:Nat){fuel:Nat}{listed:Array Bool}{a:Act}{w:World}{o:Oper}
    (h:∀K':Act→World→Prop, Shut (∀a w, S w→(S w→wpAnyH P md ops Q S fuel (listed.setIfInBounds i true) a w)→K' a w)→if Region.wanted o (yielded ops a.tmps)=true then Oper.wp P o a w K' Q else K' (a.put o.dst undef) w)
    (ho:ops[i]?=some o:=by simp only[List.getElem?_toArray, List.getElem?_cons_succ, List.getElem?_cons_zero];rfl) (hr:Region.ready md ops listed=[i]:=by kernel_rfl):wpAnyH P md ops Q S (fuel+1) listed a w:=wpAnyH_ready hr (by simp) (AllReadyH.cons ho h AllReadyH.nil)
theorem aU{K:Act→World→Prop}{i fuel:Nat}{listed l2:Array Bool}{a a2:Act}{w:World}(hK:Shut (∀a w, S w→(S w→wpAnyH P md ops Q S fuel (listed.setIfInBounds i true) a w)→K a w))(hS:S w)(h:S w→wpAnyH P md ops Q S fuel l2 a2 w)
    (hl:listed.setIfInBounds i true=l2:=by first | (simp only[ak];rfl) | rfl) (ha:a=a2:=by first | (simp only[ak];rfl) | rfl):K a w:=hK.out _ _ hS (by rw[hl, ha];exact h)
theorem bZ(rs:List Nat){fuel:Nat}{listed:Array Bool}{a:Act}{w:World}(h:AllReadyH P md ops Q S fuel listed a w rs)(hr:Region.ready md ops listed=rs:=by kernel_rfl)(hne:rs≠[]:=by simp):wpAnyH P md ops Q S (fuel+1) listed a w:=wpAnyH_ready hr hne h
theorem cz{fuel:Nat}{listed:Array Bool}{a:Act}{w:World}(h:Q .normal a w)(hr:Region.ready md ops listed=[]:=by kernel_rfl):wpAnyH P md ops (NoPanic Q) S fuel listed a w:=wpAnyH_done hr (NoPanic.normal h) _
end
end Go.Proofs.YtndjopkdbdcmdaaGreatDoor
