/- The steps through a region that draws its order, in short words. No program in sight. -/
import Derived.Deep.RegionHeld3
import Derived.Below
set_option linter.unusedVariables false
namespace Go.Proofs.YtndjopkdbdcmdaaGreatDoor
variable {K:Act→World→Prop}{a a2:Act}{fuel i:Nat}{l2 listed:Array Bool}{oi:Oper}{v:Value}{w:World}
abbrev ak:=@if_neg
abbrev au:=@Nat.le_refl
abbrev aD:=@if_pos
abbrev aR:=@Nat.zero_le
abbrev aS:=@List.getElem_mem
abbrev aU:=@List.length_cons
abbrev aV:=@Nat.le_trans
abbrev bp:=@List.length_append
abbrev bG:=@Nat.lt_of_lt_of_le
abbrev bH:=@List.getElem?_eq_getElem
abbrev bJ:=@Go.World.ownsRow.lt
abbrev bT:=@List.length_nil
abbrev dJ:=@congrArg
abbrev cj:=@decide_eq_true
abbrev cm:=@decide_eq_false
abbrev cJ:=@Go.RowKit.Below.trans
abbrev cW:=@Go.wp_region_held_drew
abbrev df:=@Go.IntKind.wrap_i64
abbrev dg:=@Go.wp_region_noPanic
abbrev dE:=@List.length_map
abbrev dM:=@Go.AllReadyH.nil
abbrev dU:=@List.length_take
abbrev ei:=@Go.World.size_alloc
abbrev eo:=@Nat.zero_add
abbrev eD:=@List.length_pos_iff
abbrev eO:=@Go.RowKit.Below.mono
abbrev fg:=@Go.AllReadyH.cons
abbrev fJ:=@Nat.le_succ
abbrev fN:=@List.map_cons
abbrev fT:=@List.take_length
abbrev fX:=@Nat.add_zero
abbrev fZ:=@Go.wp_loop_once
abbrev gp:=@Nat.lt_or_ge
abbrev gq:=@Nat.mul_le_mul_right
abbrev gy:=@List.getD_eq_getElem?_getD
abbrev gV:=@Go.bodyPost_ret
abbrev gW:=@List.length_set
abbrev ig:=@Bool.and_eq_true
abbrev iw:=@List.length_drop
abbrev iy:=@decide_eq_true_eq
abbrev iO:=@List.getElem_map
abbrev jb:=@Go.World.ownsRow_nil
abbrev jc:=@if_false
abbrev jd:=@List.getElem?_eq_some_iff
abbrev je:=@Go.wpAnyH_take
abbrev jH:=@Go.RowKit.Below.refl
abbrev jI:=@List.mem_cons
abbrev ki:=@Nat.add_mul
abbrev kQ:=@Nat.pow_pos
abbrev kR:=@List.getElem?_toArray
abbrev kT:=@List.getElem?_cons_succ
abbrev kU:=@List.getElem?_cons_zero
abbrev lu:=@Nat.add_assoc
abbrev ly:=@if_true
abbrev lC:=@decide_eq_false_iff_not
abbrev l5:=@List.eq_nil_of_length_eq_zero
abbrev l7:=@List.map_append
abbrev l8:=@List.flatten_cons
abbrev l_:=@Bool.and_eq_false_iff
abbrev ma:=@List.map_map
abbrev mf:=@Nat.pow_add
abbrev mI:=@List.mem_map
abbrev nu:=@of_decide_eq_true
abbrev nv:=@List.append_assoc
abbrev ny:=@Nat.pow_le_pow_right
abbrev nz:=@Bool.or_eq_false_iff
abbrev nC:=@Array.getElem?_toList
abbrev nD:=@Bool.false_eq_true
abbrev nW:=@List.map_nil
abbrev nY:=@List.all_eq_true
abbrev nZ:=@Option.some.inj
abbrev n_:=@Nat.one_mul
abbrev oY:=@Go.RowKit.Below.alloc
abbrev oZ:=@List.append_nil
abbrev o_:=@Go.World.ownsRow.kept
abbrev pc:=@Bool.true_and
abbrev pd:=@beq_eq_false_iff_ne
abbrev pj:=@Nat.min_eq_left
abbrev pq:=@Option.getD_some
abbrev px:=@Eq.symm
abbrev ql:=@List.nil_append
abbrev qm:=@List.sum_cons
abbrev qo:=@List.mem_append
abbrev qp:=@Nat.le_of_lt
abbrev qq:=@Array.getElem?_eq_some_iff
abbrev rz:=@List.mem_singleton
abbrev rB:=@List.take_of_length_le
abbrev rC:=@Go.wpAnyH_all
abbrev sN:=@Array.getElem?_eq_none
abbrev sO:=@List.take_append_drop
abbrev sP:=@Nat.mul_one
abbrev sQ:=@List.getElem_of_mem
abbrev sS:=@List.getElem?_map
abbrev sU:=@Int.natCast_mul
abbrev ux:=@List.mem_iff_getElem
abbrev uy:=@Go.World.cell?_of_block
abbrev uz:=@Nat.succ_mul
abbrev uA:=@List.mem_of_mem_drop
abbrev uB:=@Ne.symm
abbrev wh:=@List.sizeOf_lt_of_mem
abbrev wj:=@Go.run_underlying
abbrev wu:=@List.not_mem_nil
abbrev wB:=@or_false
abbrev wC:=@Nat.mul_assoc
abbrev wD:=@Int.lt_trichotomy
abbrev xI:=@Array.length_toList
abbrev xJ:=@List.flatten_append
abbrev xK:=@Go.World.ownsRow_made
abbrev xL:=@Nat.mul_comm
abbrev xM:=@Nat.mul_lt_mul_of_pos_right
abbrev xN:=@Nat.lt_or_eq_of_le
abbrev xO:=@Int.neg_mul
abbrev xP:=@Classical.choose_spec
abbrev yX:=@List.drop_eq_getElem_cons
abbrev yY:=@Array.ext'
abbrev yZ:=@UInt8.toNat_inj
abbrev y9:=@List.getElem?_drop
abbrev y_:=@Nat.sub_self
abbrev za:=@Nat.shiftLeft_eq
abbrev zb:=@Nat.lt_log2_self
abbrev AO:=@Go.RowKit.Below.drew
abbrev AP:=@Go.cell_of_row
abbrev AQ:=@Array.getElem?_modify
abbrev AR:=@List.cons_append
abbrev AU:=@Nat.eq_zero_or_pos
abbrev AV:=@Go.Sem.run_bind
abbrev AW:=@List.length_eq_zero_iff
abbrev AX:=@Nat.pow_succ
abbrev AY:=@Decidable.byContradiction
abbrev A_:=@Int.toNat_natCast
abbrev Ba:=@Bool.toNat_false
abbrev Bb:=@Nat.mod_lt
abbrev Bc:=@Prod.ext_iff
abbrev Bd:=@Nat.add_sub_cancel
abbrev Be:=@List.mem_of_getElem?
abbrev Bf:=@UInt8.lt_iff_toNat_lt
abbrev Bg:=@List.mem_of_mem_take
abbrev Bh:=@cond_true
abbrev Bi:=@cond_false
abbrev C_:=@Go.RowKit.Below.heap_setCell
abbrev Da:=@Go.Sem.run_pure
abbrev Db:=@Go.Result.andThen_ok
abbrev Dc:=@UInt8.toNat_ofNat'
abbrev Dd:=@List.map_attach_eq_pmap
abbrev De:=@List.pmap_eq_map
abbrev Df:=@List.getElem?_take
abbrev Dg:=@ByteArray.ext
abbrev Dh:=@Bool.false_ne_true
abbrev Di:=@List.sum_nil
abbrev Dj:=@List.all_eq_false
abbrev Dk:=@Nat.mul_pos
abbrev Dl:=@Nat.div_add_mod
abbrev Dm:=@Bool.eq_false_or_eq_true
abbrev Dn:=@Nat.and_two_pow_sub_one_eq_mod
abbrev Dp:=@Go.DataW.trod_struct
abbrev Dq:=@Go.DataW.agg.sizeOf_spec
abbrev Dr:=@Go.DataW.trod_string
abbrev Fz:=@List.flatten_nil
abbrev FA:=@Bool.eq_iff_iff
abbrev FC:=@Go.World.ownsRow.alloc
abbrev FE:=@Go.World.ownsRow.cells
abbrev FH:=@List.all_append
abbrev FI:=@beq_iff_eq
abbrev FJ:=@List.length_flatten
abbrev FK:=@Nat.zero_mul
abbrev FL:=@Go.World.ownsRow.frozenAt
abbrev FM:=@List.length_singleton
abbrev FN:=@List.getElem_cons_zero
abbrev FO:=@Nat.lt_trans
abbrev FP:=@Go.run_loadVar_row
abbrev FQ:=@List.getElem?_eq_none
abbrev FR:=@Nat.pow_zero
abbrev FT:=@List.take_zero
abbrev FU:=@Nat.add_comm
abbrev FV:=@Option.map_eq_some_iff
abbrev FW:=@List.mem_of_find?_eq_some
abbrev FX:=@Bool.false_and
abbrev FY:=@Nat.min_eq_right
abbrev FZ:=@List.take_take
abbrev F3:=@List.mem_flatten
abbrev F4:=@Decidable.em
abbrev F5:=@Go.DataW.trod_int
abbrev J0:=@Go.heap_alloc_new
abbrev J1:=@List.set_cons_succ
abbrev J2:=@List.take_succ_eq_append_getElem
abbrev J3:=@Bool.or_eq_true
abbrev J4:=@List.drop_of_length_le
abbrev J5:=@List.getElem_take
abbrev J6:=@List.drop_drop
abbrev J7:=@Bool.eq_false_iff
abbrev J8:=@List.sum_append
abbrev J9:=@Nat.or_lt_two_pow
abbrev J_:=@List.getElem?_append_left
abbrev Ka:=@List.getElem?_append_right
abbrev Kb:=@List.getElem_append_left
abbrev Kc:=@List.getElem_cons_succ
abbrev Ke:=@Bool.toNat_true
abbrev Kf:=@Nat.div_eq_of_lt
abbrev Kg:=@Nat.eq_of_testBit_eq
abbrev Kh:=@Nat.testBit_two_pow
abbrev Ki:=@Nat.lt_trichotomy
abbrev Kj:=@Nat.testBit_lt_two_pow
abbrev Kk:=@Go.IntKind.wrap_u8
abbrev Kl:=@Go.MapKept.run_getObj_map
abbrev Km:=@List.mem_cons_self
abbrev Kn:=@Go.Oper.upon_value
abbrev Ko:=@Nat.mul_le_mul
abbrev Kp:=@List.take_append_of_le_length
abbrev Kq:=@List.pairwise_cons
abbrev Kr:=@Nat.le_succ_of_le
abbrev Ks:=@List.getElem?_set_self
abbrev Kt:=@Option.map_some
abbrev NP:=@List.take_succ_cons
abbrev NQ:=@List.size_toArray
abbrev NR:=@List.drop_eq_nil_of_le
abbrev NT:=@List.nodup_append
abbrev NU:=@List.getElem_append_right
abbrev NV:=@Nat.shiftLeft_zero
abbrev NW:=@Nat.div_lt_iff_lt_mul
abbrev NY:=@Nat.pos_of_ne_zero
abbrev NZ:=@Nat.mul_div_cancel
abbrev N0:=@List.mem_cons_of_mem
abbrev N1:=@List.set_append_right
abbrev N2:=@List.set_cons_zero
abbrev N3:=@List.getElem_drop
abbrev N4:=@Nat.lt_succ_iff_lt_or_eq
abbrev N5:=@List.take_add_one
abbrev N6:=@Int.mul_lt_mul_of_pos_right
abbrev N7:=@Nat.mul_le_mul_left
abbrev N8:=@Int.lt_or_eq_of_le
abbrev N9:=@List.pairwise_iff_getElem
abbrev N_:=@List.pairwise_append
abbrev Oa:=@List.drop_sublist
abbrev Ob:=@List.set_getElem_self
abbrev Oc:=@Array.setIfInBounds_comm
abbrev Od:=@Array.ext_getElem?
abbrev Oe:=@List.setIfInBounds_toArray
abbrev Og:=@Go.Region.noSelect_spec
abbrev Oh:=@Go.World.block_lt_of_cell?
abbrev Vo:=@List.set_eq_take_append_cons_drop
theorem _root_.Go.RowKit.Hid.o{p:Prop}(h:Go.RowKit.Hid p):p:=h
theorem aH:(∀(a:Act) (d:Tmp) (v:Value), a.put (some d) v=⟨a.tmps.setIfInBounds d v, a.defers⟩)∧(∀(a:Act) (v:Value), a.put none v=a)∧(∀{α:Type} (l:List α) (i:Nat) (v:α), l.toArray.setIfInBounds i v=(l.set i v).toArray) ∧
    (∀{α:Type} (x y:α) (l:List α), (x::l).set 0 y=y::l)∧(∀{α:Type} (x y:α) (i:Nat) (l:List α), (x::l).set (i+1) y=x::l.set i y):=
  ⟨fun _ _ _=>rfl, fun _ _=>rfl, fun l i v=>List.setIfInBounds_toArray l i v, fun _ _ _=>rfl, fun _ _ _ _=>rfl⟩
theorem gz:(∀{α:Type} (x y:α), cond true x y=x)∧(∀{α:Type} (x y:α), cond false x y=y):=⟨fun _ _=>rfl, fun _ _=>rfl⟩
theorem bz(n:Nat)(h:0<n):∃g, n=g+1:=⟨n-1, by omega⟩
section
variable {P:Program} {ops:Array Oper} {Q:Exit→Act→World→Prop} {md:Region.Mode} {S:World→Prop}
theorem bU{o:Oper}(h:∀w, S w→(execOp a.eval o).run P w=.ok (.value v) w)(hw:Region.wanted o (yielded ops a.tmps)=true:=by rfl):YieldsIf P ops S o v a:=Or.inl ⟨hw, h⟩
theorem ai(i:Nat)(h:wpAnyH P md ops Q S fuel l2 a2 w)
    (hi:ops[i]?=some oi:=by simp only[List.getElem?_toArray, List.getElem?_cons_succ, List.getElem?_cons_zero];rfl) (hs:Region.noSelect ops=true:=by kernel_rfl) (hf:Region.free md ops listed i=true:=by kernel_rfl) (hr:(Region.ready md ops listed).contains i=true:=by kernel_rfl)
    (hQ:∀c a w, Q (.panic c) (a.put oi.dst v) w→Q (.panic c) a w:=by exact fun _ _ _ h=>h) (hy:YieldsIf P ops S oi v a:=by exact Or.inl ⟨by rfl, by intro w hSw;(try dsimp only at hSw);go_simp;try with_reducible rfl⟩) (hS:S w:=by assumption) (hl:listed.setIfInBounds i true=l2:=by first | (simp only[aH];rfl) | rfl) (ha:a.put oi.dst v=a2:=by first | (simp only[aH];rfl) | rfl):wpAnyH P md ops Q S (fuel+1) listed a w:=
  wpAnyH_take hi hs hf hr hQ hy hS (by rw[hl, ha];exact h)
theorem fC{o:Oper}{rs:List Nat}
    (h:∀K':Act→World→Prop, Shut (∀a w, S w→(S w→wpAnyH P md ops Q S fuel (listed.setIfInBounds i true) a w)→K' a w)→if Region.wanted o (yielded ops a.tmps)=true then Oper.wp P o a w K' Q else K' (a.put o.dst undef) w)
    (hs:AllReadyH P md ops Q S fuel listed a w rs) (ho:ops[i]?=some o:=by simp only[List.getElem?_toArray, List.getElem?_cons_succ, List.getElem?_cons_zero];rfl):AllReadyH P md ops Q S fuel listed a w (i::rs):=AllReadyH.cons ho h hs
theorem cO(i:Nat)(h:wpAnyH P md ops Q S fuel l2 a2 w)
    (hi:ops[i]?=some oi:=by simp only[List.getElem?_toArray, List.getElem?_cons_succ, List.getElem?_cons_zero];rfl) (hs:Region.noSelect ops=true:=by kernel_rfl) (hf:Region.free md ops listed i=true:=by kernel_rfl) (hr:(Region.ready md ops listed).contains i=true:=by kernel_rfl)
    (hQ:∀c a w, Q (.panic c) (a.put oi.dst v) w→Q (.panic c) a w:=by exact fun _ _ _ h=>h) (hy:YieldsIf P ops S oi v a:=by exact Or.inl ⟨by rfl, by intro w hSw;(try dsimp only at hSw);(repeat (rcases hSw with ⟨_, hSw⟩));go_simp;try with_reducible rfl⟩) (hS:S w:=by assumption) (hl:listed.setIfInBounds i true=l2:=by first | (simp only[aH];rfl) | rfl) (ha:a.put oi.dst v=a2:=by first | (simp only[aH];rfl) | rfl):wpAnyH P md ops Q S (fuel+1) listed a w:=
  wpAnyH_take hi hs hf hr hQ hy hS (by rw[hl, ha];exact h)
theorem aZ(i:Nat)(h:wpAnyH P md ops Q S fuel l2 a2 w)
    (hi:ops[i]?=some oi:=by simp only[List.getElem?_toArray, List.getElem?_cons_succ, List.getElem?_cons_zero];rfl) (hs:Region.noSelect ops=true:=by kernel_rfl) (hf:Region.free md ops listed i=true:=by kernel_rfl) (hr:(Region.ready md ops listed).contains i=true:=by kernel_rfl)
    (hQ:∀c a w, Q (.panic c) (a.put oi.dst v) w→Q (.panic c) a w:=by exact fun _ _ _ h=>h) (hy:YieldsIf P ops S oi v a:=by exact Or.inl ⟨by rfl, by intro w hSw;clear hSw;go_simp;try with_reducible rfl⟩) (hS:S w:=by assumption) (hl:listed.setIfInBounds i true=l2:=by first | (simp only[aH];rfl) | rfl) (ha:a.put oi.dst v=a2:=by first | (simp only[aH];rfl) | rfl):wpAnyH P md ops Q S (fuel+1) listed a w:=
  wpAnyH_take hi hs hf hr hQ hy hS (by rw[hl, ha];exact h)
theorem aK(i:Nat){o:Oper}
    (h:∀K':Act→World→Prop, Shut (∀a w, S w→(S w→wpAnyH P md ops Q S fuel (listed.setIfInBounds i true) a w)→K' a w)→if Region.wanted o (yielded ops a.tmps)=true then Oper.wp P o a w K' Q else K' (a.put o.dst undef) w)
    (ho:ops[i]?=some o:=by simp only[List.getElem?_toArray, List.getElem?_cons_succ, List.getElem?_cons_zero];rfl) (hr:Region.ready md ops listed=[i]:=by kernel_rfl):wpAnyH P md ops Q S (fuel+1) listed a w:=wpAnyH_ready hr (by simp) (AllReadyH.cons ho h AllReadyH.nil)
theorem aT(hK:Shut (∀a w, S w→(S w→wpAnyH P md ops Q S fuel (listed.setIfInBounds i true) a w)→K a w))(hS:S w)(h:S w→wpAnyH P md ops Q S fuel l2 a2 w)
    (hl:listed.setIfInBounds i true=l2:=by first | (simp only[aH];rfl) | rfl) (ha:a=a2:=by first | (simp only[aH];rfl) | rfl):K a w:=hK.out _ _ hS (by rw[hl, ha];exact h)
theorem bC(rs:List Nat)(h:AllReadyH P md ops Q S fuel listed a w rs)(hr:Region.ready md ops listed=rs:=by kernel_rfl)(hne:rs≠[]:=by simp):wpAnyH P md ops Q S (fuel+1) listed a w:=wpAnyH_ready hr hne h
theorem cG(h:Q .normal a w)(hr:Region.ready md ops listed=[]:=by kernel_rfl):wpAnyH P md ops (NoPanic Q) S fuel listed a w:=wpAnyH_done hr (NoPanic.normal h) _
end
end Go.Proofs.YtndjopkdbdcmdaaGreatDoor
