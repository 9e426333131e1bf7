/- The steps through a region that draws its order, in short words. No program in sight. -/
import Derived.Deep.RegionHeld3
import Derived.Below
set_option linter.unusedVariables false
namespace Go.Proofs.YtndjopkdbdcmdaaGreatDoor
abbrev ai:=@if_neg
abbrev ar:=@if_pos
abbrev av:=@Nat.le_refl
abbrev aS:=@Nat.zero_le
abbrev aU:=@List.length_cons
abbrev aY:=@List.getElem_mem
abbrev a_:=@Nat.le_trans
abbrev bl:=@Go.AllReadyH.cons
abbrev bn:=@List.length_nil
abbrev bD:=@List.length_append
abbrev cT:=@congrArg
abbrev bN:=@List.getElem?_eq_getElem
abbrev bO:=@Go.World.ownsRow.lt
abbrev bT:=@decide_eq_true
abbrev bY:=@decide_eq_false
abbrev bZ:=@Go.AllReadyH.nil
abbrev ct:=@Go.RowKit.Below.trans
abbrev cU:=@Nat.lt_of_lt_of_le
abbrev cY:=@List.length_map
abbrev cZ:=@Go.IntKind.wrap_i64
abbrev dg:=@Nat.zero_add
abbrev dh:=@Go.World.size_alloc
abbrev dH:=@Nat.lt_or_ge
abbrev dN:=@Go.wp_region_noPanic
abbrev dO:=@Go.wp_region_held_drew
abbrev ez:=@Go.RowKit.Below.mono
abbrev eD:=@List.length_take
abbrev eF:=@List.length_pos_iff
abbrev eW:=@List.map_cons
abbrev fg:=@Nat.le_succ
abbrev fC:=@List.take_length
abbrev fF:=@Nat.add_zero
abbrev fQ:=@Go.wp_loop_once
abbrev gK:=@Go.bodyPost_ret
abbrev gV:=@Bool.and_eq_true
abbrev iu:=@Nat.mul_le_mul_right
abbrev iw:=@List.mem_cons
abbrev iy:=@decide_eq_true_eq
abbrev iH:=@Go.World.ownsRow_nil
abbrev iI:=@List.length_drop
abbrev iJ:=@if_false
abbrev iK:=@if_true
abbrev jb:=@List.getElem_map
abbrev jn:=@Nat.pow_pos
abbrev jx:=@List.mem_map
abbrev jy:=@Nat.pow_add
abbrev jz:=@List.pairwise_cons
abbrev jM:=@Nat.add_mul
abbrev jN:=@List.getD_eq_getElem?_getD
abbrev jO:=@decide_eq_false_iff_not
abbrev j3:=@Go.RowKit.Below.refl
abbrev j4:=@List.eq_nil_of_length_eq_zero
abbrev j5:=@List.length_set
abbrev kE:=@List.getElem?_eq_some_iff
abbrev kG:=@List.map_map
abbrev kH:=@List.getElem_of_mem
abbrev lg:=@Nat.pow_le_pow_right
abbrev lh:=@Nat.add_assoc
abbrev lj:=@Bool.and_eq_false_iff
abbrev ll:=@Bool.or_eq_false_iff
abbrev ln:=@Bool.false_eq_true
abbrev lq:=@Eq.symm
abbrev lZ:=@List.map_append
abbrev l5:=@List.flatten_cons
abbrev mD:=@List.append_nil
abbrev mE:=@List.append_assoc
abbrev mF:=@List.nil_append
abbrev mG:=@Int.natCast_mul
abbrev mZ:=@List.map_nil
abbrev ng:=@Nat.one_mul
abbrev ni:=@Option.getD_some
abbrev nT:=@Go.RowKit.Below.alloc
abbrev nU:=@List.all_eq_true
abbrev nV:=@Go.World.ownsRow.kept
abbrev nW:=@Nat.mul_comm
abbrev nY:=@List.mem_cons_self
abbrev pc:=@List.sum_cons
abbrev pd:=@Option.some.inj
abbrev pg:=@Array.getElem?_toList
abbrev pj:=@beq_eq_false_iff_ne
abbrev pk:=@Nat.le_of_lt
abbrev pn:=@Array.getElem?_eq_some_iff
abbrev pq:=@Go.wpAnyH_take
abbrev pU:=@List.take_append_drop
abbrev pV:=@List.take_of_length_le
abbrev pW:=@Nat.min_eq_left
abbrev pX:=@List.mem_cons_of_mem
abbrev pY:=@Int.neg_mul
abbrev pZ:=@Go.wpAnyH_all
abbrev qT:=@Nat.mul_one
abbrev qU:=@Go.World.ownsRow_made
abbrev qV:=@List.mem_append
abbrev qW:=@Nat.mul_assoc
abbrev qX:=@List.getElem?_map
abbrev qY:=@List.mem_of_mem_drop
abbrev sI:=@UInt8.toNat_inj
abbrev sJ:=@List.mem_iff_getElem
abbrev sK:=@Bool.true_and
abbrev sM:=@Nat.div_add_mod
abbrev sN:=@Ne.symm
abbrev uK:=@List.sizeOf_lt_of_mem
abbrev uL:=@Array.getElem?_eq_none
abbrev uM:=@Go.cell_of_row
abbrev uN:=@Nat.eq_zero_or_pos
abbrev uO:=@Nat.pow_succ
abbrev uP:=@List.mem_singleton
abbrev uQ:=@Go.World.cell?_of_block
abbrev uR:=@Nat.lt_log2_self
abbrev uS:=@Nat.mul_lt_mul_of_pos_right
abbrev uT:=@Nat.mod_lt
abbrev uU:=@Bool.eq_false_or_eq_true
abbrev uV:=@List.getElem?_toArray
abbrev uW:=@List.getElem?_cons_succ
abbrev uX:=@List.getElem?_cons_zero
abbrev wB:=@Go.run_underlying
abbrev wC:=@List.getElem?_drop
abbrev wD:=@List.not_mem_nil
abbrev wE:=@or_false
abbrev wF:=@Nat.lt_or_eq_of_le
abbrev wG:=@Nat.add_sub_cancel
abbrev wH:=@Classical.choose_spec
abbrev ye:=@Array.length_toList
abbrev yf:=@UInt8.toNat_ofNat'
abbrev yg:=@List.drop_eq_getElem_cons
abbrev yh:=@Array.ext'
abbrev yi:=@Decidable.byContradiction
abbrev yj:=@Nat.sub_self
abbrev yl:=@Int.toNat_natCast
abbrev ym:=@Nat.shiftLeft_eq
abbrev zL:=@of_decide_eq_true
abbrev yn:=@List.mem_of_getElem?
abbrev yo:=@Int.lt_trichotomy
abbrev yq:=@List.mem_of_mem_take
abbrev zM:=@Go.RowKit.Below.drew
abbrev zN:=@List.cons_append
abbrev zO:=@Go.Sem.run_bind
abbrev zP:=@List.flatten_append
abbrev zQ:=@List.length_eq_zero_iff
abbrev zR:=@Nat.div_lt_iff_lt_mul
abbrev zS:=@Nat.pow_zero
abbrev zT:=@Bool.toNat_false
abbrev zU:=@Prod.ext_iff
abbrev zV:=@UInt8.lt_iff_toNat_lt
abbrev zW:=@Go.DataW.trod_struct
abbrev zX:=@Go.DataW.trod_string
abbrev BX:=@Array.getElem?_modify
abbrev BZ:=@Go.Sem.run_pure
abbrev B0:=@Go.Result.andThen_ok
abbrev B6:=@List.map_attach_eq_pmap
abbrev B_:=@List.pmap_eq_map
abbrev Ca:=@ByteArray.ext
abbrev Cb:=@List.getElem_take
abbrev Ce:=@Bool.false_ne_true
abbrev Cf:=@List.sum_nil
abbrev Cg:=@List.all_eq_false
abbrev Ch:=@Nat.succ_mul
abbrev Ci:=@List.getElem_cons_zero
abbrev Cj:=@Nat.div_eq_of_lt
abbrev Ck:=@Option.map_eq_some_iff
abbrev Cl:=@List.mem_of_find?_eq_some
abbrev Cm:=@List.take_add_one
abbrev Cn:=@List.getElem?_take
abbrev Cq:=@List.pairwise_iff_getElem
abbrev Cr:=@List.Perm.refl
abbrev Cs:=@Nat.and_two_pow_sub_one_eq_mod
abbrev Ct:=@Go.DataW.agg.sizeOf_spec
abbrev EA:=@Go.RowKit.Below.heap_setCell
abbrev EB:=@Bool.eq_iff_iff
abbrev EC:=@Go.World.ownsRow.alloc
abbrev ED:=@Go.World.ownsRow.cells
abbrev EE:=@List.all_append
abbrev EF:=@beq_iff_eq
abbrev EG:=@List.length_flatten
abbrev EH:=@Go.World.ownsRow.frozenAt
abbrev EI:=@Nat.lt_trans
abbrev EJ:=@Go.run_loadVar_row
abbrev EK:=@List.getElem?_eq_none
abbrev EL:=@List.getElem_cons_succ
abbrev EM:=@Nat.div_one
abbrev EO:=@Nat.mul_pos
abbrev EP:=@Nat.pos_of_ne_zero
abbrev ER:=@List.take_zero
abbrev ES:=@Nat.add_comm
abbrev ET:=@Nat.lt_trichotomy
abbrev EU:=@Int.mul_lt_mul_of_pos_right
abbrev EW:=@List.take_left'
abbrev EX:=@List.mem_flatten
abbrev EY:=@Go.DataW.trod_int
abbrev Jd:=@Go.heap_alloc_new
abbrev Je:=@List.set_cons_succ
abbrev Jf:=@List.size_toArray
abbrev Jg:=@Go.growslice_fits
abbrev Jh:=@List.take_succ_eq_append_getElem
abbrev Ji:=@List.foldl_cons
abbrev Jj:=@List.flatten_nil
abbrev Jk:=@Bool.or_eq_true
abbrev Jl:=@List.drop_eq_nil_of_le
abbrev Jm:=@List.drop_drop
abbrev Jn:=@List.sum_append
abbrev Jo:=@Nat.or_lt_two_pow
abbrev Jp:=@List.getElem?_append_left
abbrev Jq:=@List.getElem_append_left
abbrev Jr:=@Nat.log2_self_le
abbrev Js:=@Bool.toNat_true
abbrev Jt:=@Nat.eq_of_testBit_eq
abbrev Ju:=@Nat.testBit_two_pow
abbrev Jv:=@Nat.testBit_lt_two_pow
abbrev Jw:=@Go.IntKind.wrap_u8
abbrev Jx:=@Go.MapKept.run_getObj_map
abbrev Jy:=@List.getElem_drop
abbrev Jz:=@Option.bind_eq_some_iff
abbrev JA:=@Go.Oper.upon_value
abbrev JB:=@Nat.min_eq_right
abbrev JC:=@List.mem_range
abbrev JD:=@Int.mul_le_mul_of_nonneg_right
abbrev JE:=@Int.lt_or_eq_of_le
abbrev JF:=@List.mem_filterMap
abbrev JG:=@Option.map_some
abbrev MK:=@List.take_succ_cons
abbrev ML:=@Array.size_append
abbrev MM:=@Array.toList_append
abbrev MN:=@Go.run_firstCells_some
abbrev MO:=@List.nodup_append
abbrev MP:=@Bool.eq_false_iff
abbrev MQ:=@List.getElem?_append_right
abbrev MR:=@List.length_singleton
abbrev MS:=@List.getElem_append_right
abbrev MT:=@Nat.shiftLeft_zero
abbrev MU:=@Nat.mul_div_cancel
abbrev MV:=@Nat.le_div_iff_mul_le
abbrev MW:=@List.set_append_right
abbrev MX:=@List.set_cons_zero
abbrev MZ:=@Nat.lt_succ_iff_lt_or_eq
abbrev M0:=@List.set_eq_take_append_cons_drop
abbrev M3:=@List.drop_sublist
abbrev M4:=@List.forall_mem_cons
abbrev M5:=@Nat.le_succ_of_le
abbrev M6:=@Array.setIfInBounds_comm
abbrev M7:=@List.length_filterMap_le
abbrev M8:=@List.any_eq_false
abbrev M9:=@List.setIfInBounds_toArray
abbrev M_:=@Go.Region.noSelect_spec
abbrev Na:=@Go.World.block_lt_of_cell?
theorem _root_.Go.RowKit.Hid.o{p:Prop}(h:Go.RowKit.Hid p):p:=h
theorem ak:(∀(a:Act) (d:Tmp) (v:Value), a.put (some d) v=⟨a.tmps.setIfInBounds d v, a.defers⟩)∧(∀(a:Act) (v:Value), a.put none v=a)∧(∀{α:Type} (l:List α) (i:Nat) (v:α), l.toArray.setIfInBounds i v=(l.set i v).toArray) ∧
    (∀{α:Type} (x y:α) (l:List α), (x::l).set 0 y=y::l)∧(∀{α:Type} (x y:α) (i:Nat) (l:List α), (x::l).set (i+1) y=x::l.set i y):=
  ⟨fun _ _ _=>rfl, fun _ _=>rfl, fun l i v=>List.setIfInBounds_toArray l i v, fun _ _ _=>rfl, fun _ _ _ _=>rfl⟩
theorem gL:(∀{α:Type} (x y:α), cond true x y=x)∧(∀{α:Type} (x y:α), cond false x y=y):=⟨fun _ _=>rfl, fun _ _=>rfl⟩
theorem bP(n:Nat)(h:0<n):∃g, n=g+1:=⟨n-1, by omega⟩
section
variable {P:Program} {ops:Array Oper} {Q:Exit→Act→World→Prop} {md:Region.Mode} {S:World→Prop}
theorem bj{o:Oper}{v:Value}{a:Act}(h:∀w, S w→(execOp a.eval o).run P w=.ok (.value v) w)(hw:Region.wanted o (yielded ops a.tmps)=true:=by rfl):YieldsIf P ops S o v a:=Or.inl ⟨hw, h⟩
theorem aj(i:Nat){oi:Oper}{v:Value}{fuel:Nat}{listed:Array Bool}{a:Act}{w:World}{l2:Array Bool}{a2:Act}(h:wpAnyH P md ops Q S fuel l2 a2 w)
    (hi:ops[i]?=some oi:=by simp only[List.getElem?_toArray, List.getElem?_cons_succ, List.getElem?_cons_zero];rfl) (hs:Region.noSelect ops=true:=by kernel_rfl) (hf:Region.free md ops listed i=true:=by kernel_rfl) (hr:(Region.ready md ops listed).contains i=true:=by kernel_rfl)
    (hQ:∀c a w, Q (.panic c) (a.put oi.dst v) w→Q (.panic c) a w:=by exact fun _ _ _ h=>h) (hy:YieldsIf P ops S oi v a:=by exact Or.inl ⟨by rfl, by intro w hSw;(try dsimp only at hSw);go_simp;try with_reducible rfl⟩) (hS:S w:=by assumption) (hl:listed.setIfInBounds i true=l2:=by first | (simp only[ak];rfl) | rfl) (ha:a.put oi.dst v=a2:=by first | (simp only[ak];rfl) | rfl):wpAnyH P md ops Q S (fuel+1) listed a w:=
  wpAnyH_take hi hs hf hr hQ hy hS (by rw[hl, ha];exact h)
theorem iz{fuel:Nat}{listed:Array Bool}{a:Act}{w:World}{i:Nat}{o:Oper}{rs:List Nat}
    (h:∀K':Act→World→Prop, Shut (∀a w, S w→(S w→wpAnyH P md ops Q S fuel (listed.setIfInBounds i true) a w)→K' a w)→if Region.wanted o (yielded ops a.tmps)=true then Oper.wp P o a w K' Q else K' (a.put o.dst undef) w)
    (hs:AllReadyH P md ops Q S fuel listed a w rs) (ho:ops[i]?=some o:=by simp only[List.getElem?_toArray, List.getElem?_cons_succ, List.getElem?_cons_zero];rfl):AllReadyH P md ops Q S fuel listed a w (i::rs):=AllReadyH.cons ho h hs
theorem gW(i:Nat){oi:Oper}{v:Value}{fuel:Nat}{listed:Array Bool}{a:Act}{w:World}{l2:Array Bool}{a2:Act}(h:wpAnyH P md ops Q S fuel l2 a2 w)
    (hi:ops[i]?=some oi:=by simp only[List.getElem?_toArray, List.getElem?_cons_succ, List.getElem?_cons_zero];rfl) (hs:Region.noSelect ops=true:=by kernel_rfl) (hf:Region.free md ops listed i=true:=by kernel_rfl) (hr:(Region.ready md ops listed).contains i=true:=by kernel_rfl)
    (hQ:∀c a w, Q (.panic c) (a.put oi.dst v) w→Q (.panic c) a w:=by exact fun _ _ _ h=>h) (hy:YieldsIf P ops S oi v a:=by exact Or.inl ⟨by rfl, by intro w hSw;(try dsimp only at hSw);(repeat (rcases hSw with ⟨_, hSw⟩));go_simp;try with_reducible rfl⟩) (hS:S w:=by assumption) (hl:listed.setIfInBounds i true=l2:=by first | (simp only[ak];rfl) | rfl) (ha:a.put oi.dst v=a2:=by first | (simp only[ak];rfl) | rfl):wpAnyH P md ops Q S (fuel+1) listed a w:=
  wpAnyH_take hi hs hf hr hQ hy hS (by rw[hl, ha];exact h)
theorem aK(i:Nat){oi:Oper}{v:Value}{fuel:Nat}{listed:Array Bool}{a:Act}{w:World}{l2:Array Bool}{a2:Act}(h:wpAnyH P md ops Q S fuel l2 a2 w)
    (hi:ops[i]?=some oi:=by simp only[List.getElem?_toArray, List.getElem?_cons_succ, List.getElem?_cons_zero];rfl) (hs:Region.noSelect ops=true:=by kernel_rfl) (hf:Region.free md ops listed i=true:=by kernel_rfl) (hr:(Region.ready md ops listed).contains i=true:=by kernel_rfl)
    (hQ:∀c a w, Q (.panic c) (a.put oi.dst v) w→Q (.panic c) a w:=by exact fun _ _ _ h=>h) (hy:YieldsIf P ops S oi v a:=by exact Or.inl ⟨by rfl, by intro w hSw;clear hSw;go_simp;try with_reducible rfl⟩) (hS:S w:=by assumption) (hl:listed.setIfInBounds i true=l2:=by first | (simp only[ak];rfl) | rfl) (ha:a.put oi.dst v=a2:=by first | (simp only[ak];rfl) | rfl):wpAnyH P md ops Q S (fuel+1) listed a w:=
  wpAnyH_take hi hs hf hr hQ hy hS (by rw[hl, ha];exact h)
theorem aR(i:Nat){fuel:Nat}{listed:Array Bool}{a:Act}{w:World}{o:Oper}
    (h:∀K':Act→World→Prop, Shut (∀a w, S w→(S w→wpAnyH P md ops Q S fuel (listed.setIfInBounds i true) a w)→K' a w)→if Region.wanted o (yielded ops a.tmps)=true then Oper.wp P o a w K' Q else K' (a.put o.dst undef) w)
    (ho:ops[i]?=some o:=by simp only[List.getElem?_toArray, List.getElem?_cons_succ, List.getElem?_cons_zero];rfl) (hr:Region.ready md ops listed=[i]:=by kernel_rfl):wpAnyH P md ops Q S (fuel+1) listed a w:=wpAnyH_ready hr (by simp) (AllReadyH.cons ho h AllReadyH.nil)
theorem aV{K:Act→World→Prop}{i fuel:Nat}{listed l2:Array Bool}{a a2:Act}{w:World}(hK:Shut (∀a w, S w→(S w→wpAnyH P md ops Q S fuel (listed.setIfInBounds i true) a w)→K a w))(hS:S w)(h:S w→wpAnyH P md ops Q S fuel l2 a2 w)
    (hl:listed.setIfInBounds i true=l2:=by first | (simp only[ak];rfl) | rfl) (ha:a=a2:=by first | (simp only[ak];rfl) | rfl):K a w:=hK.out _ _ hS (by rw[hl, ha];exact h)
theorem b_(rs:List Nat){fuel:Nat}{listed:Array Bool}{a:Act}{w:World}(h:AllReadyH P md ops Q S fuel listed a w rs)(hr:Region.ready md ops listed=rs:=by kernel_rfl)(hne:rs≠[]:=by simp):wpAnyH P md ops Q S (fuel+1) listed a w:=wpAnyH_ready hr hne h
theorem cz{fuel:Nat}{listed:Array Bool}{a:Act}{w:World}(h:Q .normal a w)(hr:Region.ready md ops listed=[]:=by kernel_rfl):wpAnyH P md ops (NoPanic Q) S fuel listed a w:=wpAnyH_done hr (NoPanic.normal h) _
end
end Go.Proofs.YtndjopkdbdcmdaaGreatDoor
