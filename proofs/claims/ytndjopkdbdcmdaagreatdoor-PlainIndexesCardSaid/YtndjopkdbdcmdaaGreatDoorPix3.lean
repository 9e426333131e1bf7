/- Part 3 of the proof of pindexes_card. -/
import Derived.Test.YtndjopkdbdcmdaaGreatDoorPix1
import Derived.Shelf.RegionOpenPlain
import Derived.Shelf.Spec.SlicesInsert
import Derived.Laws.Externs
import Derived.Lib.SliceRun
set_option linter.unusedVariables false
set_option linter.unusedSimpArgs false
set_option maxRecDepth 100000
set_option maxHeartbeats 12800000
namespace Go.Proofs.YtndjopkdbdcmdaaGreatDoor
section
open Go.RowKit Go.Shelf
section
variable {P : Program}
theorem step_append_runI {ops : Array Oper} {o : Oper} {a : Act} {w : World} {K : Act → World → Prop} {Q : Exit → Act → World → Prop} {E : Prop}
 (hg : o.guard = none) (d x : Operand) (dT sT : TypeId) (hop : o.op = Op.call { callee := Callee.builtin Builtin.append,args := #[d,x],argTypes := #[dT,sT] })
 (v u : Value) (hd : a.eval d = v) (hx : a.eval x = u) {v' : Value} {w' : World} (hr : (Builtin.append_ #[dT,sT] o.type #[v,u]).run P w = .ok v' w') (hK : K (a.put o.dst v') w') :
 if Region.wanted o (yielded ops a.tmps) = true then Oper.wp P o a w K Q else E := by
 have hw : Region.wanted o (yielded ops a.tmps) = true := by simp [Region.wanted,hg]
 rw [if_pos hw];unfold Oper.wp;simp [execOp,hop,resolve,invoke,builtin,hd,hx,hr,Result.andThen];exact hK
end
theorem gb_drew {w w' : World} {r : Option Nat} (h : w.drew.grownBy w' r) : w.grownBy w' r := ⟨h.os,h.tape,h.output,h.size,h.block⟩
theorem ret_sl {A : Option Addr} {m n c : Nat} (h : m = n) : Ending.returned (.slice A m c) = .returned (.slice A n c) := by rw [h]
theorem underC : Tryz.prog.underlying 42 = some (.slice 48) := by kernel_rfl
theorem infoC : (Tryz.prog.info? 48).map (fun i => (i.zero,i.size,i.bytes)) = some (some (.agg #[.string ⟨#[]⟩,.slice none 0 0,.slice none 0 0]),3,64) := by kernel_rfl
theorem cloneC_any (n : Nat) (A : Option Addr) (cap : Nat) (news : List Value) (w : World) (hr : Reads (AtW w 0 w.heap.size) 3 A n news) (h1 : ∀ u ∈ news,u.oneCell' = true) (hn : n ≤ 1000000000000) :
 Calls Tryz.prog 38 #[.slice A n cap] w fun e w' => ∃ A' c',e = .returned (.slice A' n c') ∧ w'.ownsRow w.heap.size 48 3 (.slice A' n c') n news ∧ Grow w w' := by
 rcases A with _ | a
 ·have h0 : n = 0 := by
   rcases Nat.eq_zero_or_pos n with h | h
   ·exact h
   obtain ⟨bk,o,e,_⟩ := hr.2 h;cases e
  subst h0;have hx : news = [] := List.eq_nil_of_length_eq_zero (by simpa using hr.1);subst hx;have he := fun w => Lib.run_eql_slice_nil (P := Tryz.prog) w 42 48 none 0 cap 0 0 underC
  go_enter Tryz.func38,Tryz.ntmps38;go_wp2_with fail;go_ret;exact ⟨none,0,rfl,World.ownsRow_nil _ _ _ _,Grow.refl w⟩
 obtain ⟨i0,hi0,hz0,hz1,hz2⟩ := info_parts infoC;have Hi0 := hide hi0;have Hz0 := hide hz0;have Hz1 := hide hz1;have Hz2 := hide hz2;have HS := hide (Src.ofReads (P := Tryz.prog) (c := cap) underC (Reads.mono (AtW.below ((Grow.refl w).alloc (.cells #[] 48)).below (Nat.le_refl _) (Nat.le_refl _) (Nat.le_refl _)) hr) h1);have he := fun w => Lib.run_eql_slice_nil (P := Tryz.prog) w 42 48 (some a) n cap 0 0 underC
 clear hr h1 hi0 hz0 hz1 hz2;go_enter Tryz.func38,Tryz.ntmps38;go_wp2_with (at_builtin;refine wpList_append_src rfl (.tmp 5) (.tmp 6) 42 42 rfl w.heap.size 48 i0 _ 3 64 underC Hi0.out Hz0.out Hz1.out Hz2.out rfl (.slice (some ⟨w.heap.size,0,none⟩) 0 0) 0 [] rfl (World.ownsRow_made w #[] 0 (Nat.le_refl _) (by simp [maxLen]) rfl) _ n news rfl HS.out (by omega) (by simp only [maxLen];omega) (by simp) ?_;intro A3 c3 w3 hown3 hgr3 hat3;rw [Nat.zero_add,List.nil_append] at hown3;have HO3 := hide hown3;have HG3 := hide (((Grow.refl w).alloc (.cells #[] 48)).grown hgr3 (fun k hk => by have hk2 : w.heap.size = k := (by simpa [Value.ownBlock] using hk);omega));clear hown3 hgr3 hat3);go_ret;exact ⟨A3,c3,ret_sl (by omega),HO3.out,HG3.out⟩
theorem deleteC_any (base n i c : Nat) (A : Option Addr) (xs : List Value) (w : World) (h1 : ∀ u ∈ xs,u.oneCell' = true) (hown : w.ownsRow base 48 3 (.slice A n c) n xs) (hi : i < n) (hn : n ≤ 1000000000000) :
 Calls Tryz.prog 118 #[.slice A n c,.int .i64 i,.int .i64 ((i : Int) + 1)] w fun e w' => e = .returned (.slice A (n - 1 : Nat) c) ∧ w'.ownsRow base 48 3 (.slice A (n - 1) c) (n - 1) (xs.take (i * 3) ++ xs.drop ((i + 1) * 3)) ∧ w.grownBy w' (Value.ownBlock (.slice A n c)) := by
 obtain ⟨g,cur,rfl,hb,hg,hnc,hcm,hcs,ht,hl⟩ := own_open hown (by omega);have HOWN := hide hown;have hm1 : (i + 1) * 3 ≤ n * 3 := Nat.mul_le_mul_right _ hi;have hm2 : n * 3 ≤ c * 3 := Nat.mul_le_mul_right _ hnc;have hcm2 : c ≤ 9223372036854775807 := by unfold maxLen at hcm;omega
 have hdl : (xs.drop ((i + 1) * 3)).length = n * 3 - (i + 1) * 3 := by rw [List.length_drop,hl]
 have hsz : ∀ (W : World),W.heap[g]? = some (.cells cur 48 (0,0)) → ∀ ty,∀ (a : Addr) (m cc : Nat),m = n - (i + 1) → (0 < m → a = ⟨g,(i + 1) * 3,none⟩) → (Builtin.append_ #[42,42] ty #[.slice (some ⟨g,0,none⟩) i c,.slice (some a) m cc]).run Tryz.prog W = .ok (.slice (some ⟨g,0,none⟩) (n - 1) c) (W.setCells g (i * 3) (xs.drop ((i + 1) * 3))) := fun W hW ty a m cc hm ha => by
  obtain ⟨i0,hi0,hz0,hz1,hz2⟩ := info_parts infoC;have hs : Src Tryz.prog i0.size 42 (.slice (some a) m cc) m (xs.drop ((i + 1) * 3)) W := by
   rw [hz1];refine Src.ofSlice W underC a m cc _ (by rw [hdl,hm];omega) (fun j u hu => ?_) (fun u hu => h1 u (List.mem_of_mem_drop hu));have hj : j < (xs.drop ((i + 1) * 3)).length := (List.getElem?_eq_some_iff.1 hu).1;rw [ha (by omega),add_lit];rw [List.getElem?_drop] at hu;exact own_cell hW ht _ u hu
  have h := run_append_room_src (P := Tryz.prog) W 42 42 ty 48 i0 underC hi0 g 0 i c (.slice (some a) m cc) m _ hs (by omega)
   (fun j hj => (own_cells hW _ (by rw [hz1];omega)).1) (fun j hj => (own_cells hW _ (by rw [hz1];omega)).2)
  rw [hz1,Nat.zero_add,show i + m = n - 1 by omega] at h;exact h
 have HAP := hide hsz;obtain ⟨W1,hW1⟩ : ∃ W1,w.drew.setCells g (i * 3) (xs.drop ((i + 1) * 3)) = W1 := ⟨_,rfl⟩;obtain ⟨c1,hg1,hs1,-⟩ := own_set (w := w.drew) (o := i * 3) hg (xs.drop ((i + 1) * 3)) (by rw [hdl,hcs];omega);rw [hW1] at hg1;have hcl : ∀ ty cc,(Builtin.clear_ #[42] ty #[.slice (some ⟨g,(n - 1) * 3,none⟩) 1 cc]).run Tryz.prog W1 = .ok (.tuple #[]) (W1.setCells g ((n - 1) * 3) [.string ⟨#[]⟩,.slice none 0 0,.slice none 0 0]) := fun ty cc =>
  run_clear_one W1 42 48 ty (.agg #[.string ⟨#[]⟩,.slice none 0 0,.slice none 0 0]) [.string ⟨#[]⟩,.slice none 0 0,.slice none 0 0] underC (fun _ => rfl) rfl (by simp [Value.oneCell']) g _ cc
   (fun j hj => (own_cells hg1 _ (by rw [hs1,hcs];simp at hj;omega)).1) (fun j hj => (own_cells hg1 _ (by rw [hs1,hcs];simp at hj;omega)).2)
 have HCL := hide hcl;have HFIN := hide (show (W1.setCells g ((n - 1) * 3) [.string ⟨#[]⟩,.slice none 0 0,.slice none 0 0]).ownsRow base 48 3 (.slice (some ⟨g,0,none⟩) (n - 1) c) (n - 1) (xs.take (i * 3) ++ xs.drop ((i + 1) * 3)) by
  rw [← hW1];exact own_delete (w := w.drew) hown i hi rfl)
 have HGR := hide (show w.grownBy (W1.setCells g ((n - 1) * 3) [.string ⟨#[]⟩,.slice none 0 0,.slice none 0 0]) (some g) by
  rw [← hW1];exact gb_drew (World.grownBy.trans (setCells_grown g _ rfl _ w.drew _) (setCells_grown g _ rfl _ _ _)))
 have HW1 := hide hW1;have HG := hide (show w.drew.heap[g]? = some (.cells cur 48 (0,0)) from hg);clear hown hsz hcl hg hg1 hs1 hW1 ht hl hdl hcs hcm h1 hm1 hm2;have hw1 : IntKind.i64.wrap ((i : Int) + 1) = (i : Int) + 1 := by rw [IntKind.wrap_i64];omega
 have hb1 : (0 : Int) ≤ (i : Int) + 1 := by omega
 have htn : ((i : Int) + 1).toNat = i + 1 := by omega
 have hij : ((i : Int) == (i : Int) + 1) = false := by simp only [beq_eq_false_iff_ne,ne_eq];omega
 have hcn : ¬ c = n - 1 := by omega
 have hA1 : (i : Int) ≤ (i : Int) + 1 := by omega
 have hA2 : i ≤ c := by omega
 have hA3 : (i : Int) + 1 ≤ (n : Int) := by omega
 by_cases hci : c = i + 1
 ·subst hci;obtain rfl : n = i + 1 := by omega
  simp only [Nat.add_sub_cancel] at HAP HCL HFIN HGR hcn ⊢;have hl2 : i + 1 - i = 1 := by omega
  go_enter Tryz.func118,Tryz.ntmps118;go_wp2_with fail;refine wp_region_noPanic ?_;refine wp_region_held_drew (S := fun _ => True) (by kernel_rfl) (trivial) (fun hHeld => ?_);refine tk_ 0 ?_;refine tk_ 1 ?_;refine tk_ 2 ?_;refine tk_ 3 ?_;refine tk_ 4 ?_;refine tk_ 5 ?_;refine r1_ 6 (fun K hK => ?_);refine step_append_runI (by rfl) (.tmp 22) (.tmp 25) 42 42 (by rfl) _ _ (by rfl) (by rfl) (HAP.out _ HG.out _ ⟨g,0,none⟩ 0 0 (by omega) (fun _ => by first | rfl | omega)) ?_;rw [HW1.out];refine hK.out _ _ trivial (fun hHeld => ?_);clear hK K
  try simp only [ly_]
  refine tk_ 7 ?_;refine dn_ ?_;have hcl := HCL.out;go_wp2_with fail;go_ret;exact ⟨rfl,HFIN.out,HGR.out⟩
 go_enter Tryz.func118,Tryz.ntmps118;go_wp2_with fail;refine wp_region_noPanic ?_;refine wp_region_held_drew (S := fun _ => True) (by kernel_rfl) (trivial) (fun hHeld => ?_);refine tk_ 0 ?_;refine tk_ 1 ?_;refine tk_ 2 ?_;refine tk_ 3 ?_;refine tk_ 4 ?_;refine tk_ 5 ?_;refine r1_ 6 (fun K hK => ?_);refine step_append_runI (by rfl) (.tmp 22) (.tmp 25) 42 42 (by rfl) _ _ (by rfl) (by rfl) (HAP.out _ HG.out _ ⟨g,(i + 1) * 3,none⟩ (n - (i + 1)) (c - (i + 1)) (by omega) (fun _ => by first | rfl | omega)) ?_;rw [HW1.out];refine hK.out _ _ trivial (fun hHeld => ?_);clear hK K
 try simp only [ly_]
 refine tk_ 7 ?_;refine dn_ ?_;have hcl := HCL.out;have hl1 : n - (n - 1) = 1 := by omega
 go_wp2_with fail;go_ret;exact ⟨rfl,HFIN.out,HGR.out⟩
theorem underX : Tryz.prog.underlying 46 = some (.slice 64) := by kernel_rfl
theorem infoX : (Tryz.prog.info? 64).map (fun i => (i.zero,i.size,i.bytes)) = some (some (.agg #[.string ⟨#[]⟩,.string ⟨#[]⟩,.bool false]),3,40) := by kernel_rfl
theorem cloneX_any (n : Nat) (A : Option Addr) (cap : Nat) (news : List Value) (w : World) (hr : Reads (AtW w 0 w.heap.size) 3 A n news) (h1 : ∀ u ∈ news,u.oneCell' = true) (hn : n ≤ 1000000000000) :
 Calls Tryz.prog 40 #[.slice A n cap] w fun e w' => ∃ A' c',e = .returned (.slice A' n c') ∧ w'.ownsRow w.heap.size 64 3 (.slice A' n c') n news ∧ Grow w w' := by
 rcases A with _ | a
 ·have h0 : n = 0 := by
   rcases Nat.eq_zero_or_pos n with h | h
   ·exact h
   obtain ⟨bk,o,e,_⟩ := hr.2 h;cases e
  subst h0;have hx : news = [] := List.eq_nil_of_length_eq_zero (by simpa using hr.1);subst hx;have he := fun w => Lib.run_eql_slice_nil (P := Tryz.prog) w 46 64 none 0 cap 0 0 underX
  go_enter Tryz.func40,Tryz.ntmps40;go_wp2_with fail;go_ret;exact ⟨none,0,rfl,World.ownsRow_nil _ _ _ _,Grow.refl w⟩
 obtain ⟨i0,hi0,hz0,hz1,hz2⟩ := info_parts infoX;have Hi0 := hide hi0;have Hz0 := hide hz0;have Hz1 := hide hz1;have Hz2 := hide hz2;have HS := hide (Src.ofReads (P := Tryz.prog) (c := cap) underX (Reads.mono (AtW.below ((Grow.refl w).alloc (.cells #[] 64)).below (Nat.le_refl _) (Nat.le_refl _) (Nat.le_refl _)) hr) h1);have he := fun w => Lib.run_eql_slice_nil (P := Tryz.prog) w 46 64 (some a) n cap 0 0 underX
 clear hr h1 hi0 hz0 hz1 hz2;go_enter Tryz.func40,Tryz.ntmps40;go_wp2_with (at_builtin;refine wpList_append_src rfl (.tmp 5) (.tmp 6) 46 46 rfl w.heap.size 64 i0 _ 3 40 underX Hi0.out Hz0.out Hz1.out Hz2.out rfl (.slice (some ⟨w.heap.size,0,none⟩) 0 0) 0 [] rfl (World.ownsRow_made w #[] 0 (Nat.le_refl _) (by simp [maxLen]) rfl) _ n news rfl HS.out (by omega) (by simp only [maxLen];omega) (by simp) ?_;intro A3 c3 w3 hown3 hgr3 hat3;rw [Nat.zero_add,List.nil_append] at hown3;have HO3 := hide hown3;have HG3 := hide (((Grow.refl w).alloc (.cells #[] 64)).grown hgr3 (fun k hk => by have hk2 : w.heap.size = k := (by simpa [Value.ownBlock] using hk);omega));clear hown3 hgr3 hat3);go_ret;exact ⟨A3,c3,ret_sl (by omega),HO3.out,HG3.out⟩
theorem deleteX_any (base n i c : Nat) (A : Option Addr) (xs : List Value) (w : World) (h1 : ∀ u ∈ xs,u.oneCell' = true) (hown : w.ownsRow base 64 3 (.slice A n c) n xs) (hi : i < n) (hn : n ≤ 1000000000000) :
 Calls Tryz.prog 127 #[.slice A n c,.int .i64 i,.int .i64 ((i : Int) + 1)] w fun e w' => e = .returned (.slice A (n - 1 : Nat) c) ∧ w'.ownsRow base 64 3 (.slice A (n - 1) c) (n - 1) (xs.take (i * 3) ++ xs.drop ((i + 1) * 3)) ∧ w.grownBy w' (Value.ownBlock (.slice A n c)) := by
 obtain ⟨g,cur,rfl,hb,hg,hnc,hcm,hcs,ht,hl⟩ := own_open hown (by omega);have HOWN := hide hown;have hm1 : (i + 1) * 3 ≤ n * 3 := Nat.mul_le_mul_right _ hi;have hm2 : n * 3 ≤ c * 3 := Nat.mul_le_mul_right _ hnc;have hcm2 : c ≤ 9223372036854775807 := by unfold maxLen at hcm;omega
 have hdl : (xs.drop ((i + 1) * 3)).length = n * 3 - (i + 1) * 3 := by rw [List.length_drop,hl]
 have hsz : ∀ (W : World),W.heap[g]? = some (.cells cur 64 (0,0)) → ∀ ty,∀ (a : Addr) (m cc : Nat),m = n - (i + 1) → (0 < m → a = ⟨g,(i + 1) * 3,none⟩) → (Builtin.append_ #[46,46] ty #[.slice (some ⟨g,0,none⟩) i c,.slice (some a) m cc]).run Tryz.prog W = .ok (.slice (some ⟨g,0,none⟩) (n - 1) c) (W.setCells g (i * 3) (xs.drop ((i + 1) * 3))) := fun W hW ty a m cc hm ha => by
  obtain ⟨i0,hi0,hz0,hz1,hz2⟩ := info_parts infoX;have hs : Src Tryz.prog i0.size 46 (.slice (some a) m cc) m (xs.drop ((i + 1) * 3)) W := by
   rw [hz1];refine Src.ofSlice W underX a m cc _ (by rw [hdl,hm];omega) (fun j u hu => ?_) (fun u hu => h1 u (List.mem_of_mem_drop hu));have hj : j < (xs.drop ((i + 1) * 3)).length := (List.getElem?_eq_some_iff.1 hu).1;rw [ha (by omega),add_lit];rw [List.getElem?_drop] at hu;exact own_cell hW ht _ u hu
  have h := run_append_room_src (P := Tryz.prog) W 46 46 ty 64 i0 underX hi0 g 0 i c (.slice (some a) m cc) m _ hs (by omega)
   (fun j hj => (own_cells hW _ (by rw [hz1];omega)).1) (fun j hj => (own_cells hW _ (by rw [hz1];omega)).2)
  rw [hz1,Nat.zero_add,show i + m = n - 1 by omega] at h;exact h
 have HAP := hide hsz;obtain ⟨W1,hW1⟩ : ∃ W1,w.drew.setCells g (i * 3) (xs.drop ((i + 1) * 3)) = W1 := ⟨_,rfl⟩;obtain ⟨c1,hg1,hs1,-⟩ := own_set (w := w.drew) (o := i * 3) hg (xs.drop ((i + 1) * 3)) (by rw [hdl,hcs];omega);rw [hW1] at hg1;have hcl : ∀ ty cc,(Builtin.clear_ #[46] ty #[.slice (some ⟨g,(n - 1) * 3,none⟩) 1 cc]).run Tryz.prog W1 = .ok (.tuple #[]) (W1.setCells g ((n - 1) * 3) [.string ⟨#[]⟩,.string ⟨#[]⟩,.bool false]) := fun ty cc =>
  run_clear_one W1 46 64 ty (.agg #[.string ⟨#[]⟩,.string ⟨#[]⟩,.bool false]) [.string ⟨#[]⟩,.string ⟨#[]⟩,.bool false] underX (fun _ => rfl) rfl (by simp [Value.oneCell']) g _ cc
   (fun j hj => (own_cells hg1 _ (by rw [hs1,hcs];simp at hj;omega)).1) (fun j hj => (own_cells hg1 _ (by rw [hs1,hcs];simp at hj;omega)).2)
 have HCL := hide hcl;have HFIN := hide (show (W1.setCells g ((n - 1) * 3) [.string ⟨#[]⟩,.string ⟨#[]⟩,.bool false]).ownsRow base 64 3 (.slice (some ⟨g,0,none⟩) (n - 1) c) (n - 1) (xs.take (i * 3) ++ xs.drop ((i + 1) * 3)) by
  rw [← hW1];exact own_delete (w := w.drew) hown i hi rfl)
 have HGR := hide (show w.grownBy (W1.setCells g ((n - 1) * 3) [.string ⟨#[]⟩,.string ⟨#[]⟩,.bool false]) (some g) by
  rw [← hW1];exact gb_drew (World.grownBy.trans (setCells_grown g _ rfl _ w.drew _) (setCells_grown g _ rfl _ _ _)))
 have HW1 := hide hW1;have HG := hide (show w.drew.heap[g]? = some (.cells cur 64 (0,0)) from hg);clear hown hsz hcl hg hg1 hs1 hW1 ht hl hdl hcs hcm h1 hm1 hm2;have hw1 : IntKind.i64.wrap ((i : Int) + 1) = (i : Int) + 1 := by rw [IntKind.wrap_i64];omega
 have hb1 : (0 : Int) ≤ (i : Int) + 1 := by omega
 have htn : ((i : Int) + 1).toNat = i + 1 := by omega
 have hij : ((i : Int) == (i : Int) + 1) = false := by simp only [beq_eq_false_iff_ne,ne_eq];omega
 have hcn : ¬ c = n - 1 := by omega
 have hA1 : (i : Int) ≤ (i : Int) + 1 := by omega
 have hA2 : i ≤ c := by omega
 have hA3 : (i : Int) + 1 ≤ (n : Int) := by omega
 by_cases hci : c = i + 1
 ·subst hci;obtain rfl : n = i + 1 := by omega
  simp only [Nat.add_sub_cancel] at HAP HCL HFIN HGR hcn ⊢;have hl2 : i + 1 - i = 1 := by omega
  go_enter Tryz.func127,Tryz.ntmps127;go_wp2_with fail;refine wp_region_noPanic ?_;refine wp_region_held_drew (S := fun _ => True) (by kernel_rfl) (trivial) (fun hHeld => ?_);refine tk_ 0 ?_;refine tk_ 1 ?_;refine tk_ 2 ?_;refine tk_ 3 ?_;refine tk_ 4 ?_;refine tk_ 5 ?_;refine r1_ 6 (fun K hK => ?_);refine step_append_runI (by rfl) (.tmp 22) (.tmp 25) 46 46 (by rfl) _ _ (by rfl) (by rfl) (HAP.out _ HG.out _ ⟨g,0,none⟩ 0 0 (by omega) (fun _ => by first | rfl | omega)) ?_;rw [HW1.out];refine hK.out _ _ trivial (fun hHeld => ?_);clear hK K
  try simp only [ly_]
  refine tk_ 7 ?_;refine dn_ ?_;have hcl := HCL.out;go_wp2_with fail;go_ret;exact ⟨rfl,HFIN.out,HGR.out⟩
 go_enter Tryz.func127,Tryz.ntmps127;go_wp2_with fail;refine wp_region_noPanic ?_;refine wp_region_held_drew (S := fun _ => True) (by kernel_rfl) (trivial) (fun hHeld => ?_);refine tk_ 0 ?_;refine tk_ 1 ?_;refine tk_ 2 ?_;refine tk_ 3 ?_;refine tk_ 4 ?_;refine tk_ 5 ?_;refine r1_ 6 (fun K hK => ?_);refine step_append_runI (by rfl) (.tmp 22) (.tmp 25) 46 46 (by rfl) _ _ (by rfl) (by rfl) (HAP.out _ HG.out _ ⟨g,(i + 1) * 3,none⟩ (n - (i + 1)) (c - (i + 1)) (by omega) (fun _ => by first | rfl | omega)) ?_;rw [HW1.out];refine hK.out _ _ trivial (fun hHeld => ?_);clear hK K
 try simp only [ly_]
 refine tk_ 7 ?_;refine dn_ ?_;have hcl := HCL.out;have hl1 : n - (n - 1) = 1 := by omega
 go_wp2_with fail;go_ret;exact ⟨rfl,HFIN.out,HGR.out⟩
theorem underV : Tryz.prog.underlying 24 = some (.slice 27) := by kernel_rfl
theorem infoV : (Tryz.prog.info? 27).map (fun i => (i.zero,i.size,i.bytes)) = some (some (.agg #[.int .i64 0,.int .u64 0,.slice none 0 0,.slice none 0 0,.slice none 0 0]),5,88) := by kernel_rfl
theorem cloneV_any (n : Nat) (A : Option Addr) (cap : Nat) (news : List Value) (w : World) (hr : Reads (AtW w 0 w.heap.size) 5 A n news) (h1 : ∀ u ∈ news,u.oneCell' = true) (hn : n ≤ 1000000000000) :
 Calls Tryz.prog 39 #[.slice A n cap] w fun e w' => ∃ A' c',e = .returned (.slice A' n c') ∧ w'.ownsRow w.heap.size 27 5 (.slice A' n c') n news ∧ Grow w w' := by
 rcases A with _ | a
 ·have h0 : n = 0 := by
   rcases Nat.eq_zero_or_pos n with h | h
   ·exact h
   obtain ⟨bk,o,e,_⟩ := hr.2 h;cases e
  subst h0;have hx : news = [] := List.eq_nil_of_length_eq_zero (by simpa using hr.1);subst hx;have he := fun w => Lib.run_eql_slice_nil (P := Tryz.prog) w 24 27 none 0 cap 0 0 underV
  go_enter Tryz.func39,Tryz.ntmps39;go_wp2_with fail;go_ret;exact ⟨none,0,rfl,World.ownsRow_nil _ _ _ _,Grow.refl w⟩
 obtain ⟨i0,hi0,hz0,hz1,hz2⟩ := info_parts infoV;have Hi0 := hide hi0;have Hz0 := hide hz0;have Hz1 := hide hz1;have Hz2 := hide hz2;have HS := hide (Src.ofReads (P := Tryz.prog) (c := cap) underV (Reads.mono (AtW.below ((Grow.refl w).alloc (.cells #[] 27)).below (Nat.le_refl _) (Nat.le_refl _) (Nat.le_refl _)) hr) h1);have he := fun w => Lib.run_eql_slice_nil (P := Tryz.prog) w 24 27 (some a) n cap 0 0 underV
 clear hr h1 hi0 hz0 hz1 hz2;go_enter Tryz.func39,Tryz.ntmps39;go_wp2_with (at_builtin;refine wpList_append_src rfl (.tmp 5) (.tmp 6) 24 24 rfl w.heap.size 27 i0 _ 5 88 underV Hi0.out Hz0.out Hz1.out Hz2.out rfl (.slice (some ⟨w.heap.size,0,none⟩) 0 0) 0 [] rfl (World.ownsRow_made w #[] 0 (Nat.le_refl _) (by simp [maxLen]) rfl) _ n news rfl HS.out (by omega) (by simp only [maxLen];omega) (by simp) ?_;intro A3 c3 w3 hown3 hgr3 hat3;rw [Nat.zero_add,List.nil_append] at hown3;have HO3 := hide hown3;have HG3 := hide (((Grow.refl w).alloc (.cells #[] 27)).grown hgr3 (fun k hk => by have hk2 : w.heap.size = k := (by simpa [Value.ownBlock] using hk);omega));clear hown3 hgr3 hat3);go_ret;exact ⟨A3,c3,ret_sl (by omega),HO3.out,HG3.out⟩
theorem deleteV_any (base n i c : Nat) (A : Option Addr) (xs : List Value) (w : World) (h1 : ∀ u ∈ xs,u.oneCell' = true) (hown : w.ownsRow base 27 5 (.slice A n c) n xs) (hi : i < n) (hn : n ≤ 1000000000000) :
 Calls Tryz.prog 124 #[.slice A n c,.int .i64 i,.int .i64 ((i : Int) + 1)] w fun e w' => e = .returned (.slice A (n - 1 : Nat) c) ∧ w'.ownsRow base 27 5 (.slice A (n - 1) c) (n - 1) (xs.take (i * 5) ++ xs.drop ((i + 1) * 5)) ∧ w.grownBy w' (Value.ownBlock (.slice A n c)) := by
 obtain ⟨g,cur,rfl,hb,hg,hnc,hcm,hcs,ht,hl⟩ := own_open hown (by omega);have HOWN := hide hown;have hm1 : (i + 1) * 5 ≤ n * 5 := Nat.mul_le_mul_right _ hi;have hm2 : n * 5 ≤ c * 5 := Nat.mul_le_mul_right _ hnc;have hcm2 : c ≤ 9223372036854775807 := by unfold maxLen at hcm;omega
 have hdl : (xs.drop ((i + 1) * 5)).length = n * 5 - (i + 1) * 5 := by rw [List.length_drop,hl]
 have hsz : ∀ (W : World),W.heap[g]? = some (.cells cur 27 (0,0)) → ∀ ty,∀ (a : Addr) (m cc : Nat),m = n - (i + 1) → (0 < m → a = ⟨g,(i + 1) * 5,none⟩) → (Builtin.append_ #[24,24] ty #[.slice (some ⟨g,0,none⟩) i c,.slice (some a) m cc]).run Tryz.prog W = .ok (.slice (some ⟨g,0,none⟩) (n - 1) c) (W.setCells g (i * 5) (xs.drop ((i + 1) * 5))) := fun W hW ty a m cc hm ha => by
  obtain ⟨i0,hi0,hz0,hz1,hz2⟩ := info_parts infoV;have hs : Src Tryz.prog i0.size 24 (.slice (some a) m cc) m (xs.drop ((i + 1) * 5)) W := by
   rw [hz1];refine Src.ofSlice W underV a m cc _ (by rw [hdl,hm];omega) (fun j u hu => ?_) (fun u hu => h1 u (List.mem_of_mem_drop hu));have hj : j < (xs.drop ((i + 1) * 5)).length := (List.getElem?_eq_some_iff.1 hu).1;rw [ha (by omega),add_lit];rw [List.getElem?_drop] at hu;exact own_cell hW ht _ u hu
  have h := run_append_room_src (P := Tryz.prog) W 24 24 ty 27 i0 underV hi0 g 0 i c (.slice (some a) m cc) m _ hs (by omega)
   (fun j hj => (own_cells hW _ (by rw [hz1];omega)).1) (fun j hj => (own_cells hW _ (by rw [hz1];omega)).2)
  rw [hz1,Nat.zero_add,show i + m = n - 1 by omega] at h;exact h
 have HAP := hide hsz;obtain ⟨W1,hW1⟩ : ∃ W1,w.drew.setCells g (i * 5) (xs.drop ((i + 1) * 5)) = W1 := ⟨_,rfl⟩;obtain ⟨c1,hg1,hs1,-⟩ := own_set (w := w.drew) (o := i * 5) hg (xs.drop ((i + 1) * 5)) (by rw [hdl,hcs];omega);rw [hW1] at hg1;have hcl : ∀ ty cc,(Builtin.clear_ #[24] ty #[.slice (some ⟨g,(n - 1) * 5,none⟩) 1 cc]).run Tryz.prog W1 = .ok (.tuple #[]) (W1.setCells g ((n - 1) * 5) [.int .i64 0,.int .u64 0,.slice none 0 0,.slice none 0 0,.slice none 0 0]) := fun ty cc =>
  run_clear_one W1 24 27 ty (.agg #[.int .i64 0,.int .u64 0,.slice none 0 0,.slice none 0 0,.slice none 0 0]) [.int .i64 0,.int .u64 0,.slice none 0 0,.slice none 0 0,.slice none 0 0] underV (fun _ => rfl) rfl (by simp [Value.oneCell']) g _ cc
   (fun j hj => (own_cells hg1 _ (by rw [hs1,hcs];simp at hj;omega)).1) (fun j hj => (own_cells hg1 _ (by rw [hs1,hcs];simp at hj;omega)).2)
 have HCL := hide hcl;have HFIN := hide (show (W1.setCells g ((n - 1) * 5) [.int .i64 0,.int .u64 0,.slice none 0 0,.slice none 0 0,.slice none 0 0]).ownsRow base 27 5 (.slice (some ⟨g,0,none⟩) (n - 1) c) (n - 1) (xs.take (i * 5) ++ xs.drop ((i + 1) * 5)) by
  rw [← hW1];exact own_delete (w := w.drew) hown i hi rfl)
 have HGR := hide (show w.grownBy (W1.setCells g ((n - 1) * 5) [.int .i64 0,.int .u64 0,.slice none 0 0,.slice none 0 0,.slice none 0 0]) (some g) by
  rw [← hW1];exact gb_drew (World.grownBy.trans (setCells_grown g _ rfl _ w.drew _) (setCells_grown g _ rfl _ _ _)))
 have HW1 := hide hW1;have HG := hide (show w.drew.heap[g]? = some (.cells cur 27 (0,0)) from hg);clear hown hsz hcl hg hg1 hs1 hW1 ht hl hdl hcs hcm h1 hm1 hm2;have hw1 : IntKind.i64.wrap ((i : Int) + 1) = (i : Int) + 1 := by rw [IntKind.wrap_i64];omega
 have hb1 : (0 : Int) ≤ (i : Int) + 1 := by omega
 have htn : ((i : Int) + 1).toNat = i + 1 := by omega
 have hij : ((i : Int) == (i : Int) + 1) = false := by simp only [beq_eq_false_iff_ne,ne_eq];omega
 have hcn : ¬ c = n - 1 := by omega
 have hA1 : (i : Int) ≤ (i : Int) + 1 := by omega
 have hA2 : i ≤ c := by omega
 have hA3 : (i : Int) + 1 ≤ (n : Int) := by omega
 by_cases hci : c = i + 1
 ·subst hci;obtain rfl : n = i + 1 := by omega
  simp only [Nat.add_sub_cancel] at HAP HCL HFIN HGR hcn ⊢;have hl2 : i + 1 - i = 1 := by omega
  go_enter Tryz.func124,Tryz.ntmps124;go_wp2_with fail;refine wp_region_noPanic ?_;refine wp_region_held_drew (S := fun _ => True) (by kernel_rfl) (trivial) (fun hHeld => ?_);refine tk_ 0 ?_;refine tk_ 1 ?_;refine tk_ 2 ?_;refine tk_ 3 ?_;refine tk_ 4 ?_;refine tk_ 5 ?_;refine r1_ 6 (fun K hK => ?_);refine step_append_runI (by rfl) (.tmp 22) (.tmp 25) 24 24 (by rfl) _ _ (by rfl) (by rfl) (HAP.out _ HG.out _ ⟨g,0,none⟩ 0 0 (by omega) (fun _ => by first | rfl | omega)) ?_;rw [HW1.out];refine hK.out _ _ trivial (fun hHeld => ?_);clear hK K
  try simp only [ly_]
  refine tk_ 7 ?_;refine dn_ ?_;have hcl := HCL.out;go_wp2_with fail;go_ret;exact ⟨rfl,HFIN.out,HGR.out⟩
 go_enter Tryz.func124,Tryz.ntmps124;go_wp2_with fail;refine wp_region_noPanic ?_;refine wp_region_held_drew (S := fun _ => True) (by kernel_rfl) (trivial) (fun hHeld => ?_);refine tk_ 0 ?_;refine tk_ 1 ?_;refine tk_ 2 ?_;refine tk_ 3 ?_;refine tk_ 4 ?_;refine tk_ 5 ?_;refine r1_ 6 (fun K hK => ?_);refine step_append_runI (by rfl) (.tmp 22) (.tmp 25) 24 24 (by rfl) _ _ (by rfl) (by rfl) (HAP.out _ HG.out _ ⟨g,(i + 1) * 5,none⟩ (n - (i + 1)) (c - (i + 1)) (by omega) (fun _ => by first | rfl | omega)) ?_;rw [HW1.out];refine hK.out _ _ trivial (fun hHeld => ?_);clear hK K
 try simp only [ly_]
 refine tk_ 7 ?_;refine dn_ ?_;have hcl := HCL.out;have hl1 : n - (n - 1) = 1 := by omega
 go_wp2_with fail;go_ret;exact ⟨rfl,HFIN.out,HGR.out⟩
end
section
open Go.RowKit Go.Shelf
theorem insendC (base n c vb : Nat) (A : Option Addr) (xs vs : List Value) (w : World) (Tv : TypeId) (h1v : ∀ u ∈ vs,u.oneCell' = true) (hown : w.ownsRow base 48 3 (.slice A n c) n xs) (hn : n ≤ 1000000000) (hz : vs.length = 3)
 (hv : w.heap[vb]? = some (.cells vs.toArray Tv (0,0))) (hbase : base ≤ w.heap.size) :
 Calls Tryz.prog 116 #[.slice A n c,.int .i64 n,.slice (some ⟨vb,0,none⟩) 1 1] w fun e w' => ∃ A' c',e = .returned (.slice A' (n + 1 : Nat) c') ∧ w'.ownsRow base 48 3 (.slice A' (n + 1) c') (n + 1) (xs ++ vs) ∧ w.grownBy w' (Value.ownBlock (.slice A n c)) ∧
  (Value.ownBlock (.slice A' (n + 1) c') = Value.ownBlock (.slice A n c) ∨ Value.ownBlock (.slice A' (n + 1) c') = some w.heap.size) := by
 have hc : c ≤ maxLen := by
  obtain ⟨-,⟨hq,-,-⟩ | ⟨g,cap,cur,hq,-,-,-,hcm,-⟩⟩ := hown
  ·injection hq with _ _ h3;rw [h3];exact Nat.zero_le _
  injection hq with _ _ h3;rw [h3];exact hcm
 have hc2 : n ≤ c := by
  obtain ⟨-,⟨hq,-,-⟩ | ⟨g,cap,cur,hq,-,-,hnc,-,-⟩⟩ := hown
  ·injection hq with _ h2 _;rw [h2];exact Nat.zero_le _
  injection hq with _ _ h3;rw [h3];exact hnc
 have hcc : c ≤ 9223372036854775807 := by unfold maxLen at hc;omega
 clear hc;obtain ⟨i0,hi0,hz0,hz1,hz2⟩ := info_parts infoC;have Hi0 := hide hi0;have Hz0 := hide hz0;have Hz1 := hide hz1;have Hz2 := hide hz2;have HS := hide (Src.ofSlice (P := Tryz.prog) (size := 3) w underC ⟨vb,0,none⟩ 1 1 vs (by omega) (fun j u hu => by rw [add_lit,cell_of_row w vb _ _ Tv (0,0) hv];simpa using hu) h1v);have HO := hide hown;clear hi0 hz0 hz1 hz2 hown hv h1v;rcases Decidable.em (c = n) with hcn | hcn
 case' inl => replace hcn := hcn.symm;subst hcn
 all_goals
  go_enter Tryz.func116,Tryz.ntmps116
  go_wp2_with (at_builtin;refine wpList_append_src rfl (.tmp 23) (.tmp 24) 42 42 rfl base 48 i0 _ 3 64 underC Hi0.out Hz0.out Hz1.out Hz2.out rfl (.slice A n _) n xs rfl HO.out _ 1 vs rfl HS.out (by omega) (by simp only [maxLen];omega) hbase ?_;intro A3 c3 w3 hown3 hgr3 hat3;have HO3 := hide hown3;have HG3 := hide hgr3;have HA3 := hide hat3;clear hown3 hgr3 hat3)
  all_goals
   go_ret
   exact ⟨A3,c3,rfl,HO3.out,HG3.out,HA3.out⟩
theorem insshiftC (base n i c vb g : Nat) (xs vs : List Value) (w : World) (Tv : TypeId) (h1 : ∀ u ∈ xs,u.oneCell' = true) (h1v : ∀ u ∈ vs,u.oneCell' = true) (hown : w.ownsRow base 48 3 (.slice (some ⟨g,0,none⟩) n c) n xs) (hi : i < n) (hn : n ≤ 1000000000) (hroom : n + 1 ≤ c) (hz : vs.length = 3)
 (hv : w.heap[vb]? = some (.cells vs.toArray Tv (0,0))) (hvb : vb ≠ g) :
 Calls Tryz.prog 116 #[.slice (some ⟨g,0,none⟩) n c,.int .i64 i,.slice (some ⟨vb,0,none⟩) 1 1] w fun e w' => e = .returned (.slice (some ⟨g,0,none⟩) (n + 1 : Nat) c) ∧ w'.ownsRow base 48 3 (.slice (some ⟨g,0,none⟩) (n + 1) c) (n + 1) (xs.take (i * 3) ++ vs ++ xs.drop (i * 3)) ∧ w.grownBy w' (some g) := by
 obtain ⟨g',cur,hA,hb,hg,hnc,hcm,hcs,ht,hl⟩ := own_open hown (by omega);injection hA with hA;injection hA with hA _;subst hA;have hm1 : (i + 1) * 3 ≤ n * 3 := Nat.mul_le_mul_right _ hi;have hm2 : (n + 1) * 3 ≤ c * 3 := Nat.mul_le_mul_right _ hroom;have hcm2 : c ≤ 9223372036854775807 := by unfold maxLen at hcm;omega
 have hdl : (xs.drop (i * 3)).length = n * 3 - i * 3 := by rw [List.length_drop,hl]
 have hsz : (Tryz.prog.info? 48).map (·.size) = some 3 := by kernel_rfl
 have hov : ∀ ab lb cb,(callFunc 164 #[.slice (some ⟨vb,0,none⟩) 1 1,.slice (some ⟨g,ab,none⟩) lb cb]).run Tryz.prog w = .ok (.value (.bool false)) w := fun ab lb cb => by
  rw [run_callFunc_extern (fn := Tryz.f164) (by kernel_rfl) (by kernel_rfl) (by kernel_rfl) (by kernel_rfl) (e := Extern.SlicesOverlaps.overlaps #[42,42] #[4]) (by kernel_rfl),
   Lib.run_overlaps_apart w 42 4 48 underC 3 (fun _ => rfl) ⟨vb,0,none⟩ ⟨g,ab,none⟩ 1 1 lb cb hvb Tv 48 vs.toArray.size cur.size (by simp [World.shape?,hv]) (by simp [World.shape?,hg]) (by rw [hcs];omega) (by simp [World.frozen?,hv]) (by simp [World.frozen?,hv])]
  rfl
 have hcp1 : ∀ ty m1 m2 dc sc,m1 = n - i → m2 = n + 1 - i → (Builtin.copy_ #[42,42] ty #[.slice (some ⟨g,(i + 1) * 3,none⟩) m1 dc,.slice (some ⟨g,i * 3,none⟩) m2 sc]).run Tryz.prog w.drew = .ok (goInt (n - i : Nat)) (w.drew.setCells g ((i + 1) * 3) (xs.drop (i * 3))) := fun ty m1 m2 dc sc hm1 hm2 => by
  have hmin : Nat.min m2 m1 = n - i := by show min _ _ = _;omega
  have h := run_copy_cellsZ (P := Tryz.prog) w.drew 42 42 ty 48 3 g ((i + 1) * 3) m1 dc ⟨g,i * 3,none⟩ m2 sc (xs.drop (i * 3)) underC hsz (by rw [hdl,hmin];omega)
   (fun j v hj => by rw [add_lit];rw [List.getElem?_drop] at hj;exact own_cell (w := w.drew) hg ht _ v hj)
   (fun j hj => (own_cells (w := w.drew) hg _ (by rw [hcs];omega)).1) (fun j hj => (own_cells (w := w.drew) hg _ (by rw [hcs];omega)).2) (fun v hv => h1 v (List.mem_of_mem_drop hv))
  rw [hmin] at h;exact h
 obtain ⟨W1,hW1⟩ : ∃ W1,w.drew.setCells g ((i + 1) * 3) (xs.drop (i * 3)) = W1 := ⟨_,rfl⟩;obtain ⟨c1,hg1,hs1,-⟩ := own_set (w := w.drew) (o := (i + 1) * 3) hg (xs.drop (i * 3)) (by rw [hdl,hcs];omega);have hv1 : W1.heap[vb]? = some (.cells vs.toArray Tv (0,0)) := by
  rw [← hW1,(setCells_grown g _ rfl _ w.drew _).block vb (Array.getElem?_eq_some_iff.1 hv).1 (by intro h;injection h with h;exact hvb h)];exact hv
 rw [hW1] at hg1;have hcp2 : ∀ ty dc,(Builtin.copy_ #[42,42] ty #[.slice (some ⟨g,i * 3,none⟩) (n + 1 - i) dc,.slice (some ⟨vb,0,none⟩) 1 1]).run Tryz.prog W1 = .ok (goInt (1 : Nat)) (W1.setCells g (i * 3) vs) := fun ty dc => by
  have hmin : Nat.min 1 (n + 1 - i) = 1 := by show min _ _ = _;omega
  have h := run_copy_cellsZ (P := Tryz.prog) W1 42 42 ty 48 3 g (i * 3) (n + 1 - i) dc ⟨vb,0,none⟩ 1 1 vs underC hsz (by rw [hz,hmin])
   (fun j v hj => by rw [add_lit,cell_of_row W1 vb _ _ Tv (0,0) hv1];simpa using hj)
   (fun j hj => (own_cells hg1 _ (by rw [hs1,hcs];omega)).1) (fun j hj => (own_cells hg1 _ (by rw [hs1,hcs];omega)).2) h1v
  rw [hmin] at h;exact h
 have HFIN := hide (show (W1.setCells g (i * 3) vs).ownsRow base 48 3 (.slice (some ⟨g,0,none⟩) (n + 1) c) (n + 1) (xs.take (i * 3) ++ vs ++ xs.drop (i * 3)) by
  rw [← hW1];exact own_insert (w := w.drew) hown i hi hroom hz)
 have HGR := hide (show w.grownBy (W1.setCells g (i * 3) vs) (some g) by
  rw [← hW1];exact gb_drew (World.grownBy.trans (setCells_grown g _ rfl _ w.drew _) (setCells_grown g _ rfl _ _ _)))
 have HC1 := hide hcp1;have hcp3 : ∀ ty dc,(Builtin.copy_ #[42,42] ty #[.slice (some ⟨g,i * 3,none⟩) (n + 1 - i) dc,.slice (some ⟨vb,0,none⟩) 1 1]).run Tryz.prog (w.drew.setCells g ((i + 1) * 3) (xs.drop (i * 3))) = .ok (goInt (1 : Nat)) ((w.drew.setCells g ((i + 1) * 3) (xs.drop (i * 3))).setCells g (i * 3) vs) := by
  rw [hW1];exact hcp2
 rw [← hW1] at HFIN HGR;clear hown hg hg1 hs1 hcp2 hv1 hW1 ht hl hdl hcs hcm h1 h1v hm1 hm2 hv hcp1 hsz hz W1;have hz2 : ¬ ((i : Int) = (n : Int)) := by omega
 have hw1 : IntKind.i64.wrap ((i : Int) + 1) = (i : Int) + 1 := by rw [IntKind.wrap_i64];omega
 have hw2 : IntKind.i64.wrap ((n : Int) + 1) = (n : Int) + 1 := by rw [IntKind.wrap_i64];omega
 have hb1 : (0 : Int) ≤ (i : Int) + 1 := by omega
 have hb1n : (0 : Int) ≤ (n : Int) + 1 := by omega
 have htn : ((i : Int) + 1).toNat = i + 1 := by omega
 have htn2 : ((n : Int) + 1).toNat = n + 1 := by omega
 have hin : i ≤ n := by omega
 have hb2 : ¬ (c = i + 1) := by omega
 have hb4 : ¬ (c = i) := by omega
 have hb5 : ¬ ((c : Int) < (n : Int) + 1) := by omega
 have hb6 : (n : Int) + 1 ≤ (c : Int) := by omega
 have hb7 : (i : Int) ≤ (n : Int) := by omega
 have hb8 : (i : Int) ≤ (n : Int) + 1 := by omega
 have hb9 : (i : Int) + 1 ≤ (n : Int) + 1 := by omega
 have hb10 : i ≤ n + 1 := by omega
 have mixed : Tryz.prog.follows Departure.mixedOrders = true := by kernel_rfl
 go_enter Tryz.func116,Tryz.ntmps116;go_wp2_with (simp only [hov]);go_region_law_o (refine step_copy_runI rfl _ _ 42 42 rfl _ _ (by simp [Act.eval,Act.put]) (by simp [Act.eval,Act.put]) (HC1.out _ (n - i) (n + 1 - i) (c - (i + 1)) (c - i) rfl rfl) ?_);go_wp2_with fail;go_ret;exact ⟨rfl,HFIN.out,HGR.out⟩
theorem insgrowC (base n i c vb g : Nat) (xs vs : List Value) (w : World) (Tv : TypeId) (h1 : ∀ u ∈ xs,u.oneCell' = true) (h1v : ∀ u ∈ vs,u.oneCell' = true) (hown : w.ownsRow base 48 3 (.slice (some ⟨g,0,none⟩) n c) n xs) (hi : i < n) (hn : n ≤ 1000000000) (hroom : c < n + 1) (hz : vs.length = 3)
 (hv : w.heap[vb]? = some (.cells vs.toArray Tv (0,0))) (hvb : vb ≠ g) (hbase : base ≤ w.heap.size) :
 Calls Tryz.prog 116 #[.slice (some ⟨g,0,none⟩) n c,.int .i64 i,.slice (some ⟨vb,0,none⟩) 1 1] w fun e w' => ∃ A' c',e = .returned (.slice A' (n + 1 : Nat) c') ∧ w'.ownsRow base 48 3 (.slice A' (n + 1) c') (n + 1) (xs.take (i * 3) ++ vs ++ xs.drop (i * 3)) ∧ w.grownBy w' none ∧ Value.ownBlock (.slice A' (n + 1) c') = some w.heap.size := by
 obtain ⟨g',cur,hA,hb,hg,hnc,hcm,hcs,ht,hl⟩ := own_open hown (by omega);injection hA with hA;injection hA with hA _;subst hA;obtain ⟨i0,hi0,hz0,hzs,hzb⟩ := info_parts infoC;have hm1 : (i + 1) * 3 ≤ n * 3 := Nat.mul_le_mul_right _ hi;have hcm2 : c ≤ 9223372036854775807 := by unfold maxLen at hcm;omega
 have hdl : (xs.drop (i * 3)).length = n * 3 - i * 3 := by rw [List.length_drop,hl]
 have htl : (xs.take (i * 3)).length = i * 3 := by rw [List.length_take,hl];omega
 have hsz : (Tryz.prog.info? 48).map (·.size) = some 3 := by kernel_rfl
 have hgw : g < w.heap.size := (Array.getElem?_eq_some_iff.1 hg).1;have hvw : vb < w.heap.size := (Array.getElem?_eq_some_iff.1 hv).1;have hkk : (n : Int) + 1 - (i : Int) = ((n + 1 - i : Nat) : Int) := by omega
 have hik : i + (n + 1 - i) = n + 1 := by omega
 have hold : (Builtin.firstCells i0.size i (.slice (some ⟨g,0,none⟩) i c)).run Tryz.prog w.drew = .ok (xs.take (i * 3)).toArray w.drew := by
  rw [hzs];exact run_firstCells_some w.drew 3 i ⟨g,0,none⟩ i c (xs.take (i * 3)) htl (fun j v hj => by
   rw [add_lit,Nat.zero_add];rw [List.getElem?_take] at hj;split at hj
   ·exact own_cell (w := w.drew) hg ht j v hj
   cases hj)
 have hrz : ∀ ty,(Builtin.append_ #[42,3] ty #[.slice (some ⟨g,0,none⟩) i c,.int .i64 ((n : Int) + 1 - (i : Int))]).run Tryz.prog w =
  .ok (.slice (some ⟨w.heap.size,0,none⟩) (n + 1) (grownCap w (n + 1) c 48)) (w.drew.alloc (.cells ((xs.take (i * 3)).toArray ++ Builtin.zeroCells (Value.agg #[.string ⟨#[]⟩,.slice none 0 0,.slice none 0 0]).cells (n + 1 - i) ++ Builtin.zeroCells (Value.agg #[.string ⟨#[]⟩,.slice none 0 0,.slice none 0 0]).cells (grownCap w (n + 1) c 48 - (n + 1))) 48)) := fun ty => by
  have h := Lib.run_append_grow_zeros (P := Tryz.prog) w 42 3 ty 48 i0 _ .i64 .i64 underC (by kernel_rfl) hi0 hz0 (some ⟨g,0,none⟩) i c (xs.take (i * 3)) hold (n + 1 - i) (by omega) (by omega) (by omega) (by omega) (by rw [hzb];omega) (by rw [hzb,hik];exact growslice_fits hroom (by omega));rw [hik] at h;rw [hkk];exact h
 obtain ⟨G,hG⟩ : ∃ G,G = grownCap w (n + 1) c 48 := ⟨_,rfl⟩;have hGn : n + 1 ≤ G := by rw [hG];exact grownCap_ge w _ _ _
 have hGm : G ≤ maxLen := by rw [hG];exact grownCap_le_maxLen w _ _ _ (by unfold maxLen;omega)
 rw [← hG] at hrz;obtain ⟨ROW,hROW⟩ : ∃ ROW : Array Value,ROW = (xs.take (i * 3)).toArray ++ Builtin.zeroCells (Value.agg #[.string ⟨#[]⟩,.slice none 0 0,.slice none 0 0]).cells (n + 1 - i) ++ Builtin.zeroCells (Value.agg #[.string ⟨#[]⟩,.slice none 0 0,.slice none 0 0]).cells (G - (n + 1)) := ⟨_,rfl⟩;rw [← hROW] at hrz;have hRs : ROW.size = G * 3 := by
  rw [hROW];simp only [Array.size_append,Builtin.zeroCells,Value.cells,List.size_toArray,htl,Array.size_map,Array.size_range,List.length_cons,List.length_nil];omega
 have hRt : ROW.toList.take (i * 3) = xs.take (i * 3) := by
  rw [hROW];simp only [Array.toList_append,List.append_assoc];rw [List.take_left' htl]
 obtain ⟨W1,hW1⟩ : ∃ W1,W1 = (w.alloc (.cells ROW 48)).drew := ⟨_,rfl⟩;have hWh : W1.heap = w.heap.push (.cells ROW 48) := by rw [hW1];rfl
 have hWs : W1.heap.size = w.heap.size + 1 := by rw [hWh,Array.size_push]
 have hN : W1.heap[w.heap.size]? = some (.cells ROW 48 (0,0)) := by rw [hWh];simp
 have hO : ∀ k,k < w.heap.size → W1.heap[k]? = w.heap[k]? := fun k hk => by
  rw [hWh];simp [Array.getElem?_push,Nat.ne_of_lt hk]
 have hcpA : ∀ ty dc,(Builtin.copy_ #[42,42] ty #[.slice (some ⟨w.heap.size,i * 3,none⟩) (n + 1 - i) dc,.slice (some ⟨vb,0,none⟩) 1 1]).run Tryz.prog W1 = .ok (goInt (1 : Nat)) (W1.setCells w.heap.size (i * 3) vs) := fun ty dc => by
  have hmin : Nat.min 1 (n + 1 - i) = 1 := by show min _ _ = _;omega
  have h := run_copy_cellsZ (P := Tryz.prog) W1 42 42 ty 48 3 w.heap.size (i * 3) (n + 1 - i) dc ⟨vb,0,none⟩ 1 1 vs underC hsz (by rw [hz,hmin])
   (fun j v hj => by rw [add_lit,cell_of_row W1 vb _ _ Tv (0,0) ((hO vb hvw).trans hv)];simpa using hj)
   (fun j hj => (own_cells hN _ (by rw [hRs];omega)).1) (fun j hj => (own_cells hN _ (by rw [hRs];omega)).2) h1v
  rw [hmin] at h;exact h
 obtain ⟨c1,hN2,hs2,-⟩ := own_set (o := i * 3) hN vs (by rw [hRs];omega);have hg2 : (W1.setCells w.heap.size (i * 3) vs).heap[g]? = some (.cells cur 48 (0,0)) := by
  rw [(setCells_grown w.heap.size _ rfl _ W1 _).block g (by omega) (by intro h;injection h with h;omega),hO g hgw];exact hg
 have hcpB : ∀ ty m1 m2 dc sc,m1 = n - i → m2 = n - i → (Builtin.copy_ #[42,42] ty #[.slice (some ⟨w.heap.size,(i + 1) * 3,none⟩) m1 dc,.slice (some ⟨g,i * 3,none⟩) m2 sc]).run Tryz.prog (W1.setCells w.heap.size (i * 3) vs).drew = .ok (goInt (n - i : Nat)) ((W1.setCells w.heap.size (i * 3) vs).drew.setCells w.heap.size ((i + 1) * 3) (xs.drop (i * 3))) := fun ty m1 m2 dc sc hm1 hm2 => by
  have hmin : Nat.min m2 m1 = n - i := by show min _ _ = _;omega
  have h := run_copy_cellsZ (P := Tryz.prog) (W1.setCells w.heap.size (i * 3) vs).drew 42 42 ty 48 3 w.heap.size ((i + 1) * 3) m1 dc ⟨g,i * 3,none⟩ m2 sc (xs.drop (i * 3)) underC hsz (by rw [hdl,hmin];omega)
   (fun j v hj => by rw [add_lit];rw [List.getElem?_drop] at hj;exact own_cell (w := (W1.setCells w.heap.size (i * 3) vs).drew) hg2 ht _ v hj)
   (fun j hj => (own_cells (w := (W1.setCells w.heap.size (i * 3) vs).drew) hN2 _ (by rw [hs2,hRs];omega)).1) (fun j hj => (own_cells (w := (W1.setCells w.heap.size (i * 3) vs).drew) hN2 _ (by rw [hs2,hRs];omega)).2) (fun v hv => h1 v (List.mem_of_mem_drop hv))
  rw [hmin] at h;exact h
 have HFIN := hide (own_grow (base := base) hN (by omega) hRs hRt hl hz hi hGn hGm);have HGR := hide (show w.grownBy ((W1.setCells w.heap.size (i * 3) vs).drew.setCells w.heap.size ((i + 1) * 3) (xs.drop (i * 3))) none by
  have hs1 : (W1.setCells w.heap.size (i * 3) vs).heap.size ≥ w.heap.size := Nat.le_trans (by omega) (setCells_grown w.heap.size _ rfl _ W1 _).size;have e1 : w.grownBy W1 (some w.heap.size) := ⟨by rw [hW1];rfl,by rw [hW1];rfl,by rw [hW1];rfl,by omega,fun k hk _ => hO k hk⟩;have e2 : W1.grownBy (W1.setCells w.heap.size (i * 3) vs) (some w.heap.size) := setCells_grown w.heap.size _ rfl _ W1 _;have e3 : (W1.setCells w.heap.size (i * 3) vs).grownBy ((W1.setCells w.heap.size (i * 3) vs).drew.setCells w.heap.size ((i + 1) * 3) (xs.drop (i * 3))) (some w.heap.size) := gb_drew (setCells_grown w.heap.size _ rfl _ _ _);have e4 := (e1.trans e2).trans e3;exact ⟨e4.os,e4.tape,e4.output,e4.size,fun k hk _ => e4.block k hk (by intro h;injection h with h;omega)⟩)
 have hGi : ¬ (G = i) := by omega
 have hGim : ¬ (G = i + 1) := by omega
 have hG63 : G ≤ 9223372036854775807 := by unfold maxLen at hGm;omega
 rw [hW1] at HFIN HGR hcpA hcpB;have HB := hide hcpB;have HRZ := hide hrz;clear hown hWh hWs hg hg2 hN hN2 hs2 hO hW1 W1 ht hl hdl htl hcs hcm h1 h1v hm1 hv hsz hz hRs hRt hROW hG hold hrz hkk hik hi0 hz0 hzs hzb hGm hcpB;have hz2 : ¬ ((i : Int) = (n : Int)) := by omega
 have hz3 : (c : Int) < (n : Int) + 1 := by omega
 have hci : ¬ (c = i) := by omega
 have hw1 : IntKind.i64.wrap ((i : Int) + 1) = (i : Int) + 1 := by rw [IntKind.wrap_i64];omega
 have hw2 : IntKind.i64.wrap ((n : Int) + 1) = (n : Int) + 1 := by rw [IntKind.wrap_i64];omega
 have hw3 : IntKind.i64.wrap ((n : Int) + 1 - (i : Int)) = (n : Int) + 1 - (i : Int) := by rw [IntKind.wrap_i64];omega
 have hb1 : (0 : Int) ≤ (i : Int) + 1 := by omega
 have htn : ((i : Int) + 1).toNat = i + 1 := by omega
 have hin : i ≤ n := by omega
 have hin2 : i ≤ c := by omega
 have hb3 : (i : Int) ≤ (n : Int) := by omega
 have hb8 : (i : Int) ≤ (n : Int) + 1 := by omega
 have hb9 : (i : Int) + 1 ≤ (n : Int) + 1 := by omega
 have hb10 : i ≤ n + 1 := by omega
 have hb11 : i ≤ G := by omega
 have mixed : Tryz.prog.follows Departure.mixedOrders = true := by kernel_rfl
 go_enter Tryz.func116,Tryz.ntmps116;go_wp2_with (at_builtin;refine Lib.wpList_append_run _ rfl _ _ _ _ rfl _ _ rfl rfl _ _ (HRZ.out _) ?_);go_region_law_o (refine step_copy_runI rfl _ _ 42 42 rfl _ _ (by simp [Act.eval,Act.put]) (by simp [Act.eval,Act.put]) (HB.out _ (n - i) (n - i) (G - (i + 1)) (c - i) rfl rfl) ?_);go_wp2_with fail;go_ret;exact ⟨_,_,rfl,HFIN.out,HGR.out,rfl⟩
theorem insertC_any (base n i c vb : Nat) (A : Option Addr) (xs vs : List Value) (w : World) (Tv : TypeId) (h1 : ∀ u ∈ xs,u.oneCell' = true) (h1v : ∀ u ∈ vs,u.oneCell' = true) (hown : w.ownsRow base 48 3 (.slice A n c) n xs) (hi : i ≤ n) (hn : n ≤ 1000000000) (hz : vs.length = 3)
 (hv : w.heap[vb]? = some (.cells vs.toArray Tv (0,0))) (hvb : Value.ownBlock (.slice A n c) ≠ some vb) (hbase : base ≤ w.heap.size) :
 Calls Tryz.prog 116 #[.slice A n c,.int .i64 i,.slice (some ⟨vb,0,none⟩) 1 1] w fun e w' => ∃ A' c',e = .returned (.slice A' (n + 1 : Nat) c') ∧ w'.ownsRow base 48 3 (.slice A' (n + 1) c') (n + 1) (xs.take (i * 3) ++ vs ++ xs.drop (i * 3)) ∧ w.grownBy w' (Value.ownBlock (.slice A n c)) ∧
  (Value.ownBlock (.slice A' (n + 1) c') = Value.ownBlock (.slice A n c) ∨ Value.ownBlock (.slice A' (n + 1) c') = some w.heap.size) := by
 rcases Nat.lt_or_ge i n with hlt | hge
 ·obtain ⟨g,cur,rfl,hb,hg,hnc,hcm,hcs,ht,hl⟩ := own_open hown (by omega);have hvb2 : vb ≠ g := fun h => hvb (by rw [h];rfl)
  rcases Nat.lt_or_ge c (n + 1) with hr | hr
  ·refine (insgrowC base n i c vb g xs vs w Tv h1 h1v hown hlt hn hr hz hv hvb2 hbase).mono ?_;rintro e w' ⟨A',c',he,ho,hgr,hA⟩;exact ⟨A',c',he,ho,⟨hgr.os,hgr.tape,hgr.output,hgr.size,fun k hk _ => hgr.block k hk (by intro h;cases h)⟩,.inr hA⟩
  refine (insshiftC base n i c vb g xs vs w Tv h1 h1v hown hlt hn hr hz hv hvb2).mono ?_;rintro e w' ⟨he,ho,hgr⟩;exact ⟨_,_,he,ho,hgr,.inl rfl⟩
 obtain rfl : i = n := by omega
 have hl : xs.length = i * 3 := hown.1;rw [List.take_of_length_le (by omega),List.drop_eq_nil_of_le (by omega),List.append_nil];exact insendC base i c vb A xs vs w Tv h1v hown hn hz hv hbase
theorem insendX (base n c vb : Nat) (A : Option Addr) (xs vs : List Value) (w : World) (Tv : TypeId) (h1v : ∀ u ∈ vs,u.oneCell' = true) (hown : w.ownsRow base 64 3 (.slice A n c) n xs) (hn : n ≤ 1000000000) (hz : vs.length = 3)
 (hv : w.heap[vb]? = some (.cells vs.toArray Tv (0,0))) (hbase : base ≤ w.heap.size) :
 Calls Tryz.prog 126 #[.slice A n c,.int .i64 n,.slice (some ⟨vb,0,none⟩) 1 1] w fun e w' => ∃ A' c',e = .returned (.slice A' (n + 1 : Nat) c') ∧ w'.ownsRow base 64 3 (.slice A' (n + 1) c') (n + 1) (xs ++ vs) ∧ w.grownBy w' (Value.ownBlock (.slice A n c)) ∧
  (Value.ownBlock (.slice A' (n + 1) c') = Value.ownBlock (.slice A n c) ∨ Value.ownBlock (.slice A' (n + 1) c') = some w.heap.size) := by
 have hc : c ≤ maxLen := by
  obtain ⟨-,⟨hq,-,-⟩ | ⟨g,cap,cur,hq,-,-,-,hcm,-⟩⟩ := hown
  ·injection hq with _ _ h3;rw [h3];exact Nat.zero_le _
  injection hq with _ _ h3;rw [h3];exact hcm
 have hc2 : n ≤ c := by
  obtain ⟨-,⟨hq,-,-⟩ | ⟨g,cap,cur,hq,-,-,hnc,-,-⟩⟩ := hown
  ·injection hq with _ h2 _;rw [h2];exact Nat.zero_le _
  injection hq with _ _ h3;rw [h3];exact hnc
 have hcc : c ≤ 9223372036854775807 := by unfold maxLen at hc;omega
 clear hc;obtain ⟨i0,hi0,hz0,hz1,hz2⟩ := info_parts infoX;have Hi0 := hide hi0;have Hz0 := hide hz0;have Hz1 := hide hz1;have Hz2 := hide hz2;have HS := hide (Src.ofSlice (P := Tryz.prog) (size := 3) w underX ⟨vb,0,none⟩ 1 1 vs (by omega) (fun j u hu => by rw [add_lit,cell_of_row w vb _ _ Tv (0,0) hv];simpa using hu) h1v);have HO := hide hown;clear hi0 hz0 hz1 hz2 hown hv h1v;rcases Decidable.em (c = n) with hcn | hcn
 case' inl => replace hcn := hcn.symm;subst hcn
 all_goals
  go_enter Tryz.func126,Tryz.ntmps126
  go_wp2_with (at_builtin;refine wpList_append_src rfl (.tmp 23) (.tmp 24) 46 46 rfl base 64 i0 _ 3 40 underX Hi0.out Hz0.out Hz1.out Hz2.out rfl (.slice A n _) n xs rfl HO.out _ 1 vs rfl HS.out (by omega) (by simp only [maxLen];omega) hbase ?_;intro A3 c3 w3 hown3 hgr3 hat3;have HO3 := hide hown3;have HG3 := hide hgr3;have HA3 := hide hat3;clear hown3 hgr3 hat3)
  all_goals
   go_ret
   exact ⟨A3,c3,rfl,HO3.out,HG3.out,HA3.out⟩
theorem insshiftX (base n i c vb g : Nat) (xs vs : List Value) (w : World) (Tv : TypeId) (h1 : ∀ u ∈ xs,u.oneCell' = true) (h1v : ∀ u ∈ vs,u.oneCell' = true) (hown : w.ownsRow base 64 3 (.slice (some ⟨g,0,none⟩) n c) n xs) (hi : i < n) (hn : n ≤ 1000000000) (hroom : n + 1 ≤ c) (hz : vs.length = 3)
 (hv : w.heap[vb]? = some (.cells vs.toArray Tv (0,0))) (hvb : vb ≠ g) :
 Calls Tryz.prog 126 #[.slice (some ⟨g,0,none⟩) n c,.int .i64 i,.slice (some ⟨vb,0,none⟩) 1 1] w fun e w' => e = .returned (.slice (some ⟨g,0,none⟩) (n + 1 : Nat) c) ∧ w'.ownsRow base 64 3 (.slice (some ⟨g,0,none⟩) (n + 1) c) (n + 1) (xs.take (i * 3) ++ vs ++ xs.drop (i * 3)) ∧ w.grownBy w' (some g) := by
 obtain ⟨g',cur,hA,hb,hg,hnc,hcm,hcs,ht,hl⟩ := own_open hown (by omega);injection hA with hA;injection hA with hA _;subst hA;have hm1 : (i + 1) * 3 ≤ n * 3 := Nat.mul_le_mul_right _ hi;have hm2 : (n + 1) * 3 ≤ c * 3 := Nat.mul_le_mul_right _ hroom;have hcm2 : c ≤ 9223372036854775807 := by unfold maxLen at hcm;omega
 have hdl : (xs.drop (i * 3)).length = n * 3 - i * 3 := by rw [List.length_drop,hl]
 have hsz : (Tryz.prog.info? 64).map (·.size) = some 3 := by kernel_rfl
 have hov : ∀ ab lb cb,(callFunc 172 #[.slice (some ⟨vb,0,none⟩) 1 1,.slice (some ⟨g,ab,none⟩) lb cb]).run Tryz.prog w = .ok (.value (.bool false)) w := fun ab lb cb => by
  rw [run_callFunc_extern (fn := Tryz.f172) (by kernel_rfl) (by kernel_rfl) (by kernel_rfl) (by kernel_rfl) (e := Extern.SlicesOverlaps.overlaps #[46,46] #[4]) (by kernel_rfl),
   Lib.run_overlaps_apart w 46 4 64 underX 3 (fun _ => rfl) ⟨vb,0,none⟩ ⟨g,ab,none⟩ 1 1 lb cb hvb Tv 64 vs.toArray.size cur.size (by simp [World.shape?,hv]) (by simp [World.shape?,hg]) (by rw [hcs];omega) (by simp [World.frozen?,hv]) (by simp [World.frozen?,hv])]
  rfl
 have hcp1 : ∀ ty m1 m2 dc sc,m1 = n - i → m2 = n + 1 - i → (Builtin.copy_ #[46,46] ty #[.slice (some ⟨g,(i + 1) * 3,none⟩) m1 dc,.slice (some ⟨g,i * 3,none⟩) m2 sc]).run Tryz.prog w.drew = .ok (goInt (n - i : Nat)) (w.drew.setCells g ((i + 1) * 3) (xs.drop (i * 3))) := fun ty m1 m2 dc sc hm1 hm2 => by
  have hmin : Nat.min m2 m1 = n - i := by show min _ _ = _;omega
  have h := run_copy_cellsZ (P := Tryz.prog) w.drew 46 46 ty 64 3 g ((i + 1) * 3) m1 dc ⟨g,i * 3,none⟩ m2 sc (xs.drop (i * 3)) underX hsz (by rw [hdl,hmin];omega)
   (fun j v hj => by rw [add_lit];rw [List.getElem?_drop] at hj;exact own_cell (w := w.drew) hg ht _ v hj)
   (fun j hj => (own_cells (w := w.drew) hg _ (by rw [hcs];omega)).1) (fun j hj => (own_cells (w := w.drew) hg _ (by rw [hcs];omega)).2) (fun v hv => h1 v (List.mem_of_mem_drop hv))
  rw [hmin] at h;exact h
 obtain ⟨W1,hW1⟩ : ∃ W1,w.drew.setCells g ((i + 1) * 3) (xs.drop (i * 3)) = W1 := ⟨_,rfl⟩;obtain ⟨c1,hg1,hs1,-⟩ := own_set (w := w.drew) (o := (i + 1) * 3) hg (xs.drop (i * 3)) (by rw [hdl,hcs];omega);have hv1 : W1.heap[vb]? = some (.cells vs.toArray Tv (0,0)) := by
  rw [← hW1,(setCells_grown g _ rfl _ w.drew _).block vb (Array.getElem?_eq_some_iff.1 hv).1 (by intro h;injection h with h;exact hvb h)];exact hv
 rw [hW1] at hg1;have hcp2 : ∀ ty dc,(Builtin.copy_ #[46,46] ty #[.slice (some ⟨g,i * 3,none⟩) (n + 1 - i) dc,.slice (some ⟨vb,0,none⟩) 1 1]).run Tryz.prog W1 = .ok (goInt (1 : Nat)) (W1.setCells g (i * 3) vs) := fun ty dc => by
  have hmin : Nat.min 1 (n + 1 - i) = 1 := by show min _ _ = _;omega
  have h := run_copy_cellsZ (P := Tryz.prog) W1 46 46 ty 64 3 g (i * 3) (n + 1 - i) dc ⟨vb,0,none⟩ 1 1 vs underX hsz (by rw [hz,hmin])
   (fun j v hj => by rw [add_lit,cell_of_row W1 vb _ _ Tv (0,0) hv1];simpa using hj)
   (fun j hj => (own_cells hg1 _ (by rw [hs1,hcs];omega)).1) (fun j hj => (own_cells hg1 _ (by rw [hs1,hcs];omega)).2) h1v
  rw [hmin] at h;exact h
 have HFIN := hide (show (W1.setCells g (i * 3) vs).ownsRow base 64 3 (.slice (some ⟨g,0,none⟩) (n + 1) c) (n + 1) (xs.take (i * 3) ++ vs ++ xs.drop (i * 3)) by
  rw [← hW1];exact own_insert (w := w.drew) hown i hi hroom hz)
 have HGR := hide (show w.grownBy (W1.setCells g (i * 3) vs) (some g) by
  rw [← hW1];exact gb_drew (World.grownBy.trans (setCells_grown g _ rfl _ w.drew _) (setCells_grown g _ rfl _ _ _)))
 have HC1 := hide hcp1;have hcp3 : ∀ ty dc,(Builtin.copy_ #[46,46] ty #[.slice (some ⟨g,i * 3,none⟩) (n + 1 - i) dc,.slice (some ⟨vb,0,none⟩) 1 1]).run Tryz.prog (w.drew.setCells g ((i + 1) * 3) (xs.drop (i * 3))) = .ok (goInt (1 : Nat)) ((w.drew.setCells g ((i + 1) * 3) (xs.drop (i * 3))).setCells g (i * 3) vs) := by
  rw [hW1];exact hcp2
 rw [← hW1] at HFIN HGR;clear hown hg hg1 hs1 hcp2 hv1 hW1 ht hl hdl hcs hcm h1 h1v hm1 hm2 hv hcp1 hsz hz W1;have hz2 : ¬ ((i : Int) = (n : Int)) := by omega
 have hw1 : IntKind.i64.wrap ((i : Int) + 1) = (i : Int) + 1 := by rw [IntKind.wrap_i64];omega
 have hw2 : IntKind.i64.wrap ((n : Int) + 1) = (n : Int) + 1 := by rw [IntKind.wrap_i64];omega
 have hb1 : (0 : Int) ≤ (i : Int) + 1 := by omega
 have hb1n : (0 : Int) ≤ (n : Int) + 1 := by omega
 have htn : ((i : Int) + 1).toNat = i + 1 := by omega
 have htn2 : ((n : Int) + 1).toNat = n + 1 := by omega
 have hin : i ≤ n := by omega
 have hb2 : ¬ (c = i + 1) := by omega
 have hb4 : ¬ (c = i) := by omega
 have hb5 : ¬ ((c : Int) < (n : Int) + 1) := by omega
 have hb6 : (n : Int) + 1 ≤ (c : Int) := by omega
 have hb7 : (i : Int) ≤ (n : Int) := by omega
 have hb8 : (i : Int) ≤ (n : Int) + 1 := by omega
 have hb9 : (i : Int) + 1 ≤ (n : Int) + 1 := by omega
 have hb10 : i ≤ n + 1 := by omega
 have mixed : Tryz.prog.follows Departure.mixedOrders = true := by kernel_rfl
 go_enter Tryz.func126,Tryz.ntmps126;go_wp2_with (simp only [hov]);go_region_law_o (refine step_copy_runI rfl _ _ 46 46 rfl _ _ (by simp [Act.eval,Act.put]) (by simp [Act.eval,Act.put]) (HC1.out _ (n - i) (n + 1 - i) (c - (i + 1)) (c - i) rfl rfl) ?_);go_wp2_with fail;go_ret;exact ⟨rfl,HFIN.out,HGR.out⟩
theorem insgrowX (base n i c vb g : Nat) (xs vs : List Value) (w : World) (Tv : TypeId) (h1 : ∀ u ∈ xs,u.oneCell' = true) (h1v : ∀ u ∈ vs,u.oneCell' = true) (hown : w.ownsRow base 64 3 (.slice (some ⟨g,0,none⟩) n c) n xs) (hi : i < n) (hn : n ≤ 1000000000) (hroom : c < n + 1) (hz : vs.length = 3)
 (hv : w.heap[vb]? = some (.cells vs.toArray Tv (0,0))) (hvb : vb ≠ g) (hbase : base ≤ w.heap.size) :
 Calls Tryz.prog 126 #[.slice (some ⟨g,0,none⟩) n c,.int .i64 i,.slice (some ⟨vb,0,none⟩) 1 1] w fun e w' => ∃ A' c',e = .returned (.slice A' (n + 1 : Nat) c') ∧ w'.ownsRow base 64 3 (.slice A' (n + 1) c') (n + 1) (xs.take (i * 3) ++ vs ++ xs.drop (i * 3)) ∧ w.grownBy w' none ∧ Value.ownBlock (.slice A' (n + 1) c') = some w.heap.size := by
 obtain ⟨g',cur,hA,hb,hg,hnc,hcm,hcs,ht,hl⟩ := own_open hown (by omega);injection hA with hA;injection hA with hA _;subst hA;obtain ⟨i0,hi0,hz0,hzs,hzb⟩ := info_parts infoX;have hm1 : (i + 1) * 3 ≤ n * 3 := Nat.mul_le_mul_right _ hi;have hcm2 : c ≤ 9223372036854775807 := by unfold maxLen at hcm;omega
 have hdl : (xs.drop (i * 3)).length = n * 3 - i * 3 := by rw [List.length_drop,hl]
 have htl : (xs.take (i * 3)).length = i * 3 := by rw [List.length_take,hl];omega
 have hsz : (Tryz.prog.info? 64).map (·.size) = some 3 := by kernel_rfl
 have hgw : g < w.heap.size := (Array.getElem?_eq_some_iff.1 hg).1;have hvw : vb < w.heap.size := (Array.getElem?_eq_some_iff.1 hv).1;have hkk : (n : Int) + 1 - (i : Int) = ((n + 1 - i : Nat) : Int) := by omega
 have hik : i + (n + 1 - i) = n + 1 := by omega
 have hold : (Builtin.firstCells i0.size i (.slice (some ⟨g,0,none⟩) i c)).run Tryz.prog w.drew = .ok (xs.take (i * 3)).toArray w.drew := by
  rw [hzs];exact run_firstCells_some w.drew 3 i ⟨g,0,none⟩ i c (xs.take (i * 3)) htl (fun j v hj => by
   rw [add_lit,Nat.zero_add];rw [List.getElem?_take] at hj;split at hj
   ·exact own_cell (w := w.drew) hg ht j v hj
   cases hj)
 have hrz : ∀ ty,(Builtin.append_ #[46,3] ty #[.slice (some ⟨g,0,none⟩) i c,.int .i64 ((n : Int) + 1 - (i : Int))]).run Tryz.prog w =
  .ok (.slice (some ⟨w.heap.size,0,none⟩) (n + 1) (grownCap w (n + 1) c 64)) (w.drew.alloc (.cells ((xs.take (i * 3)).toArray ++ Builtin.zeroCells (Value.agg #[.string ⟨#[]⟩,.string ⟨#[]⟩,.bool false]).cells (n + 1 - i) ++ Builtin.zeroCells (Value.agg #[.string ⟨#[]⟩,.string ⟨#[]⟩,.bool false]).cells (grownCap w (n + 1) c 64 - (n + 1))) 64)) := fun ty => by
  have h := Lib.run_append_grow_zeros (P := Tryz.prog) w 46 3 ty 64 i0 _ .i64 .i64 underX (by kernel_rfl) hi0 hz0 (some ⟨g,0,none⟩) i c (xs.take (i * 3)) hold (n + 1 - i) (by omega) (by omega) (by omega) (by omega) (by rw [hzb];omega) (by rw [hzb,hik];exact growslice_fits hroom (by omega));rw [hik] at h;rw [hkk];exact h
 obtain ⟨G,hG⟩ : ∃ G,G = grownCap w (n + 1) c 64 := ⟨_,rfl⟩;have hGn : n + 1 ≤ G := by rw [hG];exact grownCap_ge w _ _ _
 have hGm : G ≤ maxLen := by rw [hG];exact grownCap_le_maxLen w _ _ _ (by unfold maxLen;omega)
 rw [← hG] at hrz;obtain ⟨ROW,hROW⟩ : ∃ ROW : Array Value,ROW = (xs.take (i * 3)).toArray ++ Builtin.zeroCells (Value.agg #[.string ⟨#[]⟩,.string ⟨#[]⟩,.bool false]).cells (n + 1 - i) ++ Builtin.zeroCells (Value.agg #[.string ⟨#[]⟩,.string ⟨#[]⟩,.bool false]).cells (G - (n + 1)) := ⟨_,rfl⟩;rw [← hROW] at hrz;have hRs : ROW.size = G * 3 := by
  rw [hROW];simp only [Array.size_append,Builtin.zeroCells,Value.cells,List.size_toArray,htl,Array.size_map,Array.size_range,List.length_cons,List.length_nil];omega
 have hRt : ROW.toList.take (i * 3) = xs.take (i * 3) := by
  rw [hROW];simp only [Array.toList_append,List.append_assoc];rw [List.take_left' htl]
 obtain ⟨W1,hW1⟩ : ∃ W1,W1 = (w.alloc (.cells ROW 64)).drew := ⟨_,rfl⟩;have hWh : W1.heap = w.heap.push (.cells ROW 64) := by rw [hW1];rfl
 have hWs : W1.heap.size = w.heap.size + 1 := by rw [hWh,Array.size_push]
 have hN : W1.heap[w.heap.size]? = some (.cells ROW 64 (0,0)) := by rw [hWh];simp
 have hO : ∀ k,k < w.heap.size → W1.heap[k]? = w.heap[k]? := fun k hk => by
  rw [hWh];simp [Array.getElem?_push,Nat.ne_of_lt hk]
 have hcpA : ∀ ty dc,(Builtin.copy_ #[46,46] ty #[.slice (some ⟨w.heap.size,i * 3,none⟩) (n + 1 - i) dc,.slice (some ⟨vb,0,none⟩) 1 1]).run Tryz.prog W1 = .ok (goInt (1 : Nat)) (W1.setCells w.heap.size (i * 3) vs) := fun ty dc => by
  have hmin : Nat.min 1 (n + 1 - i) = 1 := by show min _ _ = _;omega
  have h := run_copy_cellsZ (P := Tryz.prog) W1 46 46 ty 64 3 w.heap.size (i * 3) (n + 1 - i) dc ⟨vb,0,none⟩ 1 1 vs underX hsz (by rw [hz,hmin])
   (fun j v hj => by rw [add_lit,cell_of_row W1 vb _ _ Tv (0,0) ((hO vb hvw).trans hv)];simpa using hj)
   (fun j hj => (own_cells hN _ (by rw [hRs];omega)).1) (fun j hj => (own_cells hN _ (by rw [hRs];omega)).2) h1v
  rw [hmin] at h;exact h
 obtain ⟨c1,hN2,hs2,-⟩ := own_set (o := i * 3) hN vs (by rw [hRs];omega);have hg2 : (W1.setCells w.heap.size (i * 3) vs).heap[g]? = some (.cells cur 64 (0,0)) := by
  rw [(setCells_grown w.heap.size _ rfl _ W1 _).block g (by omega) (by intro h;injection h with h;omega),hO g hgw];exact hg
 have hcpB : ∀ ty m1 m2 dc sc,m1 = n - i → m2 = n - i → (Builtin.copy_ #[46,46] ty #[.slice (some ⟨w.heap.size,(i + 1) * 3,none⟩) m1 dc,.slice (some ⟨g,i * 3,none⟩) m2 sc]).run Tryz.prog (W1.setCells w.heap.size (i * 3) vs).drew = .ok (goInt (n - i : Nat)) ((W1.setCells w.heap.size (i * 3) vs).drew.setCells w.heap.size ((i + 1) * 3) (xs.drop (i * 3))) := fun ty m1 m2 dc sc hm1 hm2 => by
  have hmin : Nat.min m2 m1 = n - i := by show min _ _ = _;omega
  have h := run_copy_cellsZ (P := Tryz.prog) (W1.setCells w.heap.size (i * 3) vs).drew 46 46 ty 64 3 w.heap.size ((i + 1) * 3) m1 dc ⟨g,i * 3,none⟩ m2 sc (xs.drop (i * 3)) underX hsz (by rw [hdl,hmin];omega)
   (fun j v hj => by rw [add_lit];rw [List.getElem?_drop] at hj;exact own_cell (w := (W1.setCells w.heap.size (i * 3) vs).drew) hg2 ht _ v hj)
   (fun j hj => (own_cells (w := (W1.setCells w.heap.size (i * 3) vs).drew) hN2 _ (by rw [hs2,hRs];omega)).1) (fun j hj => (own_cells (w := (W1.setCells w.heap.size (i * 3) vs).drew) hN2 _ (by rw [hs2,hRs];omega)).2) (fun v hv => h1 v (List.mem_of_mem_drop hv))
  rw [hmin] at h;exact h
 have HFIN := hide (own_grow (base := base) hN (by omega) hRs hRt hl hz hi hGn hGm);have HGR := hide (show w.grownBy ((W1.setCells w.heap.size (i * 3) vs).drew.setCells w.heap.size ((i + 1) * 3) (xs.drop (i * 3))) none by
  have hs1 : (W1.setCells w.heap.size (i * 3) vs).heap.size ≥ w.heap.size := Nat.le_trans (by omega) (setCells_grown w.heap.size _ rfl _ W1 _).size;have e1 : w.grownBy W1 (some w.heap.size) := ⟨by rw [hW1];rfl,by rw [hW1];rfl,by rw [hW1];rfl,by omega,fun k hk _ => hO k hk⟩;have e2 : W1.grownBy (W1.setCells w.heap.size (i * 3) vs) (some w.heap.size) := setCells_grown w.heap.size _ rfl _ W1 _;have e3 : (W1.setCells w.heap.size (i * 3) vs).grownBy ((W1.setCells w.heap.size (i * 3) vs).drew.setCells w.heap.size ((i + 1) * 3) (xs.drop (i * 3))) (some w.heap.size) := gb_drew (setCells_grown w.heap.size _ rfl _ _ _);have e4 := (e1.trans e2).trans e3;exact ⟨e4.os,e4.tape,e4.output,e4.size,fun k hk _ => e4.block k hk (by intro h;injection h with h;omega)⟩)
 have hGi : ¬ (G = i) := by omega
 have hGim : ¬ (G = i + 1) := by omega
 have hG63 : G ≤ 9223372036854775807 := by unfold maxLen at hGm;omega
 rw [hW1] at HFIN HGR hcpA hcpB;have HB := hide hcpB;have HRZ := hide hrz;clear hown hWh hWs hg hg2 hN hN2 hs2 hO hW1 W1 ht hl hdl htl hcs hcm h1 h1v hm1 hv hsz hz hRs hRt hROW hG hold hrz hkk hik hi0 hz0 hzs hzb hGm hcpB;have hz2 : ¬ ((i : Int) = (n : Int)) := by omega
 have hz3 : (c : Int) < (n : Int) + 1 := by omega
 have hci : ¬ (c = i) := by omega
 have hw1 : IntKind.i64.wrap ((i : Int) + 1) = (i : Int) + 1 := by rw [IntKind.wrap_i64];omega
 have hw2 : IntKind.i64.wrap ((n : Int) + 1) = (n : Int) + 1 := by rw [IntKind.wrap_i64];omega
 have hw3 : IntKind.i64.wrap ((n : Int) + 1 - (i : Int)) = (n : Int) + 1 - (i : Int) := by rw [IntKind.wrap_i64];omega
 have hb1 : (0 : Int) ≤ (i : Int) + 1 := by omega
 have htn : ((i : Int) + 1).toNat = i + 1 := by omega
 have hin : i ≤ n := by omega
 have hin2 : i ≤ c := by omega
 have hb3 : (i : Int) ≤ (n : Int) := by omega
 have hb8 : (i : Int) ≤ (n : Int) + 1 := by omega
 have hb9 : (i : Int) + 1 ≤ (n : Int) + 1 := by omega
 have hb10 : i ≤ n + 1 := by omega
 have hb11 : i ≤ G := by omega
 have mixed : Tryz.prog.follows Departure.mixedOrders = true := by kernel_rfl
 go_enter Tryz.func126,Tryz.ntmps126;go_wp2_with (at_builtin;refine Lib.wpList_append_run _ rfl _ _ _ _ rfl _ _ rfl rfl _ _ (HRZ.out _) ?_);go_region_law_o (refine step_copy_runI rfl _ _ 46 46 rfl _ _ (by simp [Act.eval,Act.put]) (by simp [Act.eval,Act.put]) (HB.out _ (n - i) (n - i) (G - (i + 1)) (c - i) rfl rfl) ?_);go_wp2_with fail;go_ret;exact ⟨_,_,rfl,HFIN.out,HGR.out,rfl⟩
theorem insertX_any (base n i c vb : Nat) (A : Option Addr) (xs vs : List Value) (w : World) (Tv : TypeId) (h1 : ∀ u ∈ xs,u.oneCell' = true) (h1v : ∀ u ∈ vs,u.oneCell' = true) (hown : w.ownsRow base 64 3 (.slice A n c) n xs) (hi : i ≤ n) (hn : n ≤ 1000000000) (hz : vs.length = 3)
 (hv : w.heap[vb]? = some (.cells vs.toArray Tv (0,0))) (hvb : Value.ownBlock (.slice A n c) ≠ some vb) (hbase : base ≤ w.heap.size) :
 Calls Tryz.prog 126 #[.slice A n c,.int .i64 i,.slice (some ⟨vb,0,none⟩) 1 1] w fun e w' => ∃ A' c',e = .returned (.slice A' (n + 1 : Nat) c') ∧ w'.ownsRow base 64 3 (.slice A' (n + 1) c') (n + 1) (xs.take (i * 3) ++ vs ++ xs.drop (i * 3)) ∧ w.grownBy w' (Value.ownBlock (.slice A n c)) ∧
  (Value.ownBlock (.slice A' (n + 1) c') = Value.ownBlock (.slice A n c) ∨ Value.ownBlock (.slice A' (n + 1) c') = some w.heap.size) := by
 rcases Nat.lt_or_ge i n with hlt | hge
 ·obtain ⟨g,cur,rfl,hb,hg,hnc,hcm,hcs,ht,hl⟩ := own_open hown (by omega);have hvb2 : vb ≠ g := fun h => hvb (by rw [h];rfl)
  rcases Nat.lt_or_ge c (n + 1) with hr | hr
  ·refine (insgrowX base n i c vb g xs vs w Tv h1 h1v hown hlt hn hr hz hv hvb2 hbase).mono ?_;rintro e w' ⟨A',c',he,ho,hgr,hA⟩;exact ⟨A',c',he,ho,⟨hgr.os,hgr.tape,hgr.output,hgr.size,fun k hk _ => hgr.block k hk (by intro h;cases h)⟩,.inr hA⟩
  refine (insshiftX base n i c vb g xs vs w Tv h1 h1v hown hlt hn hr hz hv hvb2).mono ?_;rintro e w' ⟨he,ho,hgr⟩;exact ⟨_,_,he,ho,hgr,.inl rfl⟩
 obtain rfl : i = n := by omega
 have hl : xs.length = i * 3 := hown.1;rw [List.take_of_length_le (by omega),List.drop_eq_nil_of_le (by omega),List.append_nil];exact insendX base i c vb A xs vs w Tv h1v hown hn hz hv hbase
theorem insendV (base n c vb : Nat) (A : Option Addr) (xs vs : List Value) (w : World) (Tv : TypeId) (h1v : ∀ u ∈ vs,u.oneCell' = true) (hown : w.ownsRow base 27 5 (.slice A n c) n xs) (hn : n ≤ 1000000000) (hz : vs.length = 5)
 (hv : w.heap[vb]? = some (.cells vs.toArray Tv (0,0))) (hbase : base ≤ w.heap.size) :
 Calls Tryz.prog 121 #[.slice A n c,.int .i64 n,.slice (some ⟨vb,0,none⟩) 1 1] w fun e w' => ∃ A' c',e = .returned (.slice A' (n + 1 : Nat) c') ∧ w'.ownsRow base 27 5 (.slice A' (n + 1) c') (n + 1) (xs ++ vs) ∧ w.grownBy w' (Value.ownBlock (.slice A n c)) ∧
  (Value.ownBlock (.slice A' (n + 1) c') = Value.ownBlock (.slice A n c) ∨ Value.ownBlock (.slice A' (n + 1) c') = some w.heap.size) := by
 have hc : c ≤ maxLen := by
  obtain ⟨-,⟨hq,-,-⟩ | ⟨g,cap,cur,hq,-,-,-,hcm,-⟩⟩ := hown
  ·injection hq with _ _ h3;rw [h3];exact Nat.zero_le _
  injection hq with _ _ h3;rw [h3];exact hcm
 have hc2 : n ≤ c := by
  obtain ⟨-,⟨hq,-,-⟩ | ⟨g,cap,cur,hq,-,-,hnc,-,-⟩⟩ := hown
  ·injection hq with _ h2 _;rw [h2];exact Nat.zero_le _
  injection hq with _ _ h3;rw [h3];exact hnc
 have hcc : c ≤ 9223372036854775807 := by unfold maxLen at hc;omega
 clear hc;obtain ⟨i0,hi0,hz0,hz1,hz2⟩ := info_parts infoV;have Hi0 := hide hi0;have Hz0 := hide hz0;have Hz1 := hide hz1;have Hz2 := hide hz2;have HS := hide (Src.ofSlice (P := Tryz.prog) (size := 5) w underV ⟨vb,0,none⟩ 1 1 vs (by omega) (fun j u hu => by rw [add_lit,cell_of_row w vb _ _ Tv (0,0) hv];simpa using hu) h1v);have HO := hide hown;clear hi0 hz0 hz1 hz2 hown hv h1v;rcases Decidable.em (c = n) with hcn | hcn
 case' inl => replace hcn := hcn.symm;subst hcn
 all_goals
  go_enter Tryz.func121,Tryz.ntmps121
  go_wp2_with (at_builtin;refine wpList_append_src rfl (.tmp 23) (.tmp 24) 24 24 rfl base 27 i0 _ 5 88 underV Hi0.out Hz0.out Hz1.out Hz2.out rfl (.slice A n _) n xs rfl HO.out _ 1 vs rfl HS.out (by omega) (by simp only [maxLen];omega) hbase ?_;intro A3 c3 w3 hown3 hgr3 hat3;have HO3 := hide hown3;have HG3 := hide hgr3;have HA3 := hide hat3;clear hown3 hgr3 hat3)
  all_goals
   go_ret
   exact ⟨A3,c3,rfl,HO3.out,HG3.out,HA3.out⟩
theorem insshiftV (base n i c vb g : Nat) (xs vs : List Value) (w : World) (Tv : TypeId) (h1 : ∀ u ∈ xs,u.oneCell' = true) (h1v : ∀ u ∈ vs,u.oneCell' = true) (hown : w.ownsRow base 27 5 (.slice (some ⟨g,0,none⟩) n c) n xs) (hi : i < n) (hn : n ≤ 1000000000) (hroom : n + 1 ≤ c) (hz : vs.length = 5)
 (hv : w.heap[vb]? = some (.cells vs.toArray Tv (0,0))) (hvb : vb ≠ g) :
 Calls Tryz.prog 121 #[.slice (some ⟨g,0,none⟩) n c,.int .i64 i,.slice (some ⟨vb,0,none⟩) 1 1] w fun e w' => e = .returned (.slice (some ⟨g,0,none⟩) (n + 1 : Nat) c) ∧ w'.ownsRow base 27 5 (.slice (some ⟨g,0,none⟩) (n + 1) c) (n + 1) (xs.take (i * 5) ++ vs ++ xs.drop (i * 5)) ∧ w.grownBy w' (some g) := by
 obtain ⟨g',cur,hA,hb,hg,hnc,hcm,hcs,ht,hl⟩ := own_open hown (by omega);injection hA with hA;injection hA with hA _;subst hA;have hm1 : (i + 1) * 5 ≤ n * 5 := Nat.mul_le_mul_right _ hi;have hm2 : (n + 1) * 5 ≤ c * 5 := Nat.mul_le_mul_right _ hroom;have hcm2 : c ≤ 9223372036854775807 := by unfold maxLen at hcm;omega
 have hdl : (xs.drop (i * 5)).length = n * 5 - i * 5 := by rw [List.length_drop,hl]
 have hsz : (Tryz.prog.info? 27).map (·.size) = some 5 := by kernel_rfl
 have hov : ∀ ab lb cb,(callFunc 168 #[.slice (some ⟨vb,0,none⟩) 1 1,.slice (some ⟨g,ab,none⟩) lb cb]).run Tryz.prog w = .ok (.value (.bool false)) w := fun ab lb cb => by
  rw [run_callFunc_extern (fn := Tryz.f168) (by kernel_rfl) (by kernel_rfl) (by kernel_rfl) (by kernel_rfl) (e := Extern.SlicesOverlaps.overlaps #[24,24] #[4]) (by kernel_rfl),
   Lib.run_overlaps_apart w 24 4 27 underV 5 (fun _ => rfl) ⟨vb,0,none⟩ ⟨g,ab,none⟩ 1 1 lb cb hvb Tv 27 vs.toArray.size cur.size (by simp [World.shape?,hv]) (by simp [World.shape?,hg]) (by rw [hcs];omega) (by simp [World.frozen?,hv]) (by simp [World.frozen?,hv])]
  rfl
 have hcp1 : ∀ ty m1 m2 dc sc,m1 = n - i → m2 = n + 1 - i → (Builtin.copy_ #[24,24] ty #[.slice (some ⟨g,(i + 1) * 5,none⟩) m1 dc,.slice (some ⟨g,i * 5,none⟩) m2 sc]).run Tryz.prog w.drew = .ok (goInt (n - i : Nat)) (w.drew.setCells g ((i + 1) * 5) (xs.drop (i * 5))) := fun ty m1 m2 dc sc hm1 hm2 => by
  have hmin : Nat.min m2 m1 = n - i := by show min _ _ = _;omega
  have h := run_copy_cellsZ (P := Tryz.prog) w.drew 24 24 ty 27 5 g ((i + 1) * 5) m1 dc ⟨g,i * 5,none⟩ m2 sc (xs.drop (i * 5)) underV hsz (by rw [hdl,hmin];omega)
   (fun j v hj => by rw [add_lit];rw [List.getElem?_drop] at hj;exact own_cell (w := w.drew) hg ht _ v hj)
   (fun j hj => (own_cells (w := w.drew) hg _ (by rw [hcs];omega)).1) (fun j hj => (own_cells (w := w.drew) hg _ (by rw [hcs];omega)).2) (fun v hv => h1 v (List.mem_of_mem_drop hv))
  rw [hmin] at h;exact h
 obtain ⟨W1,hW1⟩ : ∃ W1,w.drew.setCells g ((i + 1) * 5) (xs.drop (i * 5)) = W1 := ⟨_,rfl⟩;obtain ⟨c1,hg1,hs1,-⟩ := own_set (w := w.drew) (o := (i + 1) * 5) hg (xs.drop (i * 5)) (by rw [hdl,hcs];omega);have hv1 : W1.heap[vb]? = some (.cells vs.toArray Tv (0,0)) := by
  rw [← hW1,(setCells_grown g _ rfl _ w.drew _).block vb (Array.getElem?_eq_some_iff.1 hv).1 (by intro h;injection h with h;exact hvb h)];exact hv
 rw [hW1] at hg1;have hcp2 : ∀ ty dc,(Builtin.copy_ #[24,24] ty #[.slice (some ⟨g,i * 5,none⟩) (n + 1 - i) dc,.slice (some ⟨vb,0,none⟩) 1 1]).run Tryz.prog W1 = .ok (goInt (1 : Nat)) (W1.setCells g (i * 5) vs) := fun ty dc => by
  have hmin : Nat.min 1 (n + 1 - i) = 1 := by show min _ _ = _;omega
  have h := run_copy_cellsZ (P := Tryz.prog) W1 24 24 ty 27 5 g (i * 5) (n + 1 - i) dc ⟨vb,0,none⟩ 1 1 vs underV hsz (by rw [hz,hmin])
   (fun j v hj => by rw [add_lit,cell_of_row W1 vb _ _ Tv (0,0) hv1];simpa using hj)
   (fun j hj => (own_cells hg1 _ (by rw [hs1,hcs];omega)).1) (fun j hj => (own_cells hg1 _ (by rw [hs1,hcs];omega)).2) h1v
  rw [hmin] at h;exact h
 have HFIN := hide (show (W1.setCells g (i * 5) vs).ownsRow base 27 5 (.slice (some ⟨g,0,none⟩) (n + 1) c) (n + 1) (xs.take (i * 5) ++ vs ++ xs.drop (i * 5)) by
  rw [← hW1];exact own_insert (w := w.drew) hown i hi hroom hz)
 have HGR := hide (show w.grownBy (W1.setCells g (i * 5) vs) (some g) by
  rw [← hW1];exact gb_drew (World.grownBy.trans (setCells_grown g _ rfl _ w.drew _) (setCells_grown g _ rfl _ _ _)))
 have HC1 := hide hcp1;have hcp3 : ∀ ty dc,(Builtin.copy_ #[24,24] ty #[.slice (some ⟨g,i * 5,none⟩) (n + 1 - i) dc,.slice (some ⟨vb,0,none⟩) 1 1]).run Tryz.prog (w.drew.setCells g ((i + 1) * 5) (xs.drop (i * 5))) = .ok (goInt (1 : Nat)) ((w.drew.setCells g ((i + 1) * 5) (xs.drop (i * 5))).setCells g (i * 5) vs) := by
  rw [hW1];exact hcp2
 rw [← hW1] at HFIN HGR;clear hown hg hg1 hs1 hcp2 hv1 hW1 ht hl hdl hcs hcm h1 h1v hm1 hm2 hv hcp1 hsz hz W1;have hz2 : ¬ ((i : Int) = (n : Int)) := by omega
 have hw1 : IntKind.i64.wrap ((i : Int) + 1) = (i : Int) + 1 := by rw [IntKind.wrap_i64];omega
 have hw2 : IntKind.i64.wrap ((n : Int) + 1) = (n : Int) + 1 := by rw [IntKind.wrap_i64];omega
 have hb1 : (0 : Int) ≤ (i : Int) + 1 := by omega
 have hb1n : (0 : Int) ≤ (n : Int) + 1 := by omega
 have htn : ((i : Int) + 1).toNat = i + 1 := by omega
 have htn2 : ((n : Int) + 1).toNat = n + 1 := by omega
 have hin : i ≤ n := by omega
 have hb2 : ¬ (c = i + 1) := by omega
 have hb4 : ¬ (c = i) := by omega
 have hb5 : ¬ ((c : Int) < (n : Int) + 1) := by omega
 have hb6 : (n : Int) + 1 ≤ (c : Int) := by omega
 have hb7 : (i : Int) ≤ (n : Int) := by omega
 have hb8 : (i : Int) ≤ (n : Int) + 1 := by omega
 have hb9 : (i : Int) + 1 ≤ (n : Int) + 1 := by omega
 have hb10 : i ≤ n + 1 := by omega
 have mixed : Tryz.prog.follows Departure.mixedOrders = true := by kernel_rfl
 go_enter Tryz.func121,Tryz.ntmps121;go_wp2_with (simp only [hov]);go_region_law_o (refine step_copy_runI rfl _ _ 24 24 rfl _ _ (by simp [Act.eval,Act.put]) (by simp [Act.eval,Act.put]) (HC1.out _ (n - i) (n + 1 - i) (c - (i + 1)) (c - i) rfl rfl) ?_);go_wp2_with fail;go_ret;exact ⟨rfl,HFIN.out,HGR.out⟩
theorem insgrowV (base n i c vb g : Nat) (xs vs : List Value) (w : World) (Tv : TypeId) (h1 : ∀ u ∈ xs,u.oneCell' = true) (h1v : ∀ u ∈ vs,u.oneCell' = true) (hown : w.ownsRow base 27 5 (.slice (some ⟨g,0,none⟩) n c) n xs) (hi : i < n) (hn : n ≤ 1000000000) (hroom : c < n + 1) (hz : vs.length = 5)
 (hv : w.heap[vb]? = some (.cells vs.toArray Tv (0,0))) (hvb : vb ≠ g) (hbase : base ≤ w.heap.size) :
 Calls Tryz.prog 121 #[.slice (some ⟨g,0,none⟩) n c,.int .i64 i,.slice (some ⟨vb,0,none⟩) 1 1] w fun e w' => ∃ A' c',e = .returned (.slice A' (n + 1 : Nat) c') ∧ w'.ownsRow base 27 5 (.slice A' (n + 1) c') (n + 1) (xs.take (i * 5) ++ vs ++ xs.drop (i * 5)) ∧ w.grownBy w' none ∧ Value.ownBlock (.slice A' (n + 1) c') = some w.heap.size := by
 obtain ⟨g',cur,hA,hb,hg,hnc,hcm,hcs,ht,hl⟩ := own_open hown (by omega);injection hA with hA;injection hA with hA _;subst hA;obtain ⟨i0,hi0,hz0,hzs,hzb⟩ := info_parts infoV;have hm1 : (i + 1) * 5 ≤ n * 5 := Nat.mul_le_mul_right _ hi;have hcm2 : c ≤ 9223372036854775807 := by unfold maxLen at hcm;omega
 have hdl : (xs.drop (i * 5)).length = n * 5 - i * 5 := by rw [List.length_drop,hl]
 have htl : (xs.take (i * 5)).length = i * 5 := by rw [List.length_take,hl];omega
 have hsz : (Tryz.prog.info? 27).map (·.size) = some 5 := by kernel_rfl
 have hgw : g < w.heap.size := (Array.getElem?_eq_some_iff.1 hg).1;have hvw : vb < w.heap.size := (Array.getElem?_eq_some_iff.1 hv).1;have hkk : (n : Int) + 1 - (i : Int) = ((n + 1 - i : Nat) : Int) := by omega
 have hik : i + (n + 1 - i) = n + 1 := by omega
 have hold : (Builtin.firstCells i0.size i (.slice (some ⟨g,0,none⟩) i c)).run Tryz.prog w.drew = .ok (xs.take (i * 5)).toArray w.drew := by
  rw [hzs];exact run_firstCells_some w.drew 5 i ⟨g,0,none⟩ i c (xs.take (i * 5)) htl (fun j v hj => by
   rw [add_lit,Nat.zero_add];rw [List.getElem?_take] at hj;split at hj
   ·exact own_cell (w := w.drew) hg ht j v hj
   cases hj)
 have hrz : ∀ ty,(Builtin.append_ #[24,3] ty #[.slice (some ⟨g,0,none⟩) i c,.int .i64 ((n : Int) + 1 - (i : Int))]).run Tryz.prog w =
  .ok (.slice (some ⟨w.heap.size,0,none⟩) (n + 1) (grownCap w (n + 1) c 27)) (w.drew.alloc (.cells ((xs.take (i * 5)).toArray ++ Builtin.zeroCells (Value.agg #[.int .i64 0,.int .u64 0,.slice none 0 0,.slice none 0 0,.slice none 0 0]).cells (n + 1 - i) ++ Builtin.zeroCells (Value.agg #[.int .i64 0,.int .u64 0,.slice none 0 0,.slice none 0 0,.slice none 0 0]).cells (grownCap w (n + 1) c 27 - (n + 1))) 27)) := fun ty => by
  have h := Lib.run_append_grow_zeros (P := Tryz.prog) w 24 3 ty 27 i0 _ .i64 .i64 underV (by kernel_rfl) hi0 hz0 (some ⟨g,0,none⟩) i c (xs.take (i * 5)) hold (n + 1 - i) (by omega) (by omega) (by omega) (by omega) (by rw [hzb];omega) (by rw [hzb,hik];exact growslice_fits hroom (by omega));rw [hik] at h;rw [hkk];exact h
 obtain ⟨G,hG⟩ : ∃ G,G = grownCap w (n + 1) c 27 := ⟨_,rfl⟩;have hGn : n + 1 ≤ G := by rw [hG];exact grownCap_ge w _ _ _
 have hGm : G ≤ maxLen := by rw [hG];exact grownCap_le_maxLen w _ _ _ (by unfold maxLen;omega)
 rw [← hG] at hrz;obtain ⟨ROW,hROW⟩ : ∃ ROW : Array Value,ROW = (xs.take (i * 5)).toArray ++ Builtin.zeroCells (Value.agg #[.int .i64 0,.int .u64 0,.slice none 0 0,.slice none 0 0,.slice none 0 0]).cells (n + 1 - i) ++ Builtin.zeroCells (Value.agg #[.int .i64 0,.int .u64 0,.slice none 0 0,.slice none 0 0,.slice none 0 0]).cells (G - (n + 1)) := ⟨_,rfl⟩;rw [← hROW] at hrz;have hRs : ROW.size = G * 5 := by
  rw [hROW];simp only [Array.size_append,Builtin.zeroCells,Value.cells,List.size_toArray,htl,Array.size_map,Array.size_range,List.length_cons,List.length_nil];omega
 have hRt : ROW.toList.take (i * 5) = xs.take (i * 5) := by
  rw [hROW];simp only [Array.toList_append,List.append_assoc];rw [List.take_left' htl]
 obtain ⟨W1,hW1⟩ : ∃ W1,W1 = (w.alloc (.cells ROW 27)).drew := ⟨_,rfl⟩;have hWh : W1.heap = w.heap.push (.cells ROW 27) := by rw [hW1];rfl
 have hWs : W1.heap.size = w.heap.size + 1 := by rw [hWh,Array.size_push]
 have hN : W1.heap[w.heap.size]? = some (.cells ROW 27 (0,0)) := by rw [hWh];simp
 have hO : ∀ k,k < w.heap.size → W1.heap[k]? = w.heap[k]? := fun k hk => by
  rw [hWh];simp [Array.getElem?_push,Nat.ne_of_lt hk]
 have hcpA : ∀ ty dc,(Builtin.copy_ #[24,24] ty #[.slice (some ⟨w.heap.size,i * 5,none⟩) (n + 1 - i) dc,.slice (some ⟨vb,0,none⟩) 1 1]).run Tryz.prog W1 = .ok (goInt (1 : Nat)) (W1.setCells w.heap.size (i * 5) vs) := fun ty dc => by
  have hmin : Nat.min 1 (n + 1 - i) = 1 := by show min _ _ = _;omega
  have h := run_copy_cellsZ (P := Tryz.prog) W1 24 24 ty 27 5 w.heap.size (i * 5) (n + 1 - i) dc ⟨vb,0,none⟩ 1 1 vs underV hsz (by rw [hz,hmin])
   (fun j v hj => by rw [add_lit,cell_of_row W1 vb _ _ Tv (0,0) ((hO vb hvw).trans hv)];simpa using hj)
   (fun j hj => (own_cells hN _ (by rw [hRs];omega)).1) (fun j hj => (own_cells hN _ (by rw [hRs];omega)).2) h1v
  rw [hmin] at h;exact h
 obtain ⟨c1,hN2,hs2,-⟩ := own_set (o := i * 5) hN vs (by rw [hRs];omega);have hg2 : (W1.setCells w.heap.size (i * 5) vs).heap[g]? = some (.cells cur 27 (0,0)) := by
  rw [(setCells_grown w.heap.size _ rfl _ W1 _).block g (by omega) (by intro h;injection h with h;omega),hO g hgw];exact hg
 have hcpB : ∀ ty m1 m2 dc sc,m1 = n - i → m2 = n - i → (Builtin.copy_ #[24,24] ty #[.slice (some ⟨w.heap.size,(i + 1) * 5,none⟩) m1 dc,.slice (some ⟨g,i * 5,none⟩) m2 sc]).run Tryz.prog (W1.setCells w.heap.size (i * 5) vs).drew = .ok (goInt (n - i : Nat)) ((W1.setCells w.heap.size (i * 5) vs).drew.setCells w.heap.size ((i + 1) * 5) (xs.drop (i * 5))) := fun ty m1 m2 dc sc hm1 hm2 => by
  have hmin : Nat.min m2 m1 = n - i := by show min _ _ = _;omega
  have h := run_copy_cellsZ (P := Tryz.prog) (W1.setCells w.heap.size (i * 5) vs).drew 24 24 ty 27 5 w.heap.size ((i + 1) * 5) m1 dc ⟨g,i * 5,none⟩ m2 sc (xs.drop (i * 5)) underV hsz (by rw [hdl,hmin];omega)
   (fun j v hj => by rw [add_lit];rw [List.getElem?_drop] at hj;exact own_cell (w := (W1.setCells w.heap.size (i * 5) vs).drew) hg2 ht _ v hj)
   (fun j hj => (own_cells (w := (W1.setCells w.heap.size (i * 5) vs).drew) hN2 _ (by rw [hs2,hRs];omega)).1) (fun j hj => (own_cells (w := (W1.setCells w.heap.size (i * 5) vs).drew) hN2 _ (by rw [hs2,hRs];omega)).2) (fun v hv => h1 v (List.mem_of_mem_drop hv))
  rw [hmin] at h;exact h
 have HFIN := hide (own_grow (base := base) hN (by omega) hRs hRt hl hz hi hGn hGm);have HGR := hide (show w.grownBy ((W1.setCells w.heap.size (i * 5) vs).drew.setCells w.heap.size ((i + 1) * 5) (xs.drop (i * 5))) none by
  have hs1 : (W1.setCells w.heap.size (i * 5) vs).heap.size ≥ w.heap.size := Nat.le_trans (by omega) (setCells_grown w.heap.size _ rfl _ W1 _).size;have e1 : w.grownBy W1 (some w.heap.size) := ⟨by rw [hW1];rfl,by rw [hW1];rfl,by rw [hW1];rfl,by omega,fun k hk _ => hO k hk⟩;have e2 : W1.grownBy (W1.setCells w.heap.size (i * 5) vs) (some w.heap.size) := setCells_grown w.heap.size _ rfl _ W1 _;have e3 : (W1.setCells w.heap.size (i * 5) vs).grownBy ((W1.setCells w.heap.size (i * 5) vs).drew.setCells w.heap.size ((i + 1) * 5) (xs.drop (i * 5))) (some w.heap.size) := gb_drew (setCells_grown w.heap.size _ rfl _ _ _);have e4 := (e1.trans e2).trans e3;exact ⟨e4.os,e4.tape,e4.output,e4.size,fun k hk _ => e4.block k hk (by intro h;injection h with h;omega)⟩)
 have hGi : ¬ (G = i) := by omega
 have hGim : ¬ (G = i + 1) := by omega
 have hG63 : G ≤ 9223372036854775807 := by unfold maxLen at hGm;omega
 rw [hW1] at HFIN HGR hcpA hcpB;have HB := hide hcpB;have HRZ := hide hrz;clear hown hWh hWs hg hg2 hN hN2 hs2 hO hW1 W1 ht hl hdl htl hcs hcm h1 h1v hm1 hv hsz hz hRs hRt hROW hG hold hrz hkk hik hi0 hz0 hzs hzb hGm hcpB;have hz2 : ¬ ((i : Int) = (n : Int)) := by omega
 have hz3 : (c : Int) < (n : Int) + 1 := by omega
 have hci : ¬ (c = i) := by omega
 have hw1 : IntKind.i64.wrap ((i : Int) + 1) = (i : Int) + 1 := by rw [IntKind.wrap_i64];omega
 have hw2 : IntKind.i64.wrap ((n : Int) + 1) = (n : Int) + 1 := by rw [IntKind.wrap_i64];omega
 have hw3 : IntKind.i64.wrap ((n : Int) + 1 - (i : Int)) = (n : Int) + 1 - (i : Int) := by rw [IntKind.wrap_i64];omega
 have hb1 : (0 : Int) ≤ (i : Int) + 1 := by omega
 have htn : ((i : Int) + 1).toNat = i + 1 := by omega
 have hin : i ≤ n := by omega
 have hin2 : i ≤ c := by omega
 have hb3 : (i : Int) ≤ (n : Int) := by omega
 have hb8 : (i : Int) ≤ (n : Int) + 1 := by omega
 have hb9 : (i : Int) + 1 ≤ (n : Int) + 1 := by omega
 have hb10 : i ≤ n + 1 := by omega
 have hb11 : i ≤ G := by omega
 have mixed : Tryz.prog.follows Departure.mixedOrders = true := by kernel_rfl
 go_enter Tryz.func121,Tryz.ntmps121;go_wp2_with (at_builtin;refine Lib.wpList_append_run _ rfl _ _ _ _ rfl _ _ rfl rfl _ _ (HRZ.out _) ?_);go_region_law_o (refine step_copy_runI rfl _ _ 24 24 rfl _ _ (by simp [Act.eval,Act.put]) (by simp [Act.eval,Act.put]) (HB.out _ (n - i) (n - i) (G - (i + 1)) (c - i) rfl rfl) ?_);go_wp2_with fail;go_ret;exact ⟨_,_,rfl,HFIN.out,HGR.out,rfl⟩
theorem insertV_any (base n i c vb : Nat) (A : Option Addr) (xs vs : List Value) (w : World) (Tv : TypeId) (h1 : ∀ u ∈ xs,u.oneCell' = true) (h1v : ∀ u ∈ vs,u.oneCell' = true) (hown : w.ownsRow base 27 5 (.slice A n c) n xs) (hi : i ≤ n) (hn : n ≤ 1000000000) (hz : vs.length = 5)
 (hv : w.heap[vb]? = some (.cells vs.toArray Tv (0,0))) (hvb : Value.ownBlock (.slice A n c) ≠ some vb) (hbase : base ≤ w.heap.size) :
 Calls Tryz.prog 121 #[.slice A n c,.int .i64 i,.slice (some ⟨vb,0,none⟩) 1 1] w fun e w' => ∃ A' c',e = .returned (.slice A' (n + 1 : Nat) c') ∧ w'.ownsRow base 27 5 (.slice A' (n + 1) c') (n + 1) (xs.take (i * 5) ++ vs ++ xs.drop (i * 5)) ∧ w.grownBy w' (Value.ownBlock (.slice A n c)) ∧
  (Value.ownBlock (.slice A' (n + 1) c') = Value.ownBlock (.slice A n c) ∨ Value.ownBlock (.slice A' (n + 1) c') = some w.heap.size) := by
 rcases Nat.lt_or_ge i n with hlt | hge
 ·obtain ⟨g,cur,rfl,hb,hg,hnc,hcm,hcs,ht,hl⟩ := own_open hown (by omega);have hvb2 : vb ≠ g := fun h => hvb (by rw [h];rfl)
  rcases Nat.lt_or_ge c (n + 1) with hr | hr
  ·refine (insgrowV base n i c vb g xs vs w Tv h1 h1v hown hlt hn hr hz hv hvb2 hbase).mono ?_;rintro e w' ⟨A',c',he,ho,hgr,hA⟩;exact ⟨A',c',he,ho,⟨hgr.os,hgr.tape,hgr.output,hgr.size,fun k hk _ => hgr.block k hk (by intro h;cases h)⟩,.inr hA⟩
  refine (insshiftV base n i c vb g xs vs w Tv h1 h1v hown hlt hn hr hz hv hvb2).mono ?_;rintro e w' ⟨he,ho,hgr⟩;exact ⟨_,_,he,ho,hgr,.inl rfl⟩
 obtain rfl : i = n := by omega
 have hl : xs.length = i * 5 := hown.1;rw [List.take_of_length_le (by omega),List.drop_eq_nil_of_le (by omega),List.append_nil];exact insendV base i c vb A xs vs w Tv h1v hown hn hz hv hbase
end
end Go.Proofs.YtndjopkdbdcmdaaGreatDoor
