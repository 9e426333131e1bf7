/- Part 4 of the proof of pindexes_card. -/
import Derived.Test.YtndjopkdbdcmdaaGreatDoorPix2
import Derived.Deep.RegionWith
set_option linter.unusedVariables false
set_option linter.unusedSimpArgs false
set_option maxRecDepth 100000
set_option maxHeartbeats 12800000
namespace Go.Proofs.YtndjopkdbdcmdaaGreatDoor
section
open Go.RowKit
theorem most_any (v : V) : ∀ (w : World) (c : Cv),In w v c →
 Calls Tryz.prog 44 #[c.agg] w fun e w' => e = .returned (.int .i64 v.most) ∧ Grow w w' := by
 induction v using V.ind with
 | h k n b l f hl hf =>
  intro w c hv;have HV := hide hv;obtain ⟨aB,aL,aF,cB,cL,cF,rfl,h1,h2,h3,h4,h5,h6,h7,h8,h9,hb⟩ := hv.open;have Hl := hide hl;have Hf := hide hf;clear hb h1 h2 h3 hl hf h4 h5 hv;go_enter Tryz.func44,Tryz.ntmps44;go_wp2_with fail
  all_goals
   go_loopg [3,18] (l.length + 1) (fun gk m i wr => ∃ j : Nat,j ≤ l.length ∧ gk + j = l.length + 1 ∧ i = .int .i64 j ∧ m = .int .i64 ((((l.take j).map V.most).foldl max (max l.length f.length) : Nat) : Int) ∧
    Grow w wr ∧ In wr (.mk k n b l f) ⟨k,(n : Int),aB,b.length,cB,aL,l.length,cL,aF,f.length,cF⟩ ∧ Blk wr w.heap.size 27 (Cv.cells ⟨k,(n : Int),aB,b.length,cB,aL,l.length,cL,aF,f.length,cF⟩))
   case atStart => exact ⟨0,by omega,by omega,rfl,by simp;omega,(Grow.refl w).alloc _,In.grow HV.out ((Grow.refl w).alloc _),Blk.new _ _ _⟩
   case round =>
    obtain ⟨j,hj,hg,rfl,rfl,hw,hv,hB⟩ := hrel
    obtain ⟨gk',rfl⟩ := gk_ gk (by omega)
    by_cases hlt : j < l.length
    ·obtain ⟨bk,o,x,ha,hbk,e0,e1,e2,e3,e4,hx⟩ := hv.elemL j hlt
     dsimp only at ha
     subst ha
     have HW := hide hw
     have HX := hide hx
     have HVr := hide hv
     have HB := hide hB
     have hm := foldl_max_take V.most l (max l.length f.length) j hlt
     have HM := hide hm
     clear hw hx hv hB hm
     go_wp2_with fail
     refine (Hl.out _ (List.getElem_mem hlt) _ x (HX.out.grow ((Grow.refl wr).alloc _))).mono ?_
     rintro e w' ⟨rfl,hb'⟩
     have hgr : Hid (Grow wr w') := ((Grow.refl wr).alloc _).trans hb'
     clear hb' e0 e1 e2 e3 e4
     go_wp2_with fail
     all_goals
      go_roundg gk'
      case measure => omega
      case rel => exact ⟨j + 1,by omega,by omega,by go_num,by rw [HM.out];go_num,HW.out.trans hgr.out,HVr.out.grow hgr.out,HB.out.grow hgr.out⟩
    obtain rfl : j = l.length := by omega
    have hc := hB.cell
    have HW := hide hw
    have HVr := hide hv
    clear hw hv hB hlt hg
    go_wp2_with fail
    go_loopg [3,30] (f.length + 1) (fun gk m i wr => ∃ j : Nat,j ≤ f.length ∧ gk + j = f.length + 1 ∧ i = .int .i64 j ∧ m = .int .i64 ((((f.take j).map fun x => x.2.most).foldl max ((l.map V.most).foldl max (max l.length f.length)) : Nat) : Int) ∧
     Grow w wr ∧ In wr (.mk k n b l f) ⟨k,(n : Int),aB,b.length,cB,aL,l.length,cL,aF,f.length,cF⟩)
    case atStart => exact ⟨0,by omega,by omega,rfl,by simp,HW.out,HVr.out⟩
    case round =>
     obtain ⟨j,hj,hg,rfl,rfl,hw,hv⟩ := hrel
     obtain ⟨gk',rfl⟩ := gk_ gk (by omega)
     by_cases hlt : j < f.length
     ·obtain ⟨bk,o,x,ha,hbk,es,esz,e0,e1,e2,e3,e4,hx⟩ := hv.elemF j hlt
      dsimp only at ha
      subst ha
      have HW := hide hw
      have HX := hide hx
      have HVr := hide hv
      have hm := foldl_max_take (fun x : ByteArray × V => x.2.most) f ((l.map V.most).foldl max (max l.length f.length)) j hlt
      have HM := hide hm
      clear hw hx hv hm
      go_wp2_with fail
      refine (Hf.out _ (List.getElem_mem hlt) _ x (HX.out.grow ((Grow.refl wr).alloc _))).mono ?_
      rintro e w' ⟨rfl,hb'⟩
      have hgr : Hid (Grow wr w') := ((Grow.refl wr).alloc _).trans hb'
      clear hb' e0 e1 e2 e3 e4 es
      go_wp2_with fail
      all_goals
       go_roundg gk'
       case measure => omega
       case rel => exact ⟨j + 1,by omega,by omega,by go_num,by rw [HM.out];go_num,HW.out.trans hgr.out,HVr.out.grow hgr.out⟩
     obtain rfl : j = f.length := by omega
     have HW := hide hw
     clear hw hv hlt hg
     go_wp2_with fail
     go_ret
     exact ⟨ret_int (by rw [V.most_mk,List.take_length]),HW.out⟩
theorem depth_flat (v : V) (hk : v.k ≠ 7 ∧ v.k ≠ 8) (w : World) (c : Cv) (hv : In w v c) :
 Calls Tryz.prog 45 #[c.agg] w fun e w' => e = .returned (.int .i64 0) ∧ Grow w w' := by
 obtain ⟨k,n,b,l,f⟩ := v;obtain ⟨aB,aL,aF,cB,cL,cF,rfl,h1,h2,h3,h4,h5,h6,h7,h8,h9,hb⟩ := hv.open;have e7 : (k != 7) = true := by simpa [V.k] using hk.1
 have e8 : (k != 8) = true := by simpa [V.k] using hk.2
 clear hb hv hk;go_enter Tryz.func45,Tryz.ntmps45;go_wp2_with fail;go_ret;exact ⟨rfl,(Grow.refl w).alloc _⟩
theorem depth_any (v : V) : ∀ (w : World) (c : Cv),v.formed = true → v.depth ≤ 1099511627776 → In w v c →
 Calls Tryz.prog 45 #[c.agg] w fun e w' => e = .returned (.int .i64 v.depth) ∧ Grow w w' := by
 induction v using V.ind with
 | h k n b l f hl hf =>
  intro w c hfm hdp hv;rcases V.formed_cases hfm with h | ⟨_,_,h⟩ | ⟨_,h⟩ | ⟨_,h⟩ | ⟨_,_,h⟩ | ⟨_,h⟩ | ⟨l',hl',h⟩ | ⟨f',hf',hnd,h⟩
  case inr.inr.inr.inr.inr.inr.inl =>
   cases h
   have hdl : ∀ x ∈ l,x.depth ≤ 1099511627776 := fun x hx => Nat.le_trans (V.depth_l hx) hdp
   rw [V.depth_list] at hdp;have Hdl := hide hdl;have HV := hide hv;obtain ⟨aB,aL,aF,cB,cL,cF,rfl,h1,h2,h3,h4,h5,h6,h7,h8,h9,hb⟩ := hv.open;have Hl := hide hl;have Hl' := hide hl';clear hb h1 h2 h3 hl hf h4 h5 hv hl' hfm hdl;go_enter Tryz.func45,Tryz.ntmps45;go_wp2_with fail;go_loopg [3,19] (l.length + 1) (fun gk m i wr => ∃ j : Nat,j ≤ l.length ∧ gk + j = l.length + 1 ∧ i = .int .i64 j ∧ m = .int .i64 ((((l.take j).map V.depth).foldl max 0 : Nat) : Int) ∧
    Grow w wr ∧ In wr (.mk 7 0 [] l []) ⟨7,0,aB,0,cB,aL,l.length,cL,aF,0,cF⟩ ∧ Blk wr w.heap.size 27 (Cv.cells ⟨7,0,aB,0,cB,aL,l.length,cL,aF,0,cF⟩))
   case atStart => exact ⟨0,by omega,by omega,rfl,by simp,(Grow.refl w).alloc _,In.grow HV.out ((Grow.refl w).alloc _),Blk.new _ _ _⟩
   case round =>
    obtain ⟨j,hj,hg,rfl,rfl,hw,hv,hB⟩ := hrel;obtain ⟨gk',rfl⟩ := gk_ gk (by omega);by_cases hlt : j < l.length
    ·obtain ⟨bk,o,x,ha,hbk,e0,e1,e2,e3,e4,hx⟩ := hv.elemL j hlt;dsimp only at ha;subst ha;have HW := hide hw;have HX := hide hx;have HVr := hide hv;have HB := hide hB;have hm := foldl_max_take V.depth l 0 j hlt;have HM := hide hm;clear hw hx hv hB hm;go_wp2_with fail;refine (Hl.out _ (List.getElem_mem hlt) _ x (Hl'.out _ (List.getElem_mem hlt)) (Hdl.out _ (List.getElem_mem hlt)) (HX.out.grow ((Grow.refl wr).alloc _))).mono ?_;rintro e w' ⟨rfl,hb'⟩;have hgr : Hid (Grow wr w') := ((Grow.refl wr).alloc _).trans hb';clear hb' e0 e1 e2 e3 e4;go_wp2_with fail
     all_goals
      go_roundg gk'
      case measure => omega
      case rel => exact ⟨j + 1,by omega,by omega,by go_num,by rw [HM.out];go_num,HW.out.trans hgr.out,HVr.out.grow hgr.out,HB.out.grow hgr.out⟩
    obtain rfl : j = l.length := by omega
    have hc := hB.cell;have HW := hide hw;rw [List.take_length];clear hw hv hB hlt hg;go_wp2_with fail;refine wp_loop_once ?_;go_wp2_with fail;go_ret;exact ⟨ret_int (by rw [V.depth_list];omega),HW.out⟩
  case inr.inr.inr.inr.inr.inr.inr =>
   cases h
   have hdl : ∀ x ∈ f,x.2.depth ≤ 1099511627776 := fun x hx => Nat.le_trans (V.depth_f hx) hdp
   rw [V.depth_doc] at hdp;have Hdl := hide hdl;have HV := hide hv;obtain ⟨aB,aL,aF,cB,cL,cF,rfl,h1,h2,h3,h4,h5,h6,h7,h8,h9,hb⟩ := hv.open;have Hf := hide hf;have Hf' := hide hf';clear hb h1 h2 h3 hl hf h4 h5 hv hf' hfm hdl;go_enter Tryz.func45,Tryz.ntmps45;go_wp2_with fail;refine wp_loop_once ?_;go_wp2_with fail;go_loopg [3,31] (f.length + 1) (fun gk m i wr => ∃ j : Nat,j ≤ f.length ∧ gk + j = f.length + 1 ∧ i = .int .i64 j ∧ m = .int .i64 ((((f.take j).map fun x => x.2.depth).foldl max 0 : Nat) : Int) ∧
    Grow w wr ∧ In wr (.mk 8 0 [] [] f) ⟨8,0,aB,0,cB,aL,0,cL,aF,f.length,cF⟩)
   case atStart => exact ⟨0,by omega,by omega,rfl,by simp,(Grow.refl w).alloc _,In.grow HV.out ((Grow.refl w).alloc _)⟩
   case round =>
    obtain ⟨j,hj,hg,rfl,rfl,hw,hv⟩ := hrel;obtain ⟨gk',rfl⟩ := gk_ gk (by omega);by_cases hlt : j < f.length
    ·obtain ⟨bk,o,x,ha,hbk,es,esz,e0,e1,e2,e3,e4,hx⟩ := hv.elemF j hlt;dsimp only at ha;subst ha;have HW := hide hw;have HX := hide hx;have HVr := hide hv;have hm := foldl_max_take (fun x : ByteArray × V => x.2.depth) f 0 j hlt;have HM := hide hm;clear hw hx hv hm;go_wp2_with fail;refine (Hf.out _ (List.getElem_mem hlt) _ x (Hf'.out _ (List.getElem_mem hlt)).2 (Hdl.out _ (List.getElem_mem hlt)) (HX.out.grow ((Grow.refl wr).alloc _))).mono ?_;rintro e w' ⟨rfl,hb'⟩;have hgr : Hid (Grow wr w') := ((Grow.refl wr).alloc _).trans hb';clear hb' e0 e1 e2 e3 e4 es;go_wp2_with fail
     all_goals
      go_roundg gk'
      case measure => omega
      case rel => exact ⟨j + 1,by omega,by omega,by go_num,by rw [HM.out];go_num,HW.out.trans hgr.out,HVr.out.grow hgr.out⟩
    obtain rfl : j = f.length := by omega
    have HW := hide hw;rw [List.take_length];clear hw hv hlt hg;go_wp2_with fail;go_ret;exact ⟨ret_int (by rw [V.depth_doc];omega),HW.out⟩
  all_goals
   cases h
   refine (depth_flat _ (by simp [V.k]) w c hv).mono ?_
   rintro e w' ⟨rfl,hg⟩
   exact ⟨by simp [V.depth_mk],hg⟩
end
section
open Go.RowKit
theorem size_flat (v : V) (hk : v.l = [] ∧ v.f = []) (w : World) (c : Cv) (hfm : v.formed = true) (hv : In w v c) :
 Calls Tryz.prog 46 #[c.agg] w fun e w' => e = .returned (.int .i64 (v.bytes.length : Nat)) ∧ Grow w w' := by
 rcases V.formed_cases hfm with rfl | ⟨_,_,rfl⟩ | ⟨_,rfl⟩ | ⟨_,rfl⟩ | ⟨_,_,rfl⟩ | ⟨_,rfl⟩ | ⟨l',hl',rfl⟩ | ⟨f',hf',hnd,rfl⟩
 all_goals
  simp only [V.l,V.f] at hk
  obtain ⟨hk1,hk2⟩ := hk
  try subst hk1
  try subst hk2
  obtain ⟨aB,aL,aF,cB,cL,cF,rfl,h1,h2,h3,h4,h5,h6,h7,h8,h9,hb⟩ := hv.open
  clear hb hv hfm
  go_enter Tryz.func46,Tryz.ntmps46
  go_wp2_with fail
  refine wp_loop_once ?_
  go_wp2_with fail
  refine wp_loop_once ?_
  go_wp2_with fail
  go_ret
  exact ⟨ret_int (by rw [V.bytes_mk];simp [toLe_length] <;> omega),(Grow.refl w).alloc _⟩
theorem size_any (v : V) : ∀ (w : World) (c : Cv),v.formed = true → v.bytes.length ≤ 4611686018427387904 → In w v c →
 Calls Tryz.prog 46 #[c.agg] w fun e w' => e = .returned (.int .i64 (v.bytes.length : Nat)) ∧ Grow w w' := by
 induction v using V.ind with
 | h k n b l f hl hf =>
  intro w c hfm hdp hv;rcases V.formed_cases hfm with h | ⟨_,_,h⟩ | ⟨_,h⟩ | ⟨_,h⟩ | ⟨_,_,h⟩ | ⟨_,h⟩ | ⟨l',hl',h⟩ | ⟨f',hf',hnd,h⟩
  case inr.inr.inr.inr.inr.inr.inl =>
   cases h
   rw [V.bytes_list] at hdp ⊢;simp only [List.length_cons] at hdp ⊢;have hdl : ∀ x ∈ l,x.bytes.length ≤ 4611686018427387904 := fun x hx => Nat.le_trans (flat_mem V.bytes l x hx) (by omega)
   have Hdl := hide hdl;have HV := hide hv;obtain ⟨aB,aL,aF,cB,cL,cF,rfl,h1,h2,h3,h4,h5,h6,h7,h8,h9,hb⟩ := hv.open;have Hl := hide hl;have Hl' := hide hl';clear hb h1 h2 h3 hl hf h4 h5 hv hl' hfm hdl;go_enter Tryz.func46,Tryz.ntmps46;go_wp2_with fail;go_loopg [3,36] (l.length + 1) (fun gk m i wr => ∃ j : Nat,j ≤ l.length ∧ gk + j = l.length + 1 ∧ i = .int .i64 j ∧ m = .int .i64 ((((l.take j).map V.bytes).flatten.length + 2 : Nat) : Int) ∧
    Grow w wr ∧ In wr (.mk 7 0 [] l []) ⟨7,0,aB,0,cB,aL,l.length,cL,aF,0,cF⟩ ∧ Blk wr w.heap.size 27 (Cv.cells ⟨7,0,aB,0,cB,aL,l.length,cL,aF,0,cF⟩))
   case atStart => exact ⟨0,by omega,by omega,rfl,by simp,(Grow.refl w).alloc _,In.grow HV.out ((Grow.refl w).alloc _),Blk.new _ _ _⟩
   case round =>
    obtain ⟨j,hj,hg,rfl,rfl,hw,hv,hB⟩ := hrel;obtain ⟨gk',rfl⟩ := gk_ gk (by omega);by_cases hlt : j < l.length
    ·obtain ⟨bk,o,x,ha,hbk,e0,e1,e2,e3,e4,hx⟩ := hv.elemL j hlt;dsimp only at ha;subst ha;have HW := hide hw;have HX := hide hx;have HVr := hide hv;have HB := hide hB;have hm := congrArg List.length (flat_take V.bytes l j hlt);rw [List.length_append] at hm;have hle := flat_le V.bytes l (j + 1);rw [hm] at hle;have HM := hide hm;obtain ⟨S,hS⟩ : ∃ S,S = ((l.take j).map V.bytes).flatten.length := ⟨_,rfl⟩;rw [← hS] at hle ⊢;have HS := hide hS;clear hw hx hv hB hm hS;go_wp2_with fail;refine (Hl.out _ (List.getElem_mem hlt) _ x (Hl'.out _ (List.getElem_mem hlt)) (Hdl.out _ (List.getElem_mem hlt)) (HX.out.grow ((Grow.refl wr).alloc _))).mono ?_;rintro e w' ⟨rfl,hb'⟩;have hgr : Hid (Grow wr w') := ((Grow.refl wr).alloc _).trans hb';clear hb' e0 e1 e2 e3 e4;go_wp2_with fail;go_roundg gk'
     case measure => omega
     case rel => exact ⟨j + 1,by omega,by omega,by go_num,by rw [HM.out,← HS.out];go_num,HW.out.trans hgr.out,HVr.out.grow hgr.out,HB.out.grow hgr.out⟩
    obtain rfl : j = l.length := by omega
    have hc := hB.cell;have HW := hide hw;rw [List.take_length];clear hw hv hB hlt hg;go_wp2_with fail;refine wp_loop_once ?_;go_wp2_with fail;go_ret;exact ⟨ret_int (by omega),HW.out⟩
  case inr.inr.inr.inr.inr.inr.inr =>
   cases h
   rw [V.bytes_doc] at hdp ⊢;simp only [List.length_cons] at hdp ⊢;have hdl : ∀ x ∈ f,(V.item x.1 x.2.bytes).length ≤ 4611686018427387904 := fun x hx => Nat.le_trans (flat_mem (fun x : ByteArray × V => V.item x.1 x.2.bytes) f x hx) (by omega)
   have Hdl := hide hdl;have HV := hide hv;obtain ⟨aB,aL,aF,cB,cL,cF,rfl,h1,h2,h3,h4,h5,h6,h7,h8,h9,hb⟩ := hv.open;have Hf := hide hf;have Hf' := hide hf';clear hb h1 h2 h3 hl hf h4 h5 hv hf' hfm hdl;go_enter Tryz.func46,Tryz.ntmps46;go_wp2_with fail;refine wp_loop_once ?_;go_wp2_with fail;go_loopg [3,48] (f.length + 1) (fun gk m i wr => ∃ j : Nat,j ≤ f.length ∧ gk + j = f.length + 1 ∧ i = .int .i64 j ∧ m = .int .i64 ((((f.take j).map fun x => V.item x.1 x.2.bytes).flatten.length + 2 : Nat) : Int) ∧
    Grow w wr ∧ In wr (.mk 8 0 [] [] f) ⟨8,0,aB,0,cB,aL,0,cL,aF,f.length,cF⟩)
   case atStart => exact ⟨0,by omega,by omega,rfl,by simp,(Grow.refl w).alloc _,In.grow HV.out ((Grow.refl w).alloc _)⟩
   case round =>
    obtain ⟨j,hj,hg,rfl,rfl,hw,hv⟩ := hrel;obtain ⟨gk',rfl⟩ := gk_ gk (by omega);by_cases hlt : j < f.length
    ·obtain ⟨bk,o,x,ha,hbk,es,esz,e0,e1,e2,e3,e4,hx⟩ := hv.elemF j hlt;dsimp only at ha;subst ha;have HW := hide hw;have HX := hide hx;have HVr := hide hv;have hm := congrArg List.length (flat_take (fun x : ByteArray × V => V.item x.1 x.2.bytes) f j hlt);rw [List.length_append,V.item_length] at hm;have hle := flat_le (fun x : ByteArray × V => V.item x.1 x.2.bytes) f (j + 1);rw [hm] at hle;have HM := hide hm;have hit := Hdl.out _ (List.getElem_mem hlt);rw [V.item_length] at hit;obtain ⟨S,hS⟩ : ∃ S,S = ((f.take j).map fun x : ByteArray × V => V.item x.1 x.2.bytes).flatten.length := ⟨_,rfl⟩;rw [← hS] at hle ⊢;have HS := hide hS;clear hw hx hv hm hS;go_wp2_with fail
     go_region_with (go_at_call 46;refine (Hf.out _ (List.getElem_mem hlt) _ x (Hf'.out _ (List.getElem_mem hlt)).2 (by omega) (HX.out.grow (((Grow.refl wr).alloc _).drew))).mono ?_;rintro e w' ⟨rfl,hb'⟩;have hcq := (Blk.grow (Blk.drew (Blk.new wr _ _)) hb').cell)
     all_goals
      have hgr : Hid (Grow wr w') := (((Grow.refl wr).alloc _).drew).trans hb'
      clear hb' hcq
      go_wp2_with fail
      go_roundg gk'
      case measure => omega
      case rel => exact ⟨j + 1,by omega,by omega,by go_num,by rw [HM.out,← HS.out];go_num,HW.out.trans hgr.out,HVr.out.grow hgr.out⟩
    obtain rfl : j = f.length := by omega
    have HW := hide hw;rw [List.take_length];clear hw hv hlt hg;go_wp2_with fail;go_ret;exact ⟨ret_int (by omega),HW.out⟩
  all_goals
   cases h
   exact size_flat _ ⟨rfl,rfl⟩ w c hfm hv
end
section
open Go.RowKit
def bsG (cf : Nat → Int) : Nat → Nat → Nat → Nat
 | 0,i,_ => i
 | g + 1,i,j => if i < j then (if cf ((i + j) / 2) < 0 then bsG cf g ((i + j) / 2 + 1) j else bsG cf g i ((i + j) / 2)) else i
theorem bsG_end {cf : Nat → Int} {g i j : Nat} (h : j ≤ i) : bsG cf g i j = i := by
 cases g with
 | zero => rfl
 | succ g => rw [bsG,if_neg (by omega)]
theorem bsG_up {cf : Nat → Int} {g i j : Nat} (h : i < j) (hc : cf ((i + j) / 2) < 0) : bsG cf (g + 1) i j = bsG cf g ((i + j) / 2 + 1) j := by rw [bsG,if_pos h,if_pos hc]
theorem bsG_down {cf : Nat → Int} {g i j : Nat} (h : i < j) (hc : ¬ cf ((i + j) / 2) < 0) : bsG cf (g + 1) i j = bsG cf g i ((i + j) / 2) := by rw [bsG,if_pos h,if_neg hc]
theorem bsG_fuel {cf : Nat → Int} : ∀ (g g' i j : Nat),j - i ≤ g → j - i ≤ g' → bsG cf g i j = bsG cf g' i j
 | 0,g',i,j,h,h' => by rw [bsG_end (by omega),bsG_end (by omega)]
 | g + 1,0,i,j,h,h' => by rw [bsG_end (by omega),bsG_end (by omega)]
 | g + 1,g' + 1,i,j,h,h' => by
  by_cases hij : i < j
  ·by_cases hc : cf ((i + j) / 2) < 0
   ·rw [bsG_up hij hc,bsG_up hij hc];exact bsG_fuel g g' _ _ (by omega) (by omega)
   rw [bsG_down hij hc,bsG_down hij hc];exact bsG_fuel g g' _ _ (by omega) (by omega)
  rw [bsG_end (by omega),bsG_end (by omega)]
def bsN (cf : Nat → Int) (n : Nat) : Nat := bsG cf n 0 n
theorem bsG_le {cf : Nat → Int} : ∀ (g i j : Nat),i ≤ j → i ≤ bsG cf g i j ∧ bsG cf g i j ≤ j
 | 0,i,j,h => by rw [bsG];omega
 | g + 1,i,j,h => by
  by_cases hij : i < j
  ·by_cases hc : cf ((i + j) / 2) < 0
   ·rw [bsG_up hij hc];have := bsG_le (cf := cf) g ((i + j) / 2 + 1) j (by omega);omega
   rw [bsG_down hij hc];have := bsG_le (cf := cf) g i ((i + j) / 2) (by omega);omega
  rw [bsG_end (by omega)];omega
theorem bsN_le (cf : Nat → Int) (n : Nat) : bsN cf n ≤ n := (bsG_le n 0 n (by omega)).2
def bsF (cf : Nat → Int) (n : Nat) : Bool := decide (bsN cf n < n) && cf (bsN cf n) == 0
def RowR (w : World) (A : Option Addr) (z n : Nat) (cs : Nat → Array Value) : Prop :=
 ∀ j,j < n → ∃ bk o,A = some ⟨bk,o,none⟩ ∧ bk < w.heap.size ∧ ∀ i v,(cs j)[i]? = some v → w.cell? ⟨bk,o + j * z + i,none⟩ = some v
theorem RowR.grow {w w' : World} {A : Option Addr} {z n : Nat} {cs : Nat → Array Value} (h : RowR w A z n cs) (hg : Grow w w') : RowR w' A z n cs := fun j hj => by
 obtain ⟨bk,o,ha,hb,hc⟩ := h j hj;exact ⟨bk,o,ha,Nat.lt_of_lt_of_le hb hg.size,fun i v hv => (hg.below.cell hb).trans (hc i v hv)⟩
structure Cc where
 nm : ByteArray
 dA : Option Addr
 dn : Nat
 dc : Nat
 xA : Option Addr
 xn : Nat
 xc : Nat
abbrev Cc.cells (c : Cc) : Array Value := #[.string c.nm,.slice c.dA c.dn c.dc,.slice c.xA c.xn c.xc]
structure Ix where
 name : ByteArray
 path : ByteArray
 uniq : Bool
abbrev Ix.cells (c : Ix) : Array Value := #[.string c.name,.string c.path,.bool c.uniq]
end
section
open Go.RowKit
theorem ret_ib2 {k : IntKind} {a b : Int} {p q : Bool} (h : a = b) (h' : p = q) : Ending.returned (.tuple #[.int k a,.bool p]) = .returned (.tuple #[.int k b,.bool q]) := by rw [h,h']
theorem bsC_any (n : Nat) (cf : Nat → Int) (el : Nat → Cc) (A : Option Addr) (cap : Nat) (u : Value) (w : World) (hn : n ≤ 140737488355328) (hrow : RowR w A 3 n (fun j => (el j).cells))
 (hcmp : ∀ j,j < n → ∀ w',Grow w w' → Calls Tryz.prog 163 #[.agg (el j).cells,u] w' fun e w'' => e = .returned (.int .i64 (cf j)) ∧ Grow w' w'') :
 Calls Tryz.prog 162 #[.slice A n cap,u,.func (.func 163) #[] #[]] w fun e w' => e = .returned (.tuple #[.int .i64 (bsN cf n : Nat),.bool (bsF cf n)]) ∧ Grow w w' := by
 have HROW := hide hrow;have HCMP := hide hcmp;have hle0 := bsN_le cf n;obtain ⟨R,hR⟩ : ∃ R,bsN cf n = R := ⟨_,rfl⟩;obtain ⟨T,hT⟩ : ∃ T,bsF cf n = T := ⟨_,rfl⟩;rw [hR] at hle0 ⊢;rw [hT];have HTT := hide hT;have HR := hide hR;clear hrow hcmp hR hT;go_enter Tryz.func162,Tryz.ntmps162;go_wp2_with fail;go_loopg [9,10,11] (n + 1) (fun gk i j hh wr => ∃ a b : Nat,a ≤ b ∧ b ≤ n ∧ b - a ≤ gk ∧ i = .int .i64 a ∧ j = .int .i64 b ∧ bsG cf n a b = R ∧ Grow w wr)
 case atStart => exact ⟨0,n,by omega,by omega,by omega,rfl,rfl,HR.out,Grow.refl w⟩
 case round =>
  obtain ⟨a,b,hab,hbn,hgk,rfl,rfl,hbs,hwr⟩ := hrel;have HWR := hide hwr;have HBS := hide hbs;clear hwr hbs;by_cases hlt : a < b
  ·obtain ⟨gk',rfl⟩ := gk_ gk (by omega);obtain ⟨h,hh⟩ : ∃ h,(a + b) / 2 = h := ⟨_,rfl⟩;have hh1 : a ≤ h := by omega
   have hh2 : h < b := by omega
   have hhi : ((a : Int) + (b : Int)) / 2 = (h : Int) := by omega
   have hhn : h < n := by omega
   obtain ⟨bk,o,ha,hbk,hc⟩ := (HROW.out.grow HWR.out) h hhn;subst ha;have e0 : wr.cell? ⟨bk,o + h * 3,none⟩ = some (.string (el h).nm) := by simpa using hc 0 _ rfl
   have e1 : wr.cell? ⟨bk,o + h * 3 + 1,none⟩ = some (.slice (el h).dA (el h).dn (el h).dc) := by simpa using hc 1 _ rfl
   have e2 : wr.cell? ⟨bk,o + h * 3 + 2,none⟩ = some (.slice (el h).xA (el h).xn (el h).xc) := by simpa using hc 2 _ rfl
   have HC := hide (HCMP.out h hhn wr HWR.out);have HH := hide hh;obtain ⟨z,hz⟩ : ∃ z,cf h = z := ⟨_,rfl⟩;rw [hz] at HC;have HZ := hide hz;clear hc hbk hh hz;go_wp2_with fail;refine HC.out.mono ?_;rintro e w2 ⟨rfl,hg2⟩;have HG2 := hide (HWR.out.trans hg2);clear hg2;by_cases hneg : z < 0
   ·have HUP := hide (show bsG cf n (h + 1) b = R by rw [← HBS.out,bsG_fuel n ((b - a - 1) + 1) a b (by omega) (by omega),bsG_up hlt (by rw [HH.out,HZ.out];exact hneg),HH.out];exact bsG_fuel _ _ _ _ (by omega) (by omega));go_wp2_with fail;go_roundg gk'
    case measure => omega
    case rel => exact ⟨h + 1,b,by omega,hbn,by omega,by go_num,rfl,HUP.out,HG2.out⟩
   have HDN := hide (show bsG cf n a h = R by rw [← HBS.out,bsG_fuel n ((b - a - 1) + 1) a b (by omega) (by omega),bsG_down hlt (by rw [HH.out,HZ.out];exact hneg),HH.out];exact bsG_fuel _ _ _ _ (by omega) (by omega));go_wp2_with fail;go_roundg gk'
   case measure => omega
   case rel => exact ⟨a,h,by omega,by omega,by omega,rfl,rfl,HDN.out,HG2.out⟩
  obtain rfl : a = b := by omega
  obtain rfl : R = a := by rw [← HBS.out,bsG_end (Nat.le_refl _)]
  by_cases hRn : R < n
  ·obtain ⟨bk,o,ha,hbk,hc⟩ := (HROW.out.grow HWR.out) R hRn;subst ha;have e0 : wr.cell? ⟨bk,o + R * 3,none⟩ = some (.string (el R).nm) := by simpa using hc 0 _ rfl
   have e1 : wr.cell? ⟨bk,o + R * 3 + 1,none⟩ = some (.slice (el R).dA (el R).dn (el R).dc) := by simpa using hc 1 _ rfl
   have e2 : wr.cell? ⟨bk,o + R * 3 + 2,none⟩ = some (.slice (el R).xA (el R).xn (el R).xc) := by simpa using hc 2 _ rfl
   have HC := hide (HCMP.out R hRn wr HWR.out);obtain ⟨z,hz⟩ : ∃ z,cf R = z := ⟨_,rfl⟩;rw [hz] at HC;have HZ := hide hz;clear hc hbk hz hlt;go_wp2_with fail;refine HC.out.mono ?_;rintro e w2 ⟨rfl,hg2⟩;have HG2 := hide (HWR.out.trans hg2);clear hg2;go_wp2_with fail;go_ret2;exact ⟨ret_ib2 rfl (by rw [← HTT.out];unfold bsF;rw [HR.out,HZ.out,decide_eq_true hRn,Bool.true_and]),HG2.out⟩
  obtain rfl : T = false := by rw [← HTT.out];unfold bsF;rw [HR.out,decide_eq_false hRn];rfl
  go_wp2_with fail;go_ret2;exact ⟨rfl,HWR.out⟩
theorem bsX_any (n : Nat) (cf : Nat → Int) (el : Nat → Ix) (A : Option Addr) (cap : Nat) (u : Value) (w : World) (hn : n ≤ 140737488355328) (hrow : RowR w A 3 n (fun j => (el j).cells))
 (hcmp : ∀ j,j < n → ∀ w',Grow w w' → Calls Tryz.prog 171 #[.agg (el j).cells,u] w' fun e w'' => e = .returned (.int .i64 (cf j)) ∧ Grow w' w'') :
 Calls Tryz.prog 170 #[.slice A n cap,u,.func (.func 171) #[] #[]] w fun e w' => e = .returned (.tuple #[.int .i64 (bsN cf n : Nat),.bool (bsF cf n)]) ∧ Grow w w' := by
 have HROW := hide hrow;have HCMP := hide hcmp;have hle0 := bsN_le cf n;obtain ⟨R,hR⟩ : ∃ R,bsN cf n = R := ⟨_,rfl⟩;obtain ⟨T,hT⟩ : ∃ T,bsF cf n = T := ⟨_,rfl⟩;rw [hR] at hle0 ⊢;rw [hT];have HTT := hide hT;have HR := hide hR;clear hrow hcmp hR hT;go_enter Tryz.func170,Tryz.ntmps170;go_wp2_with fail;go_loopg [9,10,11] (n + 1) (fun gk i j hh wr => ∃ a b : Nat,a ≤ b ∧ b ≤ n ∧ b - a ≤ gk ∧ i = .int .i64 a ∧ j = .int .i64 b ∧ bsG cf n a b = R ∧ Grow w wr)
 case atStart => exact ⟨0,n,by omega,by omega,by omega,rfl,rfl,HR.out,Grow.refl w⟩
 case round =>
  obtain ⟨a,b,hab,hbn,hgk,rfl,rfl,hbs,hwr⟩ := hrel;have HWR := hide hwr;have HBS := hide hbs;clear hwr hbs;by_cases hlt : a < b
  ·obtain ⟨gk',rfl⟩ := gk_ gk (by omega);obtain ⟨h,hh⟩ : ∃ h,(a + b) / 2 = h := ⟨_,rfl⟩;have hh1 : a ≤ h := by omega
   have hh2 : h < b := by omega
   have hhi : ((a : Int) + (b : Int)) / 2 = (h : Int) := by omega
   have hhn : h < n := by omega
   obtain ⟨bk,o,ha,hbk,hc⟩ := (HROW.out.grow HWR.out) h hhn;subst ha;have e0 : wr.cell? ⟨bk,o + h * 3,none⟩ = some (.string (el h).name) := by simpa using hc 0 _ rfl
   have e1 : wr.cell? ⟨bk,o + h * 3 + 1,none⟩ = some (.string (el h).path) := by simpa using hc 1 _ rfl
   have e2 : wr.cell? ⟨bk,o + h * 3 + 2,none⟩ = some (.bool (el h).uniq) := by simpa using hc 2 _ rfl
   have HC := hide (HCMP.out h hhn wr HWR.out);have HH := hide hh;obtain ⟨z,hz⟩ : ∃ z,cf h = z := ⟨_,rfl⟩;rw [hz] at HC;have HZ := hide hz;clear hc hbk hh hz;go_wp2_with fail;refine HC.out.mono ?_;rintro e w2 ⟨rfl,hg2⟩;have HG2 := hide (HWR.out.trans hg2);clear hg2;by_cases hneg : z < 0
   ·have HUP := hide (show bsG cf n (h + 1) b = R by rw [← HBS.out,bsG_fuel n ((b - a - 1) + 1) a b (by omega) (by omega),bsG_up hlt (by rw [HH.out,HZ.out];exact hneg),HH.out];exact bsG_fuel _ _ _ _ (by omega) (by omega));go_wp2_with fail;go_roundg gk'
    case measure => omega
    case rel => exact ⟨h + 1,b,by omega,hbn,by omega,by go_num,rfl,HUP.out,HG2.out⟩
   have HDN := hide (show bsG cf n a h = R by rw [← HBS.out,bsG_fuel n ((b - a - 1) + 1) a b (by omega) (by omega),bsG_down hlt (by rw [HH.out,HZ.out];exact hneg),HH.out];exact bsG_fuel _ _ _ _ (by omega) (by omega));go_wp2_with fail;go_roundg gk'
   case measure => omega
   case rel => exact ⟨a,h,by omega,by omega,by omega,rfl,rfl,HDN.out,HG2.out⟩
  obtain rfl : a = b := by omega
  obtain rfl : R = a := by rw [← HBS.out,bsG_end (Nat.le_refl _)]
  by_cases hRn : R < n
  ·obtain ⟨bk,o,ha,hbk,hc⟩ := (HROW.out.grow HWR.out) R hRn;subst ha;have e0 : wr.cell? ⟨bk,o + R * 3,none⟩ = some (.string (el R).name) := by simpa using hc 0 _ rfl
   have e1 : wr.cell? ⟨bk,o + R * 3 + 1,none⟩ = some (.string (el R).path) := by simpa using hc 1 _ rfl
   have e2 : wr.cell? ⟨bk,o + R * 3 + 2,none⟩ = some (.bool (el R).uniq) := by simpa using hc 2 _ rfl
   have HC := hide (HCMP.out R hRn wr HWR.out);obtain ⟨z,hz⟩ : ∃ z,cf R = z := ⟨_,rfl⟩;rw [hz] at HC;have HZ := hide hz;clear hc hbk hz hlt;go_wp2_with fail;refine HC.out.mono ?_;rintro e w2 ⟨rfl,hg2⟩;have HG2 := hide (HWR.out.trans hg2);clear hg2;go_wp2_with fail;go_ret2;exact ⟨ret_ib2 rfl (by rw [← HTT.out];unfold bsF;rw [HR.out,HZ.out,decide_eq_true hRn,Bool.true_and]),HG2.out⟩
  obtain rfl : T = false := by rw [← HTT.out];unfold bsF;rw [HR.out,decide_eq_false hRn];rfl
  go_wp2_with fail;go_ret2;exact ⟨rfl,HWR.out⟩
theorem bsV_any (n : Nat) (cf : Nat → Int) (el : Nat → Cv) (A : Option Addr) (cap : Nat) (u : Value) (w : World) (hn : n ≤ 140737488355328) (hrow : RowR w A 5 n (fun j => (el j).cells))
 (hcmp : ∀ j,j < n → ∀ w',Grow w w' → Calls Tryz.prog 167 #[.agg (el j).cells,u] w' fun e w'' => e = .returned (.int .i64 (cf j)) ∧ Grow w' w'') :
 Calls Tryz.prog 166 #[.slice A n cap,u,.func (.func 167) #[] #[]] w fun e w' => e = .returned (.tuple #[.int .i64 (bsN cf n : Nat),.bool (bsF cf n)]) ∧ Grow w w' := by
 have HROW := hide hrow;have HCMP := hide hcmp;have hle0 := bsN_le cf n;obtain ⟨R,hR⟩ : ∃ R,bsN cf n = R := ⟨_,rfl⟩;obtain ⟨T,hT⟩ : ∃ T,bsF cf n = T := ⟨_,rfl⟩;rw [hR] at hle0 ⊢;rw [hT];have HTT := hide hT;have HR := hide hR;clear hrow hcmp hR hT;go_enter Tryz.func166,Tryz.ntmps166;go_wp2_with fail;go_loopg [9,10,11] (n + 1) (fun gk i j hh wr => ∃ a b : Nat,a ≤ b ∧ b ≤ n ∧ b - a ≤ gk ∧ i = .int .i64 a ∧ j = .int .i64 b ∧ bsG cf n a b = R ∧ Grow w wr)
 case atStart => exact ⟨0,n,by omega,by omega,by omega,rfl,rfl,HR.out,Grow.refl w⟩
 case round =>
  obtain ⟨a,b,hab,hbn,hgk,rfl,rfl,hbs,hwr⟩ := hrel;have HWR := hide hwr;have HBS := hide hbs;clear hwr hbs;by_cases hlt : a < b
  ·obtain ⟨gk',rfl⟩ := gk_ gk (by omega);obtain ⟨h,hh⟩ : ∃ h,(a + b) / 2 = h := ⟨_,rfl⟩;have hh1 : a ≤ h := by omega
   have hh2 : h < b := by omega
   have hhi : ((a : Int) + (b : Int)) / 2 = (h : Int) := by omega
   have hhn : h < n := by omega
   obtain ⟨bk,o,ha,hbk,hc⟩ := (HROW.out.grow HWR.out) h hhn;subst ha;have e0 : wr.cell? ⟨bk,o + h * 5,none⟩ = some (.int .i64 (el h).k) := by simpa using hc 0 _ rfl
   have e1 : wr.cell? ⟨bk,o + h * 5 + 1,none⟩ = some (.int .u64 (el h).n) := by simpa using hc 1 _ rfl
   have e2 : wr.cell? ⟨bk,o + h * 5 + 2,none⟩ = some (.slice (el h).aB (el h).nB (el h).cB) := by simpa using hc 2 _ rfl
   have e3 : wr.cell? ⟨bk,o + h * 5 + 3,none⟩ = some (.slice (el h).aL (el h).nL (el h).cL) := by simpa using hc 3 _ rfl
   have e4 : wr.cell? ⟨bk,o + h * 5 + 4,none⟩ = some (.slice (el h).aF (el h).nF (el h).cF) := by simpa using hc 4 _ rfl
   have HC := hide (HCMP.out h hhn wr HWR.out);have HH := hide hh;obtain ⟨z,hz⟩ : ∃ z,cf h = z := ⟨_,rfl⟩;rw [hz] at HC;have HZ := hide hz;clear hc hbk hh hz;go_wp2_with fail;refine HC.out.mono ?_;rintro e w2 ⟨rfl,hg2⟩;have HG2 := hide (HWR.out.trans hg2);clear hg2;by_cases hneg : z < 0
   ·have HUP := hide (show bsG cf n (h + 1) b = R by rw [← HBS.out,bsG_fuel n ((b - a - 1) + 1) a b (by omega) (by omega),bsG_up hlt (by rw [HH.out,HZ.out];exact hneg),HH.out];exact bsG_fuel _ _ _ _ (by omega) (by omega));go_wp2_with fail;go_roundg gk'
    case measure => omega
    case rel => exact ⟨h + 1,b,by omega,hbn,by omega,by go_num,rfl,HUP.out,HG2.out⟩
   have HDN := hide (show bsG cf n a h = R by rw [← HBS.out,bsG_fuel n ((b - a - 1) + 1) a b (by omega) (by omega),bsG_down hlt (by rw [HH.out,HZ.out];exact hneg),HH.out];exact bsG_fuel _ _ _ _ (by omega) (by omega));go_wp2_with fail;go_roundg gk'
   case measure => omega
   case rel => exact ⟨a,h,by omega,by omega,by omega,rfl,rfl,HDN.out,HG2.out⟩
  obtain rfl : a = b := by omega
  obtain rfl : R = a := by rw [← HBS.out,bsG_end (Nat.le_refl _)]
  by_cases hRn : R < n
  ·obtain ⟨bk,o,ha,hbk,hc⟩ := (HROW.out.grow HWR.out) R hRn;subst ha;have e0 : wr.cell? ⟨bk,o + R * 5,none⟩ = some (.int .i64 (el R).k) := by simpa using hc 0 _ rfl
   have e1 : wr.cell? ⟨bk,o + R * 5 + 1,none⟩ = some (.int .u64 (el R).n) := by simpa using hc 1 _ rfl
   have e2 : wr.cell? ⟨bk,o + R * 5 + 2,none⟩ = some (.slice (el R).aB (el R).nB (el R).cB) := by simpa using hc 2 _ rfl
   have e3 : wr.cell? ⟨bk,o + R * 5 + 3,none⟩ = some (.slice (el R).aL (el R).nL (el R).cL) := by simpa using hc 3 _ rfl
   have e4 : wr.cell? ⟨bk,o + R * 5 + 4,none⟩ = some (.slice (el R).aF (el R).nF (el R).cF) := by simpa using hc 4 _ rfl
   have HC := hide (HCMP.out R hRn wr HWR.out);obtain ⟨z,hz⟩ : ∃ z,cf R = z := ⟨_,rfl⟩;rw [hz] at HC;have HZ := hide hz;clear hc hbk hz hlt;go_wp2_with fail;refine HC.out.mono ?_;rintro e w2 ⟨rfl,hg2⟩;have HG2 := hide (HWR.out.trans hg2);clear hg2;go_wp2_with fail;go_ret2;exact ⟨ret_ib2 rfl (by rw [← HTT.out];unfold bsF;rw [HR.out,HZ.out,decide_eq_true hRn,Bool.true_and]),HG2.out⟩
  obtain rfl : T = false := by rw [← HTT.out];unfold bsF;rw [HR.out,decide_eq_false hRn];rfl
  go_wp2_with fail;go_ret2;exact ⟨rfl,HWR.out⟩
end
section
open Ieee Go
def rv (r : Nat) : Nat := if r < 4503599627370496 then r else (4503599627370496 + r % 4503599627370496) * 2 ^ (r / 4503599627370496 - 1)
theorem rv_step (r : Nat) : rv r < rv (r + 1) := by
 unfold rv;by_cases h1 : r + 1 < 4503599627370496
 ·rw [if_pos (by omega),if_pos h1];omega
 by_cases h2 : r < 4503599627370496
 ·obtain rfl : r = 4503599627370495 := by omega
  rw [if_pos (by omega),if_neg (by omega)];decide
 rw [if_neg h2,if_neg h1];obtain ⟨e,he⟩ : ∃ e,r / 4503599627370496 = e + 1 := ⟨r / 4503599627370496 - 1,by omega⟩;have hp : 0 < 2 ^ e := Nat.pow_pos (by omega);by_cases h3 : r % 4503599627370496 + 1 < 4503599627370496
 ·rw [show (r + 1) / 4503599627370496 = e + 1 by omega,show (r + 1) % 4503599627370496 = r % 4503599627370496 + 1 by omega,he,Nat.add_sub_cancel];exact Nat.mul_lt_mul_of_pos_right (by omega) hp
 rw [show (r + 1) / 4503599627370496 = e + 2 by omega,show (r + 1) % 4503599627370496 = 0 by omega,he,Nat.add_sub_cancel,show e + 2 - 1 = e + 1 by omega,Nat.pow_succ];have : (4503599627370496 + r % 4503599627370496) * 2 ^ e < (4503599627370496 * 2) * 2 ^ e := Nat.mul_lt_mul_of_pos_right (by omega) hp;rw [Nat.add_zero,← Nat.mul_assoc,Nat.mul_right_comm];exact this
theorem rv_mono {a b : Nat} (h : a < b) : rv a < rv b := by
 obtain ⟨d,rfl⟩ : ∃ d,b = a + 1 + d := ⟨b - a - 1,by omega⟩;clear h
 induction d with
 | zero => exact rv_step a
 | succ d ih => exact Nat.lt_trans ih (rv_step _)
theorem rv_lt {a b : Nat} : rv a < rv b ↔ a < b := by
 constructor
 ·intro h;rcases Nat.lt_trichotomy a b with h1 | h1 | h1
  ·exact h1
  ·subst h1;omega
  have := rv_mono h1;omega
 exact rv_mono
theorem rv_zero : rv 0 = 0 := rfl
theorem rv_pos {r : Nat} (h : 0 < r) : 0 < rv r := by have := rv_mono h;rwa [rv_zero] at this
def sv (n : Nat) : Int := if n < 9223372036854775808 then (rv n : Int) else -(rv (n - 9223372036854775808) : Int)
def sm (n : Nat) : Int := if n < 9223372036854775808 then (n : Int) else -((n - 9223372036854775808 : Nat) : Int)
theorem sv_lt (a b : Nat) : sv a < sv b ↔ sm a < sm b := by
 unfold sv sm;by_cases ha : a < 9223372036854775808
 ·rw [if_pos ha,if_pos ha];by_cases hb : b < 9223372036854775808
  ·rw [if_pos hb,if_pos hb];have := @rv_lt a b;omega
  rw [if_neg hb,if_neg hb];omega
 rw [if_neg ha,if_neg ha];by_cases hb : b < 9223372036854775808
 ·rw [if_pos hb,if_pos hb];have h1 := @rv_lt 0 (a - 9223372036854775808);have h2 := @rv_lt 0 b;rw [rv_zero] at h1 h2;omega
 rw [if_neg hb,if_neg hb];have := @rv_lt (b - 9223372036854775808) (a - 9223372036854775808);omega
theorem sv_eq (a b : Nat) : sv a = sv b ↔ sm a = sm b := by
 have h1 := sv_lt a b;have h2 := sv_lt b a;omega
theorem read_num {n : Nat} (hn : n < 18446744073709551616) (hf : n % 9223372036854775808 < 9218868437227405312) :
 ∃ m p,Ieee.double.read n = .number (decide (9223372036854775808 ≤ n)) m p ∧ -1074 ≤ p ∧ m * 2 ^ (p + 1074).toNat = rv (n % 9223372036854775808) ∧ m < 9007199254740992 ∧ (-1074 < p → 4503599627370496 ≤ m) := by
 have hs : (n / 9223372036854775808 % 2 == 1) = decide (9223372036854775808 ≤ n) := by
  by_cases h : 9223372036854775808 ≤ n
  ·rw [decide_eq_true h,show n / 9223372036854775808 % 2 = 1 by omega];rfl
  rw [decide_eq_false h,show n / 9223372036854775808 % 2 = 0 by omega];rfl
 unfold Format.read;simp only [dbl_sign,dbl_binade,dbl_inf,dbl_least,hs];generalize n % 9223372036854775808 = r at hf;unfold rv;by_cases h : r < 4503599627370496
 ·rw [if_pos h,if_pos h];exact ⟨_,_,rfl,by omega,by simp,by omega,fun hh => by omega⟩
 rw [if_neg h,if_neg h,if_pos hf];refine ⟨_,_,rfl,by omega,?_,by omega,fun _ => by omega⟩;rw [show (-1074 + ((r / 4503599627370496 - 1 : Nat) : Int) + 1074).toNat = r / 4503599627370496 - 1 by omega]
theorem read_inf {n : Nat} (hn : n < 18446744073709551616) (hf : n % 9223372036854775808 = 9218868437227405312) : Ieee.double.read n = .infinity (decide (9223372036854775808 ≤ n)) := by
 have hs : (n / 9223372036854775808 % 2 == 1) = decide (9223372036854775808 ≤ n) := by
  by_cases h : 9223372036854775808 ≤ n
  ·rw [decide_eq_true h,show n / 9223372036854775808 % 2 = 1 by omega];rfl
  rw [decide_eq_false h,show n / 9223372036854775808 % 2 = 0 by omega];rfl
 unfold Format.read;simp only [dbl_sign,dbl_binade,dbl_inf,dbl_least,hs];rw [hf,if_neg (by omega),if_neg (by omega),if_pos rfl]
theorem read_nan {n : Nat} (hf : 9218868437227405312 < n % 9223372036854775808) : ∃ s t,Ieee.double.read n = .nan s t := by
 unfold Format.read;simp only [dbl_sign,dbl_binade,dbl_inf,dbl_least];rw [if_neg (by omega),if_neg (by omega),if_neg (by omega)];exact ⟨_,_,rfl⟩
theorem compare_scale (a b : Int) (c : Nat) (hc : 0 < c) : compare (a * (c : Int)) (b * (c : Int)) = compare a b := by
 have hc' : (0 : Int) < (c : Int) := by omega
 rcases Int.lt_trichotomy a b with h | h | h
 ·rw [ordInt_lt h,ordInt_lt (Int.mul_lt_mul_of_pos_right h hc')]
 ·rw [ordInt_eq h,ordInt_eq (by rw [h])]
 rw [ordInt_gt h,ordInt_gt (Int.mul_lt_mul_of_pos_right h hc')]
theorem signed_scale (s : Bool) (m : Nat) (p base : Int) (h1 : -1074 ≤ base) (h2 : base ≤ p) : signed s m (p - base).toNat * ((2 ^ (base + 1074).toNat : Nat) : Int) = if s then -((m * 2 ^ (p + 1074).toNat : Nat) : Int) else ((m * 2 ^ (p + 1074).toNat : Nat) : Int) := by
 have e : m * 2 ^ (p - base).toNat * 2 ^ (base + 1074).toNat = m * 2 ^ (p + 1074).toNat := by
  rw [Nat.mul_assoc,← Nat.pow_add,show (p - base).toNat + (base + 1074).toNat = (p + 1074).toNat by omega]
 unfold signed;rw [Nat.shiftLeft_eq]
 cases s
 ·simp only [Bool.false_eq_true,if_false];rw [← Int.natCast_mul,e]
 simp only [if_true];rw [Int.neg_mul,← Int.natCast_mul,e]
theorem sv_read {n : Nat} (hn : n < 18446744073709551616) : sv n = if decide (9223372036854775808 ≤ n) = true then -(rv (n % 9223372036854775808) : Int) else (rv (n % 9223372036854775808) : Int) := by
 unfold sv;by_cases h : 9223372036854775808 ≤ n
 ·rw [if_neg (by omega),decide_eq_true h,if_pos rfl,show n % 9223372036854775808 = n - 9223372036854775808 by omega]
 rw [if_pos (by omega),decide_eq_false h,if_neg (by decide),show n % 9223372036854775808 = n by omega]
theorem order_sv {a b : Nat} (ha : a < 18446744073709551616) (hb : b < 18446744073709551616) (na : a % 9223372036854775808 ≤ 9218868437227405312) (nb : b % 9223372036854775808 ≤ 9218868437227405312) :
 Ieee.double.order a b = some (compare (sv a) (sv b)) := by
 unfold Format.order;rw [sv_read ha,sv_read hb];rcases Nat.lt_or_eq_of_le na with na | na
 ·obtain ⟨m,p,h1,h2,h3,-,-⟩ := read_num ha na;rw [h1];rcases Nat.lt_or_eq_of_le nb with nb | nb
  ·obtain ⟨m',p',k1,k2,k3,-,-⟩ := read_num hb nb;rw [k1];unfold Datum.order;simp only;have hc := compare_scale (signed (decide (9223372036854775808 ≤ a)) m (p - min p p').toNat) (signed (decide (9223372036854775808 ≤ b)) m' (p' - min p p').toNat) (2 ^ (min p p' + 1074).toNat) (Nat.pow_pos (by omega));rw [signed_scale _ _ _ _ (by omega) (by omega),signed_scale _ _ _ _ (by omega) (by omega),h3,k3] at hc;rw [← hc]
  rw [read_inf hb nb,nb];have := rv_mono na;unfold Datum.order;simp only;generalize decide (9223372036854775808 ≤ a) = s;generalize decide (9223372036854775808 ≤ b) = t
  cases t
  ·simp only [Bool.false_eq_true,if_false];rw [ordInt_lt (by split <;> omega)]
  simp only [if_true];rw [ordInt_gt (by split <;> omega)]
 rw [read_inf ha na,na];rcases Nat.lt_or_eq_of_le nb with nb | nb
 ·obtain ⟨m',p',k1,k2,k3,-,-⟩ := read_num hb nb;rw [k1];have := rv_mono nb;unfold Datum.order;simp only;generalize decide (9223372036854775808 ≤ a) = s;generalize decide (9223372036854775808 ≤ b) = t
  cases s
  ·simp only [Bool.false_eq_true,if_false];rw [ordInt_gt (by split <;> omega)]
  simp only [if_true];rw [ordInt_lt (by split <;> omega)]
 rw [read_inf hb nb,nb];unfold Datum.order;simp only;have := rv_pos (show 0 < 9218868437227405312 by omega);generalize decide (9223372036854775808 ≤ a) = s;generalize decide (9223372036854775808 ≤ b) = t;generalize rv 9218868437227405312 = x at this ⊢
 cases s <;> cases t <;> simp only [Bool.false_eq_true,if_false,if_true]
 ·rw [ordInt_eq rfl];rfl
 ·rw [ordInt_gt (by omega)];rfl
 ·rw [ordInt_lt (by omega)];rfl
 rw [ordInt_eq rfl];rfl
theorem order_nan_l {a b : Nat} (na : 9218868437227405312 < a % 9223372036854775808) : Ieee.double.order a b = none := by
 obtain ⟨s,t,h⟩ := read_nan na;unfold Format.order;rw [h];rfl
theorem exU (j : Nat) : ∃ u : Nat,∀ k,k = j → u = 2 ^ k := ⟨2 ^ j,fun k h => by rw [h]⟩
theorem exU1 : ∃ u : Nat,∀ k,k = 1074 → u = 2 ^ k := exU 1074
noncomputable def U1 : Nat := Classical.choose exU1
theorem U1_eq (k : Nat) (h : k = 1074) : 2 ^ k = U1 := (Classical.choose_spec exU1 k h).symm
theorem U1_pos : 0 < U1 := by
 obtain ⟨k,hk⟩ : ∃ k,k = 1074 := ⟨_,rfl⟩;rw [← U1_eq k hk];exact Nat.pow_pos (by decide)
theorem rv_place (e t : Nat) (h1 : 4503599627370496 ≤ t) (h2 : t ≤ 9007199254740992) : rv (e * 4503599627370496 + t) = t * 2 ^ e := by
 unfold rv;rw [if_neg (by omega)];rcases Nat.lt_or_eq_of_le h2 with h | rfl
 ·rw [show (e * 4503599627370496 + t) / 4503599627370496 = e + 1 by omega,show (e * 4503599627370496 + t) % 4503599627370496 = t - 4503599627370496 by omega,Nat.add_sub_cancel,show 4503599627370496 + (t - 4503599627370496) = t by omega]
 rw [show (e * 4503599627370496 + 9007199254740992) / 4503599627370496 = e + 2 by omega,show (e * 4503599627370496 + 9007199254740992) % 4503599627370496 = 0 by omega,show e + 2 - 1 = e + 1 by omega,Nat.pow_succ];omega
theorem sv_word (neg : Bool) (r : Nat) (h : r < 9223372036854775808) : sv (Ieee.double.word neg r) = if neg then -(rv r : Int) else (rv r : Int) := by
 unfold sv Format.word;rw [dbl_sign]
 cases neg
 ·simp only [Bool.false_eq_true,if_false];rw [if_pos h]
 simp only [if_true];rw [if_neg (by omega),show 9223372036854775808 + r - 9223372036854775808 = r by omega]
theorem sm_word (neg : Bool) (r : Nat) (h : r < 9223372036854775808) : sm (Ieee.double.word neg r) = if neg then -(r : Int) else (r : Int) := by
 unfold sm Format.word;rw [dbl_sign]
 cases neg
 ·simp only [Bool.false_eq_true,if_false];rw [if_pos h]
 simp only [if_true];rw [if_neg (by omega),show 9223372036854775808 + r - 9223372036854775808 = r by omega]
theorem nearest_sv_small (neg : Bool) (mag : Nat) (h0 : mag ≠ 0) (hL : mag.log2 ≤ 52) : sv (Ieee.double.nearest neg mag 0) = if neg then -((mag * U1 : Nat) : Int) else ((mag * U1 : Nat) : Int) := by
 have hlt := Nat.lt_log2_self (n := mag);have hge := Nat.log2_self_le h0;have hp : 0 < 2 ^ (52 - mag.log2) := Nat.pow_pos (by omega);have ha : 4503599627370496 ≤ mag * 2 ^ (52 - mag.log2) := by
  have := Nat.mul_le_mul_right (2 ^ (52 - mag.log2)) hge;rwa [← Nat.pow_add,show mag.log2 + (52 - mag.log2) = 52 by omega,pow52] at this
 have hb : mag * 2 ^ (52 - mag.log2) < 9007199254740992 := by
  have := Nat.mul_lt_mul_of_pos_right hlt hp;rwa [← Nat.pow_add,show mag.log2 + 1 + (52 - mag.log2) = 53 by omega,pow53] at this
 rw [nearest_small neg mag h0 hL,sv_word _ _ (by omega),rv_place _ _ ha (by omega),Nat.mul_assoc,← Nat.pow_add,U1_eq (52 - mag.log2 + (mag.log2 + 1022)) (by omega)]
theorem exact_sv (neg : Bool) (t d : Nat) (hd2 : d ≤ 11) (h1 : 4503599627370496 ≤ t) (h2 : t ≤ 9007199254740992) : sv (Ieee.double.word neg ((d + 1074) * 4503599627370496 + t)) = if neg then -((t * 2 ^ d * U1 : Nat) : Int) else ((t * 2 ^ d * U1 : Nat) : Int) := by
 rw [sv_word _ _ (by omega),rv_place _ _ h1 h2,Nat.pow_add,← Nat.mul_assoc,U1_eq _ rfl]
structure Under (i : Int) (g rest : Nat) : Prop where
 bits : g < 18446744073709551616
 fin : g % 9223372036854775808 < 9218868437227405312
 val : sv g = (i - (rest : Int)) * (U1 : Int)
 top : ∀ f : Nat,sv f ≤ i * (U1 : Int) → sv f ≤ sv g
theorem under_exact {i : Int} {g : Nat} (hb : g < 18446744073709551616) (hf : g % 9223372036854775808 < 9218868437227405312) (h : sv g = i * (U1 : Int)) : Under i g 0 :=
 ⟨hb,hf,by rw [h];simp,fun f hf => by rw [h];exact hf⟩
theorem word_mod (neg : Bool) (r : Nat) (h : r < 9223372036854775808) : Ieee.double.word neg r % 9223372036854775808 = r := word_lo r h neg
theorem word_64 (neg : Bool) (r : Nat) (h : r < 9223372036854775808) : Ieee.double.word neg r < 18446744073709551616 := by
 unfold Format.word;rw [dbl_sign];cases neg <;> simp <;> omega
theorem fl_under (i : Int) (h1 : -9223372036854775808 ≤ i) (h2 : i ≤ 9223372036854775807) : Under i (fl i).1 (fl i).2 := by
 by_cases hz : i = 0
 ·subst hz;have e1 : fl 0 = (0,0) := by decide
  rw [e1];exact under_exact (by decide) (by decide) (by simp [sv,rv])
 have hm0 : i.natAbs ≠ 0 := by omega
 by_cases hL : i.natAbs.log2 ≤ 52
 ·have hsh : sh i.natAbs = 0 := by unfold sh;omega
  have hfl : fl i = (Ieee.double.nearest (decide (i < 0)) i.natAbs 0,0) := by
   unfold fl;by_cases hi : 0 ≤ i
   ·have e : i.toNat = i.natAbs := by omega
    rw [if_pos hi,e,hsh];simp only [Nat.pow_zero,Nat.div_one,Nat.mul_one,Nat.mod_one,decide_eq_false (show ¬ i < 0 by omega)]
   rw [if_neg hi,hsh];simp only [Nat.pow_zero,Nat.div_one,Nat.mul_one,Nat.sub_self,Nat.add_zero,decide_eq_true (show i < 0 by omega)]
  have hlt := Nat.lt_log2_self (n := i.natAbs);have hp : 0 < 2 ^ (52 - i.natAbs.log2) := Nat.pow_pos (by omega);have hb : i.natAbs * 2 ^ (52 - i.natAbs.log2) < 9007199254740992 := by
   have := Nat.mul_lt_mul_of_pos_right hlt hp;rwa [← Nat.pow_add,show i.natAbs.log2 + 1 + (52 - i.natAbs.log2) = 53 by omega,pow53] at this
  have hs := nearest_sv_small (decide (i < 0)) i.natAbs hm0 hL;have hr : (i.natAbs.log2 + 1022) * 4503599627370496 + i.natAbs * 2 ^ (52 - i.natAbs.log2) < 9218868437227405312 := by omega
  rw [hfl];refine under_exact ?_ ?_ ?_
  ·rw [nearest_small _ _ hm0 hL];exact word_64 _ _ (by omega)
  ·rw [nearest_small _ _ hm0 hL,word_mod _ _ (by omega)];exact hr
  show sv (Ieee.double.nearest (decide (i < 0)) i.natAbs 0) = _;rw [hs,Int.natCast_mul];by_cases hi : i < 0
  ·rw [decide_eq_true hi,if_pos rfl,← Int.neg_mul];congr 1;omega
  rw [decide_eq_false hi,if_neg (by decide)];congr 1;omega
 obtain ⟨d,hd⟩ : ∃ d,i.natAbs.log2 = 52 + d := ⟨i.natAbs.log2 - 52,by omega⟩;have hsh : sh i.natAbs = d := by unfold sh;omega
 have hlt := Nat.lt_log2_self (n := i.natAbs);have hge := Nat.log2_self_le hm0;have hd1 : 1 ≤ d := by omega
 have hd2 : d ≤ 11 := by
  rcases Nat.lt_or_ge d 12 with h | h
  ·omega
  have : 2 ^ 64 ≤ 2 ^ i.natAbs.log2 := Nat.pow_le_pow_right (by omega) (by omega);have e : (2 : Nat) ^ 64 = 18446744073709551616 := by decide
  omega
 have hp : 0 < 2 ^ d := Nat.pow_pos (by omega);obtain ⟨t,ht⟩ : ∃ t,i.natAbs / 2 ^ d = t := ⟨_,rfl⟩;obtain ⟨r,hr⟩ : ∃ r,i.natAbs % 2 ^ d = r := ⟨_,rfl⟩;have hdm : i.natAbs = t * 2 ^ d + r := by rw [← ht,← hr,Nat.mul_comm];exact (Nat.div_add_mod _ _).symm
 have hrl : r < 2 ^ d := by rw [← hr];exact Nat.mod_lt _ hp
 have ht1 : 4503599627370496 ≤ t := by
  rw [← ht,Nat.le_div_iff_mul_le hp,← pow52,← Nat.pow_add,← hd];exact hge
 have ht2 : t < 9007199254740992 := by
  rw [← ht,Nat.div_lt_iff_lt_mul hp,← pow53,← Nat.pow_add,show 53 + d = i.natAbs.log2 + 1 by omega];exact hlt
 have e1 : (t + 1) * 2 ^ d = t * 2 ^ d + 2 ^ d := Nat.succ_mul _ _;have hu1 := U1_pos;by_cases hmin : i = -9223372036854775808
 ·subst hmin;have e1 : fl (-9223372036854775808) = (Ieee.double.word true ((11 + 1074) * 4503599627370496 + 4503599627370496),0) := by kernel_rfl
  rw [e1];have hw := word_64 true ((11 + 1074) * 4503599627370496 + 4503599627370496) (by omega);have hm := word_mod true ((11 + 1074) * 4503599627370496 + 4503599627370496) (by omega);refine under_exact hw (by rw [hm];omega) ?_;rw [show ((Ieee.double.word true ((11 + 1074) * 4503599627370496 + 4503599627370496),0) : Nat × Nat).1 = Ieee.double.word true ((11 + 1074) * 4503599627370496 + 4503599627370496) from rfl,exact_sv true 4503599627370496 11 (by omega) (by omega) (by omega),if_pos rfl,Int.natCast_mul,← Int.neg_mul];rfl
 have hd10 : d ≤ 10 := by
  rcases Nat.lt_or_ge d 11 with h | h
  ·omega
  have : 2 ^ 63 ≤ 2 ^ i.natAbs.log2 := Nat.pow_le_pow_right (by omega) (by omega);have e : (2 : Nat) ^ 63 = 9223372036854775808 := by decide
  omega
 by_cases hi : 0 ≤ i
 ·have e : i.toNat = i.natAbs := by omega
  have hfl : fl i = (Ieee.double.word false ((d + 1074) * 4503599627370496 + t),r) := by
   unfold fl;rw [if_pos hi,e,hsh,ht,hr,nearest_exact false t d hd1 hd10 ht1 (by omega)]
  have hsv := exact_sv false t d hd2 ht1 (by omega);have hsv2 := exact_sv false (t + 1) d hd2 (by omega) (by omega);rw [if_neg (by decide),Int.natCast_mul] at hsv hsv2;rw [hfl];have hw := word_64 false ((d + 1074) * 4503599627370496 + t) (by omega);have hm := word_mod false ((d + 1074) * 4503599627370496 + t) (by omega);refine ⟨hw,by rw [hm];omega,?_,fun f hf => ?_⟩
  ·show sv (Ieee.double.word false ((d + 1074) * 4503599627370496 + t)) = _;rw [hsv];congr 1;omega
  show sv f ≤ sv (Ieee.double.word false ((d + 1074) * 4503599627370496 + t));rcases Int.lt_or_le (sv (Ieee.double.word false ((d + 1074) * 4503599627370496 + t))) (sv f) with hlt2 | hle
  ·rw [sv_lt,sm_word _ _ (by omega),if_neg (by decide)] at hlt2;have h3 : ¬ sv f < sv (Ieee.double.word false ((d + 1074) * 4503599627370496 + (t + 1))) := by
    rw [sv_lt,sm_word _ _ (by omega),if_neg (by decide)];omega
   rw [hsv2] at h3;have h4 : i * (U1 : Int) < (((t + 1) * 2 ^ d : Nat) : Int) * (U1 : Int) := Int.mul_lt_mul_of_pos_right (by omega) (by omega);omega
  exact hle
 obtain ⟨u,hu⟩ : ∃ u,(i.natAbs + (2 ^ d - 1)) / 2 ^ d = u := ⟨_,rfl⟩;have hu2 : u = if r = 0 then t else t + 1 := by
  rw [← hu,hdm,show t * 2 ^ d + r + (2 ^ d - 1) = (r + (2 ^ d - 1)) + t * 2 ^ d by omega,Nat.add_mul_div_right _ _ hp];split
  ·rw [Nat.div_eq_of_lt (by omega)];omega
  rw [Nat.div_eq_of_lt_le (k := 1) (by omega) (by omega)];omega
 have hut : t ≤ u ∧ u ≤ t + 1 := by rw [hu2];split <;> omega
 have hfl : fl i = (Ieee.double.word true ((d + 1074) * 4503599627370496 + u),u * 2 ^ d - i.natAbs) := by
  unfold fl;rw [if_neg hi,hsh,hu,nearest_exact true u d hd1 hd10 (by omega) (by omega)]
 have hum : i.natAbs ≤ u * 2 ^ d := by
  rw [hu2];split
  ·rename_i h;rw [h] at hdm;omega
  omega
 have hsv := exact_sv true u d hd2 (by omega) (by omega);rw [if_pos rfl,Int.natCast_mul,← Int.neg_mul] at hsv;rw [hfl];by_cases hr0 : r = 0
 ·have hut : u = t := by rw [hu2,if_pos hr0]
  rw [hut] at hsv hum ⊢;have hz : t * 2 ^ d - i.natAbs = 0 := by rw [hdm,hr0];omega
  rw [hz];have hw := word_64 true ((d + 1074) * 4503599627370496 + t) (by omega);have hm := word_mod true ((d + 1074) * 4503599627370496 + t) (by omega);exact under_exact hw (by rw [hm];omega) (by rw [show ((Ieee.double.word true ((d + 1074) * 4503599627370496 + t),0) : Nat × Nat).1 = Ieee.double.word true ((d + 1074) * 4503599627370496 + t) from rfl,hsv];congr 1;omega)
 have hut : u = t + 1 := by rw [hu2,if_neg hr0]
 subst hut;have hsv2 := exact_sv true t d hd2 (by omega) (by omega);rw [if_pos rfl,Int.natCast_mul,← Int.neg_mul] at hsv2;have hw := word_64 true ((d + 1074) * 4503599627370496 + (t + 1)) (by omega);have hm := word_mod true ((d + 1074) * 4503599627370496 + (t + 1)) (by omega);refine ⟨hw,by rw [hm];omega,?_,fun f hf => ?_⟩
 ·show sv (Ieee.double.word true ((d + 1074) * 4503599627370496 + (t + 1))) = _;rw [hsv];congr 1;simp only;omega
 show sv f ≤ sv (Ieee.double.word true ((d + 1074) * 4503599627370496 + (t + 1)));rcases Int.lt_or_le (sv (Ieee.double.word true ((d + 1074) * 4503599627370496 + (t + 1)))) (sv f) with hlt2 | hle
 ·rw [sv_lt,sm_word _ _ (by omega),if_pos rfl] at hlt2;have h3 : ¬ sv f < sv (Ieee.double.word true ((d + 1074) * 4503599627370496 + t)) := by
   rw [sv_lt,sm_word _ _ (by omega),if_pos rfl];omega
  rw [hsv2] at h3;have h4 : i * (U1 : Int) < -((t * 2 ^ d : Nat) : Int) * (U1 : Int) := Int.mul_lt_mul_of_pos_right (by omega) (by omega);omega
 exact hle
theorem whole_float (neg : Bool) (mag : Nat) (h : mag.log2 ≤ 52 ∨ ∃ t d,1 ≤ d ∧ d ≤ 10 ∧ 4503599627370496 ≤ t ∧ t ≤ 9007199254740992 ∧ mag = t * 2 ^ d) (hr : mag ≤ 9223372036854775808) (hn : neg = false → mag < 9223372036854775808) :
 Ieee.double.nearest neg mag 0 < 18446744073709551616 ∧ Ieee.double.nearest neg mag 0 % 9223372036854775808 < 9218868437227405312 ∧
 sv (Ieee.double.nearest neg mag 0) = (if neg then -(mag : Int) else (mag : Int)) * (U1 : Int) ∧ floatToIntVal .f64 (Ieee.double.nearest neg mag 0) .i64 = some (if neg then -(mag : Int) else (mag : Int)) := by
 by_cases h0 : mag = 0
 ·subst h0;have e : Ieee.double.nearest neg 0 0 = Ieee.double.word neg 0 := by unfold Format.nearest;rw [if_pos rfl]
  rw [e];refine ⟨word_64 _ _ (by omega),by rw [word_mod _ _ (by omega)];omega,by rw [sv_word _ _ (by omega),rv_zero];cases neg <;> simp,?_⟩;have hr : Ieee.double.read (Ieee.double.word neg 0) = .number neg 0 (-1074) := by cases neg <;> decide
  exact toIntVal_of hr (by cases neg <;> decide) (by cases neg <;> simp) (by cases neg <;> simp)
 by_cases hL : mag.log2 ≤ 52
 ·obtain ⟨a1,a2,-,-⟩ := small_facts neg mag h0 hL _ rfl _ rfl;have hs := nearest_sv_small neg mag h0 hL;have hlt := Nat.lt_log2_self (n := mag);have hp : 0 < 2 ^ (52 - mag.log2) := Nat.pow_pos (by omega);have hb : mag * 2 ^ (52 - mag.log2) < 9007199254740992 := by
   have := Nat.mul_lt_mul_of_pos_right hlt hp;rwa [← Nat.pow_add,show mag.log2 + 1 + (52 - mag.log2) = 53 by omega,pow53] at this
  have hm := word_mod neg ((mag.log2 + 1022) * 4503599627370496 + mag * 2 ^ (52 - mag.log2)) (by omega);refine ⟨a1,by rw [nearest_small _ _ h0 hL,hm];omega,?_,a2⟩;rw [hs,Int.natCast_mul]
  cases neg
  ·simp only [Bool.false_eq_true,if_false]
  simp only [if_true];rw [Int.neg_mul]
 obtain ⟨t,d,hd1,hd2,ht1,ht2,rfl⟩ := h.resolve_left hL;rw [nearest_exact neg t d hd1 hd2 ht1 ht2];have hs := exact_sv neg t d (by omega) ht1 ht2;have hm := word_mod neg ((d + 1074) * 4503599627370496 + t) (by omega);obtain ⟨-,v2,v3,v4⟩ := val_facts neg t d hd2 ht1 ht2 hr _ rfl _ rfl;refine ⟨v2,by rw [hm];omega,?_,?_⟩
 ·rw [hs,Int.natCast_mul]
  cases neg
  ·simp only [Bool.false_eq_true,if_false]
  simp only [if_true];rw [Int.neg_mul]
 cases neg
 ·simp only [Bool.false_eq_true,if_false];exact ((v4 rfl).2 (hn rfl)).1
 simp only [if_true];exact (v3 rfl).1
theorem cut_down_false (m q : Nat) : Toward.down.cut false m q * 2 ^ q ≤ m ∧ m < (Toward.down.cut false m q + 1) * 2 ^ q := by
 have hc : Toward.down.cut false m q = m / 2 ^ q := by
  unfold Toward.cut;simp only [Bool.false_and,Bool.toNat_false,Nat.add_zero,shl_one];rcases Nat.lt_or_ge (m.log2 + 2) q with hq | hq
  ·have := Nat.lt_log2_self (n := m);rw [Nat.min_eq_right (by omega),Nat.div_eq_of_lt (Nat.lt_of_lt_of_le this (Nat.pow_le_pow_right (by omega) (by omega))),Nat.div_eq_of_lt (Nat.lt_of_lt_of_le this (Nat.pow_le_pow_right (by omega) (by omega)))]
  rw [Nat.min_eq_left (by omega)]
 have hp : 0 < 2 ^ q := Nat.pow_pos (by omega);rw [hc];exact ⟨Nat.div_mul_le_self _ _,by rw [Nat.succ_mul];have := Nat.div_add_mod m (2 ^ q);have := Nat.mod_lt m hp;rw [Nat.mul_comm];omega⟩
theorem cut_down_true (m q : Nat) : m ≤ Toward.down.cut true m q * 2 ^ q ∧ Toward.down.cut true m q * 2 ^ q < m + 2 ^ q := by
 have hp : 0 < 2 ^ q := Nat.pow_pos (by omega);by_cases hq : m.log2 + 2 < q
 ·have hlt := Nat.lt_log2_self (n := m);have h1 : m < 2 ^ (m.log2 + 2) := Nat.lt_of_lt_of_le hlt (Nat.pow_le_pow_right (by omega) (by omega));have h2 : m < 2 ^ q := Nat.lt_of_lt_of_le hlt (Nat.pow_le_pow_right (by omega) (by omega));have hc : Toward.down.cut true m q = (m != 0).toNat := by
   unfold Toward.cut;simp only [Bool.true_and,shl_one,Nat.min_eq_right (show m.log2 + 2 ≤ q by omega)];rw [Nat.div_eq_of_lt h1,Nat.mod_eq_of_lt h1,Nat.zero_add]
  rw [hc];by_cases h0 : m = 0
  ·subst h0;simp;exact hp
  have : (m != 0) = true := by simpa using h0
  rw [this];simp only [Bool.toNat_true,Nat.one_mul];omega
 have hc : Toward.down.cut true m q = m / 2 ^ q + (m % 2 ^ q != 0).toNat := by
  unfold Toward.cut;simp only [Bool.true_and,shl_one,Nat.min_eq_left (show q ≤ m.log2 + 2 by omega)]
 rw [hc,Nat.add_mul];have h1 := Nat.div_add_mod m (2 ^ q);have h2 := Nat.mod_lt m hp;rw [Nat.mul_comm] at h1;by_cases h0 : m % 2 ^ q = 0
 ·have : (m % 2 ^ q != 0) = false := by simp [h0]
  rw [this];simp only [Bool.toNat_false,Nat.zero_mul];omega
 have : (m % 2 ^ q != 0) = true := by simpa using h0
 rw [this];simp only [Bool.toNat_true,Nat.one_mul];omega
def floorF (f : Nat) : Nat := Ieee.double.write ((Ieee.double.read f).integral .down)
theorem log2_le52 (c : Nat) (h : c < 9007199254740992) : c.log2 ≤ 52 := by
 by_cases h0 : c = 0
 ·subst h0;decide
 have := (Nat.log2_lt h0 (k := 53)).2 (by rw [pow53];exact h);omega
theorem floor_facts (f : Nat) (hf : f < 18446744073709551616) (fin : f % 9223372036854775808 < 9218868437227405312) (hlo : -9223372036854775808 * (U1 : Int) ≤ sv f) (hhi : sv f < 9223372036854775808 * (U1 : Int)) :
 ∃ k : Int,floorF f < 18446744073709551616 ∧ floorF f % 9223372036854775808 < 9218868437227405312 ∧ sv (floorF f) = k * (U1 : Int) ∧ floatToIntVal .f64 (floorF f) .i64 = some k ∧ k * (U1 : Int) ≤ sv f ∧ sv f < (k + 1) * (U1 : Int) := by
 have hu := U1_pos;obtain ⟨m,p,h1,h2,h3,h4,h5⟩ := read_num hf fin;have hsv := sv_read hf;rw [← h3] at hsv;generalize decide (9223372036854775808 ≤ f) = s at h1 hsv;unfold floorF;rw [h1];unfold Datum.integral;simp only;unfold Format.write;simp only;rcases Int.lt_or_le p 0 with hp | hp
 ·obtain ⟨q,rfl⟩ : ∃ q : Nat,p = -(q : Int) := ⟨(-p).toNat,by omega⟩;have e1 : (-(q : Int)).toNat = 0 := by omega
  have e2 : (- -(q : Int)).toNat = q := by omega
  rw [e1,e2,Nat.shiftLeft_zero];obtain ⟨P,hP⟩ : ∃ P,2 ^ (-(q : Int) + 1074).toNat = P := ⟨_,rfl⟩;have hPp : 0 < P := by rw [← hP];exact Nat.pow_pos (by omega)
  have hU : U1 = 2 ^ q * P := by rw [← hP,← Nat.pow_add,U1_eq _ (by omega)]
  rw [hP] at hsv;have hq : 2 ^ 1 ≤ 2 ^ q := Nat.pow_le_pow_right (by omega) (by omega)
  cases s
  ·have hc := cut_down_false m q;obtain ⟨c,hcc⟩ : ∃ c,Toward.down.cut false m q = c := ⟨_,rfl⟩;rw [hcc] at hc ⊢;have hc2 : c < 9007199254740992 := by
    rcases Nat.lt_or_ge c 9007199254740992 with h | h
    ·exact h
    have := Nat.mul_le_mul h hq;omega
   obtain ⟨w1,w2,w3,w4⟩ := whole_float false c (.inl (log2_le52 c hc2)) (by omega) (fun _ => by omega);simp only [Bool.false_eq_true,if_false] at w3 w4 hsv;refine ⟨c,w1,w2,w3,w4,?_,?_⟩
   ·rw [hsv,hU,← Int.natCast_mul];have := Nat.mul_le_mul_right P hc.1;rw [Nat.mul_assoc] at this;omega
   rw [hsv,hU];have := Nat.mul_lt_mul_of_pos_right hc.2 hPp;rw [Nat.mul_assoc] at this;have e : ((c : Int) + 1) * ((2 ^ q * P : Nat) : Int) = (((c + 1) * (2 ^ q * P) : Nat) : Int) := by rw [Int.natCast_mul];rfl
   rw [e];omega
  have hc := cut_down_true m q;obtain ⟨c,hcc⟩ : ∃ c,Toward.down.cut true m q = c := ⟨_,rfl⟩;rw [hcc] at hc ⊢;have hc2 : c < 9007199254740992 := by
   rcases Nat.lt_or_ge c 9007199254740992 with h | h
   ·exact h
   have h3 := Nat.mul_le_mul_right (2 ^ q) h;have : 9007199254740991 * 2 ^ q + 2 ^ q = 9007199254740992 * 2 ^ q := by omega
   have := Nat.mul_le_mul_left 9007199254740991 hq;omega
  obtain ⟨w1,w2,w3,w4⟩ := whole_float true c (.inl (log2_le52 c hc2)) (by omega) (fun h => by cases h);simp only [if_true] at w3 w4 hsv;refine ⟨-(c : Int),w1,w2,w3,w4,?_,?_⟩
  ·rw [hsv,hU,Int.neg_mul,← Int.natCast_mul];have := Nat.mul_le_mul_right P hc.1;rw [Nat.mul_assoc] at this;omega
  rw [hsv,hU,Int.add_mul,Int.neg_mul,← Int.natCast_mul,Int.one_mul];have := Nat.mul_lt_mul_of_pos_right hc.2 hPp;rw [Nat.mul_assoc,Nat.add_mul] at this;omega
 obtain ⟨d,rfl⟩ : ∃ d : Nat,p = (d : Int) := ⟨p.toNat,by omega⟩;have e1 : ((d : Int)).toNat = d := by omega
 have e2 : (-(d : Int)).toNat = 0 := by omega
 have e3 : ((d : Int) + 1074).toNat = d + 1074 := by omega
 have hm := h5 (by omega);rw [e1,e2,cut_zero_drop,Nat.shiftLeft_eq];rw [e3,Nat.pow_add,← Nat.mul_assoc,U1_eq _ rfl,Int.natCast_mul] at hsv;obtain ⟨x,hx⟩ : ∃ x,m * 2 ^ d = x := ⟨_,rfl⟩;rw [hx] at hsv ⊢;have hx1 : x ≤ 9223372036854775808 := by
  cases s
  ·simp only [Bool.false_eq_true,if_false] at hsv;rw [hsv] at hhi;have := Int.lt_of_mul_lt_mul_right hhi (by omega);omega
  simp only [if_true] at hsv;rw [hsv,← Int.neg_mul] at hlo;have := Int.le_of_mul_le_mul_right hlo (by omega);omega
 have hx2 : s = false → x < 9223372036854775808 := by
  intro e;subst e;simp only [Bool.false_eq_true,if_false] at hsv;rw [hsv] at hhi;have := Int.lt_of_mul_lt_mul_right hhi (by omega);omega
 have hd : d ≤ 11 := by
  rcases Nat.lt_or_ge d 12 with h | h
  ·omega
  have h6 : 2 ^ 12 ≤ 2 ^ d := Nat.pow_le_pow_right (by omega) h;have h7 := Nat.mul_le_mul hm h6;have e12 : (2 : Nat) ^ 12 = 4096 := by decide
  rw [hx] at h7;omega
 have hform : x.log2 ≤ 52 ∨ ∃ t d,1 ≤ d ∧ d ≤ 10 ∧ 4503599627370496 ≤ t ∧ t ≤ 9007199254740992 ∧ x = t * 2 ^ d := by
  by_cases hd0 : d = 0
  ·subst hd0;refine .inl (log2_le52 x ?_);rw [← hx];simp;omega
  by_cases hd11 : d = 11
  ·subst hd11;have e11 : (2 : Nat) ^ 11 = 2048 := by decide
   refine .inr ⟨9007199254740992,10,by omega,by omega,by omega,by omega,?_⟩;have e10 : (2 : Nat) ^ 10 = 1024 := by decide
   omega
  exact .inr ⟨m,d,by omega,by omega,hm,by omega,hx.symm⟩
 obtain ⟨w1,w2,w3,w4⟩ := whole_float s x hform hx1 hx2;refine ⟨_,w1,w2,w3,w4,?_,?_⟩
 ·rw [hsv];cases s
  ·simp only [Bool.false_eq_true,if_false];omega
  simp only [if_true];rw [Int.neg_mul];omega
 rw [hsv];cases s
 ·simp only [Bool.false_eq_true,if_false];rw [Int.add_mul,Int.one_mul];omega
 simp only [if_true];rw [Int.add_mul,Int.neg_mul,Int.one_mul];omega
end
section
open V
structure Rq where
 do_ : Int
 coll : ByteArray
 index : ByteArray
 path : ByteArray
 unique : Bool
 key : V
 low : V
 high : V
 doc : V
 n : Int
structure Rp where
 e : Int
 n : Int
 docs : List V
 cursor : Int
def Rp.zero : Rp := ⟨0,0,[],0⟩
abbrev rqCells (d : Int) (c i p : ByteArray) (u : Bool) (k l h x : Cv) (n : Int) : Array Value :=
 #[.int .i64 d,.string c,.string i,.string p,.bool u,.int .i64 k.k,.int .u64 k.n,.slice k.aB k.nB k.cB,.slice k.aL k.nL k.cL,.slice k.aF k.nF k.cF,
  .int .i64 l.k,.int .u64 l.n,.slice l.aB l.nB l.cB,.slice l.aL l.nL l.cL,.slice l.aF l.nF l.cF,.int .i64 h.k,.int .u64 h.n,.slice h.aB h.nB h.cB,.slice h.aL h.nL h.cL,.slice h.aF h.nF h.cF,
  .int .i64 x.k,.int .u64 x.n,.slice x.aB x.nB x.cB,.slice x.aL x.nL x.cL,.slice x.aF x.nF x.cF,.int .i64 n]
abbrev rpCells (e n : Int) (A : Option Addr) (l c : Nat) (k : Int) : Array Value := #[.int .i64 e,.int .i64 n,.slice A l c,.int .i64 k]
abbrev zeroQ : Array Value := #[.int .i64 0,.string ⟨#[]⟩,.string ⟨#[]⟩,.string ⟨#[]⟩,.bool false,.int .i64 0,.int .u64 0,.slice none 0 0,.slice none 0 0,.slice none 0 0,.int .i64 0,.int .u64 0,.slice none 0 0,.slice none 0 0,.slice none 0 0,.int .i64 0,.int .u64 0,.slice none 0 0,.slice none 0 0,.slice none 0 0,.int .i64 0,.int .u64 0,.slice none 0 0,.slice none 0 0,.slice none 0 0,.int .i64 0]
end
section
open Go.RowKit
theorem pmust_yes (e : Int) (w : World) : Calls Tryz.prog 114 #[.bool true,.int .i64 e] w fun e w' => e = .returned (.tuple #[]) ∧ w = w' := by
 go_enter Tryz.func114,Tryz.ntmps114;go_wp2;go_end0;exact ⟨rfl,rfl⟩
theorem pmust_no (e : Int) (w : World) : Calls Tryz.prog 114 #[.bool false,.int .i64 e] w fun r w' => r = .panicked (thrown e) ∧ w = w' := by
 go_enter Tryz.func114,Tryz.ntmps114;go_wp2;exact ⟨rfl,rfl,rfl⟩
theorem right_yes (w : World) : Calls Tryz.prog 119 #[.int .i64 0] w fun e w' => e = .returned (.tuple #[]) ∧ w = w' := by
 go_enter Tryz.func119,Tryz.ntmps119;go_wp2_with fail;refine (pmust_yes 0 w).mono ?_;rintro e w' ⟨rfl,rfl⟩;go_wp2_with fail;go_end0;exact ⟨rfl,rfl⟩
theorem right_no (e : Int) (he : e ≠ 0) (w : World) : Calls Tryz.prog 119 #[.int .i64 e] w fun r w' => r = .panicked (thrown e) ∧ w = w' := by
 have he2 : (e == 0) = false := by simpa using he
 clear he;go_enter Tryz.func119,Tryz.ntmps119;go_wp2_with fail;refine (pmust_no e w).mono ?_;rintro r w' ⟨rfl,rfl⟩;go_wp2_with fail;exact ⟨rfl,rfl,rfl⟩
end
end Go.Proofs.YtndjopkdbdcmdaaGreatDoor
