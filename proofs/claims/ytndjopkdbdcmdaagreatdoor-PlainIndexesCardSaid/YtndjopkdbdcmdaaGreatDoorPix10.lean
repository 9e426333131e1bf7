/- Part 10 of the proof of pindexes_card. -/
import Derived.Test.YtndjopkdbdcmdaaGreatDoorPix8
import Derived.Test.YtndjopkdbdcmdaaGreatDoorPix9
import Derived.Deep.Slices
import Derived.ProofKit
import Derived.OpenShut
import Derived.SizedLaws
import Derived.Lib.LaidIn
import Derived.Lib.LaidU8T
import Derived.Test.YtndjopkdbdcmdaaGreatDoorCards
import Derived.Test.YtndjopkdbdcmdaaGreatDoorTie
import Derived.Deep.DeepHandedRow
import Derived.Deep.DeepWitnessRowRef
import Derived.SevenTiedAt
set_option linter.unusedVariables false
set_option linter.unusedSimpArgs false
set_option maxRecDepth 100000
set_option maxHeartbeats 12800000
namespace Go.Proofs.YtndjopkdbdcmdaaGreatDoor
section
open Go.RowKit Go.Shelf
def stepV : V → ByteArray → Option V
 | .mk k _ _ l f,s => if k = 7 then (if 0 ≤ ixN s.data.toList then l[(ixN s.data.toList).toNat]? else none) else (f.find? fun x => decide (x.1 = s)).map Prod.snd
theorem zero_isV (C : Addr → Value → Prop) : IsV C V.zero Cv.zero := by
 unfold V.zero;rw [IsV];exact ⟨rfl,rfl,rfl,rfl,rfl,by omega,by omega,by omega,by simp,by simp,by simp,by simp,by simp,by simp,⟨rfl,fun h => absurd h (by simp)⟩,fun i h => absurd h (by simp),fun i h => absurd h (by simp)⟩
def StepC (w : World) (g : Option V) (e : Ending) (w' : World) : Prop :=
 Grow w w' ∧ ∃ (c : Cv) (t : Bool) (u : V),e = .returned (.tuple #[c.agg,.bool t]) ∧ IsV (AtW w' w.heap.size w'.heap.size) u c ∧ ((g = some u ∧ t = true) ∨ (g = none ∧ t = false ∧ u = V.zero ∧ c = Cv.zero))
theorem StepC.no {w w' : World} {g : Option V} (h : g = none) (hg : Grow w w') : StepC w g (.returned (.tuple #[Cv.zero.agg,.bool false])) w' :=
 ⟨hg,Cv.zero,false,V.zero,rfl,zero_isV _,.inr ⟨h,rfl,rfl,rfl⟩⟩
theorem StepC.yes {w w' : World} {g : Option V} {u : V} {c : Cv} (h : g = some u) (hg : Grow w w') {lo : Nat} (hlo : w.heap.size ≤ lo) (hi : IsV (AtW w' lo w'.heap.size) u c) : StepC w g (.returned (.tuple #[c.agg,.bool true])) w' :=
 ⟨hg,c,true,u,rfl,IsV.mono (fun p u h => ⟨h.1,Nat.le_trans hlo h.2.1,h.2.2⟩) u c hi,.inl ⟨h,rfl⟩⟩
def StepL (w0 w : World) (g : Option V) (e : Ending) (w' : World) : Prop :=
 Grow w w' ∧ ∃ (c : Cv) (t : Bool) (u : V),e = .returned (.tuple #[c.agg,.bool t]) ∧ In w0 u c ∧ ((g = some u ∧ t = true) ∨ (g = none ∧ t = false ∧ u = V.zero ∧ c = Cv.zero))
theorem StepL.no {w0 w w' : World} {g : Option V} (h : g = none) (hg : Grow w w') : StepL w0 w g (.returned (.tuple #[Cv.zero.agg,.bool false])) w' :=
 ⟨hg,Cv.zero,false,V.zero,rfl,In.zero_ w0,.inr ⟨h,rfl,rfl,rfl⟩⟩
theorem StepL.yes {w0 w w' : World} {g : Option V} {u : V} {c : Cv} (h : g = some u) (hg : Grow w w') (hi : In w0 u c) : StepL w0 w g (.returned (.tuple #[c.agg,.bool true])) w' :=
 ⟨hg,c,true,u,rfl,hi,.inl ⟨h,rfl⟩⟩
theorem step_res {F : Func} {W : World} {vb : Nat} {tmps : Array Value} {u : Value} (hF : F.results = #[ResultVar.cell 4 27,ResultVar.tmp 5]) (h2 : tmps.getD 4 undef = .pointer (some ⟨vb,0,none⟩)) (h3 : tmps.getD 5 undef = u) (c : Cv) (hv : Blk W vb 27 c.cells) :
 (results F tmps).run Tryz.prog W = .ok (.tuple #[c.agg,u]) W := by
 have hl := run_loadVar_row (P := Tryz.prog) W vb 27 27 c.cells (0,0) _ hv Tryz.underlying27 rfl info_val;have h2' : tmps[4]?.getD undef = .pointer (some ⟨vb,0,none⟩) := by simpa using h2
 have h3' : tmps[5]?.getD undef = u := by simpa using h3
 simp [results,hF,h2',h3',asAddr,hl]
theorem stepV_list {n : Nat} {b : List UInt8} {l : List V} {f : List (ByteArray × V)} {s : ByteArray} : stepV (.mk 7 n b l f) s = if 0 ≤ ixN s.data.toList then l[(ixN s.data.toList).toNat]? else none := by
 simp [stepV]
theorem step_list (n : Nat) (b : List UInt8) (l : List V) (f : List (ByteArray × V)) (s : ByteArray) (c : Cv) (w0 w : World) (hg0 : Grow w0 w) (hv : In w0 (.mk 7 n b l f) c) :
 Calls Tryz.prog 48 #[c.agg,.string s] w (StepL w0 w (stepV (.mk 7 n b l f) s)) := by
 rw [stepV_list];obtain ⟨z,hz⟩ : ∃ z,ixN s.data.toList = z := ⟨_,rfl⟩;have HI := hide (fun w => vindex_any s w);rw [hz] at HI ⊢;clear hz;obtain ⟨aB,aL,aF,cB,cL,cF,rfl,-,-,-,-,-,h6,h7,-⟩ := hv.open;have HG := hide (fun x : Cv => ((Grow.refl w).alloc (.cells (Cv.cells ⟨7,(n : Int),aB,b.length,cB,aL,l.length,cL,aF,f.length,cF⟩) 27)).alloc (.cells x.cells 27));have HB := hide (fun x : Cv => Blk.new' (w := w.alloc (.cells (Cv.cells ⟨7,(n : Int),aB,b.length,cB,aL,l.length,cL,aF,f.length,cF⟩) 27)) (g := w.heap.size + 1) (by simp) 27 x.cells);have HV := hide hv;by_cases hz0 : 0 ≤ z
 ·rw [if_pos hz0];by_cases hz1 : z < l.length
  ·obtain ⟨i,rfl⟩ : ∃ i : Nat,z = i := ⟨z.toNat,by omega⟩;have hi : i < l.length := by omega
   rw [Int.toNat_natCast,List.getElem?_eq_getElem hi];obtain ⟨bk,o,x,ha,hbk,e0,e1,e2,e3,e4,hx⟩ := hv.elemL i hi;dsimp only at ha;subst ha;replace e0 := (hg0.below.cell hbk).trans e0;replace e1 := (hg0.below.cell hbk).trans e1;replace e2 := (hg0.below.cell hbk).trans e2;replace e3 := (hg0.below.cell hbk).trans e3;replace e4 := (hg0.below.cell hbk).trans e4;replace hbk := Nat.lt_of_lt_of_le hbk hg0.size;have HX := hide hx;clear hx hv hz0 hz1 hg0;go_enter Tryz.func48,Tryz.ntmps48;go_wp2_with (go_at_call 91;refine (HI.out _).mono ?_;rintro e w' ⟨rfl,rfl⟩);refine bodyPost_ret (step_res rfl rfl rfl x (HB.out x)) rfl (StepL.yes rfl (HG.out x) HX.out)
  have hn : l[z.toNat]? = none := List.getElem?_eq_none (by omega);have HN := hide hn;clear hn;go_enter Tryz.func48,Tryz.ntmps48;go_wp2_with (go_at_call 91;refine (HI.out _).mono ?_;rintro e w' ⟨rfl,rfl⟩);refine bodyPost_ret (step_res rfl rfl rfl Cv.zero (HB.out Cv.zero)) rfl (StepL.no HN.out (HG.out Cv.zero))
 rw [if_neg hz0];go_enter Tryz.func48,Tryz.ntmps48;go_wp2_with (go_at_call 91;refine (HI.out _).mono ?_;rintro e w' ⟨rfl,rfl⟩);refine bodyPost_ret (step_res rfl rfl rfl Cv.zero (HB.out Cv.zero)) rfl (StepL.no rfl (HG.out Cv.zero))
theorem stepV_doc {k : Int} (hk : k ≠ 7) {n : Nat} {b : List UInt8} {l : List V} {f : List (ByteArray × V)} {s : ByteArray} : stepV (.mk k n b l f) s = (f.find? fun x => decide (x.1 = s)).map Prod.snd := by
 simp [stepV,hk]
theorem find_at {f : List (ByteArray × V)} {s : ByteArray} {j : Nat} (h : j < f.length) (h0 : ∀ i (hi : i < f.length),i < j → f[i].1 ≠ s) (he : f[j].1 = s) : (f.find? fun x => decide (x.1 = s)) = some f[j] := by
 induction f generalizing j with
 | nil => simp at h
 | cons x r ih =>
  cases j with
  | zero =>
   simp only [List.getElem_cons_zero] at he ⊢;rw [List.find?_cons,decide_eq_true he]
  | succ j =>
   have hx := h0 0 (by simp) (by omega);simp only [List.getElem_cons_zero] at hx;simp only [List.getElem_cons_succ] at he ⊢;rw [List.find?_cons,decide_eq_false hx];exact ih (by simpa using h) (fun i hi hij => by have := h0 (i + 1) (by simpa using hi) (by omega);simpa using this) he
theorem find_no {f : List (ByteArray × V)} {s : ByteArray} (h0 : ∀ i (hi : i < f.length),f[i].1 ≠ s) : (f.find? fun x => decide (x.1 = s)) = none := by
 rw [List.find?_eq_none];intro x hx;obtain ⟨i,hi,rfl⟩ := List.getElem_of_mem hx;simpa using h0 i hi
theorem step_doc (k : Int) (hk : k ≠ 7) (n : Nat) (b : List UInt8) (l : List V) (f : List (ByteArray × V)) (s : ByteArray) (c : Cv) (w0 w : World) (hg0 : Grow w0 w) (hv : In w0 (.mk k n b l f) c) :
 Calls Tryz.prog 48 #[c.agg,.string s] w (StepL w0 w (stepV (.mk k n b l f) s)) := by
 rw [stepV_doc hk];obtain ⟨aB,aL,aF,cB,cL,cF,rfl,-,-,-,-,-,-,-,h8,h9,-⟩ := hv.open;have HG := hide (((Grow.refl w).alloc (.cells (Cv.cells ⟨k,(n : Int),aB,b.length,cB,aL,l.length,cL,aF,f.length,cF⟩) 27)).alloc (.cells Cv.zero.cells 27));have HB := hide (Blk.new' (w := w.alloc (.cells (Cv.cells ⟨k,(n : Int),aB,b.length,cB,aL,l.length,cL,aF,f.length,cF⟩) 27)) (g := w.heap.size + 1) (by simp) 27 Cv.zero.cells);have HV := hide hv;have hkq : (k == 7) = false := by simpa using hk
 have HG0 := hide hg0;clear hv hk hg0;go_enter Tryz.func48,Tryz.ntmps48;go_wp2_with fail;go_loopg [8,32] (f.length + 1) (fun gk x i wr => ∃ j : Nat,j ≤ f.length ∧ gk + j = f.length + 1 ∧ i = .int .i64 j ∧ (∀ i (hi : i < f.length),i < j → f[i].1 ≠ s) ∧ Grow w wr ∧ Blk wr (w.heap.size + 1) 27 Cv.zero.cells)
 case atStart => exact ⟨0,by omega,by omega,rfl,fun i _ h => absurd h (by omega),HG.out,HB.out⟩
 case round =>
  obtain ⟨j,hj,hgk,rfl,hne,hw,hB⟩ := hrel;have HN := hide hne;have HW := hide hw;have HBr := hide hB;by_cases hlt : j < f.length
  ·obtain ⟨gk',rfl⟩ := gk_ gk (by omega);obtain ⟨bk,o,x,ha,hbk,es,esz,e0,e1,e2,e3,e4,hx⟩ := HV.out.elemF j hlt;replace es := ((HG0.out.trans hw).below.cell hbk).trans es;replace e0 := ((HG0.out.trans hw).below.cell hbk).trans e0;replace e1 := ((HG0.out.trans hw).below.cell hbk).trans e1;replace e2 := ((HG0.out.trans hw).below.cell hbk).trans e2;replace e3 := ((HG0.out.trans hw).below.cell hbk).trans e3;replace e4 := ((HG0.out.trans hw).below.cell hbk).trans e4;replace hbk := Nat.lt_of_lt_of_le hbk (HG0.out.trans hw).size;dsimp only at ha;subst ha;have HX := hide hx;obtain ⟨q,hq⟩ : ∃ q,f[j].1 = q := ⟨_,rfl⟩;rw [hq] at es;have HQ := hide hq;have HWA := hide (fun cs => hw.alloc (.cells cs 82));have HBA := hide (fun cs => hB.alloc (.cells cs 82))
   have hc1 := (HBA.out #[.string q,.int .i64 x.k,.int .u64 x.n,.slice x.aB x.nB x.cB,.slice x.aL x.nL x.cL,.slice x.aF x.nF x.cF]).cell;have hlt1 := (HBA.out #[.string q,.int .i64 x.k,.int .u64 x.n,.slice x.aB x.nB x.cB,.slice x.aL x.nL x.cL,.slice x.aF x.nF x.cF]).lt;have hz1 := (HBA.out #[.string q,.int .i64 x.k,.int .u64 x.n,.slice x.aB x.nB x.cB,.slice x.aL x.nL x.cL,.slice x.aF x.nF x.cF]).frozen;clear hne hw hB hx hq;by_cases he : q = s
   ·subst he;have HF := hide (show (f.find? fun x => decide (x.1 = q)).map Prod.snd = some f[j].2 by rw [find_at hlt HN.out HQ.out];rfl);go_wp2_with fail;refine bodyPost_ret (step_res rfl rfl rfl x (set5_from (c := x) (HBA.out _))) rfl (StepL.yes HF.out ((HWA.out _).set5v (Nat.le_succ _) x) HX.out)
   have HE := hide he;have he2 : (q.toList == s.toList) = false := by
    simp only [beq_eq_false_iff_ne,ne_eq];intro h;rw [toList_data,toList_data] at h;exact he (ByteArray.ext (Array.ext' h))
   clear he;go_wp2_with fail;go_roundg gk'
   case measure => omega
   case rel =>
    refine ⟨j + 1,by omega,by omega,by go_num,fun i hi hij => ?_,HWA.out _,HBA.out _⟩;by_cases hij2 : i = j
    ·subst hij2;rw [HQ.out];exact HE.out
    exact HN.out i hi (by omega)
  obtain ⟨gk',rfl⟩ := gk_ gk (by omega);obtain rfl : j = f.length := by omega
  have HF := hide (show (f.find? fun x => decide (x.1 = s)).map Prod.snd = none by rw [find_no (fun i hi => HN.out i hi hi)];rfl);have hc1 := HBr.out.cell;have hlt1 := HBr.out.lt;have hz1 := HBr.out.frozen;clear hne hw hB;go_wp2_with fail;refine bodyPost_ret (step_res rfl rfl rfl Cv.zero (set5_blk (c := Cv.zero) HBr.out)) rfl (StepL.no HF.out (HW.out.set5v (Nat.le_succ _) Cv.zero))
theorem step_any (v : V) (s : ByteArray) (c : Cv) (w0 w : World) (hg0 : Grow w0 w) (hv : In w0 v c) : Calls Tryz.prog 48 #[c.agg,.string s] w (StepL w0 w (stepV v s)) := by
 obtain ⟨k,n,b,l,f⟩ := v;by_cases hk : k = 7
 ·subst hk;exact step_list n b l f s c w0 w hg0 hv
 exact step_doc k hk n b l f s c w0 w hg0 hv
end
section
open Go.RowKit
abbrev idS : ByteArray := ⟨#[95,105,100]⟩
theorem idS_list : idS.toList = [95,105,100] := by decide +kernel
def idP (v : V) : Option V := (v.f.find? fun x => decide (x.1 = idS)).map Prod.snd
theorem id_res {F : Func} {W : World} {vb : Nat} {tmps : Array Value} {u : Value} (hF : F.results = #[ResultVar.cell 2 27,ResultVar.tmp 3]) (h2 : tmps.getD 2 undef = .pointer (some ⟨vb,0,none⟩)) (h3 : tmps.getD 3 undef = u) (c : Cv) (hv : Blk W vb 27 c.cells) :
 (results F tmps).run Tryz.prog W = .ok (.tuple #[c.agg,u]) W := by
 have hl := run_loadVar_row (P := Tryz.prog) W vb 27 27 c.cells (0,0) _ hv Tryz.underlying27 rfl info_val;have h2' : tmps[2]?.getD undef = .pointer (some ⟨vb,0,none⟩) := by simpa using h2
 have h3' : tmps[3]?.getD undef = u := by simpa using h3
 simp [results,hF,h2',h3',asAddr,hl]
theorem id_mk (k : Int) (n : Nat) (b : List UInt8) (l : List V) (f : List (ByteArray × V)) (c : Cv) (w0 w : World) (hg0 : Grow w0 w) (hv : In w0 (.mk k n b l f) c) :
 Calls Tryz.prog 52 #[c.agg] w (StepL w0 w (idP (.mk k n b l f))) := by
 obtain ⟨s,hs⟩ : ∃ s,s = idS := ⟨_,rfl⟩;rw [show idP (.mk k n b l f) = (f.find? fun x => decide (x.1 = s)).map Prod.snd by rw [hs];rfl];have HS := hide hs;clear hs;obtain ⟨aB,aL,aF,cB,cL,cF,rfl,-,-,-,-,-,-,-,h8,h9,-⟩ := hv.open;have HG := hide (((Grow.refl w).alloc (.cells (Cv.cells ⟨k,(n : Int),aB,b.length,cB,aL,l.length,cL,aF,f.length,cF⟩) 27)).alloc (.cells Cv.zero.cells 27));have HB := hide (Blk.new' (w := w.alloc (.cells (Cv.cells ⟨k,(n : Int),aB,b.length,cB,aL,l.length,cL,aF,f.length,cF⟩) 27)) (g := w.heap.size + 1) (by simp) 27 Cv.zero.cells);have HV := hide hv;have HG0 := hide hg0;clear hv hg0;go_enter Tryz.func52,Tryz.ntmps52;go_wp2_with fail
 go_loopg [5,9] (f.length + 1) (fun gk x i wr => ∃ j : Nat,j ≤ f.length ∧ gk + j = f.length + 1 ∧ i = .int .i64 j ∧ (∀ i (hi : i < f.length),i < j → f[i].1 ≠ s) ∧ Grow w wr ∧ Blk wr (w.heap.size + 1) 27 Cv.zero.cells)
 case atStart => exact ⟨0,by omega,by omega,rfl,fun i _ h => absurd h (by omega),HG.out,HB.out⟩
 case round =>
  obtain ⟨j,hj,hgk,rfl,hne,hw,hB⟩ := hrel;have HN := hide hne;have HW := hide hw;have HBr := hide hB;by_cases hlt : j < f.length
  ·obtain ⟨gk',rfl⟩ := gk_ gk (by omega);obtain ⟨bk,o,x,ha,hbk,es,esz,e0,e1,e2,e3,e4,hx⟩ := HV.out.elemF j hlt;replace es := ((HG0.out.trans hw).below.cell hbk).trans es;replace e0 := ((HG0.out.trans hw).below.cell hbk).trans e0;replace e1 := ((HG0.out.trans hw).below.cell hbk).trans e1;replace e2 := ((HG0.out.trans hw).below.cell hbk).trans e2;replace e3 := ((HG0.out.trans hw).below.cell hbk).trans e3;replace e4 := ((HG0.out.trans hw).below.cell hbk).trans e4;replace hbk := Nat.lt_of_lt_of_le hbk (HG0.out.trans hw).size;dsimp only at ha;subst ha;have HX := hide hx;obtain ⟨q,hq⟩ : ∃ q,f[j].1 = q := ⟨_,rfl⟩;rw [hq] at es;have HQ := hide hq;have HWA := hide (fun cs => hw.alloc (.cells cs 82));have HBA := hide (fun cs => hB.alloc (.cells cs 82))
   have hc1 := (HBA.out #[.string q,.int .i64 x.k,.int .u64 x.n,.slice x.aB x.nB x.cB,.slice x.aL x.nL x.cL,.slice x.aF x.nF x.cF]).cell;have hlt1 := (HBA.out #[.string q,.int .i64 x.k,.int .u64 x.n,.slice x.aB x.nB x.cB,.slice x.aL x.nL x.cL,.slice x.aF x.nF x.cF]).lt;have hz1 := (HBA.out #[.string q,.int .i64 x.k,.int .u64 x.n,.slice x.aB x.nB x.cB,.slice x.aL x.nL x.cL,.slice x.aF x.nF x.cF]).frozen;clear hne hw hB hx hq;by_cases he : q = s
   ·have he2 : (q.toList == [95,105,100]) = true := by rw [← idS_list,he,← HS.out];simp
    subst he;have HF := hide (show (f.find? fun x => decide (x.1 = q)).map Prod.snd = some f[j].2 by rw [find_at hlt HN.out HQ.out];rfl);go_wp2_with fail;refine bodyPost_ret (id_res rfl rfl rfl x (set5_from (c := x) (HBA.out _))) rfl (StepL.yes HF.out ((HWA.out _).set5v (Nat.le_succ _) x) HX.out)
   have HE := hide he;have he2 : (q.toList == [95,105,100]) = false := by
    rw [← idS_list,← HS.out];simp only [beq_eq_false_iff_ne,ne_eq];intro h;rw [toList_data,toList_data] at h;exact he (ByteArray.ext (Array.ext' h))
   clear he;go_wp2_with fail;go_roundg gk'
   case measure => omega
   case rel =>
    refine ⟨j + 1,by omega,by omega,by go_num,fun i hi hij => ?_,HWA.out _,HBA.out _⟩;by_cases hij2 : i = j
    ·subst hij2;rw [HQ.out];exact HE.out
    exact HN.out i hi (by omega)
  obtain ⟨gk',rfl⟩ := gk_ gk (by omega);obtain rfl : j = f.length := by omega
  have HF := hide (show (f.find? fun x => decide (x.1 = s)).map Prod.snd = none by rw [find_no (fun i hi => HN.out i hi hi)];rfl);have hc1 := HBr.out.cell;have hlt1 := HBr.out.lt;have hz1 := HBr.out.frozen;clear hne hw hB;go_wp2_with fail;refine bodyPost_ret (id_res rfl rfl rfl Cv.zero (set5_blk (c := Cv.zero) HBr.out)) rfl (StepL.no HF.out (HW.out.set5v (Nat.le_succ _) Cv.zero))
theorem id_any (v : V) (c : Cv) (w0 w : World) (hg0 : Grow w0 w) (hv : In w0 v c) : Calls Tryz.prog 52 #[c.agg] w (StepL w0 w (idP v)) := by
 obtain ⟨k,n,b,l,f⟩ := v;exact id_mk k n b l f c w0 w hg0 hv
end
section
open Go.RowKit Go.Shelf
noncomputable def cmpV (u v : V) : Int × Int := if orC u.good v.good = 0 then (V.cmp u v,0) else (0,orC u.good v.good)
theorem orC_zero {a b : Int} (h : orC a b = 0) : a = 0 ∧ b = 0 := by
 unfold orC at h;split at h
 ·exact ⟨by assumption,h⟩
 contradiction
theorem kvcompare_any (u v : V) (c d : Cv) (w : World) (hu : u.mild) (hv : v.mild) (hT : Tabs w) (h : In w u c) (k : In w v d) :
 Calls Tryz.prog 22 #[c.agg,d.agg] w fun e w' => e = .returned (.tuple #[.int .i64 (cmpV u v).1,.int .i64 (cmpV u v).2]) ∧ Grow w w' := by
 have HG0 := hide (((Grow.refl w).alloc (.cells c.cells 27)).alloc (.cells d.cells 27));have HB0 := hide ((Blk.new w 27 c.cells).alloc (.cells d.cells 27));have HD0 := hide (Blk.new' (w := w.alloc (.cells c.cells 27)) (g := w.heap.size + 1) (by simp) 27 d.cells);have HU := hide (fun w2 (hg : Grow w w2) => good_anyM u w2 c hu (hT.grow hg) (h.grow hg));have HV := hide (fun w2 (hg : Grow w w2) => good_anyM v w2 d hv (hT.grow hg) (k.grow hg));have HC := hide (fun w2 (hg : Grow w w2) (h1 : u.formed = true) (h2 : v.formed = true) => vcompare_any u v h1 h2 w2 c d (h.grow hg) (k.grow hg));obtain ⟨g1,hg1⟩ : ∃ g,u.good = g := ⟨_,rfl⟩;obtain ⟨g2,hg2⟩ : ∃ g,v.good = g := ⟨_,rfl⟩;have HE := hide (show cmpV u v = if orC g1 g2 = 0 then (V.cmp u v,0) else (0,orC g1 g2) by unfold cmpV;rw [hg1,hg2]);rw [hg1] at HU;rw [hg2] at HV;have HG1 := hide hg1;have HG2 := hide hg2
 have HO := hide (fun g cap t w2 hB => ore_any g1 g2 g cap t w2 hB);obtain ⟨z,hz⟩ : ∃ z,orC g1 g2 = z := ⟨_,rfl⟩;rw [hz] at HO HE;have HZ := hide hz;have hc0 := HB0.out.cell;have hd0 := HD0.out.cell;have hl0 := HB0.out.lt;have hm0 := HD0.out.lt;clear hu hv hT h k hg1 hg2 hz;by_cases h0 : z = 0
 ·subst h0;have hform := orC_zero HZ.out;have f1 := V.good_formed (v := u) (by rw [HG1.out];exact hform.1);have f2 := V.good_formed (v := v) (by rw [HG2.out];exact hform.2);have HF := hide (And.intro f1.1 f2.1);rw [if_pos rfl] at HE;clear hform f1 f2;go_enter Tryz.func22,Tryz.ntmps22;go_wp2_with fail;go_region_held3 (fun w' => (∀ q,w'.cell? ⟨w.heap.size,q,none⟩ = c.cells[q]?) ∧ (∀ q,w'.cell? ⟨w.heap.size + 1,q,none⟩ = d.cells[q]?)) (first | go_keep | exact ⟨hcx,hdx⟩ | exact ⟨hcy,hdy⟩ | exact ⟨hcz,hdz⟩)
   (first | ((with_reducible refine (HU.out _ HGX.out).mono ?_);rintro e wx ⟨rfl,hgx⟩;have HGY := hide ((HGX.out.trans hgx).alloc (.cells #[.int .i64 g1,.int .i64 g2] 29));have HBY := hide ((HBX.out.grow hgx).alloc (.cells #[.int .i64 g1,.int .i64 g2] 29));have HDY := hide ((HDX.out.grow hgx).alloc (.cells #[.int .i64 g1,.int .i64 g2] 29));have hcy := (HBX.out.grow hgx).cell;have hdy := (HDX.out.grow hgx).cell;have hcz := HBY.out.cell;have hdz := HDY.out.cell;have hlz := HBY.out.lt;have hmz := HDY.out.lt;clear hgx) | ((with_reducible refine (HV.out _ HGX.out).mono ?_);rintro e wx ⟨rfl,hgx⟩;have HGY := hide ((HGX.out.trans hgx).alloc (.cells #[.int .i64 g1,.int .i64 g2] 29));have HBY := hide ((HBX.out.grow hgx).alloc (.cells #[.int .i64 g1,.int .i64 g2] 29));have HDY := hide ((HDX.out.grow hgx).alloc (.cells #[.int .i64 g1,.int .i64 g2] 29));have hcy := (HBX.out.grow hgx).cell;have hdy := (HDX.out.grow hgx).cell;have hcz := HBY.out.cell;have hdz := HDY.out.cell;have hlz := HBY.out.lt;have hmz := HDY.out.lt;clear hgx) | ((with_reducible refine (HU.out _ HG0.out.drew).mono ?_);rintro e wx ⟨rfl,hgx⟩;have HGX := hide (HG0.out.drew.trans hgx);have HBX := hide (HB0.out.drew.grow hgx);have HDX := hide (HD0.out.drew.grow hgx);have hcx := HBX.out.cell;have hdx := HDX.out.cell;have hlx := HBX.out.lt;have hmx := HDX.out.lt;clear hgx) | ((with_reducible refine (HV.out _ HG0.out.drew).mono ?_);rintro e wx ⟨rfl,hgx⟩;have HGX := hide (HG0.out.drew.trans hgx);have HBX := hide (HB0.out.drew.grow hgx);have HDX := hide (HD0.out.drew.grow hgx);have hcx := HBX.out.cell;have hdx := HDX.out.cell;have hlx := HBX.out.lt;have hmx := HDX.out.lt;clear hgx) | (go_at_call 49;refine (HO.out _ _ _ _ (Blk.new _ _ _)).mono ?_;rintro e wz ⟨rfl,rfl⟩))
  all_goals
   go_wp2_with fail
   refine (HC.out _ HGY.out HF.out.1 HF.out.2).mono ?_
   rintro e w2 ⟨rfl,hg⟩
   have HGZ := hide (HGY.out.trans hg)
   clear hg
   go_wp2_with fail
   go_ret2
   exact ⟨by rw [HE.out];rfl,HGZ.out⟩
 have hzq : (z != 0) = true := by simpa using h0
 rw [if_neg h0] at HE;clear h0;go_enter Tryz.func22,Tryz.ntmps22;go_wp2_with fail;go_region_held3 (fun w' => (∀ q,w'.cell? ⟨w.heap.size,q,none⟩ = c.cells[q]?) ∧ (∀ q,w'.cell? ⟨w.heap.size + 1,q,none⟩ = d.cells[q]?)) (first | go_keep | exact ⟨hcx,hdx⟩ | exact ⟨hcy,hdy⟩ | exact ⟨hcz,hdz⟩)
  (first | ((with_reducible refine (HU.out _ HGX.out).mono ?_);rintro e wx ⟨rfl,hgx⟩;have HGY := hide ((HGX.out.trans hgx).alloc (.cells #[.int .i64 g1,.int .i64 g2] 29));have HBY := hide ((HBX.out.grow hgx).alloc (.cells #[.int .i64 g1,.int .i64 g2] 29));have HDY := hide ((HDX.out.grow hgx).alloc (.cells #[.int .i64 g1,.int .i64 g2] 29));have hcy := (HBX.out.grow hgx).cell;have hdy := (HDX.out.grow hgx).cell;have hcz := HBY.out.cell;have hdz := HDY.out.cell;have hlz := HBY.out.lt;have hmz := HDY.out.lt;clear hgx) | ((with_reducible refine (HV.out _ HGX.out).mono ?_);rintro e wx ⟨rfl,hgx⟩;have HGY := hide ((HGX.out.trans hgx).alloc (.cells #[.int .i64 g1,.int .i64 g2] 29));have HBY := hide ((HBX.out.grow hgx).alloc (.cells #[.int .i64 g1,.int .i64 g2] 29));have HDY := hide ((HDX.out.grow hgx).alloc (.cells #[.int .i64 g1,.int .i64 g2] 29));have hcy := (HBX.out.grow hgx).cell;have hdy := (HDX.out.grow hgx).cell;have hcz := HBY.out.cell;have hdz := HDY.out.cell;have hlz := HBY.out.lt;have hmz := HDY.out.lt;clear hgx) | ((with_reducible refine (HU.out _ HG0.out.drew).mono ?_);rintro e wx ⟨rfl,hgx⟩;have HGX := hide (HG0.out.drew.trans hgx);have HBX := hide (HB0.out.drew.grow hgx);have HDX := hide (HD0.out.drew.grow hgx);have hcx := HBX.out.cell;have hdx := HDX.out.cell;have hlx := HBX.out.lt;have hmx := HDX.out.lt;clear hgx) | ((with_reducible refine (HV.out _ HG0.out.drew).mono ?_);rintro e wx ⟨rfl,hgx⟩;have HGX := hide (HG0.out.drew.trans hgx);have HBX := hide (HB0.out.drew.grow hgx);have HDX := hide (HD0.out.drew.grow hgx);have hcx := HBX.out.cell;have hdx := HDX.out.cell;have hlx := HBX.out.lt;have hmx := HDX.out.lt;clear hgx) | (go_at_call 49;refine (HO.out _ _ _ _ (Blk.new _ _ _)).mono ?_;rintro e wz ⟨rfl,rfl⟩))
 all_goals
  go_wp2_with fail
  go_ret2
  exact ⟨by rw [HE.out];rfl,HGY.out⟩
end
section
open Go.RowKit
noncomputable def withinP (v lo hi : V) : Bool := (decide (lo.k = 0) || decide (0 ≤ (cmpV v lo).1)) && (decide (hi.k = 0) || decide ((cmpV v hi).1 ≤ 0))
theorem In.k_ {w : World} {v : V} {c : Cv} (h : In w v c) : c.k = v.k := by
 obtain ⟨k,n,b,l,f⟩ := v;obtain ⟨aB,aL,aF,cB,cL,cF,rfl,_⟩ := In.open h;rfl
theorem within_any (v lo hi : V) (c cl ch : Cv) (w : World) (h1 : v.mild) (h2 : lo.mild) (h3 : hi.mild) (hT : Tabs w) (hv : In w v c) (hl : In w lo cl) (hh : In w hi ch) :
 Calls Tryz.prog 128 #[c.agg,cl.agg,ch.agg] w fun e w' => e = .returned (.bool (withinP v lo hi)) ∧ Grow w w' := by
 have HG0 := hide ((((Grow.refl w).alloc (.cells c.cells 27)).alloc (.cells cl.cells 27)).alloc (.cells ch.cells 27));have HA0 := hide (((Blk.new w 27 c.cells).alloc (.cells cl.cells 27)).alloc (.cells ch.cells 27));have HB0 := hide ((Blk.new' (w := w.alloc (.cells c.cells 27)) (g := w.heap.size + 1) (by simp) 27 cl.cells).alloc (.cells ch.cells 27));have HC0 := hide (Blk.new' (w := (w.alloc (.cells c.cells 27)).alloc (.cells cl.cells 27)) (g := w.heap.size + 1 + 1) (by simp) 27 ch.cells);have hA := HA0.out.cell;have hB := HB0.out.cell;have hC := HC0.out.cell;have HKL := hide (In.k_ hl);have HKH := hide (In.k_ hh);have HL := hide (fun w2 (hg : Grow w w2) => kvcompare_any v lo c cl w2 h1 h2 (hT.grow hg) (hv.grow hg) (hl.grow hg));have HH := hide (fun w2 (hg : Grow w w2) => kvcompare_any v hi c ch w2 h1 h3 (hT.grow hg) (hv.grow hg) (hh.grow hg))
 obtain ⟨⟨x,xe⟩,hx⟩ : ∃ r,cmpV v lo = r := ⟨_,rfl⟩;obtain ⟨⟨y,ye⟩,hy⟩ : ∃ r,cmpV v hi = r := ⟨_,rfl⟩;rw [hx] at HL;rw [hy] at HH;have HW := hide (show withinP v lo hi = ((decide (cl.k = 0) || decide (0 ≤ x)) && (decide (ch.k = 0) || decide (y ≤ 0))) by unfold withinP;rw [hx,hy,HKL.out,HKH.out]);obtain ⟨R,hR⟩ : ∃ R,withinP v lo hi = R := ⟨_,rfl⟩;rw [hR] at HW ⊢;clear h1 h2 h3 hT hv hl hh hx hy hR;have second : ∀ (W : World),Grow w W → True := fun _ _ => trivial
 clear second;by_cases k1 : cl.k = 0
 ·have hk1 : (cl.k == 0) = true := by rw [k1];rfl
  have K1 := hide k1;clear k1;by_cases k2 : ch.k = 0
  ·have hk2 : (ch.k == 0) = true := by rw [k2];rfl
   have K2 := hide k2;clear k2;go_enter Tryz.func128,Tryz.ntmps128;go_wp2_with fail;go_ret;exact ⟨by rw [HW.out];simp [K1.out,K2.out],HG0.out⟩
  have hk2 : (ch.k == 0) = false := by simpa using k2
  have K2 := hide k2;clear k2;go_enter Tryz.func128,Tryz.ntmps128;go_wp2_with fail;refine (HH.out _ HG0.out).mono ?_;rintro e w1 ⟨rfl,hg⟩;have HG1 := hide (HG0.out.trans hg);clear hg;by_cases hy0 : 0 < y
  ·go_wp2_with fail;go_ret;exact ⟨by rw [HW.out];simp [K1.out,K2.out];omega,HG1.out⟩
  go_wp2_with fail;go_ret;exact ⟨by rw [HW.out];simp [K1.out,K2.out];omega,HG1.out⟩
 have hk1 : (cl.k == 0) = false := by simpa using k1
 have K1 := hide k1;clear k1;go_enter Tryz.func128,Tryz.ntmps128;go_wp2_with fail;refine (HL.out _ HG0.out).mono ?_;rintro e w1 ⟨rfl,hg⟩;have HG1 := hide (HG0.out.trans hg);have hA1 := (HA0.out.grow hg).cell;have hC1 := (HC0.out.grow hg).cell;have hlA := (HA0.out.grow hg).lt;have hlC := (HC0.out.grow hg).lt;clear hg hA hB hC;by_cases hx0 : x < 0
 ·go_wp2_with fail;go_ret;exact ⟨by rw [HW.out];simp [K1.out];intro h;omega,HG1.out⟩
 by_cases k2 : ch.k = 0
 ·have hk2 : (ch.k == 0) = true := by rw [k2];rfl
  have K2 := hide k2;clear k2;go_wp2_with fail;go_ret;exact ⟨by rw [HW.out];simp [K1.out,K2.out];omega,HG1.out⟩
 have hk2 : (ch.k == 0) = false := by simpa using k2
 have K2 := hide k2;clear k2;go_wp2_with fail;refine (HH.out _ HG1.out).mono ?_;rintro e w2 ⟨rfl,hg⟩;have HG2 := hide (HG1.out.trans hg);clear hg;by_cases hy0 : 0 < y
 ·go_wp2_with fail;go_ret;exact ⟨by rw [HW.out];simp [K1.out,K2.out];omega,HG2.out⟩
 go_wp2_with fail;go_ret;exact ⟨by rw [HW.out];simp [K1.out,K2.out];omega,HG2.out⟩
end
section
open Go.RowKit Go.ChangeShapes Go.Shelf Go.Deep
theorem cells_u8 : Tryz.prog.cellsOf 5 = 1 := by kernel_rfl
theorem bytes_u8 : Tryz.prog.bytesOf 5 = 1 := by kernel_rfl
section
variable {H : Type} {enc : TypeId × Value → H} {W : World} {sp : Nat → Bool} {held : Bool}
theorem addr_add_zero (a : Addr) : a.add 0 = a := by unfold Addr.add;simp
theorem spot_of_cell {a : Addr} {u : Value} (h : W.cell? a = some u) : a = ⟨a.block,a.off,none⟩ := by
 obtain ⟨bk,o,s⟩ := a
 cases s with
 | none => rfl
 | some s =>
  exfalso;unfold World.cell? at h;simp only at h;split at h
  ·simp at h
  cases h
theorem open_bytes {fuel : Nat} {c : Value} {x : DataW H × List MemPlace} (h : DataW.trod enc Tryz.prog W 0 sp held fuel 23 [c] = some x) (hw : ∀ n ∈ x.1.weights Tryz.prog 23,n ≤ reachBytes) :
 ∃ A b cap,c = .slice A b.length cap ∧ b.length ≤ cap ∧ b.length ≤ 140737488355328 ∧ InB W A b := by
 rcases open_slice1 under_u8s cells_u8 h with ⟨hc,hx⟩ | ⟨a,len,cap,m,n,V,D,Pl,hc,hb,hl,hm,hmm,hx,hall⟩
 ·injection hc with hc;subst hc;exact ⟨none,[],0,rfl,by simp,by simp,⟨by simp [u8s],fun h => by simp at h⟩⟩
 injection hc with hc;have hmlen : len ≤ m := by rw [hmm];split <;> omega
 have hV : ∀ i,i < len → ∃ y : UInt8,V i = .int .u8 (y.toNat : Int) := fun i hi => by
  obtain ⟨h1,h2⟩ := hall i (by omega);obtain ⟨n',hn,hx',hwf⟩ := DataW.trod_int under_u8 h2;injection hn with hn;have hr : 0 ≤ n' ∧ n' < 256 := by
   have h3 : (decide (IntKind.u8.min ≤ n') && decide (n' ≤ IntKind.u8.max)) = true := hwf;rw [Bool.and_eq_true,decide_eq_true_eq,decide_eq_true_eq] at h3;have e1 : IntKind.u8.min = 0 := rfl;have e2 : IntKind.u8.max = 255 := rfl;rw [e1,e2] at h3;omega
  refine ⟨UInt8.ofNat n'.toNat,?_⟩;rw [hn,UInt8.toNat_ofNat'];congr 1;omega
 let y : Nat → UInt8 := fun i => if h : i < len then Classical.choose (hV i h) else 0
 have hy : ∀ i,i < len → V i = .int .u8 ((y i).toNat : Int) := fun i hi => by
  show V i = .int .u8 ((if h : i < len then Classical.choose (hV i h) else 0 : UInt8).toNat : Int);rw [dif_pos hi];exact Classical.choose_spec (hV i hi)
 have hlb : ((List.range len).map y).length = len := by simp
 have hwt : len ≤ reachBytes := by
  have := hw ((len + (m - len)) * 1) (by rw [hx];simp [DataW.weights,bytes_u8]);omega
 have hreach := reachBytes_lt;refine ⟨some a,(List.range len).map y,cap,by rw [hlb];exact hc,by rw [hlb];exact hl,by rw [hlb];simp only [Nat.reducePow] at hreach;omega,⟨by rw [u8s_length,Nat.mul_one],fun hn => ?_⟩⟩;rw [hlb] at hn;have h0 := (hall 0 (by omega)).1;rw [addr_add_zero] at h0;have ha := spot_of_cell h0;refine ⟨a.block,a.off,by rw [← ha],fun j u hu => ?_⟩;have hj : j < len := by
  have := (List.getElem?_eq_some_iff.1 hu).1;rwa [u8s_length,hlb] at this
 have hcell := (hall j (by omega)).1;rw [ha,add_lit] at hcell;rw [u8s_get _ j (by rw [hlb];exact hj)] at hu;injection hu with hu;subst hu;refine ⟨?_,Nat.zero_le _,(show a.block < W.heap.size from World.block_lt_of_cell? W _ h0)⟩;rw [hcell,hy j hj];simp
end
theorem tabs_of_laid {W : World} {l : List (String × DataW Unit)} (h : laidMet Tryz.prog l W) (h1 : ("unicode/utf8.first", Lib.firstData) ∈ l) (h2 : ("unicode/utf8.acceptRanges", Lib.acceptData) ∈ l) : Tabs W :=
 utf8Tabs_of_readsT (U8Types.of196 Tryz.laysValid) ⟨by kernel_rfl,by kernel_rfl,by kernel_rfl,by kernel_rfl,by kernel_rfl,by kernel_rfl,by kernel_rfl⟩ (Lib.laidMet.reads h h1) (Lib.laidMet.reads h h2)
theorem first_pinned : (Rows.laid_unicode_utf8_first : DataW Unit) = Lib.firstData := by kernel_rfl
theorem accept_laid : (Rows.laid_unicode_utf8_acceptRanges : DataW Unit) = Lib.acceptData := by kernel_rfl
noncomputable def laidWorld (os : Os) : World :=
 let w0 := World.holding Tryz.prog os ⟨#[],#[],[]⟩
 let put (h : Array Obj) (g : Nat) (cs : Array Value) : Array Obj := h.modify g fun
  | .cells _ t frozen => .cells cs t frozen
  | o => o
 let h1 := put w0.heap 0 (Lib.firstTab.map fun z => Value.int .u8 z).toArray
 let h2 := put h1 1 ((List.range 16).flatMap fun i => [Value.int .u8 (Lib.accLo i),Value.int .u8 (Lib.accHi i)]).toArray
 { w0 with heap := h2 }
theorem laid_met (os : Os) (args : Array Value) : laidMet Tryz.prog [("unicode/utf8.acceptRanges", Lib.acceptData), ("unicode/utf8.first", Lib.firstData)] ((laidWorld os).forCall (fun _ _ => 0) ⟨#[], args, []⟩).memory :=
 (LaidIn.of_run (l := [("unicode/utf8.acceptRanges", Lib.acceptData), ("unicode/utf8.first", Lib.firstData)]) [1, 0] 8 (by kernel_rfl) (by kernel_rfl) (by kernel_rfl) (by kernel_rfl)).met
end
section
open Go.RowKit Go.ChangeShapes Go.Shelf Go.Deep
theorem under_val : ∃ fs : Array Field,Tryz.prog.underlying 27 = some (.struct fs) ∧ fs.map (fun f => (f.type,f.offset)) = #[(3,0),(22,1),(23,2),(24,3),(25,4)] := ⟨_,Tryz.underlying27,by kernel_rfl⟩
theorem under_fld : ∃ fs : Array Field,Tryz.prog.underlying 82 = some (.struct fs) ∧ fs.map (fun f => (f.type,f.offset)) = #[(9,0),(27,1)] := ⟨_,Tryz.underlying82,by kernel_rfl⟩
theorem under_int : Tryz.prog.underlying 3 = some (.int .i64) := by kernel_rfl
theorem under_u64 : Tryz.prog.underlying 22 = some (.int .u64) := by kernel_rfl
theorem cells_int : Tryz.prog.cellsOf 3 = 1 := by kernel_rfl
theorem cells_u64 : Tryz.prog.cellsOf 22 = 1 := by kernel_rfl
theorem cells_u8s : Tryz.prog.cellsOf 23 = 1 := by kernel_rfl
theorem cells_vals : Tryz.prog.cellsOf 24 = 1 := by kernel_rfl
theorem cells_flds : Tryz.prog.cellsOf 25 = 1 := by kernel_rfl
theorem cells_val : Tryz.prog.cellsOf 27 = 5 := by kernel_rfl
theorem cells_fld : Tryz.prog.cellsOf 82 = 6 := by kernel_rfl
theorem cells_str : Tryz.prog.cellsOf 9 = 1 := by kernel_rfl
theorem bytes_val : Tryz.prog.bytesOf 27 = 88 := by kernel_rfl
theorem bytes_fld : Tryz.prog.bytesOf 82 = 104 := by kernel_rfl
theorem wf_range {k : IntKind} {n : Int} (h : (Lit.int k n).wf = true) : k.min ≤ n ∧ n ≤ k.max := by
 have h3 : (decide (k.min ≤ n) && decide (n ≤ k.max)) = true := h;rw [Bool.and_eq_true,decide_eq_true_eq,decide_eq_true_eq] at h3;exact h3
theorem weightsAll_mem {H : Type} {P : Program} {e : TypeId} : ∀ {l : List (DataW H)} {d : DataW H},d ∈ l → ∀ n ∈ d.weights P e,n ∈ DataW.weightsAll P e l
 | x :: r,d,h,n,hn => by
  simp only [DataW.weightsAll,List.mem_append];rcases List.mem_cons.1 h with e | e
  ·subst e;exact .inl hn
  exact .inr (weightsAll_mem e n hn)
section
variable {H : Type} {enc : TypeId × Value → H} {W : World} {sp : Nat → Bool} {held : Bool}
theorem open_row {t e : TypeId} {z by_ : Nat} (ht : Tryz.prog.underlying t = some (.slice e)) (hz : Tryz.prog.cellsOf e = z) (hz0 : 0 < z) (hby : Tryz.prog.bytesOf e = by_) (hby0 : 0 < by_) {fuel : Nat} {c : Value} {x : DataW H × List MemPlace} (h : DataW.trod enc Tryz.prog W 0 sp held fuel t [c] = some x) (hw : ∀ n ∈ x.1.weights Tryz.prog t,n ≤ reachBytes) :
 ∃ (A : Option Addr) (len cap : Nat) (D : Nat → DataW H),c = .slice A len cap ∧ len ≤ cap ∧ len ≤ 140737488355328 ∧ ((len = 0) ∨ ∃ bk o,A = some ⟨bk,o,none⟩ ∧ bk < W.heap.size) ∧
  ∀ i,i < len → SizeOf.sizeOf (D i) < SizeOf.sizeOf x.1 ∧ (∀ n ∈ (D i).weights Tryz.prog e,n ≤ reachBytes) ∧ ∃ (bk o fuel' : Nat) (q : List MemPlace) (cs : List Value),A = some ⟨bk,o,none⟩ ∧ cs.length = z ∧ (∀ j u,cs[j]? = some u → AtW W 0 W.heap.size ⟨bk,o + i * z + j,none⟩ u) ∧ DataW.trod enc Tryz.prog W 0 sp held fuel' e cs = some (D i,q) := by
 rcases open_slice ht h with ⟨hc,hx⟩ | ⟨a,len,cap,m,n,D,Pl,hc,hb,hl,hm,hmm,hx,hall⟩
 ·injection hc with hc;subst hc;exact ⟨none,0,0,fun _ => x.1,rfl,by simp,by simp,.inl rfl,fun i hi => absurd hi (by simp)⟩
 injection hc with hc;have hmlen : len ≤ m := by rw [hmm];split <;> omega
 rw [hz] at hall;have hxd : x.1 = .slice ((List.range len).map D) ((List.range (m - len)).map fun j => D (len + j)) := by rw [hx]
 have hwt : len ≤ reachBytes := by
  have := hw ((len + (m - len)) * by_) (by rw [hxd];simp [DataW.weights,ht,hby]);have h2 : len * 1 ≤ (len + (m - len)) * by_ := Nat.mul_le_mul (by omega) hby0;omega
 have hreach := reachBytes_lt;simp only [Nat.reducePow] at hreach;have hcell : ∀ i,i < len → ∃ cs,cs.length = z ∧ (∀ j u,cs[j]? = some u → W.cell? ((a.add (i * z)).add j) = some u) ∧ DataW.trod enc Tryz.prog W 0 sp held n e cs = some (D i,Pl i) := fun i hi => by
  obtain ⟨cs,h1,h2⟩ := hall i (by omega);obtain ⟨_,hlen,hcs⟩ := World.cells?_some h1;refine ⟨cs,hlen,fun j u hu => ?_,h2⟩;have hj : j < z := by rw [← hlen];exact (List.getElem?_eq_some_iff.1 hu).1
  rw [hcs j hj,hu]
 have haddr : 0 < len → a = ⟨a.block,a.off,none⟩ ∧ a.block < W.heap.size := fun hn => by
  obtain ⟨cs,hlen,hcs,_⟩ := hcell 0 hn;have h0 := hcs 0 (cs[0]'(by omega)) (List.getElem?_eq_getElem (by omega));rw [addr_add_zero,Nat.zero_mul,addr_add_zero] at h0;exact ⟨spot_of_cell h0,World.block_lt_of_cell? W _ h0⟩
 refine ⟨some a,len,cap,D,hc,hl,by omega,?_,fun i hi => ⟨?_,?_,?_⟩⟩
 ·rcases Nat.eq_zero_or_pos len with h0 | h0
  ·exact .inl h0
  exact .inr ⟨a.block,a.off,by rw [← (haddr h0).1],(haddr h0).2⟩
 ·rw [hxd];have hmem : D i ∈ (List.range len).map D := List.mem_map.2 ⟨i,List.mem_range.2 hi,rfl⟩;have := List.sizeOf_lt_of_mem hmem;simp only [DataW.slice.sizeOf_spec];omega
 ·intro k hk;refine hw k ?_;rw [hxd];simp only [DataW.weights,ht,List.mem_cons,List.mem_append];exact .inr (.inl (weightsAll_mem (List.mem_map.2 ⟨i,List.mem_range.2 hi,rfl⟩) k hk))
 obtain ⟨cs,hlen,hcs,htr⟩ := hcell i hi;have ha := haddr (by omega);refine ⟨a.block,a.off,n,Pl i,cs,by rw [← ha.1],hlen,fun j u hu => ⟨?_,Nat.zero_le _,ha.2⟩,htr⟩;have := hcs j u hu;rw [ha.1,add_lit,add_lit] at this;exact this
theorem field_of {fs : Array Field} {l : Array (TypeId × Nat)} (h : fs.map (fun f => (f.type,f.offset)) = l) {i : Nat} {t : TypeId} {o : Nat} (hi : l[i]? = some (t,o)) : ∃ f,fs[i]? = some f ∧ f.type = t ∧ f.offset = o := by
 subst h;rw [Array.getElem?_map] at hi
 cases hf : fs[i]? with
 | none => rw [hf] at hi;cases hi
 | some f =>
  rw [hf] at hi;simp only [Option.map_some,Option.some.injEq,Prod.mk.injEq] at hi;exact ⟨f,rfl,hi.1,hi.2⟩
theorem open_val (n : Nat) : ∀ (d : DataW H),SizeOf.sizeOf d ≤ n → ∀ (fuel : Nat) (cs : List Value) (q : List MemPlace),DataW.trod enc Tryz.prog W 0 sp held fuel 27 cs = some (d,q) → (∀ k ∈ d.weights Tryz.prog 27,k ≤ reachBytes) →
    ∃ (v : V) (c : Cv),cs = c.cells.toList ∧ In W v c := by
  induction n with
  | zero => intro d hd;have : 0 < SizeOf.sizeOf d := by cases d <;> simp;all_goals omega
            omega
  | succ n ih =>
    intro d hd fuel cs q h hw;obtain ⟨fs,hu,hfs⟩ := under_val;obtain ⟨xs,m,hfuel,hx,hlen,hxl,hall⟩ := DataW.trod_struct hu h;injection hx with hx1 hx2;subst hx1;rw [cells_val] at hlen;have hfl : fs.size = 5 := by have := congrArg Array.size hfs;simpa using this
    rw [hfl] at hxl;obtain ⟨c0,c1,c2,c3,c4,rfl⟩ : ∃ a b c d e,cs = [a,b,c,d,e] := by
      match cs,hlen with
      | [a,b,c,d,e],_ => exact ⟨a,b,c,d,e,rfl⟩
    obtain ⟨x0,x1,x2,x3,x4,rfl⟩ : ∃ a b c d e,xs = [a,b,c,d,e] := by
      match xs,hxl with
      | [a,b,c,d,e],_ => exact ⟨a,b,c,d,e,rfl⟩
    have hpart : ∀ i t o,(#[(3,0),(22,1),(23,2),(24,3),(25,4)] : Array (TypeId × Nat))[i]? = some (t,o) →
        DataW.trod enc Tryz.prog W 0 sp held m t (([c0,c1,c2,c3,c4].drop o).take (Tryz.prog.cellsOf t)) = [x0,x1,x2,x3,x4][i]? := fun i t o hi => by
      obtain ⟨f,hf,rfl,rfl⟩ := field_of hfs hi;exact hall i f hf
    have h0 := hpart 0 _ _ rfl;have h1 := hpart 1 _ _ rfl;have h2 := hpart 2 _ _ rfl;have h3 := hpart 3 _ _ rfl;have h4 := hpart 4 _ _ rfl;rw [cells_int] at h0;rw [cells_u64] at h1;rw [cells_u8s] at h2;rw [cells_vals] at h3;rw [cells_flds] at h4;have htys : fs.toList.map (·.type) = [3,22,23,24,25] := by
      have := congrArg (fun a => a.toList.map Prod.fst) hfs;simp only [Array.toList_map,List.map_map] at this;exact this
    have hwe : ∀ (j : Nat) (t : TypeId) (dd : DataW H),[3,22,23,24,25][j]? = some t → ([x0,x1,x2,x3,x4].map (·.1))[j]? = some dd → ∀ k ∈ dd.weights Tryz.prog t,k ≤ reachBytes := fun j t dd hj hdd k hk => by
      refine hw k ?_;simp only [DataW.weights,hu,htys];exact DataW.weights_mem_each hj hdd k hk
    obtain ⟨k,e0,_,hk⟩ := DataW.trod_int under_int h0;obtain ⟨nn,e1,_,hnn⟩ := DataW.trod_int under_u64 h1;simp at e0 e1;subst e0 e1;have hk' := wf_range hk;have hn' := wf_range hnn;have i1 : IntKind.i64.min = -9223372036854775808 := rfl;have i2 : IntKind.i64.max = 9223372036854775807 := rfl;have i3 : IntKind.u64.min = 0 := rfl;have i4 : IntKind.u64.max = 18446744073709551615 := rfl;rw [i1,i2] at hk';rw [i3,i4] at hn';obtain ⟨AB,b,cB,rfl,hbc,hbl,hbin⟩ := open_bytes h2 (hwe 2 _ _ rfl rfl);obtain ⟨AL,nl,cL,DL,rfl,hlc,hll,hla,hL⟩ := open_row under_vals cells_val (by omega) bytes_val (by omega) h3 (hwe 3 _ _ rfl rfl);obtain ⟨AF,nf,cF,DF,rfl,hfc,hfl2,hfa,hF⟩ := open_row under_flds cells_fld (by omega) bytes_fld (by omega) h4 (hwe 4 _ _ rfl rfl);have hsz3 : SizeOf.sizeOf x3.1 < n + 1 := by
      have : SizeOf.sizeOf x3.1 < SizeOf.sizeOf (DataW.agg ([x0,x1,x2,x3,x4].map (·.1))) := by
        have := List.sizeOf_lt_of_mem (show x3.1 ∈ [x0,x1,x2,x3,x4].map (·.1) by simp);simp only [DataW.agg.sizeOf_spec];omega
      omega
    have hsz4 : SizeOf.sizeOf x4.1 < n + 1 := by
      have : SizeOf.sizeOf x4.1 < SizeOf.sizeOf (DataW.agg ([x0,x1,x2,x3,x4].map (·.1))) := by
        have := List.sizeOf_lt_of_mem (show x4.1 ∈ [x0,x1,x2,x3,x4].map (·.1) by simp);simp only [DataW.agg.sizeOf_spec];omega
      omega
    have hLv : ∀ i,i < nl → ∃ (v : V),∃ bk o c,AL = some ⟨bk,o,none⟩ ∧ At5 (AtW W 0 W.heap.size) bk (o + i * 5) c ∧ In W v c := fun i hi => by
      obtain ⟨s1,s2,bk,o,fuel',q',cs',ha,hlen',hcs',htr⟩ := hL i hi;obtain ⟨v,c,rfl,hin⟩ := ih (DL i) (by omega) fuel' cs' q' htr s2;exact ⟨v,bk,o,c,ha,⟨hcs' 0 _ rfl,hcs' 1 _ rfl,hcs' 2 _ rfl,hcs' 3 _ rfl,hcs' 4 _ rfl⟩,hin⟩
    have hFv : ∀ i,i < nf → ∃ (sv : ByteArray × V),∃ bk o c,AF = some ⟨bk,o,none⟩ ∧ AtW W 0 W.heap.size ⟨bk,o + i * 6,none⟩ (.string sv.1) ∧ sv.1.size ≤ 140737488355328 ∧ At5 (AtW W 0 W.heap.size) bk (o + i * 6 + 1) c ∧ In W sv.2 c := fun i hi => by
      obtain ⟨s1,s2,bk,o,fuel',q',cs',ha,hlen',hcs',htr⟩ := hF i hi;obtain ⟨gs,gu,gfs⟩ := under_fld;obtain ⟨ys,m',_,hy,hlen2,hyl,hall2⟩ := DataW.trod_struct gu htr;injection hy with hy1 hy2;have hgl : gs.size = 2 := by have := congrArg Array.size gfs;simpa using this
      rw [hgl] at hyl;obtain ⟨y0,y1,rfl⟩ : ∃ a b,ys = [a,b] := by
        match ys,hyl with
        | [a,b],_ => exact ⟨a,b,rfl⟩
      obtain ⟨d0,d1,d2,d3,d4,d5,rfl⟩ : ∃ a b c d e f,cs' = [a,b,c,d,e,f] := by
        match cs',hlen' with
        | [a,b,c,d,e,f],_ => exact ⟨a,b,c,d,e,f,rfl⟩
      obtain ⟨f0,hf0,t0,o0⟩ := field_of gfs (i := 0) rfl;obtain ⟨f1,hf1,t1,o1⟩ := field_of gfs (i := 1) rfl;have g0 := hall2 0 f0 hf0;have g1 := hall2 1 f1 hf1;rw [t0,o0,cells_str] at g0;rw [t1,o1,cells_val] at g1;have gtys : gs.toList.map (·.type) = [9,27] := by
        have := congrArg (fun a => a.toList.map Prod.fst) gfs;simp only [Array.toList_map,List.map_map] at this;exact this
      have gw : ∀ (j : Nat) (t : TypeId) (dd : DataW H),[9,27][j]? = some t → ([y0,y1].map (·.1))[j]? = some dd → ∀ k ∈ dd.weights Tryz.prog t,k ≤ reachBytes := fun j t dd hj hdd k hk => by
        refine s2 k ?_;rw [hy1];simp only [DataW.weights,gu,gtys];exact DataW.weights_mem_each hj hdd k hk
      obtain ⟨s,es,hys,_⟩ := DataW.trod_string under_string g0;simp at es;subst es;have hsl : s.size ≤ reachBytes := by
        have := gw 0 _ _ rfl rfl s.data.toList.length (by rw [hys];simp [DataW.weights]);simpa using this
      have hreach := reachBytes_lt;simp only [Nat.reducePow] at hreach;have hsy : SizeOf.sizeOf y1.1 < SizeOf.sizeOf (DF i) := by
        rw [hy1];have := List.sizeOf_lt_of_mem (show y1.1 ∈ [y0,y1].map (·.1) by simp);simp only [DataW.agg.sizeOf_spec];omega
      obtain ⟨v,c,hc,hin⟩ := ih y1.1 (by omega) m' [d1,d2,d3,d4,d5] y1.2 g1 (gw 1 _ _ rfl rfl);injection hc with e1 hc;injection hc with e2 hc;injection hc with e3 hc;injection hc with e4 hc;injection hc with e5 _;subst e1 e2 e3 e4 e5;exact ⟨(s,v),bk,o,c,ha,hcs' 0 _ rfl,by show s.size ≤ _;omega,⟨hcs' 1 _ rfl,hcs' 2 _ rfl,hcs' 3 _ rfl,hcs' 4 _ rfl,hcs' 5 _ rfl⟩,hin⟩
    let vl : Nat → V := fun i => if h : i < nl then Classical.choose (hLv i h) else V.zero
    have hvl : ∀ i (h : i < nl),∃ bk o c,AL = some ⟨bk,o,none⟩ ∧ At5 (AtW W 0 W.heap.size) bk (o + i * 5) c ∧ In W (vl i) c := fun i h => by
      show ∃ bk o c,_ ∧ _ ∧ In W (if h : i < nl then Classical.choose (hLv i h) else V.zero) c;rw [dif_pos h];exact Classical.choose_spec (hLv i h)
    let vf : Nat → ByteArray × V := fun i => if h : i < nf then Classical.choose (hFv i h) else (⟨#[]⟩,V.zero)
    have hvf : ∀ i (h : i < nf),∃ bk o c,AF = some ⟨bk,o,none⟩ ∧ AtW W 0 W.heap.size ⟨bk,o + i * 6,none⟩ (.string (vf i).1) ∧ (vf i).1.size ≤ 140737488355328 ∧ At5 (AtW W 0 W.heap.size) bk (o + i * 6 + 1) c ∧ In W (vf i).2 c := fun i h => by
      have e : vf i = Classical.choose (hFv i h) := by
        show (if h : i < nf then Classical.choose (hFv i h) else (⟨#[]⟩,V.zero)) = _;rw [dif_pos h]
      rw [e];exact Classical.choose_spec (hFv i h)
    have hll' : ((List.range nl).map vl).length = nl := by simp
    have hlf' : ((List.range nf).map vf).length = nf := by simp
    refine ⟨.mk k nn.toNat b ((List.range nl).map vl) ((List.range nf).map vf),⟨k,nn,AB,b.length,cB,AL,nl,cL,AF,nf,cF⟩,rfl,?_⟩;unfold In;rw [IsV];refine ⟨rfl,by show nn = (nn.toNat : Int);omega,rfl,hll'.symm,hlf'.symm,hk'.1,hk'.2,by omega,hbc,hbl,by rw [hll'];exact hlc,by rw [hll'];exact hll,by rw [hlf'];exact hfc,by rw [hlf'];exact hfl2,hbin,fun i hi => ?_,fun i hi => ?_⟩
    · rw [List.getElem_map,List.getElem_range]
      obtain ⟨bk,o,c,e,h5,hin⟩ := hvl i (by rw [hll'] at hi;exact hi)
      exact ⟨bk,o,c,e,h5,hin⟩
    rw [List.getElem_map,List.getElem_range];obtain ⟨bk,o,c,e,hs,hz,h5,hin⟩ := hvf i (by rw [hlf'] at hi;exact hi);exact ⟨bk,o,c,e,hs,hz,h5,hin⟩
end
end
section
open Go.RowKit Go.ChangeShapes Go.ChangeAt Go.Shelf Go.WideShapes
theorem own_ : ownKnob Tryz.prog.godebug = none := by kernel_rfl
theorem laidOut_ : laidOutB Tryz.prog = true := by kernel_rfl
def rowLaid : List (String × DataW Unit) := [("unicode/utf8.acceptRanges", Rows.laid_unicode_utf8_acceptRanges), ("unicode/utf8.first", Rows.laid_unicode_utf8_first)]
theorem rowLaid_eq : rowLaid = [("unicode/utf8.acceptRanges", Lib.acceptData), ("unicode/utf8.first", Lib.firstData)] := by
 unfold rowLaid;rw [first_pinned,accept_laid]
theorem laid_row (os : Os) (args : Array Value) : laidMet Tryz.prog rowLaid ((laidWorld os).forCall (fun _ _ => 0) ⟨#[],args,[]⟩).memory := by
 rw [rowLaid_eq];exact laid_met os args
theorem tabs_row {W : World} (h : laidMetH Tryz.prog rowLaid W) : Tabs W := by
 have h2 : laidMet Tryz.prog rowLaid W := h;rw [rowLaid_eq] at h2;exact tabs_of_laid h2 (.tail _ (.head _)) (.head _)
end
section
open Go.RowKit Go.ChangeShapes Go.Shelf Go.Deep Go.WideShapes
theorem under_boolQ : Tryz.prog.underlying 4 = some .bool := by kernel_rfl
theorem cells_boolQ : Tryz.prog.cellsOf 4 = 1 := by kernel_rfl
theorem under_requests : Tryz.prog.underlying 36 = some (.slice 33) := by kernel_rfl
theorem bytes_request : Tryz.prog.bytesOf 33 = 424 := by kernel_rfl
theorem row_listQ {α : Type} {n : Nat} {p : Nat → α → Prop} (h : ∀ i,i < n → ∃ x,p i x) : ∃ l : List α,l.length = n ∧ ∀ i (hi : i < l.length),p i l[i] := by
 induction n with
 | zero => exact ⟨[],rfl,fun i hi => absurd hi (by simp)⟩
 | succ n ih =>
  obtain ⟨l,hl,hp⟩ := ih (fun i hi => h i (by omega));obtain ⟨x,hx⟩ := h n (by omega);refine ⟨l ++ [x],by simp [hl],fun i hi => ?_⟩;by_cases hlt : i < l.length
  ·rw [List.getElem_append_left hlt];exact hp i hlt
  have hin : i = n := by simp at hi;omega
  subst hin;have : (l ++ [x])[i] = x := by rw [List.getElem_append_right (by omega)];simp [hl]
  rw [this];exact hx
section
variable {H : Type} {enc : TypeId × Value → H} {W : World} {sp : Nat → Bool} {held : Bool}
theorem under_request : ∃ fs : Array Field,Tryz.prog.underlying 33 = some (.struct fs) ∧ fs.map (fun f => (f.type,f.offset)) = #[(3,0),(9,1),(9,2),(9,3),(4,4),(27,5),(27,10),(27,15),(27,20),(3,25)] := ⟨_,Tryz.underlying33,by kernel_rfl⟩
theorem cells_request : Tryz.prog.cellsOf 33 = 26 := by kernel_rfl
theorem open_request (d : DataW H) (fuel : Nat) (cs : List Value) (q : List MemPlace) (h : DataW.trod enc Tryz.prog W 0 sp held fuel 33 cs = some (d,q)) (hw : ∀ k ∈ d.weights Tryz.prog 33,k ≤ reachBytes) :
 ∃ (r : Rq) (ck cl ch cx : Cv),cs = (rqCells r.do_ r.coll r.index r.path r.unique ck cl ch cx r.n).toList ∧ In W r.key ck ∧ In W r.low cl ∧ In W r.high ch ∧ In W r.doc cx ∧ (-9223372036854775808 ≤ r.do_ ∧ r.do_ ≤ 9223372036854775807) ∧ (-9223372036854775808 ≤ r.n ∧ r.n ≤ 9223372036854775807) ∧ r.coll.size ≤ 140737488355328 ∧ r.index.size ≤ 140737488355328 ∧ r.path.size ≤ 140737488355328 := by
 obtain ⟨fs,hu,hfs⟩ := under_request;obtain ⟨xs,m,hfuel,hx,hlen,hxl,hall⟩ := DataW.trod_struct hu h;injection hx with hx1 hx2;subst hx1;rw [cells_request] at hlen;have hfl : fs.size = 10 := by have := congrArg Array.size hfs;simpa using this
 rw [hfl] at hxl;obtain ⟨c0,c1,c2,c3,c4,c5,c6,c7,c8,c9,c10,c11,c12,c13,c14,c15,c16,c17,c18,c19,c20,c21,c22,c23,c24,c25,rfl⟩ : ∃ c0 c1 c2 c3 c4 c5 c6 c7 c8 c9 c10 c11 c12 c13 c14 c15 c16 c17 c18 c19 c20 c21 c22 c23 c24 c25,cs = [c0,c1,c2,c3,c4,c5,c6,c7,c8,c9,c10,c11,c12,c13,c14,c15,c16,c17,c18,c19,c20,c21,c22,c23,c24,c25] := by
  match cs,hlen with
  | [c0,c1,c2,c3,c4,c5,c6,c7,c8,c9,c10,c11,c12,c13,c14,c15,c16,c17,c18,c19,c20,c21,c22,c23,c24,c25],_ => exact ⟨c0,c1,c2,c3,c4,c5,c6,c7,c8,c9,c10,c11,c12,c13,c14,c15,c16,c17,c18,c19,c20,c21,c22,c23,c24,c25,rfl⟩
 obtain ⟨x0,x1,x2,x3,x4,x5,x6,x7,x8,x9,rfl⟩ : ∃ x0 x1 x2 x3 x4 x5 x6 x7 x8 x9,xs = [x0,x1,x2,x3,x4,x5,x6,x7,x8,x9] := by
  match xs,hxl with
  | [x0,x1,x2,x3,x4,x5,x6,x7,x8,x9],_ => exact ⟨x0,x1,x2,x3,x4,x5,x6,x7,x8,x9,rfl⟩
 have hpart : ∀ i t o,(#[(3,0),(9,1),(9,2),(9,3),(4,4),(27,5),(27,10),(27,15),(27,20),(3,25)] : Array (TypeId × Nat))[i]? = some (t,o) →
  DataW.trod enc Tryz.prog W 0 sp held m t (([c0,c1,c2,c3,c4,c5,c6,c7,c8,c9,c10,c11,c12,c13,c14,c15,c16,c17,c18,c19,c20,c21,c22,c23,c24,c25].drop o).take (Tryz.prog.cellsOf t)) = [x0,x1,x2,x3,x4,x5,x6,x7,x8,x9][i]? := fun i t o hi => by
  obtain ⟨f,hf,rfl,rfl⟩ := field_of hfs hi;exact hall i f hf
 have htys : fs.toList.map (·.type) = [3,9,9,9,4,27,27,27,27,3] := by
  have := congrArg (fun a => a.toList.map Prod.fst) hfs;simp only [Array.toList_map,List.map_map] at this;exact this
 have hwe : ∀ (j : Nat) (t : TypeId) (dd : DataW H),[3,9,9,9,4,27,27,27,27,3][j]? = some t → ([x0,x1,x2,x3,x4,x5,x6,x7,x8,x9].map (·.1))[j]? = some dd → ∀ k ∈ dd.weights Tryz.prog t,k ≤ reachBytes := fun j t dd hj hdd k hk => by
  refine hw k ?_;simp only [DataW.weights,hu,htys];exact DataW.weights_mem_each hj hdd k hk
 have i1 : IntKind.i64.min = -9223372036854775808 := rfl;have i2 : IntKind.i64.max = 9223372036854775807 := rfl;have hreach := reachBytes_lt;simp only [Nat.reducePow] at hreach;have h0 := hpart 0 _ _ rfl;rw [cells_int] at h0;obtain ⟨n0,e0,_,r0⟩ := DataW.trod_int under_int h0;simp at e0;subst e0;replace r0 := wf_range r0;rw [i1,i2] at r0;have h1 := hpart 1 _ _ rfl;rw [cells_str] at h1;obtain ⟨n1,e1,y1,_⟩ := DataW.trod_string under_string h1;simp at e1;subst e1;have r1 : n1.size ≤ 140737488355328 := by
  have := hwe 1 _ _ rfl rfl n1.data.toList.length (by rw [show x1 = _ from y1];simp [DataW.weights]);simp at this;omega
 have h2 := hpart 2 _ _ rfl;rw [cells_str] at h2;obtain ⟨n2,e2,y2,_⟩ := DataW.trod_string under_string h2;simp at e2;subst e2;have r2 : n2.size ≤ 140737488355328 := by
  have := hwe 2 _ _ rfl rfl n2.data.toList.length (by rw [show x2 = _ from y2];simp [DataW.weights]);simp at this;omega
 have h3 := hpart 3 _ _ rfl;rw [cells_str] at h3;obtain ⟨n3,e3,y3,_⟩ := DataW.trod_string under_string h3;simp at e3;subst e3;have r3 : n3.size ≤ 140737488355328 := by
  have := hwe 3 _ _ rfl rfl n3.data.toList.length (by rw [show x3 = _ from y3];simp [DataW.weights]);simp at this;omega
 have h4 := hpart 4 _ _ rfl;rw [cells_boolQ] at h4;obtain ⟨n4,e4,_⟩ := DataW.trod_bool under_boolQ h4;simp at e4;subst e4;have h5 := hpart 5 _ _ rfl;rw [cells_val] at h5;obtain ⟨n5,g5,e5,r5⟩ := open_val _ x5.1 (Nat.le_refl _) m _ x5.2 h5 (hwe 5 _ _ rfl rfl);simp at e5;obtain ⟨rfl,rfl,rfl,rfl,rfl⟩ := e5;have h6 := hpart 6 _ _ rfl;rw [cells_val] at h6;obtain ⟨n6,g6,e6,r6⟩ := open_val _ x6.1 (Nat.le_refl _) m _ x6.2 h6 (hwe 6 _ _ rfl rfl);simp at e6;obtain ⟨rfl,rfl,rfl,rfl,rfl⟩ := e6;have h7 := hpart 7 _ _ rfl;rw [cells_val] at h7;obtain ⟨n7,g7,e7,r7⟩ := open_val _ x7.1 (Nat.le_refl _) m _ x7.2 h7 (hwe 7 _ _ rfl rfl);simp at e7;obtain ⟨rfl,rfl,rfl,rfl,rfl⟩ := e7;have h8 := hpart 8 _ _ rfl;rw [cells_val] at h8;obtain ⟨n8,g8,e8,r8⟩ := open_val _ x8.1 (Nat.le_refl _) m _ x8.2 h8 (hwe 8 _ _ rfl rfl);simp at e8;obtain ⟨rfl,rfl,rfl,rfl,rfl⟩ := e8
 have h9 := hpart 9 _ _ rfl;rw [cells_int] at h9;obtain ⟨n9,e9,_,r9⟩ := DataW.trod_int under_int h9;simp at e9;subst e9;replace r9 := wf_range r9;rw [i1,i2] at r9;exact ⟨⟨n0,n1,n2,n3,n4,n5,n6,n7,n8,n9⟩,g5,g6,g7,g8,rfl,r5,r6,r7,r8,r0,r9,r1,r2,r3⟩
theorem open_requests {fuel : Nat} {c : Value} {x : DataW H × List MemPlace} (h : DataW.trod enc Tryz.prog W 0 sp held fuel 36 [c] = some x) (hw : ∀ n ∈ x.1.weights Tryz.prog 36,n ≤ reachBytes) : ∃ A cap l,c = .slice A l.length cap ∧ InQs W A l ∧ l.length ≤ 140737488355328 := by
 obtain ⟨A,len,cap,D,rfl,hlc,hll,_,hall⟩ := open_row under_requests cells_request (by omega) bytes_request (by omega) h hw;have hv : ∀ i,i < len → ∃ (r : Rq),(∃ (bk o : Nat) (ck cl ch cx : Cv),A = some ⟨bk,o,none⟩ ∧ bk < W.heap.size ∧
  (∀ k v,(rqCells r.do_ r.coll r.index r.path r.unique ck cl ch cx r.n)[k]? = some v → W.cell? ⟨bk,o + i * 26 + k,none⟩ = some v) ∧ In W r.key ck ∧ In W r.low cl ∧ In W r.high ch ∧ In W r.doc cx) := fun i hi => by
  obtain ⟨s1,s2,bk,o,fuel',q',cs',ha,hlen',hcs',htr⟩ := hall i hi;obtain ⟨r,ck,cl,ch,cx,rfl,g1,g2,g3,g4,-⟩ := open_request (D i) fuel' cs' q' htr s2;exact ⟨r,bk,o,ck,cl,ch,cx,ha,(hcs' 0 _ rfl).2.2,fun k v hk => (hcs' k v (by rwa [Array.getElem?_toList])).1,g1,g2,g3,g4⟩
 obtain ⟨l,hl,hp⟩ := row_listQ hv;subst hl;exact ⟨A,cap,l,rfl,hp,hll⟩
end
end

end Go.Proofs.YtndjopkdbdcmdaaGreatDoor
