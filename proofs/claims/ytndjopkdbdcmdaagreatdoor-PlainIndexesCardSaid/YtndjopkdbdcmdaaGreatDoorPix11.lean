/- Part 11 of the proof of pindexes_card. -/
import Derived.Test.YtndjopkdbdcmdaaGreatDoorPix8
import Derived.Test.YtndjopkdbdcmdaaGreatDoorPix9
set_option linter.unusedVariables false
set_option linter.unusedSimpArgs false
set_option maxRecDepth 100000
set_option maxHeartbeats 12800000
namespace Go.Proofs.YtndjopkdbdcmdaaGreatDoor
section
open Go.RowKit Go.Shelf
theorem run_bits (w : World) (b : Nat) : (callFunc 188 #[.float .f64 b]).run Tryz.prog w = .ok (.value (.int .u64 b)) w := by kernel_rfl
theorem inf_any (w : World) : Calls Tryz.prog 207 #[.int .i64 (-1)] w fun e w' => e = .returned (.float .f64 18442240474082181120) ∧ w = w' := by
 have hb := run_from
 go_enter Tryz.func207,Tryz.ntmps207;go_wp2;go_ret;exact ⟨rfl,rfl⟩
theorem nan_of {f : Nat} {s : Bool} {m : Nat} {p : Int} (h : Ieee.double.read f = .number s m p) : nanB f = false := by
 unfold nanB;rw [order_self h];rfl
theorem nan_ninf : nanB 18442240474082181120 = false := by decide
theorem next_up (f : Nat) (s : Bool) (m : Nat) (p : Int) (hr : Ieee.double.read f = .number s m p) (hm : m ≠ 0) (hp : -1074 ≤ p) (hs : s = false) (hf : 1 ≤ f) (hf2 : f ≤ 18446744073709551616) (w : World) :
 Calls Tryz.prog 206 #[.float .f64 f,.float .f64 18442240474082181120] w fun e w' => e = .returned (.float .f64 (f - 1)) ∧ w = w' := by
 have hb := run_from
 have hb2 := run_bits;have h1 := order_self hr;have h2 : (FloatKind.f64.format.order f 18442240474082181120 == some Ordering.eq) = false := by
  show (Ieee.double.order f 18442240474082181120 == some Ordering.eq) = false;rw [(order_ninf hr).1];rfl
 have h3 : (FloatKind.f64.format.order 18442240474082181120 f == some Ordering.gt) = false := by
  show (Ieee.double.order 18442240474082181120 f == some Ordering.gt) = false;rw [(order_ninf hr).2];rfl
 have h4 : (FloatKind.f64.format.order f 0 == some Ordering.eq) = false := by
  show (Ieee.double.order f 0 == some Ordering.eq) = false;rw [order_zero hr hm hp,hs];rfl
 have h4' : (FloatKind.f64.format.order f 0 == some Ordering.gt) = true := by
  show (Ieee.double.order f 0 == some Ordering.gt) = true;rw [order_zero hr hm hp,hs];rfl
 have h5 := nan_of hr;have h6 := nan_ninf;have hw : IntKind.u64.wrap ((f : Int) - 1) = (f : Int) - 1 := by rw [IntKind.wrap_u64];omega
 have e1 : ((f : Int) - 1).toNat = f - 1 := by omega
 clear hr hs hm hp h1;go_enter Tryz.func206,Tryz.ntmps206;go_wp2_with (first
  | (go_at_call 140;refine (isnan_any f _).mono ?_;rintro e w' ⟨rfl,rfl⟩)
  | (go_at_call 140;refine (isnan_any 18442240474082181120 _).mono ?_;rintro e w' ⟨rfl,rfl⟩))
 go_ret;exact ⟨by first | rfl | (congr 2;omega),rfl⟩
theorem next_down (f : Nat) (s : Bool) (m : Nat) (p : Int) (hr : Ieee.double.read f = .number s m p) (hm : m ≠ 0) (hp : -1074 ≤ p) (hs : s = true) (hf2 : f + 1 < 18446744073709551616) (w : World) :
 Calls Tryz.prog 206 #[.float .f64 f,.float .f64 18442240474082181120] w fun e w' => e = .returned (.float .f64 (f + 1)) ∧ w = w' := by
 have hb := run_from
 have hb2 := run_bits;have h1 := order_self hr;have h2 : (FloatKind.f64.format.order f 18442240474082181120 == some Ordering.eq) = false := by
  show (Ieee.double.order f 18442240474082181120 == some Ordering.eq) = false;rw [(order_ninf hr).1];rfl
 have h3 : (FloatKind.f64.format.order 18442240474082181120 f == some Ordering.gt) = false := by
  show (Ieee.double.order 18442240474082181120 f == some Ordering.gt) = false;rw [(order_ninf hr).2];rfl
 have h4 : (FloatKind.f64.format.order f 0 == some Ordering.eq) = false := by
  show (Ieee.double.order f 0 == some Ordering.eq) = false;rw [order_zero hr hm hp,hs];rfl
 have h4' : (FloatKind.f64.format.order f 0 == some Ordering.gt) = false := by
  show (Ieee.double.order f 0 == some Ordering.gt) = false;rw [order_zero hr hm hp,hs];rfl
 have h5 := nan_of hr;have h6 := nan_ninf;have hw : IntKind.u64.wrap ((f : Int) + 1) = (f : Int) + 1 := by rw [IntKind.wrap_u64];omega
 have e1 : ((f : Int) + 1).toNat = f + 1 := by omega
 clear hr hs hm hp h1;go_enter Tryz.func206,Tryz.ntmps206;go_wp2_with (first
  | (go_at_call 140;refine (isnan_any f _).mono ?_;rintro e w' ⟨rfl,rfl⟩)
  | (go_at_call 140;refine (isnan_any 18442240474082181120 _).mono ?_;rintro e w' ⟨rfl,rfl⟩))
 go_ret;exact ⟨by first | rfl | (congr 2;omega),rfl⟩
theorem floor_any (i : Int) (w : World) (h1 : -9223372036854775808 ≤ i) (h2 : i ≤ 9223372036854775807) :
 Calls Tryz.prog 185 #[.int .i64 i] w fun e w' => e = .returned (.tuple #[.float .f64 (fl i).1,.int .u64 ((fl i).2 : Nat)]) ∧ w = w' := by
 have hc := floor_cases i h1 h2;obtain ⟨g,hg⟩ : ∃ g,(fl i).1 = g := ⟨_,rfl⟩;obtain ⟨rest,hrest⟩ : ∃ g,(fl i).2 = g := ⟨_,rfl⟩;obtain ⟨f0,hf0⟩ : ∃ f0,FloatKind.f64.nearest i = f0 := ⟨_,rfl⟩;obtain ⟨n,hn⟩ : ∃ n,i - (rest : Int) = n := ⟨_,rfl⟩;rw [hg,hrest,hf0,hn] at hc;rw [hg,hrest];clear hg hrest;have hv := conv_fi g n hc.val;have hsm := hc.small;have hlo := hc.lo;have hhi := hc.hi;have hsub : IntKind.u64.wrap (IntKind.u64.wrap i - IntKind.u64.wrap n) = (rest : Int) := by
  have e := hc.eq;rw [IntKind.wrap_u64,IntKind.wrap_u64,IntKind.wrap_u64];omega
 have hsub2 : 0 < i → IntKind.u64.wrap (i - IntKind.u64.wrap n) = (rest : Int) := by
  have e := hc.eq;intro hi;rw [IntKind.wrap_u64,IntKind.wrap_u64];omega
 have hlt : FloatKind.f64.format.order g 4890909195324358656 = some Ordering.lt := hc.lt;have hfi : floatOfInt FloatKind.f64 i = f0 := hf0;have hd : decide (i < n) = false := by simpa using hhi
 have hgb := hc.bits;have hst := hc.step;clear hc;clear hn hf0;have hbb := run_from
 rcases hst with rfl | ⟨hpos,rfl,ho,s,m,p,hr,hm,hp,hs⟩ | ⟨hneg,rfl,⟨ho,n',hv',hn'⟩,s,m,p,hr,hm,hp,hs⟩
 ·by_cases hpos : 0 < i
  ·have hsub3 := hsub2 hpos;clear hsub2;go_enter Tryz.func185,Tryz.ntmps185;go_wp2;go_ret2;exact ⟨rfl,rfl⟩
  clear hsub2;go_enter Tryz.func185,Tryz.ntmps185;go_wp2;go_ret2;exact ⟨rfl,rfl⟩
 ·have HN := hide (fun w => next_up (g + 1) s m p hr hm hp hs (by omega) (by omega) w);rw [Nat.add_sub_cancel] at HN;have hsub3 := hsub2 hpos;clear hr hm hp hs hsub2;rcases ho with ho | ⟨ho,n',hv',hn'⟩
  ·have ho' : FloatKind.f64.format.order (g + 1) 4890909195324358656 = some Ordering.eq := ho;clear ho;go_enter Tryz.func185,Tryz.ntmps185;go_wp2_with (first | (go_at_call 207;refine (inf_any _).mono ?_;rintro e w' ⟨rfl,rfl⟩) | (go_at_call 206;refine (HN.out _).mono ?_;rintro e w' ⟨rfl,rfl⟩));go_ret2;exact ⟨rfl,rfl⟩
  have ho' : FloatKind.f64.format.order (g + 1) 4890909195324358656 = some Ordering.lt := ho;have hv2 := conv_fi (g + 1) n' hv';have hd2 : decide (i < n') = true := by simpa using hn'
  clear ho hv';go_enter Tryz.func185,Tryz.ntmps185;go_wp2_with (first | (go_at_call 207;refine (inf_any _).mono ?_;rintro e w' ⟨rfl,rfl⟩) | (go_at_call 206;refine (HN.out _).mono ?_;rintro e w' ⟨rfl,rfl⟩));go_ret2;exact ⟨rfl,rfl⟩
 have HN := hide (fun w => next_down f0 s m p hr hm hp hs (by omega) w);have ho' : FloatKind.f64.format.order f0 4890909195324358656 = some Ordering.lt := ho;have hv2 := conv_fi f0 n' hv';have hd2 : decide (i < n') = true := by simpa using hn'
 clear hr hm hp hs ho hv' hsub2;go_enter Tryz.func185,Tryz.ntmps185;go_wp2_with (first | (go_at_call 207;refine (inf_any _).mono ?_;rintro e w' ⟨rfl,rfl⟩) | (go_at_call 206;refine (HN.out _).mono ?_;rintro e w' ⟨rfl,rfl⟩));go_ret2;exact ⟨rfl,rfl⟩
end
section
open Go.RowKit Go.Shelf
structure WG (w : World) (pb : Nat) (v : Value) (w' : World) (v' : Value) : Prop where
 kept : Kept (fun k => k = pb ∨ v.ownBlock = some k) w w'
 own : v'.ownBlock = v.ownBlock ∨ ∃ k,v'.ownBlock = some k ∧ w.heap.size ≤ k
theorem WG.refl (w : World) (pb : Nat) (v : Value) : WG w pb v w v := ⟨Kept.refl _ _,.inl rfl⟩
theorem WG.trans {w w1 w2 : World} {pb : Nat} {v v1 v2 : Value} (h : WG w pb v w1 v1) (k : WG w1 pb v1 w2 v2) : WG w pb v w2 v2 := by
 refine ⟨⟨k.kept.os.trans h.kept.os,k.kept.tape.trans h.kept.tape,k.kept.output.trans h.kept.output,Nat.le_trans h.kept.size k.kept.size,fun i hi hs => ?_⟩,?_⟩
 ·refine (k.kept.block i (Nat.lt_of_lt_of_le hi h.kept.size) (fun q => ?_)).trans (h.kept.block i hi hs);rcases q with q | q
  ·exact hs (.inl q)
  rcases h.own with e | ⟨j,e,hj⟩
  ·exact hs (.inr (e ▸ q))
  rw [e] at q;injection q with q;omega
 rcases k.own with e | ⟨j,e,hj⟩
 ·rw [e];exact h.own
 exact .inr ⟨j,e,Nat.le_trans h.kept.size hj⟩
theorem WG.of_grow {w w' : World} (pb : Nat) (v : Value) (h : Grow w w') : WG w pb v w' v := ⟨Kept.grow h,.inl rfl⟩
theorem WG.alloc {w w1 : World} {pb : Nat} {v v1 : Value} (h : WG w pb v w1 v1) (o : Obj) : WG w pb v (w1.alloc o) v1 := h.trans (WG.of_grow pb v1 ((Grow.refl w1).alloc o))
theorem WG.ne {w w' : World} {pb g : Nat} {v v' : Value} (h : WG w pb v w' v') (hg : g < w.heap.size) (hn : v.ownBlock ≠ some g) : v'.ownBlock ≠ some g := by
 intro e;rcases h.own with q | ⟨k,q,hk⟩
 ·exact hn (q ▸ e)
 rw [q] at e;injection e with e;omega
def Wr (w : World) (pb : Nat) (A : Option Addr) (c : Nat) (bs : List UInt8) : Prop :=
 Blk w pb 150 #[.slice A bs.length c] ∧ Row w (pb + 1) (.slice A bs.length c) bs.length bs
theorem Wr.own {w : World} {pb : Nat} {A : Option Addr} {c : Nat} {bs : List UInt8} (h : Wr w pb A c bs) {k : Nat} (hk : Value.ownBlock (.slice A bs.length c) = some k) : pb < k ∧ k < w.heap.size := by
 have := World.ownsRow.lt h.2 k hk;omega
theorem Wr.grow {w w' : World} {pb : Nat} {A : Option Addr} {c : Nat} {bs : List UInt8} (h : Wr w pb A c bs) (hg : Grow w w') : Wr w' pb A c bs := ⟨h.1.grow hg,h.2.grow hg⟩
theorem WG.below {w w' : World} {pb : Nat} {A : Option Addr} {c : Nat} {bs : List UInt8} {v' : Value} (h : WG w pb (.slice A bs.length c) w' v') (hw : Wr w pb A c bs) : Below pb w w' :=
 h.kept.below (Nat.le_of_lt hw.1.lt) (fun q hq => hq.elim (fun e => by omega) (fun e => by have := hw.own e;omega))
theorem Kept.of_grew {S : Nat → Prop} {w w' : World} {v v' : Value} (h : Grew w v w' v') (hs : ∀ k,v.ownBlock = some k → S k) : Kept S w w' :=
 ⟨h.grow.os,h.grow.tape,h.grow.output,h.grow.size,fun k hk hn => h.grow.block k hk (fun e => hn (hs k e.symm))⟩
theorem Row.set {w : World} {base m : Nat} {v : Value} {xs : List UInt8} (h : Row w base v m xs) {p : Addr} (hp : p.block < base) (u : Value) : Row (w.setCell p u) base v m xs := by
 rcases h.2 with h0 | ⟨g,cap,cur,rfl,hb,hg,hr⟩
 ·exact ⟨h.1,.inl h0⟩
 exact ⟨h.1,.inr ⟨g,cap,cur,rfl,hb,Blk.far (t := 5) (cs := cur) hg (by omega) u,hr⟩⟩
def WrC (w : World) (pb : Nat) (A : Option Addr) (n c : Nat) (bs' : List UInt8) (e : Ending) (w' : World) : Prop :=
 ∃ A' c',e = .returned (.tuple #[]) ∧ Wr w' pb A' c' bs' ∧ WG w pb (.slice A n c) w' (.slice A' bs'.length c')
theorem kw_lay (pb : Nat) (A : Option Addr) (c : Nat) (bs : List UInt8) (Y : Value) (ys : List UInt8) (w : World) (h : Wr w pb A c bs) (hs : Src Tryz.prog 1 23 Y ys.length (u8s ys) w)
 (hl : bs.length + ys.length ≤ 140737488400000) : Calls Tryz.prog 184 #[.pointer (some ⟨pb,0,none⟩),Y] w (WrC w pb A bs.length c (bs ++ ys)) := by
 have hc := h.1.cell 0;have hlt := h.1.lt;have hfz := h.1.frozen;have HW := hide h;have HS := hide hs;clear h hs;go_enter Tryz.func184,Tryz.ntmps184;go_wp2_with (at_builtin;refine app_src (ys := ys) rfl (.tmp 8) (.tmp 9) _ rfl rfl HW.out.2 _ rfl HS.out (by omega) (by omega) ?_;intro A1 c1 w1 hr1 hg1;have HR1 := hide hr1;have HG1 := hide hg1;have hb1 := HW.out.1.own hg1.grow (fun k hk => by have := HW.out.own hk;omega);have HB1 := hide hb1;have hc1 := hb1.cell 0;have hfz1 := hb1.frozen 0;have hlt1 := hb1.lt;clear hr1 hg1 hb1);go_end0;have hn : (bs ++ ys).length = bs.length + ys.length := List.length_append;have hb2 : Blk (w1.setCell ⟨pb,0,none⟩ (.slice A1 (bs.length + ys.length) c1)) pb 150 #[.slice A1 (bs.length + ys.length) c1] := HB1.out.set_ 0 _;refine ⟨A1,c1,rfl,⟨by rw [hn];exact hb2,by rw [hn];exact HR1.out.set (by simp) _⟩,?_⟩;rw [hn]
 refine ⟨(Kept.of_grew (S := fun k => k = pb ∨ Value.ownBlock (.slice A bs.length c) = some k) HG1.out (fun k hk => .inr hk)).set (p := ⟨pb,0,none⟩) (.inl rfl) _,HG1.out.lies⟩
theorem src_lit {w : World} {g n : Nat} (zs : List UInt8) (cs : Array Value) (hn : zs.length = n) (hb : Blk w g 5 cs) (he : cs = (u8s zs).toArray) : Src Tryz.prog 1 23 (.slice (some ⟨g,0,none⟩) n n) zs.length (u8s zs) w := by
 subst hn he;refine Src.ofSlice w under_u8s ⟨g,0,none⟩ zs.length zs.length (u8s zs) (by rw [u8s_length];simp) (fun j u hu => ?_) (u8s_one _);rw [add_lit,Nat.zero_add,hb.cell];simpa using hu
theorem be_take (n size j : Nat) (h : j < size) : (be size n).take (size - j) = (be size n).take (size - (j + 1)) ++ [UInt8.ofNat (n / 256 ^ j)] := by
 have e : size - j = (size - (j + 1)) + 1 := by omega
 rw [e,take_snoc _ _ (by rw [be_length];omega)];congr 2;have : (be size n)[size - (j + 1)]'(by rw [be_length];omega) = (toLe size n)[j]'(by rw [toLe_length];exact h) := by
  unfold be;rw [List.getElem_reverse];congr 1;rw [toLe_length];omega
 rw [this];simp [toLe]
theorem kw_lay_new (pb : Nat) (A : Option Addr) (c : Nat) (bs : List UInt8) (zs : List UInt8) (cs : Array Value) (n : Nat) (w : World) (h : Wr w pb A c bs) (hn : zs.length = n) (he : cs = (u8s zs).toArray)
 (hl : bs.length + zs.length ≤ 140737488400000) : Calls Tryz.prog 184 #[.pointer (some ⟨pb,0,none⟩),.slice (some ⟨w.heap.size,0,none⟩) n n] (w.alloc (.cells cs 5)) (WrC w pb A bs.length c (bs ++ zs)) := by
 refine (kw_lay pb A c bs _ zs _ (h.grow ((Grow.refl w).alloc _)) (src_lit zs cs hn (Blk.new w _ cs) he) hl).mono ?_;rintro e w' ⟨A',c',rfl,h1,h2⟩;exact ⟨A',c',rfl,h1,(WG.of_grow pb _ ((Grow.refl w).alloc _)).trans h2⟩
theorem kw_word (pb : Nat) (A : Option Addr) (c : Nat) (bs : List UInt8) (n size : Nat) (w : World) (h : Wr w pb A c bs) (hs : size ≤ 8) (hn : n < 18446744073709551616)
 (hl : bs.length + 8 ≤ 140737488355328) : Calls Tryz.prog 186 #[.pointer (some ⟨pb,0,none⟩),.int .u64 n,.int .i64 size] w (WrC w pb A bs.length c (bs ++ be size n)) := by
 have HW := hide h;clear h;go_enter Tryz.func186,Tryz.ntmps186;go_wp2_with fail;go_loopg [6] (size + 1) (fun gk i wr => ∃ (r : Nat) (z : Int) (A' : Option Addr) (c' : Nat),r ≤ size ∧ gk = r + 1 ∧ z + 1 = (r : Int) ∧ i = .int .i64 z ∧ Wr wr pb A' c' (bs ++ (be size n).take (size - r)) ∧
  WG w pb (.slice A bs.length c) wr (.slice A' (bs ++ (be size n).take (size - r)).length c'))
 case atStart => exact ⟨size,(size : Int) - 1,A,c,Nat.le_refl _,rfl,by omega,rfl,by rw [Nat.sub_self,List.take_zero,List.append_nil];exact HW.out,by rw [Nat.sub_self,List.take_zero,List.append_nil];exact WG.refl _ _ _⟩
 case round =>
  obtain ⟨r,z,A',c',hr,rfl,hz,rfl,hw,hg⟩ := hrel;have HW2 := hide hw;have HG2 := hide hg;clear hw hg;by_cases h0 : r = 0
  ·subst h0;have hz0 : z = -1 := by omega
   subst hz0;clear hz;go_wp2_with fail;go_end0;have e : (be size n).take (size - 0) = be size n := List.take_of_length_le (by rw [be_length];omega);rw [e] at HW2 HG2;exact ⟨A',c',rfl,HW2.out,HG2.out⟩
  obtain ⟨j,rfl⟩ : ∃ j,r = j + 1 := ⟨r - 1,by omega⟩;obtain rfl : z = (j : Int) := by omega
  clear hz h0;have hB : (#[.int .u8 ((n : Int) / 2 ^ (8 * j) % 256)] : Array Value) = (u8s [UInt8.ofNat (n / 256 ^ j)]).toArray := by
   show _ = (#[.int .u8 ((UInt8.ofNat (n / 256 ^ j)).toNat : Int)] : Array Value);rw [byte_of,← pow256];rfl
  have HB := hide hB;clear hB;have hlen : (bs ++ (be size n).take (size - (j + 1))).length ≤ bs.length + 8 := by rw [List.length_append,List.length_take];omega
  have HCALL := hide (kw_lay_new pb A' c' _ [UInt8.ofNat (n / 256 ^ j)] _ 1 wr HW2.out rfl HB.out (by simp only [List.length_cons,List.length_nil];omega));rw [List.append_assoc,← be_take n size j (by omega)] at HCALL;go_wp2_with fail;refine HCALL.out.mono ?_;rintro e w2 ⟨A2,c2,rfl,h1,h2⟩;have HW3 := hide h1;have HG3 := hide (HG2.out.trans h2);clear h1 h2 HCALL hlen;go_wp2_with fail;go_roundg (j + 1)
  case measure => omega
  case rel => exact ⟨j,(j : Int) - 1,A2,c2,by omega,rfl,by omega,rfl,HW3.out,HG3.out⟩
def Apart (w : World) (pb : Nat) (A : Option Addr) (n c : Nat) (p : Addr) (u : Value) : Prop := w.cell? p = some u ∧ p.block < w.heap.size ∧ p.block ≠ pb ∧ Value.ownBlock (.slice A n c) ≠ some p.block
theorem WG.cell {w w' : World} {pb n c : Nat} {A : Option Addr} {v' : Value} (h : WG w pb (.slice A n c) w' v') {p : Addr} {u : Value} (hp : Apart w pb A n c p u) : w'.cell? p = some u :=
 (World.cell?_of_block (h.kept.block p.block hp.2.1 (fun q => q.elim hp.2.2.1 hp.2.2.2))).trans hp.1
theorem kw_string (pb : Nat) (A : Option Addr) (c : Nat) (bs : List UInt8) (b : List UInt8) (B : Option Addr) (bc : Nat) (w : World) (h : Wr w pb A c bs) (hb : Reads (Apart w pb A bs.length c) 1 B b.length (u8s b))
 (hl : bs.length + 2 * b.length + 2 ≤ 140737488355328) : Calls Tryz.prog 189 #[.pointer (some ⟨pb,0,none⟩),.slice B b.length bc] w (WrC w pb A bs.length c (bs ++ esc b)) := by
 have HW := hide h;have HB := hide hb;have hbl : b.length ≤ 140737488355328 := by omega
 clear h hb;go_enter Tryz.func189,Tryz.ntmps189;go_wp2_with fail;go_loopg [5,8] (b.length + 1) (fun gk _ i wr => ∃ (k : Nat) (A' : Option Addr) (c' : Nat),k ≤ b.length ∧ gk + k = b.length + 1 ∧ i = .int .i64 k ∧ Wr wr pb A' c' (bs ++ escB (b.take k)) ∧
  WG w pb (.slice A bs.length c) wr (.slice A' (bs ++ escB (b.take k)).length c'))
 case atStart => exact ⟨0,A,c,Nat.zero_le _,rfl,rfl,by rw [List.take_zero,escB,List.append_nil];exact HW.out,by rw [List.take_zero,escB,List.append_nil];exact WG.refl _ _ _⟩
 case round =>
  obtain ⟨k,A',c',hk,hg,rfl,hw,hgr⟩ := hrel;have HW2 := hide hw;have HG2 := hide hgr;clear hw hgr;by_cases hlt : k < b.length
  ·obtain ⟨gk',rfl⟩ := gk_ gk (by omega);obtain ⟨bk,o,rfl,hcell⟩ := HB.out.2 (by omega);have hc := HG2.out.cell (hcell k _ (u8s_get b k hlt));have hcell2 := HG2.out.kept.size;have hlt2 := (hcell k _ (u8s_get b k hlt)).2.1;have hstep : escB (b.take (k + 1)) = escB (b.take k) ++ (if b[k] = 0 then [0,255] else [b[k]]) := by rw [take_snoc b k hlt,escB_snoc]
   have hel : (bs ++ escB (b.take k)).length ≤ bs.length + 2 * b.length := by
    have := (escB_length (b.take k)).2;rw [List.length_take] at this;rw [List.length_append];omega
   clear hcell;by_cases hx : b[k] = 0
   ·rw [if_pos hx] at hstep;rw [hx] at hc;have hc' : wr.cell? ⟨bk,o + k,none⟩ = some (.int .u8 0) := hc;have HST := hide hstep;have HC1 := hide (kw_lay_new pb A' c' _ [0] #[.int .u8 0] 1 wr HW2.out rfl rfl (by simp only [List.length_cons,List.length_nil];omega));have hel2 : (bs ++ escB (b.take k) ++ [0]).length ≤ bs.length + 2 * b.length + 1 := by rw [List.length_append];simp only [List.length_cons,List.length_nil];omega
    clear hx hstep hc;go_wp2_with fail;refine HC1.out.mono ?_;rintro e w2 ⟨A2,c2,rfl,h1,h2⟩;have HC2 := hide (kw_lay_new pb A2 c2 _ [255] #[.int .u8 255] 1 w2 h1 rfl rfl (by simp only [List.length_cons,List.length_nil];omega));have HG3 := hide (HG2.out.trans h2);clear h1 h2 HC1;go_wp2_with fail;refine HC2.out.mono ?_;rintro e w3 ⟨A3,c3,rfl,h1,h2⟩;have e1 : bs ++ escB (b.take k) ++ [0] ++ [255] = bs ++ escB (b.take (k + 1)) := by rw [HST.out];simp
    rw [e1] at h1 h2;have HW4 := hide h1;have HG4 := hide (HG3.out.trans h2);clear h1 h2 HC2 hel hel2 hc' e1;go_wp2_with fail;go_roundg gk'
    case measure => omega
    case rel => exact ⟨k + 1,A3,c3,by omega,by omega,by go_num,HW4.out,HG4.out⟩
   rw [if_neg hx] at hstep;have HST := hide hstep;obtain ⟨x,hxx⟩ : ∃ x,b[k] = x := ⟨_,rfl⟩;obtain ⟨m,hm⟩ : ∃ m,x.toNat = m := ⟨_,rfl⟩;have hne : ((m : Int) == 0) = false := by
    have : m ≠ 0 := by
     intro e;apply hx;rw [hxx];apply UInt8.toNat_inj.1;rw [hm,e];rfl
    simp;omega
   rw [hxx] at HST;rw [hxx,hm] at hc;have HC1 := hide (kw_lay_new pb A' c' _ [x] #[.int .u8 (m : Int)] 1 wr HW2.out rfl (by rw [← hm];rfl) (by simp only [List.length_cons,List.length_nil];omega));clear hx hstep hxx hm;go_wp2_with fail;refine HC1.out.mono ?_;rintro e w2 ⟨A2,c2,rfl,h1,h2⟩;have e1 : bs ++ escB (b.take k) ++ [x] = bs ++ escB (b.take (k + 1)) := by rw [HST.out];simp
   rw [e1] at h1 h2;have HW4 := hide h1;have HG4 := hide (HG2.out.trans h2);clear h1 h2 HC1 hel hc e1;go_wp2_with fail;go_roundg gk'
   case measure => omega
   case rel => exact ⟨k + 1,A2,c2,by omega,by omega,by go_num,HW4.out,HG4.out⟩
  obtain rfl : k = b.length := by omega
  rw [List.take_length] at HW2 HG2;have hel : (bs ++ escB b).length ≤ bs.length + 2 * b.length := by
   have := (escB_length b).2;rw [List.length_append];omega
  have HC1 := hide (kw_lay_new pb A' c' _ [0,0] #[.int .u8 0,.int .u8 0] 2 wr HW2.out rfl rfl (by simp only [List.length_cons,List.length_nil];omega));rw [List.append_assoc] at HC1;clear hg hel;go_wp2_with fail;refine HC1.out.mono ?_;rintro e w2 ⟨A2,c2,rfl,h1,h2⟩;have HW4 := hide h1;have HG4 := hide (HG2.out.trans h2);clear h1 h2 HC1;go_wp2_with fail;go_end0;exact ⟨A2,c2,rfl,HW4.out,HG4.out⟩
end
section
open Go.RowKit Go.Shelf
theorem pow63 : (2 : Nat) ^ 63 = 9223372036854775808 := by decide
theorem pow64 : (2 : Nat) ^ 64 = 18446744073709551616 := by decide
theorem top_and (n : Nat) (h : n < 18446744073709551616) : n &&& 9223372036854775808 = if n < 9223372036854775808 then 0 else 9223372036854775808 := by
 rw [← pow63];have hb : n.testBit 63 = decide (2 ^ 63 ≤ n) := by
  rw [Nat.testBit_eq_decide_div_mod_eq,pow63];by_cases h1 : 9223372036854775808 ≤ n
  ·rw [decide_eq_true h1,decide_eq_true];omega
  rw [decide_eq_false h1,decide_eq_false];omega
 apply Nat.eq_of_testBit_eq;intro i;rw [Nat.testBit_and,Nat.testBit_two_pow];by_cases hi : 63 = i
 ·subst hi;rw [hb];by_cases h1 : n < 2 ^ 63
  ·rw [if_pos h1,decide_eq_false (by omega)];simp
  rw [if_neg h1,decide_eq_true (by omega),Nat.testBit_two_pow];simp
 rw [decide_eq_false hi,Bool.and_false];split
 ·simp
 rw [Nat.testBit_two_pow,decide_eq_false hi]
theorem top_xor (n : Nat) (h : n < 9223372036854775808) : n ^^^ 9223372036854775808 = n + 9223372036854775808 := by
 rw [← pow63] at h ⊢;apply Nat.eq_of_testBit_eq;intro i;rw [Nat.testBit_xor,Nat.testBit_two_pow,Nat.add_comm];rcases Nat.lt_trichotomy i 63 with hi | rfl | hi
 ·rw [Nat.testBit_two_pow_add_gt hi,decide_eq_false (by omega),Bool.xor_false]
 ·rw [Nat.testBit_two_pow_add_eq];simp
 have h2 : n < 2 ^ i := Nat.lt_of_lt_of_le h (Nat.pow_le_pow_right (by omega) (by omega));have h3 : 2 ^ 63 + n < 2 ^ i := Nat.lt_of_lt_of_le (show 2 ^ 63 + n < 2 ^ 64 by rw [Nat.pow_succ];omega) (Nat.pow_le_pow_right (by omega) (by omega));rw [Nat.testBit_lt_two_pow h2,Nat.testBit_lt_two_pow h3,decide_eq_false (by omega),Bool.xor_false]
theorem top_xor2 (n : Nat) (h1 : 9223372036854775808 ≤ n) (h : n < 18446744073709551616) : n ^^^ 9223372036854775808 = n - 9223372036854775808 := by
 obtain ⟨m,rfl⟩ : ∃ m,n = m + 9223372036854775808 := ⟨n - 9223372036854775808,by omega⟩;have hm := top_xor m (by omega);rw [Nat.add_sub_cancel,← hm,Nat.xor_assoc,Nat.xor_self,Nat.xor_zero]
theorem top_not (n : Nat) (h : n < 18446744073709551616) : 18446744073709551615 ^^^ n = 18446744073709551615 - n := by
 apply Nat.eq_of_testBit_eq;intro i;have e1 : (18446744073709551615 : Nat) = 2 ^ 64 - 1 := by decide
 have e2 : 18446744073709551615 - n = 2 ^ 64 - (n + 1) := by rw [e1];omega
 rw [Nat.testBit_xor,e2,Nat.testBit_two_pow_sub_succ (by rw [pow64];exact h),e1,Nat.testBit_two_pow_sub_one];by_cases hi : i < 64
 ·simp [hi]
 have : n.testBit i = false := Nat.testBit_lt_two_pow (Nat.lt_of_lt_of_le h (by rw [← pow64];exact Nat.pow_le_pow_right (by omega) (by omega)));simp [hi,this]
theorem u64_top (n : Nat) (h : n < 18446744073709551616) : bits .and .u64 (n : Int) 9223372036854775808 = if n < 9223372036854775808 then 0 else 9223372036854775808 := by
 have := u64_and_nat n 9223372036854775808 h (by decide);rw [top_and n h] at this;rw [show (9223372036854775808 : Int) = ((9223372036854775808 : Nat) : Int) from rfl,this];split <;> rfl
theorem u64_not (n : Nat) (h : n < 18446744073709551616) : bits .xor .u64 IntKind.u64.max (n : Int) = ((18446744073709551615 - n : Nat) : Int) := by
 have := u64_xor_nat 18446744073709551615 n (by decide) h;rw [top_not n h] at this;exact this
theorem u64_flip (n : Nat) (h : n < 18446744073709551616) : bits .xor .u64 (n : Int) 9223372036854775808 = (if n < 9223372036854775808 then ((n + 9223372036854775808 : Nat) : Int) else ((n - 9223372036854775808 : Nat) : Int)) := by
 have := u64_xor_nat n 9223372036854775808 h (by decide);split
 ·rename_i h1;rw [top_xor n h1] at this;exact this
 rename_i h1;rw [top_xor2 n (by omega) h] at this;exact this
theorem kw_turned (n : Nat) (w : World) (hn : n < 18446744073709551616) : Calls Tryz.prog 187 #[.int .u64 n] w fun e w' => e = .returned (.int .u64 (turnN n : Nat)) ∧ w = w' := by
 have h1 := u64_top n hn;have h2 := u64_not n hn;have h3 := u64_flip n hn;by_cases hlt : n < 9223372036854775808
 ·rw [if_pos hlt] at h1 h3;have ht : turnN n = n + 9223372036854775808 := by rw [turnN,if_pos hlt]
  clear h2;go_enter Tryz.func187,Tryz.ntmps187;go_wp2;go_ret;exact ⟨by first | rfl | (rw [ht];rfl),rfl⟩
 rw [if_neg hlt] at h1 h3;have ht : turnN n = 18446744073709551615 - n := by rw [turnN,if_neg hlt]
 clear h3;go_enter Tryz.func187,Tryz.ntmps187;go_wp2;go_ret;exact ⟨by first | rfl | (rw [ht];rfl),rfl⟩
theorem Wr.al {w : World} {pb : Nat} {A : Option Addr} {c : Nat} {bs : List UInt8} (h : Wr w pb A c bs) (o : Obj) : Wr (w.alloc o) pb A c bs := h.grow ((Grow.refl w).alloc o)
theorem kw_null (pb : Nat) (A : Option Addr) (c : Nat) (bs : List UInt8) (cv : Cv) (w : World) (h : Wr w pb A c bs) (hl : bs.length + 1 ≤ 140737488355328) :
 Calls Tryz.prog 144 #[.pointer (some ⟨pb,0,none⟩),cv.agg] w (WrC w pb A bs.length c (bs ++ [16])) := by
 have hz : (w.alloc (.cells cv.cells 27)).heap.size = w.heap.size + 1 := by simp
 have HC := hide (kw_lay_new pb A c bs [16] #[.int .u8 16] 1 _ (h.al (.cells cv.cells 27)) rfl rfl (by simp only [List.length_cons,List.length_nil];omega));rw [hz] at HC;clear h hz;go_enter Tryz.func144,Tryz.ntmps144;go_wp2_with fail;refine HC.out.mono ?_;rintro e w2 ⟨A2,c2,rfl,h1,h2⟩;have HW := hide h1;have HG := hide ((WG.of_grow pb _ ((Grow.refl w).alloc (.cells cv.cells 27))).trans h2);clear h1 h2 HC;go_wp2_with fail;go_end0;exact ⟨A2,c2,rfl,HW.out,HG.out⟩
theorem kw_bool (pb : Nat) (A : Option Addr) (c : Nat) (bs : List UInt8) (cv : Cv) (n : Nat) (hn : n ≤ 1) (hcv : cv.n = (n : Int)) (w : World) (h : Wr w pb A c bs) (hl : bs.length + 2 ≤ 140737488355328) :
 Calls Tryz.prog 145 #[.pointer (some ⟨pb,0,none⟩),cv.agg] w (WrC w pb A bs.length c (bs ++ [32,UInt8.ofNat n])) := by
 obtain ⟨c1,c2,c3,c4,c5,c6,c7,c8,c9,c10,c11⟩ := cv;dsimp only at hcv;subst hcv;have hz : (w.alloc (.cells (Cv.cells ⟨c1,n,c3,c4,c5,c6,c7,c8,c9,c10,c11⟩) 27)).heap.size = w.heap.size + 1 := by simp
 have HC := hide (kw_lay_new pb A c bs [32,UInt8.ofNat n] #[.int .u8 32,.int .u8 (n : Int)] 2 _ (h.al (.cells (Cv.cells ⟨c1,n,c3,c4,c5,c6,c7,c8,c9,c10,c11⟩) 27)) rfl (by
  show (#[.int .u8 32,.int .u8 (n : Int)] : Array Value) = #[.int .u8 32,.int .u8 ((UInt8.ofNat n).toNat : Int)];rw [ofNat_toNat8 n (by omega)]) (by simp only [List.length_cons,List.length_nil];omega))
 rw [hz] at HC;have hw : IntKind.u8.wrap (n : Int) = (n : Int) := by rw [IntKind.wrap_u8];omega
 clear h hz;go_enter Tryz.func145,Tryz.ntmps145;go_wp2_with fail;refine HC.out.mono ?_;rintro e w2 ⟨A2,c2,rfl,h1,h2⟩;have HW := hide h1;have HG := hide ((WG.of_grow pb _ ((Grow.refl w).alloc (.cells (Cv.cells ⟨c1,n,c3,c4,c5,c6,c7,c8,c9,c10,c11⟩) 27))).trans h2);clear h1 h2 HC;go_wp2_with fail;go_end0;exact ⟨A2,c2,rfl,HW.out,HG.out⟩
theorem kw_lay_on {w0 w : World} {pb : Nat} {A0 A : Option Addr} {n0 c0 c : Nat} {bs : List UInt8} (zs : List UInt8) (cs : Array Value) (n : Nat) (h : Wr w pb A c bs) (hg : WG w0 pb (.slice A0 n0 c0) w (.slice A bs.length c)) (hn : zs.length = n) (he : cs = (u8s zs).toArray)
 (hl : bs.length + zs.length ≤ 140737488400000) : Calls Tryz.prog 184 #[.pointer (some ⟨pb,0,none⟩),.slice (some ⟨w.heap.size,0,none⟩) n n] (w.alloc (.cells cs 5)) (WrC w0 pb A0 n0 c0 (bs ++ zs)) := by
 refine (kw_lay_new pb A c bs zs cs n w h hn he hl).mono ?_;rintro e w' ⟨A',c',rfl,h1,h2⟩;exact ⟨A',c',rfl,h1,hg.trans h2⟩
theorem kw_word_on {w0 w : World} {pb : Nat} {A0 A : Option Addr} {n0 c0 c : Nat} {bs : List UInt8} (n size : Nat) (h : Wr w pb A c bs) (hg : WG w0 pb (.slice A0 n0 c0) w (.slice A bs.length c)) (hs : size ≤ 8) (hn : n < 18446744073709551616)
 (hl : bs.length + 8 ≤ 140737488355328) : Calls Tryz.prog 186 #[.pointer (some ⟨pb,0,none⟩),.int .u64 n,.int .i64 size] w (WrC w0 pb A0 n0 c0 (bs ++ be size n)) := by
 refine (kw_word pb A c bs n size w h hs hn hl).mono ?_;rintro e w' ⟨A',c',rfl,h1,h2⟩;exact ⟨A',c',rfl,h1,hg.trans h2⟩
theorem kw_int (pb : Nat) (A : Option Addr) (c : Nat) (bs : List UInt8) (n : Nat) (hn : n < 18446744073709551616) (c3 c6 c9 : Option Addr) (c4 c5 c7 c8 c10 c11 : Nat) (w : World) (h : Wr w pb A c bs) (hl : bs.length + 40 ≤ 140737488355328) :
 Calls Tryz.prog 146 #[.pointer (some ⟨pb,0,none⟩),Cv.agg ⟨3,n,c3,c4,c5,c6,c7,c8,c9,c10,c11⟩] w (WrC w pb A bs.length c (bs ++ 48 :: keyInt n)) := by
 have hi := i64_range n hn;have hb := run_bits;have hcv : IntKind.i64.wrap (n : Int) = i64 n := by unfold i64;rw [IntKind.wrap_i64];split <;> omega
 have hfc := floor_cases (i64 n) hi.1 hi.2;have hff := floor_any (i64 n);obtain ⟨g,hg⟩ : ∃ g,(fl (i64 n)).1 = g := ⟨_,rfl⟩;obtain ⟨rest,hrest⟩ : ∃ g,(fl (i64 n)).2 = g := ⟨_,rfl⟩;have hkey : keyInt n = 1 :: (be 8 (turnN g) ++ (be 2 rest ++ [0])) := by unfold keyInt;rw [hg,hrest]
 rw [hg,hrest] at hfc hff;have HFF := hide (fun w => hff w hi.1 hi.2);have HT := hide (fun w => kw_turned g w hfc.bits);have ht := turn_lt g hfc.bits;have hrs := hfc.small;have HKEY := hide hkey;clear hfc hff hkey hg hrest;obtain ⟨i,hin⟩ : ∃ i,i64 n = i := ⟨_,rfl⟩;rw [hin] at hcv HFF hi;clear hin;obtain ⟨tg,htg⟩ : ∃ x,turnN g = x := ⟨_,rfl⟩;rw [htg] at HT ht HKEY;clear htg;have hz : (w.alloc (.cells (Cv.cells ⟨3,n,c3,c4,c5,c6,c7,c8,c9,c10,c11⟩) 27)).heap.size = w.heap.size + 1 := by simp
 have HGW := hide (WG.of_grow pb (.slice A bs.length c) ((Grow.refl w).alloc (.cells (Cv.cells ⟨3,n,c3,c4,c5,c6,c7,c8,c9,c10,c11⟩) 27)));have HB0 := hide (Blk.new w 27 (Cv.cells ⟨3,n,c3,c4,c5,c6,c7,c8,c9,c10,c11⟩));have hne : w.heap.size ≠ pb := by have := h.1.lt;omega
 have hno : Value.ownBlock (.slice A bs.length c) ≠ some w.heap.size := fun e => by have := h.own e;omega
 have HNO := hide (fun q : w.heap.size = pb ∨ Value.ownBlock (.slice A bs.length c) = some w.heap.size => q.elim hne hno);have HC := hide (kw_lay_new pb A c bs [48] #[.int .u8 48] 1 (w.alloc (.cells (Cv.cells ⟨3,n,c3,c4,c5,c6,c7,c8,c9,c10,c11⟩) 27)) (h.al _) rfl rfl (by simp only [List.length_cons,List.length_nil];omega));rw [hz] at HC;clear h hz hne hno;go_enter Tryz.func146,Tryz.ntmps146;go_wp2_with fail;refine HC.out.mono ?_;rintro e w2 ⟨A2,c2,rfl,h1,h2⟩;have hB2 := h2.kept.blk HB0.out HNO.out;have hc0 := hB2.cell 0;have hc1 := hB2.cell 1;have hlt2 := hB2.lt;have HB2 := hide hB2;have HW2 := hide h1;have HG2 := hide h2;have hn2 : (bs ++ [48]).length = bs.length + 1 := by simp
 have hl2 : (bs ++ [48]).length + 30 ≤ 140737488355328 := by omega
 clear h1 h2 HC hB2 hn2;go_wp2_with fail;refine (HFF.out _).mono ?_;rintro e w' ⟨rfl,rfl⟩;have HC := hide (kw_lay_on [1] #[.int .u8 1] 1 HW2.out HG2.out rfl rfl (by simp only [List.length_append,List.length_cons,List.length_nil,be_length] at *;omega));go_wp2_with fail;refine HC.out.mono ?_;rintro e w3 ⟨A3,c3_,rfl,h1,h2⟩;have HW3 := hide h1;have HG3 := hide h2;clear h1 h2 HC;go_wp2_with fail;refine (HT.out _).mono ?_;rintro e w' ⟨rfl,rfl⟩;have HC := hide (kw_word_on tg 8 HW3.out HG3.out (by omega) ht (by simp only [List.length_append,List.length_cons,List.length_nil,be_length] at *;omega));go_wp2_with fail;refine HC.out.mono ?_;rintro e w4 ⟨A4,c4_,rfl,h1,h2⟩;have HW4 := hide h1;have HG4 := hide h2;clear h1 h2 HC
 have HC := hide (kw_word_on rest 2 HW4.out HG4.out (by omega) (by omega) (by simp only [List.length_append,List.length_cons,List.length_nil,be_length] at *;omega));go_wp2_with fail;refine HC.out.mono ?_;rintro e w5 ⟨A5,c5_,rfl,h1,h2⟩;have HW5 := hide h1;have HG5 := hide h2;clear h1 h2 HC;have HC := hide (kw_lay_on [0] #[.int .u8 0] 1 HW5.out HG5.out rfl rfl (by simp only [List.length_append,List.length_cons,List.length_nil,be_length] at *;omega));go_wp2_with fail;refine HC.out.mono ?_;rintro e w6 ⟨A6,c6_,rfl,h1,h2⟩;have HW6 := hide h1;have HG6 := hide h2;clear h1 h2 HC;go_wp2_with fail;go_end0;have e0 : bs ++ [48] ++ [1] ++ be 8 tg ++ be 2 rest ++ [0] = bs ++ 48 :: keyInt n := by rw [HKEY.out];simp
 have HX := HW6.out;have HY := HG6.out;rw [e0] at HX HY;exact ⟨A6,c6_,rfl,HX,HGW.out.trans HY⟩
theorem kw_nan (pb : Nat) (A : Option Addr) (c : Nat) (bs : List UInt8) (n : Nat) (hn : n < 18446744073709551616) (hnan : nanB n = true) (c3 c6 c9 : Option Addr) (c4 c5 c7 c8 c10 c11 : Nat) (w : World) (h : Wr w pb A c bs) (hl : bs.length + 40 ≤ 140737488355328) :
 Calls Tryz.prog 146 #[.pointer (some ⟨pb,0,none⟩),Cv.agg ⟨4,n,c3,c4,c5,c6,c7,c8,c9,c10,c11⟩] w (WrC w pb A bs.length c (bs ++ 48 :: keyFloat n)) := by
 have hb := run_from
 have HKEY := hide (show keyFloat n = 0 :: be 8 n by unfold keyFloat;rw [if_pos hnan]);have hz : (w.alloc (.cells (Cv.cells ⟨4,n,c3,c4,c5,c6,c7,c8,c9,c10,c11⟩) 27)).heap.size = w.heap.size + 1 := by simp
 have HGW := hide (WG.of_grow pb (.slice A bs.length c) ((Grow.refl w).alloc (.cells (Cv.cells ⟨4,n,c3,c4,c5,c6,c7,c8,c9,c10,c11⟩) 27)));have HB0 := hide (Blk.new w 27 (Cv.cells ⟨4,n,c3,c4,c5,c6,c7,c8,c9,c10,c11⟩));have hne : w.heap.size ≠ pb := by have := h.1.lt;omega
 have hno : Value.ownBlock (.slice A bs.length c) ≠ some w.heap.size := fun e => by have := h.own e;omega
 have HNO := hide (fun q : w.heap.size = pb ∨ Value.ownBlock (.slice A bs.length c) = some w.heap.size => q.elim hne hno);have HC := hide (kw_lay_new pb A c bs [48] #[.int .u8 48] 1 (w.alloc (.cells (Cv.cells ⟨4,n,c3,c4,c5,c6,c7,c8,c9,c10,c11⟩) 27)) (h.al _) rfl rfl (by simp only [List.length_cons,List.length_nil];omega));rw [hz] at HC;clear h hz hne hno;go_enter Tryz.func146,Tryz.ntmps146;go_wp2_with fail;refine HC.out.mono ?_;rintro e w2 ⟨A2,c2,rfl,h1,h2⟩;have hB2 := h2.kept.blk HB0.out HNO.out;have hc0 := hB2.cell 0;have hc1 := hB2.cell 1;have hlt2 := hB2.lt;have HB2 := hide hB2;have HW2 := hide h1;have HG2 := hide h2;have hn2 : (bs ++ [48]).length = bs.length + 1 := by simp
 have hl2 : (bs ++ [48]).length + 30 ≤ 140737488355328 := by omega
 clear h1 h2 HC hB2 hn2;go_wp2_with fail;refine (isnan_any n _).mono ?_;rintro e w' ⟨rfl,rfl⟩;have hnan' := hnan;have HC := hide (kw_lay_on [0] #[.int .u8 0] 1 HW2.out HG2.out rfl rfl (by simp only [List.length_append,List.length_cons,List.length_nil,be_length] at *;omega));go_wp2_with fail;refine HC.out.mono ?_;rintro e w3 ⟨A3,c3_,rfl,h1,h2⟩;have HW3 := hide h1;have HG3 := hide h2;clear h1 h2 HC;have hB3 := HG3.out.kept.blk HB0.out HNO.out;have hc3_ := hB3.cell 1;have hlt3 := hB3.lt;clear hB3;have HC := hide (kw_word_on n 8 HW3.out HG3.out (by omega) hn (by simp only [List.length_append,List.length_cons,List.length_nil,be_length] at *;omega));go_wp2_with fail;refine HC.out.mono ?_;rintro e w4 ⟨A4,c4_,rfl,h1,h2⟩;have HW4 := hide h1;have HG4 := hide h2;clear h1 h2 HC;go_wp2_with fail;go_end0
 have e0 : bs ++ [48] ++ [0] ++ be 8 n = bs ++ 48 :: keyFloat n := by rw [HKEY.out];simp
 have HX := HW4.out;have HY := HG4.out;rw [e0] at HX HY;exact ⟨A4,c4_,rfl,HX,HGW.out.trans HY⟩
theorem kw_float (pb : Nat) (A : Option Addr) (c : Nat) (bs : List UInt8) (n : Nat) (hn : n < 18446744073709551616) (hnan : nanB n = false) (c3 c6 c9 : Option Addr) (c4 c5 c7 c8 c10 c11 : Nat) (w : World) (h : Wr w pb A c bs) (hl : bs.length + 40 ≤ 140737488355328) :
 Calls Tryz.prog 146 #[.pointer (some ⟨pb,0,none⟩),Cv.agg ⟨4,n,c3,c4,c5,c6,c7,c8,c9,c10,c11⟩] w (WrC w pb A bs.length c (bs ++ 48 :: keyFloat n)) := by
 have hb := run_from
 have HKEY := hide (show keyFloat n = 1 :: (be 8 (turnN n) ++ [0,0,1]) by unfold keyFloat;rw [if_neg (by rw [hnan];decide)]);have HT := hide (fun w => kw_turned n w hn);have ht := turn_lt n hn;obtain ⟨tg,htg⟩ : ∃ x,turnN n = x := ⟨_,rfl⟩;rw [htg] at HT ht HKEY;clear htg;have hz : (w.alloc (.cells (Cv.cells ⟨4,n,c3,c4,c5,c6,c7,c8,c9,c10,c11⟩) 27)).heap.size = w.heap.size + 1 := by simp
 have HGW := hide (WG.of_grow pb (.slice A bs.length c) ((Grow.refl w).alloc (.cells (Cv.cells ⟨4,n,c3,c4,c5,c6,c7,c8,c9,c10,c11⟩) 27)));have HB0 := hide (Blk.new w 27 (Cv.cells ⟨4,n,c3,c4,c5,c6,c7,c8,c9,c10,c11⟩));have hne : w.heap.size ≠ pb := by have := h.1.lt;omega
 have hno : Value.ownBlock (.slice A bs.length c) ≠ some w.heap.size := fun e => by have := h.own e;omega
 have HNO := hide (fun q : w.heap.size = pb ∨ Value.ownBlock (.slice A bs.length c) = some w.heap.size => q.elim hne hno);have HC := hide (kw_lay_new pb A c bs [48] #[.int .u8 48] 1 (w.alloc (.cells (Cv.cells ⟨4,n,c3,c4,c5,c6,c7,c8,c9,c10,c11⟩) 27)) (h.al _) rfl rfl (by simp only [List.length_cons,List.length_nil];omega));rw [hz] at HC;clear h hz hne hno;go_enter Tryz.func146,Tryz.ntmps146;go_wp2_with fail;refine HC.out.mono ?_;rintro e w2 ⟨A2,c2,rfl,h1,h2⟩;have hB2 := h2.kept.blk HB0.out HNO.out;have hc0 := hB2.cell 0;have hc1 := hB2.cell 1;have hlt2 := hB2.lt;have HB2 := hide hB2;have HW2 := hide h1;have HG2 := hide h2;have hn2 : (bs ++ [48]).length = bs.length + 1 := by simp
 have hl2 : (bs ++ [48]).length + 30 ≤ 140737488355328 := by omega
 clear h1 h2 HC hB2 hn2;go_wp2_with fail;refine (isnan_any n _).mono ?_;rintro e w' ⟨rfl,rfl⟩;have hnan' := hnan;have HC := hide (kw_lay_on [1] #[.int .u8 1] 1 HW2.out HG2.out rfl rfl (by simp only [List.length_append,List.length_cons,List.length_nil,be_length] at *;omega));go_wp2_with fail;refine HC.out.mono ?_;rintro e w3 ⟨A3,c3_,rfl,h1,h2⟩;have HW3 := hide h1;have HG3 := hide h2;clear h1 h2 HC;have hB3 := HG3.out.kept.blk HB0.out HNO.out;have hc3_ := hB3.cell 1;have hlt3 := hB3.lt;clear hB3;go_wp2_with fail;refine (HT.out _).mono ?_;rintro e w' ⟨rfl,rfl⟩;have HC := hide (kw_word_on tg 8 HW3.out HG3.out (by omega) ht (by simp only [List.length_append,List.length_cons,List.length_nil,be_length] at *;omega));go_wp2_with fail;refine HC.out.mono ?_;rintro e w4 ⟨A4,c4_,rfl,h1,h2⟩;have HW4 := hide h1;have HG4 := hide h2;clear h1 h2 HC
 have HC := hide (kw_lay_on [0,0,1] #[.int .u8 0,.int .u8 0,.int .u8 1] 3 HW4.out HG4.out rfl rfl (by simp only [List.length_append,List.length_cons,List.length_nil,be_length] at *;omega));go_wp2_with fail;refine HC.out.mono ?_;rintro e w5 ⟨A5,c5_,rfl,h1,h2⟩;have HW5 := hide h1;have HG5 := hide h2;clear h1 h2 HC;go_wp2_with fail;go_end0;have e0 : bs ++ [48] ++ [1] ++ be 8 tg ++ [0,0,1] = bs ++ 48 :: keyFloat n := by rw [HKEY.out];simp
 have HX := HW5.out;have HY := HG5.out;rw [e0] at HX HY;exact ⟨A5,c5_,rfl,HX,HGW.out.trans HY⟩
end
section
open Go.RowKit Go.Shelf
theorem kw_text (pb : Nat) (A : Option Addr) (c : Nat) (bs : List UInt8) (b : List UInt8) (aB aL aF : Option Addr) (cB nL cL nF cF : Nat) (w : World) (h : Wr w pb A c bs) (hb : Reads (AtW w 0 pb) 1 aB b.length (u8s b)) (hl : bs.length + 2 * b.length + 3 ≤ 140737488355328) :
 Calls Tryz.prog 147 #[.pointer (some ⟨pb,0,none⟩),Cv.agg ⟨5,(0 : Nat),aB,b.length,cB,aL,nL,cL,aF,nF,cF⟩] w (WrC w pb A bs.length c (bs ++ 64 :: esc b)) := by
 have hz : (w.alloc (.cells (Cv.cells ⟨5,(0 : Nat),aB,b.length,cB,aL,nL,cL,aF,nF,cF⟩) 27)).heap.size = w.heap.size + 1 := by simp
 have HGW := hide (WG.of_grow pb (.slice A bs.length c) ((Grow.refl w).alloc (.cells (Cv.cells ⟨5,(0 : Nat),aB,b.length,cB,aL,nL,cL,aF,nF,cF⟩) 27)));have HB0 := hide (Blk.new w 27 (Cv.cells ⟨5,(0 : Nat),aB,b.length,cB,aL,nL,cL,aF,nF,cF⟩));have hne : w.heap.size ≠ pb := by have := h.1.lt;omega
 have hno : Value.ownBlock (.slice A bs.length c) ≠ some w.heap.size := fun e => by have := h.own e;omega
 have HNO := hide (fun q : w.heap.size = pb ∨ Value.ownBlock (.slice A bs.length c) = some w.heap.size => q.elim hne hno);have HWA := hide (h.al (.cells (Cv.cells ⟨5,(0 : Nat),aB,b.length,cB,aL,nL,cL,aF,nF,cF⟩) 27));have HRB := hide (Reads.mono (AtW.below (Below.alloc (Below.refl pb w) (Nat.le_of_lt h.1.lt) (.cells (Cv.cells ⟨5,(0 : Nat),aB,b.length,cB,aL,nL,cL,aF,nF,cF⟩) 27)) (Nat.le_refl _) (Nat.le_refl _) (Nat.le_refl _)) hb);have HC := hide (kw_lay_new pb A c bs [64] #[.int .u8 64] 1 (w.alloc (.cells (Cv.cells ⟨5,(0 : Nat),aB,b.length,cB,aL,nL,cL,aF,nF,cF⟩) 27)) HWA.out rfl rfl (by simp only [List.length_cons,List.length_nil];omega));rw [hz] at HC;clear h hz hne hno hb;go_enter Tryz.func147,Tryz.ntmps147;go_wp2_with fail;refine HC.out.mono ?_;rintro e w2 ⟨A2,c2,rfl,h1,h2⟩;have hB2 := h2.kept.blk HB0.out HNO.out;have hc2 := hB2.cell 2
 have hlt2 := hB2.lt;have HG2 := hide h2;have hn2 : (bs ++ [(64 : UInt8)]).length = bs.length + 1 := by simp
 have HC2 := hide (kw_string pb A2 c2 _ b aB cB w2 h1 (Reads.mono (fun p u (hp : AtW _ 0 pb p u) => ⟨(AtW.below (h2.below HWA.out) (Nat.le_refl _) (Nat.le_refl _) (Nat.le_refl _) p u hp).1,by have := h1.1.lt;have := hp.2.2;omega,by have := hp.2.2;omega,fun e => by have := (h1.own e).1;have := hp.2.2;omega⟩) HRB.out) (by omega));clear h1 h2 HC hB2 hn2;go_wp2_with fail;refine HC2.out.mono ?_;rintro e w3 ⟨A3,c3,rfl,h1,h2⟩;have e0 : bs ++ [(64 : UInt8)] ++ esc b = bs ++ 64 :: esc b := by simp
 rw [e0] at h1 h2;have HW3 := hide h1;have HG3 := hide (HG2.out.trans h2);clear h1 h2 HC2 e0;go_wp2_with fail;go_end0;exact ⟨A3,c3,rfl,HW3.out,HGW.out.trans HG3.out⟩
theorem kw_bytes (pb : Nat) (A : Option Addr) (c : Nat) (bs : List UInt8) (b : List UInt8) (aB aL aF : Option Addr) (cB nL cL nF cF : Nat) (w : World) (h : Wr w pb A c bs) (hb : Reads (AtW w 0 pb) 1 aB b.length (u8s b)) (hl : bs.length + 2 * b.length + 3 ≤ 140737488355328) :
 Calls Tryz.prog 148 #[.pointer (some ⟨pb,0,none⟩),Cv.agg ⟨6,(0 : Nat),aB,b.length,cB,aL,nL,cL,aF,nF,cF⟩] w (WrC w pb A bs.length c (bs ++ 80 :: esc b)) := by
 have hz : (w.alloc (.cells (Cv.cells ⟨6,(0 : Nat),aB,b.length,cB,aL,nL,cL,aF,nF,cF⟩) 27)).heap.size = w.heap.size + 1 := by simp
 have HGW := hide (WG.of_grow pb (.slice A bs.length c) ((Grow.refl w).alloc (.cells (Cv.cells ⟨6,(0 : Nat),aB,b.length,cB,aL,nL,cL,aF,nF,cF⟩) 27)));have HB0 := hide (Blk.new w 27 (Cv.cells ⟨6,(0 : Nat),aB,b.length,cB,aL,nL,cL,aF,nF,cF⟩));have hne : w.heap.size ≠ pb := by have := h.1.lt;omega
 have hno : Value.ownBlock (.slice A bs.length c) ≠ some w.heap.size := fun e => by have := h.own e;omega
 have HNO := hide (fun q : w.heap.size = pb ∨ Value.ownBlock (.slice A bs.length c) = some w.heap.size => q.elim hne hno);have HWA := hide (h.al (.cells (Cv.cells ⟨6,(0 : Nat),aB,b.length,cB,aL,nL,cL,aF,nF,cF⟩) 27));have HRB := hide (Reads.mono (AtW.below (Below.alloc (Below.refl pb w) (Nat.le_of_lt h.1.lt) (.cells (Cv.cells ⟨6,(0 : Nat),aB,b.length,cB,aL,nL,cL,aF,nF,cF⟩) 27)) (Nat.le_refl _) (Nat.le_refl _) (Nat.le_refl _)) hb);have HC := hide (kw_lay_new pb A c bs [80] #[.int .u8 80] 1 (w.alloc (.cells (Cv.cells ⟨6,(0 : Nat),aB,b.length,cB,aL,nL,cL,aF,nF,cF⟩) 27)) HWA.out rfl rfl (by simp only [List.length_cons,List.length_nil];omega));rw [hz] at HC;clear h hz hne hno hb;go_enter Tryz.func148,Tryz.ntmps148;go_wp2_with fail;refine HC.out.mono ?_;rintro e w2 ⟨A2,c2,rfl,h1,h2⟩;have hB2 := h2.kept.blk HB0.out HNO.out;have hc2 := hB2.cell 2
 have hlt2 := hB2.lt;have HG2 := hide h2;have hn2 : (bs ++ [(80 : UInt8)]).length = bs.length + 1 := by simp
 have HC2 := hide (kw_string pb A2 c2 _ b aB cB w2 h1 (Reads.mono (fun p u (hp : AtW _ 0 pb p u) => ⟨(AtW.below (h2.below HWA.out) (Nat.le_refl _) (Nat.le_refl _) (Nat.le_refl _) p u hp).1,by have := h1.1.lt;have := hp.2.2;omega,by have := hp.2.2;omega,fun e => by have := (h1.own e).1;have := hp.2.2;omega⟩) HRB.out) (by omega));clear h1 h2 HC hB2 hn2;go_wp2_with fail;refine HC2.out.mono ?_;rintro e w3 ⟨A3,c3,rfl,h1,h2⟩;have e0 : bs ++ [(80 : UInt8)] ++ esc b = bs ++ 80 :: esc b := by simp
 rw [e0] at h1 h2;have HW3 := hide h1;have HG3 := hide (HG2.out.trans h2);clear h1 h2 HC2 e0;go_wp2_with fail;go_end0;exact ⟨A3,c3,rfl,HW3.out,HGW.out.trans HG3.out⟩
def KeyC (x : V) : Prop := ∀ (pb : Nat) (A : Option Addr) (c : Nat) (bs : List UInt8) (cv : Cv) (w : World),Wr w pb A c bs → InU w pb x cv → bs.length + 2 * x.key.length ≤ 140737488350000 →
 Calls Tryz.prog 98 #[.pointer (some ⟨pb,0,none⟩),cv.agg] w (WrC w pb A bs.length c (bs ++ x.key))
theorem InU.wg {w w' : World} {pb : Nat} {A : Option Addr} {c : Nat} {bs : List UInt8} {v' : Value} {x : V} {cv : Cv} (h : InU w pb x cv) (hg : WG w pb (.slice A bs.length c) w' v') (hw : Wr w pb A c bs) : InU w' pb x cv :=
 h.below (hg.below hw) (Nat.le_refl _) (Nat.le_refl _)
theorem kw_list (pb : Nat) (A : Option Addr) (c : Nat) (bs : List UInt8) (l : List V) (aB aL aF : Option Addr) (nB cB cL nF cF : Nat) (w : World) (h : Wr w pb A c bs) (hk : ∀ x ∈ l,KeyC x)
 (hv : InU w pb (V.mk 7 0 [] l []) ⟨7,(0 : Nat),aB,nB,cB,aL,l.length,cL,aF,nF,cF⟩) (hl : bs.length + 2 * (l.map V.keyL).flatten.length + 2 ≤ 140737488350000) :
 Calls Tryz.prog 149 #[.pointer (some ⟨pb,0,none⟩),Cv.agg ⟨7,(0 : Nat),aB,nB,cB,aL,l.length,cL,aF,nF,cF⟩] w (WrC w pb A bs.length c (bs ++ 96 :: ((l.map V.keyL).flatten ++ [0]))) := by
 have HK := hide hk;have hll := keyL_len l;have hz : (w.alloc (.cells (Cv.cells ⟨7,(0 : Nat),aB,nB,cB,aL,l.length,cL,aF,nF,cF⟩) 27)).heap.size = w.heap.size + 1 := by simp
 have HGW := hide (WG.of_grow pb (.slice A bs.length c) ((Grow.refl w).alloc (.cells (Cv.cells ⟨7,(0 : Nat),aB,nB,cB,aL,l.length,cL,aF,nF,cF⟩) 27)));have HB0 := hide (Blk.new w 27 (Cv.cells ⟨7,(0 : Nat),aB,nB,cB,aL,l.length,cL,aF,nF,cF⟩));have hne : w.heap.size ≠ pb := by have := h.1.lt;omega
 have hno : Value.ownBlock (.slice A bs.length c) ≠ some w.heap.size := fun e => by have := h.own e;omega
 have HNO := hide (fun q : w.heap.size = pb ∨ Value.ownBlock (.slice A bs.length c) = some w.heap.size => q.elim hne hno);have HWA := hide (h.al (.cells (Cv.cells ⟨7,(0 : Nat),aB,nB,cB,aL,l.length,cL,aF,nF,cF⟩) 27));have HV := hide (hv.below (Below.alloc (Below.refl pb w) (Nat.le_of_lt h.1.lt) (.cells (Cv.cells ⟨7,(0 : Nat),aB,nB,cB,aL,l.length,cL,aF,nF,cF⟩) 27)) (Nat.le_refl _) (Nat.le_refl _));have HC := hide (kw_lay_new pb A c bs [96] #[.int .u8 96] 1 (w.alloc (.cells (Cv.cells ⟨7,(0 : Nat),aB,nB,cB,aL,l.length,cL,aF,nF,cF⟩) 27)) HWA.out rfl rfl (by simp only [List.length_cons,List.length_nil];omega));rw [hz] at HC;clear h hz hne hno hv hk;go_enter Tryz.func149,Tryz.ntmps149;go_wp2_with fail;refine HC.out.mono ?_;rintro e w2 ⟨A2,c2,rfl,h1,h2⟩;have hB2 := h2.kept.blk HB0.out HNO.out;have hc3 := hB2.cell 3;have hlt2 := hB2.lt;have HW2 := hide h1
 have HG2 := hide h2;clear h1 h2 HC hB2;go_wp2_with fail;go_loopg [5,12] (l.length + 1) (fun gk _ i wr => ∃ (j : Nat) (A' : Option Addr) (c' : Nat),j ≤ l.length ∧ gk + j = l.length + 1 ∧ i = .int .i64 j ∧ Wr wr pb A' c' (bs ++ 96 :: ((l.take j).map V.keyL).flatten) ∧
  WG (w.alloc (.cells (Cv.cells ⟨7,(0 : Nat),aB,nB,cB,aL,l.length,cL,aF,nF,cF⟩) 27)) pb (.slice A bs.length c) wr (.slice A' (bs ++ 96 :: ((l.take j).map V.keyL).flatten).length c'))
 case atStart => exact ⟨0,A2,c2,Nat.zero_le _,rfl,rfl,HW2.out,HG2.out⟩
 case round =>
  obtain ⟨j,A',c',hj,hg,rfl,hw,hgr⟩ := hrel;obtain ⟨gk',rfl⟩ := gk_ gk (by omega);have HWr := hide hw;have HGr := hide hgr;have hvr := HV.out.wg hgr HWA.out;clear hw hgr;by_cases hlt : j < l.length
  ·obtain ⟨bk,o,x,ha,hbk,e0,e1,e2,e3,e4,hx⟩ := hvr.elemL j hlt;dsimp only at ha;subst ha;have hltb := Nat.lt_trans hbk HWr.out.1.lt;have hm1 := flat_take V.keyL l j hlt;have hm2 := congrArg List.length hm1;rw [List.length_append] at hm2;have hle := flat_le V.keyL l (j + 1);rw [hm2] at hle;have hkl : (V.keyL l[j]).length = 1 + l[j].key.length := by simp [V.keyL];omega
   have hbl : (bs ++ 96 :: ((l.take j).map V.keyL).flatten).length = bs.length + 1 + ((l.take j).map V.keyL).flatten.length := by simp;omega
   have HX := hide hx;have HM1 := hide hm1;obtain ⟨X,hX⟩ : ∃ X,X = bs ++ 96 :: ((l.take j).map V.keyL).flatten := ⟨_,rfl⟩;rw [← hX] at HWr HGr hbl;have HXE := hide hX;have hbx := x.cells;have hzz : (wr.alloc (.cells x.cells 27)).heap.size = wr.heap.size + 1 := by simp
   have HBx := hide (Blk.new wr 27 x.cells);have hnex : ¬ (wr.heap.size = pb ∨ Value.ownBlock (.slice A' X.length c') = some wr.heap.size) := fun q => q.elim (fun e => by have := HWr.out.1.lt;omega) (fun e => by have := HWr.out.own e;omega)
   have HNX := hide hnex;have HWx := hide (HWr.out.al (.cells x.cells 27));have HGx := hide (HGr.out.alloc (.cells x.cells 27));have HC1 := hide (kw_lay_new pb A' c' X [1] #[.int .u8 1] 1 (wr.alloc (.cells x.cells 27)) HWx.out rfl rfl (by simp only [List.length_cons,List.length_nil];omega));rw [hzz] at HC1;clear hx hvr hm1 hm2 hX hbx hzz hnex;go_wp2_with fail;refine HC1.out.mono ?_;rintro e w3 ⟨A3,c3_,rfl,h1,h2⟩;have hB3 := h2.kept.blk HBx.out HNX.out;have hcx := hB3.cell;have hltx := hB3.lt;have HG3 := hide (HGx.out.trans h2);have hXl : (X ++ [(1 : UInt8)]).length = X.length + 1 := by simp
   have HC2 := hide (HK.out _ (List.getElem_mem hlt) pb A3 c3_ _ x w3 h1 ((HX.out.below (Below.alloc (Below.refl pb wr) (Nat.le_of_lt HWr.out.1.lt) (.cells x.cells 27)) (Nat.le_refl _) (Nat.le_refl _)).wg h2 HWx.out) (by omega));clear h1 h2 HC1 hB3 hXl;go_wp2_with fail;refine HC2.out.mono ?_;rintro e w4 ⟨A4,c4_,rfl,h1,h2⟩;have e0 : X ++ [(1 : UInt8)] ++ l[j].key = bs ++ 96 :: ((l.take (j + 1)).map V.keyL).flatten := by rw [HXE.out,HM1.out];simp [V.keyL]
   rw [e0] at h1 h2;have HW4 := hide h1;have HG4 := hide (HG3.out.trans h2);clear h1 h2 HC2 e0 hcx e1 e2 e3 e4 hkl hbl;go_wp2_with fail;go_roundg gk'
   case measure => omega
   case rel => exact ⟨j + 1,A4,c4_,by omega,by omega,by go_num,HW4.out,HG4.out⟩
  obtain rfl : j = l.length := by omega
  rw [List.take_length] at HWr HGr;have hbl : (bs ++ 96 :: (l.map V.keyL).flatten).length = bs.length + 1 + (l.map V.keyL).flatten.length := by simp;omega
  have HC1 := hide (kw_lay_new pb A' c' _ [0] #[.int .u8 0] 1 wr HWr.out rfl rfl (by simp only [List.length_cons,List.length_nil];omega));clear hg hbl hvr;go_wp2_with fail;refine HC1.out.mono ?_;rintro e w3 ⟨A3,c3_,rfl,h1,h2⟩;have e0 : bs ++ 96 :: (l.map V.keyL).flatten ++ [0] = bs ++ 96 :: ((l.map V.keyL).flatten ++ [0]) := by simp
  rw [e0] at h1 h2;have HW4 := hide h1;have HG4 := hide (HGr.out.trans h2);clear h1 h2 HC1 e0;go_wp2_with fail;go_end0;exact ⟨A3,c3_,rfl,HW4.out,HGW.out.trans HG4.out⟩
theorem kw_doc (pb : Nat) (A : Option Addr) (c : Nat) (bs : List UInt8) (f : List (ByteArray × V)) (aB aL aF : Option Addr) (nB cB cL nL cF : Nat) (w : World) (h : Wr w pb A c bs) (hk : ∀ x ∈ f,KeyC x.2)
 (hv : InU w pb (V.mk 8 0 [] [] f) ⟨8,(0 : Nat),aB,nB,cB,aL,nL,cL,aF,f.length,cF⟩) (hl : bs.length + 2 * (f.map V.keyFd).flatten.length + 2 ≤ 140737488350000) (hs : ∀ x ∈ f,x.1.size ≤ 32) :
 Calls Tryz.prog 150 #[.pointer (some ⟨pb,0,none⟩),Cv.agg ⟨8,(0 : Nat),aB,nB,cB,aL,nL,cL,aF,f.length,cF⟩] w (WrC w pb A bs.length c (bs ++ 112 :: ((f.map V.keyFd).flatten ++ [0]))) := by
 have HK := hide hk;have HS := hide hs;have hll := keyFd_len f;have hz : (w.alloc (.cells (Cv.cells ⟨8,(0 : Nat),aB,nB,cB,aL,nL,cL,aF,f.length,cF⟩) 27)).heap.size = w.heap.size + 1 := by simp
 have HGW := hide (WG.of_grow pb (.slice A bs.length c) ((Grow.refl w).alloc (.cells (Cv.cells ⟨8,(0 : Nat),aB,nB,cB,aL,nL,cL,aF,f.length,cF⟩) 27)));have HB0 := hide (Blk.new w 27 (Cv.cells ⟨8,(0 : Nat),aB,nB,cB,aL,nL,cL,aF,f.length,cF⟩));have hne : w.heap.size ≠ pb := by have := h.1.lt;omega
 have hno : Value.ownBlock (.slice A bs.length c) ≠ some w.heap.size := fun e => by have := h.own e;omega
 have HNO := hide (fun q : w.heap.size = pb ∨ Value.ownBlock (.slice A bs.length c) = some w.heap.size => q.elim hne hno);have HWA := hide (h.al (.cells (Cv.cells ⟨8,(0 : Nat),aB,nB,cB,aL,nL,cL,aF,f.length,cF⟩) 27));have HV := hide (hv.below (Below.alloc (Below.refl pb w) (Nat.le_of_lt h.1.lt) (.cells (Cv.cells ⟨8,(0 : Nat),aB,nB,cB,aL,nL,cL,aF,f.length,cF⟩) 27)) (Nat.le_refl _) (Nat.le_refl _));have HC := hide (kw_lay_new pb A c bs [112] #[.int .u8 112] 1 (w.alloc (.cells (Cv.cells ⟨8,(0 : Nat),aB,nB,cB,aL,nL,cL,aF,f.length,cF⟩) 27)) HWA.out rfl rfl (by simp only [List.length_cons,List.length_nil];omega));rw [hz] at HC;clear h hz hne hno hv hk hs;go_enter Tryz.func150,Tryz.ntmps150;go_wp2_with fail;refine HC.out.mono ?_;rintro e w2 ⟨A2,c2,rfl,h1,h2⟩;have hB2 := h2.kept.blk HB0.out HNO.out;have hc4 := hB2.cell 4;have hlt2 := hB2.lt;have HW2 := hide h1
 have HG2 := hide h2;clear h1 h2 HC hB2;go_wp2_with fail;go_loopg [5,12] (f.length + 1) (fun gk _ i wr => ∃ (j : Nat) (A' : Option Addr) (c' : Nat),j ≤ f.length ∧ gk + j = f.length + 1 ∧ i = .int .i64 j ∧ Wr wr pb A' c' (bs ++ 112 :: ((f.take j).map V.keyFd).flatten) ∧
  WG (w.alloc (.cells (Cv.cells ⟨8,(0 : Nat),aB,nB,cB,aL,nL,cL,aF,f.length,cF⟩) 27)) pb (.slice A bs.length c) wr (.slice A' (bs ++ 112 :: ((f.take j).map V.keyFd).flatten).length c'))
 case atStart => exact ⟨0,A2,c2,Nat.zero_le _,rfl,rfl,HW2.out,HG2.out⟩
 case round =>
  obtain ⟨j,A',c',hj,hg,rfl,hw,hgr⟩ := hrel;obtain ⟨gk',rfl⟩ := gk_ gk (by omega);have HWr := hide hw;have HGr := hide hgr;have hvr := HV.out.wg hgr HWA.out;clear hw hgr;by_cases hlt : j < f.length
  ·obtain ⟨bk,o,x,ha,hbk,es,hsz,e0_,e1,e2,e3,e4,hx⟩ := hvr.elemF j hlt;dsimp only at ha;subst ha;have hltb := Nat.lt_trans hbk HWr.out.1.lt;have hm1 := flat_take V.keyFd f j hlt;have hm2 := congrArg List.length hm1;rw [List.length_append] at hm2;have hle := flat_le V.keyFd f (j + 1);rw [hm2] at hle;have hkl : (V.keyFd f[j]).length = 1 + ((esc f[j].1.data.toList).length + f[j].2.key.length) := by simp [V.keyFd];omega
   have hbl : (bs ++ 112 :: ((f.take j).map V.keyFd).flatten).length = bs.length + 1 + ((f.take j).map V.keyFd).flatten.length := by simp;omega
   have hs32 := HS.out _ (List.getElem_mem hlt);have HX := hide hx;have HM1 := hide hm1;have HKJ := hide (HK.out _ (List.getElem_mem hlt));have HEF := hide (show V.keyFd f[j] = 1 :: (esc f[j].1.data.toList ++ f[j].2.key) from rfl);obtain ⟨X,hX⟩ : ∃ X,X = bs ++ 112 :: ((f.take j).map V.keyFd).flatten := ⟨_,rfl⟩;rw [← hX] at HWr HGr hbl;have HXE := hide hX;obtain ⟨s,hsn⟩ : ∃ s,f[j].1 = s := ⟨_,rfl⟩;obtain ⟨y,hy⟩ : ∃ y,f[j].2 = y := ⟨_,rfl⟩;rw [hsn] at es hs32 hkl HEF hsz;rw [hy] at HX HKJ HEF hkl;have hsl : s.data.toList.length = s.size := by simp
   have hel : (esc s.data.toList).length ≤ 2 * s.size + 2 := by have := (escB_length s.data.toList).2;unfold esc;rw [List.length_append,← hsl];simpa using this
   have hzz : (wr.alloc (.cells (x.fcells s) 82)).heap.size = wr.heap.size + 1 := by simp
   have HBx := hide (Blk.new wr 82 (x.fcells s));have hnex : ¬ (wr.heap.size = pb ∨ Value.ownBlock (.slice A' X.length c') = some wr.heap.size) := fun q => q.elim (fun e => by have := HWr.out.1.lt;omega) (fun e => by have := HWr.out.own e;omega)
   have HNX := hide hnex;have HWx := hide (HWr.out.al (.cells (x.fcells s) 82));have HGx := hide (HGr.out.alloc (.cells (x.fcells s) 82));have HC1 := hide (kw_lay_new pb A' c' X [1] #[.int .u8 1] 1 (wr.alloc (.cells (x.fcells s) 82)) HWx.out rfl rfl (by simp only [List.length_cons,List.length_nil];omega));rw [hzz] at HC1;clear hx hvr hm1 hm2 hX hzz hnex hsn hy;go_wp2_with fail;refine HC1.out.mono ?_;rintro e w3 ⟨A3,c3_,rfl,h1,h2⟩;have hB3 := h2.kept.blk HBx.out HNX.out;have hcx0 := hB3.cell 0;have hltx := hB3.lt;have HB3 := hide hB3;have HW3 := hide h1;have HG3 := hide (HGx.out.trans h2);have HV3 := hide ((HX.out.below (Below.alloc (Below.refl pb wr) (Nat.le_of_lt HWr.out.1.lt) (.cells (x.fcells s) 82)) (Nat.le_refl _) (Nat.le_refl _)).wg h2 HWx.out)
   have hne3 : ¬ (wr.heap.size = pb ∨ Value.ownBlock (.slice A3 (X ++ [(1 : UInt8)]).length c3_) = some wr.heap.size) := fun q => q.elim (fun e => HNX.out (.inl e)) (h2.ne (by simp) (fun e => HNX.out (.inr e)))
   have HN3 := hide hne3;have hXl : (X ++ [(1 : UInt8)]).length = X.length + 1 := by simp
   obtain ⟨cw,W4,hrun,hcw,hgw,hin⟩ := conv_bytes2 w3 s;have HGW4 := hide hgw;have HW4 := hide (h1.grow hgw);have HB4 := hide (hB3.grow hgw);have hap : Reads (Apart W4 pb A3 (X ++ [(1 : UInt8)]).length c3_) 1 (some ⟨w3.heap.size,0,none⟩) s.data.toList.length (u8s s.data.toList) := by
    refine ⟨hin.1,fun hn => ?_⟩;obtain ⟨bq,oq,eq,hcl⟩ := hin.2 hn;refine ⟨bq,oq,eq,fun j u hu => ?_⟩;injection eq with eq;injection eq with eq1 eq2;have := hcl j u hu;exact ⟨this.1,this.2.2,by have := h1.1.lt;dsimp only;omega,fun e => by have := h1.own e;dsimp only at this;omega⟩
   have HC2 := hide (kw_string pb A3 c3_ _ s.data.toList (some ⟨w3.heap.size,0,none⟩) cw W4 HW4.out hap (by rw [hsl];omega));rw [hsl] at HC2;clear h1 h2 HC1 hB3 hgw hin hap hne3;go_wp2_with fail;refine HC2.out.mono ?_;rintro e w5 ⟨A5,c5_,rfl,h1,h2⟩;have hB5 := h2.kept.blk HB4.out HN3.out;have hcx := hB5.cell;have hlt5 := hB5.lt;have HG5 := hide ((HG3.out.trans (WG.of_grow pb _ HGW4.out)).trans h2);have hXl5 : (X ++ [(1 : UInt8)] ++ esc s.data.toList).length = X.length + 1 + (esc s.data.toList).length := by simp;omega
   have HC3 := hide (HKJ.out pb A5 c5_ _ x w5 h1 ((HV3.out.below (Below.mono HGW4.out.below (Nat.le_of_lt HW3.out.1.lt)) (Nat.le_refl _) (Nat.le_refl _)).wg h2 HW4.out) (by omega));clear h1 h2 HC2 hB5 hXl5;go_wp2_with fail;refine HC3.out.mono ?_;rintro e w6 ⟨A6,c6_,rfl,h1,h2⟩;have e0 : X ++ [(1 : UInt8)] ++ esc s.data.toList ++ y.key = bs ++ 112 :: ((f.take (j + 1)).map V.keyFd).flatten := by rw [HXE.out,HM1.out,HEF.out];simp
   rw [e0] at h1 h2;have HW6 := hide h1;have HG6 := hide (HG5.out.trans h2);clear h1 h2 HC3 e0 hcx hcx0 es e0_ e1 e2 e3 e4 hkl hbl hel hXl hrun;go_wp2_with fail;go_roundg gk'
   case measure => omega
   case rel => exact ⟨j + 1,A6,c6_,by omega,by omega,by go_num,HW6.out,HG6.out⟩
  obtain rfl : j = f.length := by omega
  rw [List.take_length] at HWr HGr;have hbl : (bs ++ 112 :: (f.map V.keyFd).flatten).length = bs.length + 1 + (f.map V.keyFd).flatten.length := by simp;omega
  have HC1 := hide (kw_lay_new pb A' c' _ [0] #[.int .u8 0] 1 wr HWr.out rfl rfl (by simp only [List.length_cons,List.length_nil];omega));clear hg hbl hvr;go_wp2_with fail;refine HC1.out.mono ?_;rintro e w3 ⟨A3,c3_,rfl,h1,h2⟩;have e0 : bs ++ 112 :: (f.map V.keyFd).flatten ++ [0] = bs ++ 112 :: ((f.map V.keyFd).flatten ++ [0]) := by simp
  rw [e0] at h1 h2;have HW4 := hide h1;have HG4 := hide (HGr.out.trans h2);clear h1 h2 HC1 e0;go_wp2_with fail;go_end0;exact ⟨A3,c3_,rfl,HW4.out,HGW.out.trans HG4.out⟩
end
end Go.Proofs.YtndjopkdbdcmdaaGreatDoor
