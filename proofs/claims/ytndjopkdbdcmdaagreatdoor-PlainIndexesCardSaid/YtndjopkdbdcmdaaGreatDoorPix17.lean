/- Part 17 of the proof of pindexes_card. -/
import Derived.Test.YtndjopkdbdcmdaaGreatDoorPix3
import Derived.Test.YtndjopkdbdcmdaaGreatDoorPix14
set_option linter.unusedVariables false
set_option linter.unusedSimpArgs false
set_option maxRecDepth 100000
set_option maxHeartbeats 12800000
namespace Go.Proofs.YtndjopkdbdcmdaaGreatDoor
section
open Go.RowKit V
def nA : ByteArray := ⟨#[97]⟩
def nB : ByteArray := ⟨#[98]⟩
def nX : ByteArray := ⟨#[120]⟩
def iV (n : Nat) : V := .mk 3 n [] [] []
def dV (i x : Nat) : V := .mk 8 0 [] [] [(idS,iV i),(nX,iV x)]
theorem goodP {v : V} (h1 : v.formed = true) (h2 : v.most ≤ 64) (h3 : v.depth ≤ 16) (h4 : v.bytes.length ≤ 4096) : v.good = 0 := good_iff.2 ⟨h1,h2,h3,h4⟩
theorem iV_formed (n : Nat) : (iV n).formed = true := by unfold iV;rw [V.formed_mk];unfold V.own;simp
theorem iV_most (n : Nat) : (iV n).most ≤ 64 := by unfold iV;rw [V.most_mk];decide
theorem iV_depth (n : Nat) : (iV n).depth = 0 := by unfold iV;rw [V.depth_mk];rfl
theorem iV_bytes (n : Nat) : (iV n).bytes.length = 9 := by unfold iV;rw [V.bytes_mk];simp [toLe_length]
theorem iV_good (n : Nat) : (iV n).good = 0 := goodP (iV_formed n) (iV_most n) (by rw [iV_depth];omega) (by rw [iV_bytes];omega)
theorem iV_count (n : Nat) : (iV n).count = 1 := by unfold iV;rw [V.count_mk];simp
theorem iV_fit {n : Nat} (h : n < 18446744073709551616) : (iV n).fit := by unfold iV;rw [V.fit];exact ⟨h,fun x hx => by simp at hx,fun x hx => by simp at hx⟩
theorem iV_keylen (n : Nat) : (iV n).key.length = 13 := by
 unfold iV;rw [V.key_mk,if_neg (by decide),if_neg (by decide),if_pos rfl];unfold keyInt;simp [be_length]
theorem iV_keyed {n : Nat} (h : n < 18446744073709551616) : V.Keyed (iV n) := ⟨⟨iV_formed n,iV_fit h⟩,iV_good n,by rw [iV_keylen];omega⟩
theorem iV_cmp {a b : Nat} (ha : a < 9223372036854775808) (hb : b < 9223372036854775808) : Lib.compareBytes (iV a).key (iV b).key = sg a b := by
 rw [← V.cmp_bytes (iV_keyed (by omega)).toFine (iV_keyed (by omega)).toFine];unfold iV;rw [V.cmp_mk];simp [cls,numC,i64,ha,hb]
theorem fd_good {f : List (ByteArray × V)} (hl : f.length ≤ 2) (hf : (V.mk 8 0 [] [] f).formed = true) (hx : ∀ x ∈ f,∃ n,x.2 = iV n) (hs : ∀ x ∈ f,x.1.size ≤ 64) : (V.mk 8 0 [] [] f).good = 0 := by
 refine goodP hf ((V.most_over _ _ _ _ _ 64).2 ⟨by simp,by omega,by simp,fun x h => by obtain ⟨n,hn⟩ := hx x h;rw [hn];exact iV_most n⟩) ?_ ?_
 ·rw [V.depth_doc];have := (foldl_max_le (f.map fun x => x.2.depth) 0 0).2 ⟨Nat.le_refl _,fun y hy => by
   obtain ⟨x,h,rfl⟩ := List.mem_map.1 hy;obtain ⟨n,hn⟩ := hx x h;rw [hn,iV_depth];omega⟩
  omega
 rw [V.bytes_doc];have key : ∀ l : List (ByteArray × V),(∀ x ∈ l,(∃ n,x.2 = iV n) ∧ x.1.size ≤ 64) → ((l.map fun x => V.item x.1 x.2.bytes).flatten).length ≤ l.length * 100 := by
  intro l
  induction l with
  | nil => intro _;simp
  | cons x r ih =>
   intro h;have h1 := ih fun y hy => h y (List.mem_cons_of_mem _ hy)
   obtain ⟨⟨n,hn⟩,hz⟩ := h x List.mem_cons_self;rw [List.map_cons,List.flatten_cons,List.length_append,List.length_cons];have : (V.item x.1 x.2.bytes).length = x.1.size + x.2.bytes.length + 1 := by rw [V.item];simp
   rw [this,hn,iV_bytes];omega
 have := key f fun x h => ⟨hx x h,hs x h⟩
 simp only [List.length_cons];omega
theorem nX_name : V.name nX = true := by decide +kernel
theorem idS_name : V.name idS = true := by decide +kernel
theorem dV_good (i x : Nat) : (dV i x).good = 0 := by
 unfold dV;refine fd_good (by simp) ?_ (fun y hy => ?_) (fun y hy => ?_)
 ·rw [V.formed_mk];simp [V.own,iV_formed,nX_name,idS_name];decide
 ·simp at hy;rcases hy with rfl | rfl
  ·exact ⟨_,rfl⟩
  exact ⟨_,rfl⟩
 simp at hy;rcases hy with rfl | rfl
 ·show idS.size ≤ 64;decide
 show nX.size ≤ 64;decide
theorem dV_fit {i x : Nat} (hi : i < 18446744073709551616) (hx : x < 18446744073709551616) : (dV i x).fit := by
 unfold dV;rw [V.fit];refine ⟨by decide,fun y hy => by simp at hy,fun y hy => ?_⟩;simp at hy;rcases hy with rfl | rfl
 ·exact iV_fit hi
 exact iV_fit hx
theorem dV_id (i x : Nat) : idP (dV i x) = some (iV i) := by show (List.find? (fun x : ByteArray × V => decide (x.1 = idS)) [(idS,iV i),(nX,iV x)]).map Prod.snd = _;simp
theorem iV_ofK {i : Nat} (h : i < 18446744073709551616) : ofK (iV i) = ((iV i).key,0) := (iV_keyed h).ofK
theorem dV_key {i : Nat} (x : Nat) (h : i < 18446744073709551616) : keyP (dV i x) = ((iV i).key,0) := by
 unfold keyP;rw [if_neg (by rw [dV_good];simp),if_neg (show ¬ (dV i x).k ≠ 8 from fun h => h rfl),dV_id];exact iV_ofK h
def rqD (d : Int) (c : ByteArray) (x : V) : Rq := ⟨d,c,⟨#[]⟩,⟨#[]⟩,false,V.zero,V.zero,V.zero,x,0⟩
def rq0 (d : Int) (c : ByteArray) : Rq := ⟨d,c,⟨#[]⟩,⟨#[]⟩,false,V.zero,V.zero,V.zero,V.zero,0⟩
def sX (docs : List V) (ixs : List Ix) : List Co := [⟨nA,docs,ixs⟩]
theorem plA : plF [nA] nA = true ∧ plN [nA] nA = 0 := by constructor <;> decide
theorem at_sX (docs : List V) (ixs : List Ix) : coAt (sX docs ixs) nA = ⟨nA,docs,ixs⟩ := by
 unfold coAt sX;simp [cnm,plA.2]
theorem doP_ok' {st st' : List Co} {q : Rq} {n : Int} {docs : List V} (h : actP st q = .ok (st',n,docs)) : doP st q = (st',⟨0,n,docs,0⟩) := by unfold doP;rw [h]
theorem act1 {st : List Co} {q : Rq} (h : q.do_ = 1) : actP st q = makeP st q := by unfold actP;rw [h];rfl
theorem act3 {st : List Co} {q : Rq} (h : q.do_ = 3) : actP st q = putP st q := by unfold actP;rw [h];rfl
theorem pl_sX (docs : List V) (ixs : List Ix) : plF (cnm (sX docs ixs)) nA = true ∧ plN (cnm (sX docs ixs)) nA = 0 := plA
theorem set_sX (docs : List V) (ixs : List Ix) (c : Co) : (sX docs ixs).set 0 c = [c] := rfl
theorem kn1 : doP [] (rq0 1 nA) = (sX [] [],Rp.zero) := by
 refine doP_ok' (act1 rfl |>.trans ?_);unfold makeP;have h1 : V.name nA = true := by decide +kernel
 rw [show (rq0 1 nA).coll = nA from rfl,h1,if_neg (by decide),if_neg (show ¬ plF (cnm []) nA = true from by decide),if_neg (by decide)];rfl
theorem doc1 (d : V) (k : List UInt8) : docF [d] k = decide (Lib.compareBytes (keyP d).1 k = 0) ∧ docN [d] k = if Lib.compareBytes (keyP d).1 k < 0 then 1 else 0 := by
 have e : docN [d] k = if Lib.compareBytes (keyP d).1 k < 0 then 1 else 0 := by
  show bsG (docCf [d] k) 1 0 1 = _;by_cases h : docCf [d] k 0 < 0
  ·rw [bsG_up (by omega) h,if_pos (by exact h)];rfl
  rw [bsG_down (by omega) h,if_neg (by exact h)];rfl
 refine ⟨?_,e⟩;show (decide (docN [d] k < 1) && (docCf [d] k (docN [d] k) == 0)) = _;rw [e];have h0 : docCf [d] k 0 = Lib.compareBytes (keyP d).1 k := rfl;split
 ·rename_i h;simp;omega
 rw [h0,Bool.eq_iff_iff];simp
theorem put_sX {docs : List V} {ixs : List Ix} {q : Rq} {K : List UInt8} (hc : q.coll = nA) (hk : keyP q.doc = (K,0)) (hx : ixsE q.doc ixs = 0) (h4 : ¬ (docF docs K = true ∧ q.do_ ≠ 3)) (hcl : clashP (putDocs docs q.doc) ixs = false) :
 putP (sX docs ixs) q = .ok (sX (putDocs docs q.doc) ixs,if docF docs K = true then 1 else 0,[]) := by
 unfold putP;rw [hc,(pl_sX docs ixs).1,(pl_sX docs ixs).2,at_sX,hk];dsimp only;rw [if_neg (by decide),if_neg (by decide),if_neg (by rw [hx];decide),if_neg h4,if_neg (by rw [hcl];decide),set_sX];rfl
theorem kn2 : doP (sX [] []) (rqD 3 nA (dV 1 5)) = (sX [dV 1 5] [],Rp.zero) :=
 doP_ok' ((act3 rfl).trans (put_sX rfl (dV_key 5 (by decide)) rfl (fun h => by cases h.1) rfl))
theorem hg6 : docF [dV 1 6] (iV 2).key = false ∧ docN [dV 1 6] (iV 2).key = 1 := by
 constructor
 ·rw [(doc1 _ _).1,dV_key 6 (by decide),iV_cmp (by decide) (by decide)];decide
 rw [(doc1 _ _).2,dV_key 6 (by decide),iV_cmp (by decide) (by decide)];decide
end
section
open Go.RowKit
theorem InL.as0 {w : World} {A : Option Addr} {cap : Nat} {vs : List V} (h : InL w A cap vs) : In w (.mk 0 0 [] vs []) ⟨0,0,none,0,0,A,vs.length,cap,none,0,0⟩ := by
 unfold InL In at *;rw [IsV] at h ⊢;obtain ⟨e1,e2,e3,e4,e5,h1',h2',h3,h4,h5,h6,h7,h8,h9,hb,hL,hF⟩ := h;exact ⟨rfl,e2,e3,e4,e5,by decide,by decide,h3,h4,h5,h6,h7,h8,h9,hb,hL,hF⟩
theorem list2_any (l m : List V) (A B : Option Addr) (ca cb : Nat) (w : World) (ha : InL w A ca l) (hb : InL w B cb m) :
 Calls Tryz.prog 19 #[.slice A l.length ca,.slice B m.length cb] w fun e w' => ∃ b,e = .returned (.bool b) ∧ (b = true ↔ l = m) ∧ Grow w w' := by
 have HC := hide (same_any (.mk 0 0 [] l []) (.mk 0 0 [] m []) w _ _ ha.as0 hb.as0);have hs : sameB (.mk 0 0 [] l []) (.mk 0 0 [] m []) = true ↔ l = m := by
  rw [sameB_iff];constructor
  ·intro h;injection h
  intro h;rw [h]
 have HS := hide hs;obtain ⟨b,hb⟩ : ∃ b,sameB (.mk 0 0 [] l []) (.mk 0 0 [] m []) = b := ⟨_,rfl⟩;rw [hb] at HC HS;clear ha hs hb;go_enter Tryz.func19,Tryz.ntmps19;go_wp2_with fail;refine HC.out.mono ?_;rintro e w2 ⟨rfl,hg⟩;have HG := hide hg;clear hg;go_wp2_with fail;go_ret;exact ⟨b,rfl,HS.out,HG.out⟩
theorem reply_any (a b : Rp) (A B : Option Addr) (ca cb : Nat) (w : World) (ha : InL w A ca a.docs) (hb : InL w B cb b.docs) :
 Calls Tryz.prog 51 #[.agg (rpCells a.e a.n A a.docs.length ca a.cursor),.agg (rpCells b.e b.n B b.docs.length cb b.cursor)] w fun e w' => ∃ x,e = .returned (.bool x) ∧ (x = true ↔ a = b) ∧ Grow w w' := by
 have HL := hide (fun w1 (hg : Grow w w1) => list2_any a.docs b.docs A B ca cb w1 (ha.grow hg) (hb.grow hg));clear ha hb;obtain ⟨e,n,docs,cu⟩ := a;obtain ⟨e',n',docs',cu'⟩ := b;dsimp only at HL ⊢;have HG0 := hide (((Grow.refl w).alloc (.cells (rpCells e n A docs.length ca cu) 31)).alloc (.cells (rpCells e' n' B docs'.length cb cu') 31));by_cases h1 : e = e'
 ·by_cases h2 : n = n'
  ·by_cases h3 : cu = cu'
   ·subst h1 h2 h3;have q1 : (e == e) = true := by simp
    have q2 : (n == n) = true := by simp
    have q3 : (cu == cu) = true := by simp
    go_enter Tryz.func51,Tryz.ntmps51;go_wp2_with fail;refine (HL.out _ HG0.out).mono ?_;rintro ee w2 ⟨x,rfl,hx,hg⟩;have HG := hide hg;have HX := hide hx;clear hg hx;go_wp2_with fail;go_ret;refine ⟨x,rfl,HX.out.trans ⟨fun h => (by rw [h]),fun h => (by injection h)⟩,HG0.out.trans HG.out⟩
   subst h1 h2;have q1 : (e == e) = true := by simp
   have q2 : (n == n) = true := by simp
   have q3 : (cu == cu') = false := by simp [h3]
   have HX := hide h3;clear h3;go_enter Tryz.func51,Tryz.ntmps51;go_wp2_with fail;go_ret;exact ⟨false,rfl,⟨fun h => (by cases h),fun h => by injection h with _ _ _ h;exact absurd h HX.out⟩,HG0.out⟩
  subst h1;have q1 : (e == e) = true := by simp
  have q2 : (n == n') = false := by simp [h2]
  have HX := hide h2;clear h2;go_enter Tryz.func51,Tryz.ntmps51;go_wp2_with fail;go_ret;exact ⟨false,rfl,⟨fun h => (by cases h),fun h => by injection h with _ h;exact absurd h HX.out⟩,HG0.out⟩
 have q1 : (e == e') = false := by simp [h1]
 have HX := hide h1;clear h1;go_enter Tryz.func51,Tryz.ntmps51;go_wp2_with fail;go_ret;exact ⟨false,rfl,⟨fun h => (by cases h),fun h => by injection h with h;exact absurd h HX.out⟩,HG0.out⟩
theorem psame_any (a b : Rp) (A B : Option Addr) (ca cb : Nat) (w : World) (ha : InL w A ca a.docs) (hb : InL w B cb b.docs) :
 Calls Tryz.prog 23 #[.agg (rpCells a.e a.n A a.docs.length ca a.cursor),.agg (rpCells b.e b.n B b.docs.length cb b.cursor)] w fun e w' => ∃ x,e = .returned (.bool x) ∧ (x = true ↔ a = b) ∧ Grow w w' := by
 have HG0 := hide (((Grow.refl w).alloc (.cells (rpCells a.e a.n A a.docs.length ca a.cursor) 31)).alloc (.cells (rpCells b.e b.n B b.docs.length cb b.cursor) 31));have HR := hide (reply_any a b A B ca cb _ (ha.grow HG0.out) (hb.grow HG0.out));clear ha hb;go_enter Tryz.func23,Tryz.ntmps23;go_wp2_with fail;refine HR.out.mono ?_;rintro ee w2 ⟨x,rfl,hx,hg⟩;have HG := hide hg;have HX := hide hx;clear hg hx;go_wp2_with fail;go_ret;exact ⟨x,rfl,HX.out,HG0.out.trans HG.out⟩
end
section
open Go.RowKit Go.Shelf
abbrev cNl (k n : Int) : Cv := ⟨k,n,none,0,0,none,0,0,none,0,0⟩
theorem cellresL {F : Func} {W : World} {vb : Nat} {tmps : Array Value} (i : Nat) (hF : F.results = #[ResultVar.cell i 27]) (h2 : tmps.getD i undef = .pointer (some ⟨vb,0,none⟩)) (c : Cv) (hv : Blk W vb 27 c.cells) :
 (results F tmps).run Tryz.prog W = .ok c.agg W := by
 have hvc := hv.cell;have h2' : tmps[i]?.getD undef = .pointer (some ⟨vb,0,none⟩) := by simpa using h2
 simp [results,hF,go_sem,h2',hvc]
theorem isv_int {C : Addr → Value → Prop} {n : Nat} (h : n < 18446744073709551616) : IsV C (iV n) (cNl 3 n) := by
 unfold iV;rw [IsV];exact ⟨rfl,rfl,rfl,rfl,rfl,by decide,by decide,h,by simp,by simp,by simp,by simp,by simp,by simp,⟨rfl,fun h => by simp at h⟩,fun i hi => by simp at hi,fun i hi => by simp at hi⟩
theorem lI_val (n : Nat) (k : Int) (hn : n ≤ 9223372036854775807) (hk : k = n) (w : World) : Calls Tryz.prog 10 #[.int .i64 k] w fun e w' => e = .returned (cNl 3 n).agg ∧ Grow w w' := by
 subst hk;have hwr : IntKind.u64.wrap (n : Int) = (n : Int) := IntWalk.u64_in _ (by omega);have HW := hide hwr;clear hwr;go_enter Tryz.func10,Tryz.ntmps10;go_wp2_with fail;exact bodyPost_ret (cellresL 2 rfl rfl (cNl 3 n) (Blk.new w _ _)) rfl ⟨rfl,(Grow.refl w).alloc _⟩
abbrev fcl (s : ByteArray) (c : Cv) : List Value := .string s :: c.cells.toList
abbrev InN (w w' : World) (v : V) (c : Cv) : Prop := IsV (AtW w' w.heap.size w'.heap.size) v c
theorem InN.in_ {w w' : World} {v : V} {c : Cv} (h : InN w w' v c) : In w' v c := IsV.mono (fun _ _ q => ⟨q.1,Nat.zero_le _,q.2.2⟩) _ _ h
theorem InN.flds {w0 w : World} {g n : Nat} {cs : Array Value} {f : List (ByteArray × V)} {xs : List Cv} (hl : f.length = xs.length) (hn : n = f.length) (hsm : f.length ≤ 64) (hs : ∀ x ∈ f,x.1.size ≤ 140737488355328) (hB : Blk w g 82 cs)
 (hc : ∀ i (hi : i < f.length) j v,(fcl f[i].1 (xs[i]'(by omega)))[j]? = some v → cs[i * 6 + j]? = some v) (h : ∀ i (hi : i < f.length),IsV (AtW w w0.heap.size w.heap.size) f[i].2 (xs[i]'(by omega))) (h0 : w0.heap.size ≤ g) : InN w0 w (.mk 8 0 [] [] f) ⟨8,0,none,0,0,none,0,0,some ⟨g,0,none⟩,n,n⟩ := by
 have hlt := hB.lt;subst hn;unfold InN;rw [IsV];refine ⟨rfl,rfl,rfl,rfl,rfl,by decide,by decide,by decide,by simp,by simp,by simp,by simp,Nat.le_refl _,by omega,⟨rfl,fun h => by simp at h⟩,fun i hi => by simp at hi,fun i hi => ?_⟩;have hcell : ∀ j v,(fcl f[i].1 (xs[i]'(by omega)))[j]? = some v → w.cell? ⟨g,0 + i * 6 + j,none⟩ = some v := fun j v hv => by
  rw [Nat.zero_add,hB.cell];exact hc i hi j v hv
 exact ⟨g,0,xs[i]'(by omega),rfl,⟨hcell 0 _ rfl,h0,hlt⟩,hs _ (List.getElem_mem hi),⟨⟨hcell 1 _ rfl,h0,hlt⟩,⟨hcell 2 _ rfl,h0,hlt⟩,⟨hcell 3 _ rfl,h0,hlt⟩,⟨hcell 4 _ rfl,h0,hlt⟩,⟨hcell 5 _ rfl,h0,hlt⟩⟩,h i hi⟩
abbrev dcv (A : Option Addr) (n : Nat) : Cv := ⟨8,0,none,0,0,none,0,0,A,n,n⟩
theorem lDoc_val (i x : Nat) (a b : Int) (ha : a = i) (hb : b = x) (hi : i ≤ 9223372036854775807) (hx : x ≤ 9223372036854775807) (w : World) :
 Calls Tryz.prog 9 #[.int .i64 a,.int .i64 b] w fun e w' => ∃ A,e = .returned (dcv A 2).agg ∧ InN w w' (dV i x) (dcv A 2) ∧ Grow w w' := by
 have HI1 := hide (fun W => lI_val i a hi ha W);have HI2 := hide (fun W => lI_val x b hx hb W);have HG0 := hide ((Grow.refl w).alloc (.cells Cv.zero.cells 27));have HB0 := hide (Blk.new w 27 Cv.zero.cells);clear ha hb;go_enter Tryz.func9,Tryz.ntmps9;go_wp2_with fail;refine (HI1.out _).mono ?_;rintro e w1 ⟨rfl,hg1⟩;have HG1 := hide (HG0.out.trans hg1);have HB1 := hide (HB0.out.grow hg1);clear hg1;go_wp2_with fail;refine (HI2.out _).mono ?_;rintro e w2 ⟨rfl,hg2⟩;have HG2 := hide (HG1.out.trans hg2);have HB2 := hide (HB1.out.grow hg2);have HB3 := hide ((HB2.out).alloc (.cells #[.string ⟨#[95,105,100]⟩,.int .i64 3,.int .u64 i,.slice none 0 0,.slice none 0 0,.slice none 0 0,.string ⟨#[120]⟩,.int .i64 3,.int .u64 x,.slice none 0 0,.slice none 0 0,.slice none 0 0] 82))
 have HF3 := hide (Blk.new w2 82 #[.string ⟨#[95,105,100]⟩,.int .i64 3,.int .u64 i,.slice none 0 0,.slice none 0 0,.slice none 0 0,.string ⟨#[120]⟩,.int .i64 3,.int .u64 x,.slice none 0 0,.slice none 0 0,.slice none 0 0]);have HG3 := hide (HG2.out.alloc (.cells #[.string ⟨#[95,105,100]⟩,.int .i64 3,.int .u64 i,.slice none 0 0,.slice none 0 0,.slice none 0 0,.string ⟨#[120]⟩,.int .i64 3,.int .u64 x,.slice none 0 0,.slice none 0 0,.slice none 0 0] 82));have hbc := HB3.out.cell;have hbf := HB3.out.frozen;clear hg2;go_wp2_with fail;clear hbc hbf;generalize w2.alloc (.cells #[.string ⟨#[95,105,100]⟩,.int .i64 3,.int .u64 i,.slice none 0 0,.slice none 0 0,.slice none 0 0,.string ⟨#[120]⟩,.int .i64 3,.int .u64 x,.slice none 0 0,.slice none 0 0,.slice none 0 0] 82) = W3 at HB3 HF3 HG3 ⊢;have hne : w2.heap.size ≠ w.heap.size := by have := HB2.out.lt;omega
 refine bodyPost_ret (cellresL 4 rfl rfl (dcv (some ⟨w2.heap.size,0,none⟩) 2) (((((HB3.out.set_ 0 _).set_ 1 _).set_ 2 _).set_ 3 _).set_ 4 _)) rfl ⟨_,rfl,?_,((((HG3.out.setCell (by simp) _).setCell (by simp) _).setCell (by simp) _).setCell (by simp) _).setCell (by simp) _⟩;refine InN.flds (f := [(idS,iV i),(nX,iV x)]) (xs := [cNl 3 i,cNl 3 x]) rfl rfl (by simp) (fun y hy => ?_) (((((HF3.out.far (p := ⟨w.heap.size,0,none⟩) hne _).far (p := ⟨w.heap.size,1,none⟩) hne _).far (p := ⟨w.heap.size,2,none⟩) hne _).far (p := ⟨w.heap.size,3,none⟩) hne _).far (p := ⟨w.heap.size,4,none⟩) hne _) (fun k hk j v hv => ?_) (fun k hk => ?_) HG2.out.size
 ·simp at hy;rcases hy with rfl | rfl
  ·show idS.size ≤ _;decide
  show nX.size ≤ _;decide
 ·have hk2 : k = 0 ∨ k = 1 := by simp at hk;omega
  rcases hk2 with rfl | rfl
  ·rcases j with _ | _ | _ | _ | _ | _ | j <;> first | exact hv | simp at hv
  rcases j with _ | _ | _ | _ | _ | _ | j <;> first | exact hv | simp at hv
 have hk2 : k = 0 ∨ k = 1 := by simp at hk;omega
 rcases hk2 with rfl | rfl
 ·exact isv_int (by omega)
 exact isv_int (by omega)
end
section
open Go.RowKit Go.Shelf Go.ChangeMaps
section
variable {P : Program} {w : World}
theorem run_lookup_ok (t kt et : TypeId) (ht : P.underlying t = some (.map kt et)) (hk : P.underlying kt = some (.int .i64)) (g : Nat) (es : Array MapEntry) (clock : Nat) (h : w.heap[g]? = some (.map es clock)) (k : Int) (i : Nat) (v : Value)
 (hf : Instr.findNow (.int .i64) (.int .i64 k) es.toList 0 = some (some (i,v))) :
 (Instr.lookup t (.map (some g)) (.int .i64 k) true).run P w = .ok (.tuple #[v,.bool true]) w := by
 unfold Instr.lookup;simp only [Sem.run_bind,run_underlying ht,Result.andThen_ok,MapKept.run_getObj_map h,run_checkKey_int kt hk,run_findKey_lit kt hk k _ _ hf,Sem.run_pure];rfl
theorem run_lookup_no (t kt et : TypeId) (z : Value) (ht : P.underlying t = some (.map kt et)) (hk : P.underlying kt = some (.int .i64)) (hz : Sem.run P (zeroValue et) w = .ok z w) (g : Nat) (es : Array MapEntry) (clock : Nat) (h : w.heap[g]? = some (.map es clock)) (k : Int)
 (hf : Instr.findNow (.int .i64) (.int .i64 k) es.toList 0 = some none) :
 (Instr.lookup t (.map (some g)) (.int .i64 k) true).run P w = .ok (.tuple #[z,.bool false]) w := by
 unfold Instr.lookup;simp only [Sem.run_bind,run_underlying ht,Result.andThen_ok,MapKept.run_getObj_map h,run_checkKey_int kt hk,run_findKey_lit kt hk k _ _ hf,Sem.run_pure];rw [hz];rfl
end
theorem under_do : Tryz.prog.underlying 90 = some (.map 3 88) := by kernel_rfl
theorem under_rint : Tryz.prog.underlying 3 = some (.int .i64) := by kernel_rfl
theorem make_do (w : World) : (Instr.makeMap 90 none).run Tryz.prog w = .ok (.map (some w.heap.size)) (w.alloc (.map #[] 0)) := by kernel_rfl
def reqs : Array MapEntry := #[{ key := .int .i64 1,val := .agg #[.func (.func 79) #[] #[]],born := 0 },{ key := .int .i64 2,val := .agg #[.func (.func 80) #[] #[]],born := 1 },{ key := .int .i64 3,val := .agg #[.func (.func 81) #[] #[]],born := 2 },{ key := .int .i64 4,val := .agg #[.func (.func 81) #[] #[]],born := 3 },{ key := .int .i64 5,val := .agg #[.func (.func 82) #[] #[]],born := 4 },{ key := .int .i64 6,val := .agg #[.func (.func 83) #[] #[]],born := 5 },{ key := .int .i64 7,val := .agg #[.func (.func 84) #[] #[]],born := 6 },{ key := .int .i64 8,val := .agg #[.func (.func 85) #[] #[]],born := 7 },{ key := .int .i64 9,val := .agg #[.func (.func 86) #[] #[]],born := 8 },{ key := .int .i64 10,val := .agg #[.func (.func 87) #[] #[]],born := 9 }]
theorem requests_any (w : World) : Calls Tryz.prog 36 #[] w fun e w' => ∃ g,e = .returned (.map (some g)) ∧ w.heap.size ≤ g ∧ w'.heap[g]? = some (.map reqs 10) ∧ Grow w w' := by
 have hmm := make_do
 have HI0 := hide (show (w.alloc (.map #[] 0)).heap[w.heap.size]? = some (.map #[] 0) from heap_alloc_new _ _);have HG0 := hide ((Grow.refl w).alloc (.map #[] 0));go_enter Tryz.func36,Tryz.ntmps36;go_wp2_with (first
  | (refine wpList_insert_lit rfl (.tmp 1) (.const (.int .i64 1)) (.tmp 2) 90 3 88 rfl under_do under_rint w.heap.size _ 0 rfl 1 rfl HI0.out (by rfl) ?_;intro w1 hi1 hg1;have HI1 := hide hi1;have HG1 := hide (HG0.out.grown hg1 (fun q hq => by injection hq with hq;omega));clear hi1 hg1)
  | (refine wpList_insert_lit rfl (.tmp 1) (.const (.int .i64 2)) (.tmp 3) 90 3 88 rfl under_do under_rint w.heap.size _ 1 rfl 2 rfl HI1.out (by rfl) ?_;intro w2 hi2 hg2;have HI2 := hide hi2;have HG2 := hide (HG1.out.grown hg2 (fun q hq => by injection hq with hq;omega));clear hi2 hg2)
  | (refine wpList_insert_lit rfl (.tmp 1) (.const (.int .i64 3)) (.tmp 4) 90 3 88 rfl under_do under_rint w.heap.size _ 2 rfl 3 rfl HI2.out (by rfl) ?_;intro w3 hi3 hg3;have HI3 := hide hi3;have HG3 := hide (HG2.out.grown hg3 (fun q hq => by injection hq with hq;omega));clear hi3 hg3)
  | (refine wpList_insert_lit rfl (.tmp 1) (.const (.int .i64 4)) (.tmp 5) 90 3 88 rfl under_do under_rint w.heap.size _ 3 rfl 4 rfl HI3.out (by rfl) ?_;intro w4 hi4 hg4;have HI4 := hide hi4;have HG4 := hide (HG3.out.grown hg4 (fun q hq => by injection hq with hq;omega));clear hi4 hg4)
  | (refine wpList_insert_lit rfl (.tmp 1) (.const (.int .i64 5)) (.tmp 6) 90 3 88 rfl under_do under_rint w.heap.size _ 4 rfl 5 rfl HI4.out (by rfl) ?_;intro w5 hi5 hg5;have HI5 := hide hi5;have HG5 := hide (HG4.out.grown hg5 (fun q hq => by injection hq with hq;omega));clear hi5 hg5)
  | (refine wpList_insert_lit rfl (.tmp 1) (.const (.int .i64 6)) (.tmp 7) 90 3 88 rfl under_do under_rint w.heap.size _ 5 rfl 6 rfl HI5.out (by rfl) ?_;intro w6 hi6 hg6;have HI6 := hide hi6;have HG6 := hide (HG5.out.grown hg6 (fun q hq => by injection hq with hq;omega));clear hi6 hg6)
  | (refine wpList_insert_lit rfl (.tmp 1) (.const (.int .i64 7)) (.tmp 8) 90 3 88 rfl under_do under_rint w.heap.size _ 6 rfl 7 rfl HI6.out (by rfl) ?_;intro w7 hi7 hg7;have HI7 := hide hi7;have HG7 := hide (HG6.out.grown hg7 (fun q hq => by injection hq with hq;omega));clear hi7 hg7)
  | (refine wpList_insert_lit rfl (.tmp 1) (.const (.int .i64 8)) (.tmp 9) 90 3 88 rfl under_do under_rint w.heap.size _ 7 rfl 8 rfl HI7.out (by rfl) ?_;intro w8 hi8 hg8;have HI8 := hide hi8;have HG8 := hide (HG7.out.grown hg8 (fun q hq => by injection hq with hq;omega));clear hi8 hg8)
  | (refine wpList_insert_lit rfl (.tmp 1) (.const (.int .i64 9)) (.tmp 10) 90 3 88 rfl under_do under_rint w.heap.size _ 8 rfl 9 rfl HI8.out (by rfl) ?_;intro w9 hi9 hg9;have HI9 := hide hi9;have HG9 := hide (HG8.out.grown hg9 (fun q hq => by injection hq with hq;omega));clear hi9 hg9)
  | (refine wpList_insert_lit rfl (.tmp 1) (.const (.int .i64 10)) (.tmp 11) 90 3 88 rfl under_do under_rint w.heap.size _ 9 rfl 10 rfl HI9.out (by rfl) ?_;intro w10 hi10 hg10;have HI10 := hide hi10;have HG10 := hide (HG9.out.grown hg10 (fun q hq => by injection hq with hq;omega));clear hi10 hg10))
 go_ret;exact ⟨w.heap.size,rfl,Nat.le_refl _,HI10.out,HG10.out⟩
theorem reqs_no (k : Int) (h : ¬ (1 ≤ k ∧ k ≤ 10)) : Instr.findNow (.int .i64) (.int .i64 k) reqs.toList 0 = some none := by
 have h1 : (k == 1) = false := by simp;omega
 have h2 : (k == 2) = false := by simp;omega
 have h3 : (k == 3) = false := by simp;omega
 have h4 : (k == 4) = false := by simp;omega
 have h5 : (k == 5) = false := by simp;omega
 have h6 : (k == 6) = false := by simp;omega
 have h7 : (k == 7) = false := by simp;omega
 have h8 : (k == 8) = false := by simp;omega
 have h9 : (k == 9) = false := by simp;omega
 have h10 : (k == 10) = false := by simp;omega
 unfold reqs;simp [Instr.findNow,Instr.sameNow,h1,h2,h3,h4,h5,h6,h7,h8,h9,h10]
end
section
open Go.RowKit
theorem FoundC.split {w : World} {docs : List V} {k : V} {e : Ending} {w' : World} (h : FoundC w docs k e w') : Grow w w' ∧ (((ofK k).2 ≠ 0 ∧ e = .panicked (thrown (ofK k).2)) ∨ ((ofK k).2 = 0 ∧ docF docs (ofK k).1 = false ∧ e = .panicked (thrown 17)) ∨
 ∃ D,(ofK k).2 = 0 ∧ docF docs (ofK k).1 = true ∧ docN docs (ofK k).1 = D ∧ D < docs.length ∧ e = .returned (.int .i64 (D : Nat))) := by
 obtain ⟨hg,h | h | ⟨h1,h2,h3⟩⟩ := h
 ·exact ⟨hg,.inl h⟩
 ·exact ⟨hg,.inr (.inl h)⟩
 exact ⟨hg,.inr (.inr ⟨_,h1,h2,rfl,docF_lt h2,h3⟩)⟩
theorem cell_far {w : World} {a : Addr} {b o : Nat} {u : Value} (h : a.block ≠ b) : (w.setCell ⟨b,o,none⟩ u).cell? a = w.cell? a := World.cell?_setCell_far _ _ _ _ (fun e => h e.symm)
theorem get_m (N B mb cap : Nat) (A : Option Addr) (es : List Cc) (st : List Co) (q : Rq) (ck cl ch cx : Cv) (w : World) (h : Mach w B mb A cap es st q ck cl ch cx) (hok : StOk N st) (hN : N ≤ 1000000) (hk : q.key.count ≤ 20000) (hT : Tabs w) :
 Calls Tryz.prog 83 #[.pointer (some ⟨mb,0,none⟩)] w (MethC w B mb (getP st q)) := by
 have hs : st.length ≤ 140737488355328 := Mach.short hok;have HM := hide h;have HOK := hide hok
 cases hf : plF (cnm st) q.coll with
 | false =>
  have HC := hide (coll_m_no h hs hf);have HF := hide hf;clear h hok hf;go_enter Tryz.func83,Tryz.ntmps83;go_wp2_with fail;refine HC.out.mono ?_;rintro e w1 ⟨rfl,hg⟩;go_wp2_with fail;exact ⟨rfl,MethC.err (hg.below.mono HM.out.le) (by unfold getP;rw [if_pos HF.out])⟩
 | true =>
  obtain ⟨gb,hA,hgb,hgl,hne⟩ := h.gb hf;obtain ⟨⟨nm,dA,dn,dc,xA,xn,xc⟩,he,hco,hcell⟩ := h.co hf hA;obtain ⟨c,hc⟩ : ∃ c,coAt st q.coll = c := ⟨_,rfl⟩;have hmem := (coAt_mem hf).2.1;have hlt := (coAt_mem hf).2.2.2;have hlt0 : plN (cnm st) q.coll < es.length := by rw [h.el];exact hlt
  rw [hc] at hco hmem;have hcok := hok.co c hmem;have hnd := hcok.nd;have hnx := hcok.nx;have HC := hide (coll_m h hs hf hA);have HF := hide hf;have HGB := hide hgb;have HNE := hide hne;have HGL := hide hgl;have HHA := hide hA;have HHE := hide he;have HCO := hide hco;have HCOK := hide hcok;have HCELL := hide hcell;have HCC := hide hc;obtain ⟨P,hP⟩ : ∃ P,plN (cnm st) q.coll = P := ⟨_,rfl⟩;have HP := hide hP;rw [hP] at HC HHE HCELL hlt hlt0;have HLT := hide hlt;have HLT0 := hide hlt0;have HFO := hide (fun (w1 : World) (hg : Grow w w1) => found_m (h.grow hg) (hco.grow h.le hg) (fun i v hi => (hg.below.cell (p := ⟨gb,P * 3 + i,none⟩) hgl).trans (HCELL.out i v hi)) (Nat.lt_of_lt_of_le hgl hg.size) (by omega) (fun d hd => (hcok.docs d hd).count) hk (hT.grow hg))
  have HCD := hide (fun (w1 : World) (hg : Grow w w1) => (hg.below.cell (p := ⟨gb,P * 3 + 1,none⟩) hgl).trans ((HCELL.out 1 (.slice dA dn dc) rfl).trans (by rw [show dn = c.docs.length from hco.dn])));clear h hok hf hA he hco hcell hc hcok hmem hP hlt hlt0 hk hT;go_enter Tryz.func83,Tryz.ntmps83;go_wp2_with fail;refine HC.out.mono ?_;rintro e w1 ⟨rfl,hg⟩;have HG := hide hg;clear hg;go_wp2_with fail;refine wp_region_held_drew (S := fun w' => w'.cell? ⟨gb,P * 3 + 1,none⟩ = some (.slice dA c.docs.length dc)) (by kernel_rfl) (HCD.out _ HG.out.drew) (fun hHeld => ?_);have HG1 := hide HG.out.drew;generalize w1.drew = W at HG1 hHeld ⊢;refine wpAnyH_take (i := 0) (v := ?_) (by simp only [List.getElem?_toArray,List.getElem?_cons_succ,List.getElem?_cons_zero];rfl) (by kernel_rfl) (by kernel_rfl) (by kernel_rfl) (fun _ _ _ h => panic_put h) (Or.inl ⟨by rfl,?_⟩) (by assumption) ?_
  rotate_left 1
  ·(intro w hSw;(try dsimp only at hSw);go_simp;try with_reducible rfl)
  try simp only [ly_]
  refine wpAnyH_take (i := 1) (v := ?_) (by simp only [List.getElem?_toArray,List.getElem?_cons_succ,List.getElem?_cons_zero];rfl) (by kernel_rfl) (by kernel_rfl) (by kernel_rfl) (fun _ _ _ h => panic_put h) (Or.inl ⟨by rfl,?_⟩) (by assumption) ?_
  rotate_left 1
  ·(intro w hSw;(try dsimp only at hSw);go_simp;try with_reducible rfl)
  try simp only [ly_]
  refine wpAnyH_take (i := 2) (v := ?_) (by simp only [List.getElem?_toArray,List.getElem?_cons_succ,List.getElem?_cons_zero];rfl) (by kernel_rfl) (by kernel_rfl) (by kernel_rfl) (fun _ _ _ h => panic_put h) (Or.inl ⟨by rfl,?_⟩) (by assumption) ?_
  rotate_left 1
  ·(intro w hSw;(try dsimp only at hSw);go_simp;try with_reducible rfl)
  try simp only [ly_]
  refine wpAnyH_take (i := 3) (v := ?_) (by simp only [List.getElem?_toArray,List.getElem?_cons_succ,List.getElem?_cons_zero];rfl) (by kernel_rfl) (by kernel_rfl) (by kernel_rfl) (fun _ _ _ h => panic_put h) (Or.inl ⟨by rfl,?_⟩) (by assumption) ?_
  rotate_left 1
  ·(intro w hSw;(try dsimp only at hSw);go_simp;try with_reducible rfl)
  try simp only [ly_]
  refine wpAnyH_take (i := 4) (v := ?_) (by simp only [List.getElem?_toArray,List.getElem?_cons_succ,List.getElem?_cons_zero];rfl) (by kernel_rfl) (by kernel_rfl) (by kernel_rfl) (fun _ _ _ h => panic_put h) (Or.inl ⟨by rfl,?_⟩) (by assumption) ?_
  rotate_left 1
  ·(intro w hSw;(try dsimp only at hSw);go_simp;try with_reducible rfl)
  try simp only [ly_]
  refine wpAnyH_take (i := 5) (v := ?_) (by simp only [List.getElem?_toArray,List.getElem?_cons_succ,List.getElem?_cons_zero];rfl) (by kernel_rfl) (by kernel_rfl) (by kernel_rfl) (fun _ _ _ h => panic_put h) (Or.inl ⟨by rfl,?_⟩) (by assumption) ?_
  rotate_left 1
  ·(intro w hSw;(try dsimp only at hSw);go_simp;try with_reducible rfl)
  try simp only [ly_]
  refine wpAnyH_take (i := 6) (v := ?_) (by simp only [List.getElem?_toArray,List.getElem?_cons_succ,List.getElem?_cons_zero];rfl) (by kernel_rfl) (by kernel_rfl) (by kernel_rfl) (fun _ _ _ h => panic_put h) (Or.inl ⟨by rfl,?_⟩) (by assumption) ?_
  rotate_left 1
  ·(intro w hSw;(try dsimp only at hSw);go_simp;try with_reducible rfl)
  try simp only [ly_]
  refine r1_ 7 (fun K hK => ?_);go_simp;go_at_call 123;refine (HFO.out W HG1.out).mono ?_;rintro ee w3 hfo;obtain ⟨hg3,⟨hz,rfl⟩ | ⟨hz,hdf,rfl⟩ | ⟨D,hz,hdf,hD,hDl,rfl⟩⟩ := hfo.split
  ·exact ⟨rfl,MethC.err (((HG1.out.trans hg3)).below.mono HM.out.le) (by unfold getP;rw [if_neg (by rw [HF.out];decide),if_pos hz])⟩
  ·exact ⟨rfl,MethC.err (((HG1.out.trans hg3)).below.mono HM.out.le) (by unfold getP;rw [if_neg (by rw [HF.out];decide),if_neg (by simpa using hz),HCC.out,if_pos hdf])⟩
  have HG3 := hide (HG1.out.trans hg3);have hDi : (D : Int) < (c.docs.length : Int) := by omega
  obtain ⟨db,y,hdA,hdb,hBd,hyv,d0,d1,d2,d3,d4⟩ := (HCO.out.grow HM.out.le HG3.out).elem D hDl;dsimp only at hdA;subst hdA;have HYV := hide hyv;have HDL := hide hDl;have HDD := hide hD;have HDF := hide hdf;have HZ := hide hz;clear hyv hD hdf hz hfo;refine hk_ hK (HCD.out _ HG3.out) (fun hHeld => ?_);clear hK K;refine wpAnyH_take (i := 8) (v := ?_) (by simp only [List.getElem?_toArray,List.getElem?_cons_succ,List.getElem?_cons_zero];rfl) (by kernel_rfl) (by kernel_rfl) (by kernel_rfl) (fun _ _ _ h => panic_put h) (Or.inl ⟨by rfl,?_⟩) (by assumption) ?_
  rotate_left 1
  ·(intro w hSw;(try dsimp only at hSw);go_simp;try with_reducible rfl)
  try simp only [ly_]
  refine r1_ 9 (fun K hK => ?_);go_simp;refine hK.out _ _ hHeld (fun hHeld => ?_);clear d0 d1 d2 d3 d4;clear hK K
  try simp only [ly_]
  refine r1_ 10 (fun K hK => ?_);go_simp;have HM3 := hide (HM.out.grow HG3.out);have HBA := hide (HM3.out.blk.alloc (.cells y.cells 27));have hbf := HBA.out.frozen;have hbc := HBA.out.cell;refine hk_ hK (HCD.out _ (HG3.out.alloc _)) (fun hHeld => ?_);clear hK K;refine wpAnyH_take (i := 11) (v := ?_) (by simp only [List.getElem?_toArray,List.getElem?_cons_succ,List.getElem?_cons_zero];rfl) (by kernel_rfl) (by kernel_rfl) (by kernel_rfl) (fun _ _ _ h => panic_put h) (Or.inl ⟨by rfl,?_⟩) (by assumption) ?_
  rotate_left 1
  ·(intro w hSw;(try dsimp only at hSw);go_simp;try with_reducible rfl)
  try simp only [ly_]
  refine wpAnyH_take (i := 12) (v := ?_) (by simp only [List.getElem?_toArray,List.getElem?_cons_succ,List.getElem?_cons_zero];rfl) (by kernel_rfl) (by kernel_rfl) (by kernel_rfl) (fun _ _ _ h => panic_put h) (Or.inl ⟨by rfl,?_⟩) (by assumption) ?_
  rotate_left 1
  ·(intro w hSw;(try dsimp only at hSw);go_simp;try with_reducible rfl)
  try simp only [ly_]
  refine wpAnyH_take (i := 13) (v := ?_) (by simp only [List.getElem?_toArray,List.getElem?_cons_succ,List.getElem?_cons_zero];rfl) (by kernel_rfl) (by kernel_rfl) (by kernel_rfl) (fun _ _ _ h => panic_put h) (Or.inl ⟨by rfl,?_⟩) (by assumption) ?_
  rotate_left 1
  ·(intro w hSw;(try dsimp only at hSw);go_simp;try with_reducible rfl)
  try simp only [ly_]
  refine r1_ 14 (fun K hK => ?_);go_simp;refine hk_ hK ((cell_far (by show gb ≠ mb;exact HNE.out)).trans hHeld) (fun hHeld => ?_);clear hK K;refine wpAnyH_done (by kernel_rfl) ?_ _;go_wp2_with fail;go_end0;have HB := HBA.out.set_ 29 (.slice (some ⟨w3.heap.size,0,none⟩) 1 1);have hk := Kept.set (S := fun k => k = mb) (Kept.refl _ (w3.alloc (.cells y.cells 27))) (p := ⟨mb,29,none⟩) rfl (.slice (some ⟨w3.heap.size,0,none⟩) 1 1);refine MethC.ok (st' := st) (n := 0) (docs := [c.docs[D]'HDL.out]) ((HG3.out.alloc _).below.mono HM.out.le |>.trans (hk.below (Nat.le_trans HM3.out.le (by simp)) (fun k hk => hk ▸ HM.out.lo))) ?_ HB.lt (A := A) (cap := cap) (dA := some ⟨w3.heap.size,0,none⟩) (dc := 1) (HB.cell 0) ?_ (HB.cell 28) (HB.cell 29) ?_
  ·unfold getP;rw [if_neg (by rw [HF.out];decide),if_neg (by simpa using HZ.out),HCC.out,if_neg (by rw [HDF.out];decide),HDD.out,List.getD_eq_getElem?_getD,List.getElem?_eq_getElem HDL.out];rfl
  ·exact HM3.out.finish ((Kept.grow ((Grow.refl w3).alloc _)).trans hk) (HOK.out.dl hN)
  exact one_list HYV.out HM3.out.le hk (fun k hk => hk ▸ HM.out.lo) (fun e => by have := HM3.out.lt;omega)
theorem take_m (N B mb cap : Nat) (A : Option Addr) (es : List Cc) (st : List Co) (q : Rq) (ck cl ch cx : Cv) (w : World) (h : Mach w B mb A cap es st q ck cl ch cx) (hok : StOk N st) (hN : N ≤ 1000000) (hk : q.key.count ≤ 20000) (hT : Tabs w) :
 Calls Tryz.prog 82 #[.pointer (some ⟨mb,0,none⟩)] w (MethC w B mb (takeP st q)) := by
 have hs : st.length ≤ 140737488355328 := Mach.short hok;have HM := hide h;have HOK := hide hok
 cases hf : plF (cnm st) q.coll with
 | false =>
  have HC := hide (coll_m_no h hs hf);have HF := hide hf;clear h hok hf;go_enter Tryz.func82,Tryz.ntmps82;go_wp2_with fail;refine HC.out.mono ?_;rintro e w1 ⟨rfl,hg⟩;go_wp2_with fail;exact ⟨rfl,MethC.err (hg.below.mono HM.out.le) (by unfold takeP;rw [if_pos HF.out])⟩
 | true =>
  obtain ⟨gb,hA,hgb,hgl,hne⟩ := h.gb hf;obtain ⟨⟨nm,dA,dn,dc,xA,xn,xc⟩,he,hco,hcell⟩ := h.co hf hA;obtain ⟨c,hc⟩ : ∃ c,coAt st q.coll = c := ⟨_,rfl⟩;have hmem := (coAt_mem hf).2.1;have hlt := (coAt_mem hf).2.2.2;have hlt0 : plN (cnm st) q.coll < es.length := by rw [h.el];exact hlt
  rw [hc] at hco hmem;have hcok := hok.co c hmem;have hnd := hcok.nd;have hnx := hcok.nx;have HC := hide (coll_m h hs hf hA);have HF := hide hf;have HGB := hide hgb;have HNE := hide hne;have HGL := hide hgl;have HHA := hide hA;have HHE := hide he;have HCO := hide hco;have HCOK := hide hcok;have HCELL := hide hcell;have HCC := hide hc;obtain ⟨P,hP⟩ : ∃ P,plN (cnm st) q.coll = P := ⟨_,rfl⟩;have HP := hide hP;rw [hP] at HC HHE HCELL hlt hlt0;have HLT := hide hlt;have HLT0 := hide hlt0;have HFO := hide (fun (w1 : World) (hg : Grow w w1) => found_m (h.grow hg) (hco.grow h.le hg) (fun i v hi => (hg.below.cell (p := ⟨gb,P * 3 + i,none⟩) hgl).trans (HCELL.out i v hi)) (Nat.lt_of_lt_of_le hgl hg.size) (by omega) (fun d hd => (hcok.docs d hd).count) hk (hT.grow hg))
  have HCD := hide (fun (w1 : World) (hg : Grow w w1) => (hg.below.cell (p := ⟨gb,P * 3 + 1,none⟩) hgl).trans ((HCELL.out 1 (.slice dA dn dc) rfl).trans (by rw [show dn = c.docs.length from hco.dn])));clear h hok hf hA he hco hcell hc hcok hmem hP hlt hlt0 hk hT;go_enter Tryz.func82,Tryz.ntmps82;go_wp2_with fail;refine HC.out.mono ?_;rintro e w1 ⟨rfl,hg⟩;have HG := hide hg;clear hg;go_wp2_with fail;refine (HFO.out w1 HG.out).mono ?_;rintro ee w3 hfo;obtain ⟨hg3,⟨hz,rfl⟩ | ⟨hz,hdf,rfl⟩ | ⟨D,hz,hdf,hD,hDl,rfl⟩⟩ := hfo.split
  ·go_wp2_with fail;exact ⟨rfl,MethC.err (((HG.out.trans hg3)).below.mono HM.out.le) (by unfold takeP;rw [if_neg (by rw [HF.out];decide),if_pos hz])⟩
  ·go_wp2_with fail;exact ⟨rfl,MethC.err (((HG.out.trans hg3)).below.mono HM.out.le) (by unfold takeP;rw [if_neg (by rw [HF.out];decide),if_neg (by simpa using hz),HCC.out,if_pos hdf])⟩
  have HG3 := hide (HG.out.trans hg3);have hDi : (D : Int) < (c.docs.length : Int) := by omega
  have hDw : IntKind.i64.wrap ((D : Int) + 1) = (D : Int) + 1 := by rw [IntKind.wrap_i64];omega
  have HCO3 := hide (HCO.out.grow HM.out.le HG3.out);obtain ⟨db,y,hdA,hdb,hBd,hyv,d0,d1,d2,d3,d4⟩ := HCO3.out.elem D hDl;dsimp only at hdA;subst hdA;have HYV := hide hyv;have HDL := hide hDl;have HDD := hide hD;have HDF := hide hdf;have HZ := hide hz;have HM3 := hide (HM.out.grow HG3.out);have hcd := HCD.out _ HG3.out;have HBA := hide (HM3.out.blk.alloc (.cells y.cells 27));have hbf := HBA.out.frozen;have hbc := HBA.out.cell;have hgl3 : gb < w3.heap.size := Nat.lt_of_lt_of_le HGL.out HG3.out.size;have hgm : gb ≠ mb := HNE.out;have hcd5 := (cell_far (w := w3.alloc (.cells y.cells 27)) (a := ⟨gb,P * 3 + 1,none⟩) (b := mb) (o := 29) (u := .slice (some ⟨w3.heap.size,0,none⟩) 1 1) hgm).trans (((Grow.refl w3).alloc (.cells y.cells 27)).below.cell (p := ⟨gb,P * 3 + 1,none⟩) hgl3 |>.trans hcd);obtain ⟨cs,hrow,htwo⟩ := HCO3.out.docs;dsimp only at hrow
  obtain ⟨cur,hgbk,-⟩ := HM3.out.gblk HHA.out (by have := HLT.out;omega);have hnm := ownT_blk hrow HM3.out.blk (by decide);have hng := ownT_blk hrow hgbk (by decide);have hkS := Kept.set (S := fun k => k = mb) (Kept.grow (S := fun k => k = mb) ((Grow.refl w3).alloc (.cells y.cells 27))) (p := ⟨mb,29,none⟩) rfl (.slice (some ⟨w3.heap.size,0,none⟩) 1 1);have HDEL := hide (deleteV_any B c.docs.length D dc (some ⟨db,0,none⟩) (cellsV cs) _ (cellsV_one cs) (own_kept hrow hkS (fun g hg hs => hnm (by rw [← hs];exact hg))) hDl (by omega));have HKS := hide hkS;have HROW := hide hrow;have HTWO := hide htwo;have HNM := hide hnm;have HNG := hide hng;have HGK := hide ((hgbk.alloc (.cells y.cells 27)).far (p := ⟨mb,29,none⟩) hgm (.slice (some ⟨w3.heap.size,0,none⟩) 1 1))
  have HKA := hide (Kept.set (S := Sx mb gb (some ⟨db,0,none⟩)) (Kept.refl _ (w3.alloc (.cells y.cells 27))) (p := ⟨mb,29,none⟩) (.inl rfl) (.slice (some ⟨w3.heap.size,0,none⟩) 1 1));have HBS := hide (HBA.out.set_ 29 (.slice (some ⟨w3.heap.size,0,none⟩) 1 1));have HCD5 := hide hcd5;clear hyv hD hdf hz hfo hg3 hrow htwo hgbk hnm hng hkS;go_wp2_with fail;clear d0 d1 d2 d3 d4 hbf hbc hcd hcd5;refine HDEL.out.mono ?_;rintro ee w4 ⟨rfl,hown,hgr⟩;have hdb4 : ∀ k,Value.ownBlock (.slice (some ⟨db,0,none⟩) c.docs.length dc) = some k → k = db := fun k hk => by cases hk;rfl
  have HGK4 := hide (HGK.out.own hgr (fun k hk e => HNG.out (by rw [← e,hdb4 k hk];rfl)));have HBS4 := hide (HBS.out.own hgr (fun k hk e => HNM.out (by rw [← e,hdb4 k hk];rfl)));have hgf4 := HGK4.out.frozen;have hcd4 := (hgr.cell HCD5.out (fun e => HNG.out (by rw [ownBlock_slice] at e;exact e.symm)));have HOWN := hide hown;have HGR := hide hgr;clear hown hgr;go_wp2_with fail;go_end0;have hk4 : Kept (fun k => k = mb ∨ ablk (some ⟨db,0,none⟩) = some k) w3 w4 := (HKS.out.mono (fun q hq => .inl hq)).trans ((Kept.of_grown HGR.out).mono (fun q hq => .inr (by rw [ownBlock_slice] at hq;exact hq)));have hk5 := kept_place (gb := gb) (k := P * 3 + 1) (v := .slice (some ⟨db,0,none⟩) (c.docs.length - 1) dc) hk4 rfl
  have hkA := (HKA.out.trans ((Kept.of_grown HGR.out).mono (fun q hq => .inr (.inr (by rw [ownBlock_slice] at hq;exact hq))))).set (p := ⟨gb,P * 3 + 1,none⟩) (.inr (.inl rfl)) (.slice (some ⟨db,0,none⟩) (c.docs.length - 1) dc);have hbS : ∀ k,Sx mb gb (some ⟨db,0,none⟩) k → B ≤ k := fun k hk => by
   rcases hk with rfl | rfl | hk
   ·exact HM.out.lo
   ·exact HGB.out
   cases hk;exact hBd
  have HB := HBS4.out.far (p := ⟨gb,P * 3 + 1,none⟩) (fun e => hgm e.symm) (.slice (some ⟨db,0,none⟩) (c.docs.length - 1) dc);refine MethC.ok (st' := st.set P ⟨c.name,delAt c.docs D,c.ixs⟩) (n := 0) (docs := [c.docs[D]'HDL.out]) ((HG3.out.below.mono HM.out.le).trans (hk5.below HM3.out.le hbS)) ?_ (Nat.lt_of_lt_of_le HM3.out.lt hk5.size) (A := A) (cap := cap) (dA := some ⟨w3.heap.size,0,none⟩) (dc := 1) ((HB.cell 0).trans (by rw [List.length_set];rfl)) ?_ (HB.cell 28) (HB.cell 29) ?_
  ·unfold takeP;rw [if_neg (by rw [HF.out];decide),if_neg (by simpa using HZ.out),HCC.out,if_neg (by rw [HDF.out];decide),HDD.out,HP.out,List.getD_eq_getElem?_getD,List.getElem?_eq_getElem HDL.out];rfl
  ·refine place_close (e' := ⟨nm,some ⟨db,0,none⟩,c.docs.length - 1,dc,xA,xn,xc⟩) HM3.out HHA.out HHE.out HCO3.out HLT.out (R := some ⟨db,0,none⟩) (.inr (.inl rfl)) hk5 (HOK.out.dl hN) ?_ (row_close HM3.out HHA.out HHE.out HCO3.out HLT.out (.inr (.inl rfl)) hk4 (by omega) rfl);obtain ⟨cur,hgbk,-⟩ := HM3.out.gblk HHA.out (by have := HLT.out;omega);exact (OwnCo.delD HCO3.out HTWO.out HM3.out.le hk5 HM.out.lo HGB.out HDL.out (ownT_blk HCO3.out.ixs HM3.out.blk (by decide)) (ownT_blk HCO3.out.ixs hgbk (by decide))
    (own_kept HOWN.out (Kept.set (S := fun k => k = gb) (Kept.refl _ w4) (p := ⟨gb,P * 3 + 1,none⟩) rfl (.slice (some ⟨db,0,none⟩) (c.docs.length - 1) dc)) (fun g hg hs => HNG.out (by rw [← hs];exact hg)))).in_ (Nat.le_trans HM3.out.le hk5.size) (Nat.le_trans (delAt_sub _ _).length_le (by omega))
  refine one_list HYV.out HM3.out.le hkA hbS ?_;rintro (e | e | e)
  ·have := HM3.out.lt;omega
  ·omega
  have e2 : db = w3.heap.size := Option.some.inj e;omega
theorem unindex_m (N B mb cap : Nat) (A : Option Addr) (es : List Cc) (st : List Co) (q : Rq) (ck cl ch cx : Cv) (w : World) (h : Mach w B mb A cap es st q ck cl ch cx) (hok : StOk N st) (hN : N ≤ 1000000) :
 Calls Tryz.prog 85 #[.pointer (some ⟨mb,0,none⟩)] w (MethC w B mb (unIxP st q)) := by
 have hs : st.length ≤ 140737488355328 := Mach.short hok;have HM := hide h;have HOK := hide hok
 cases hf : plF (cnm st) q.coll with
 | false =>
  have HC := hide (coll_m_no h hs hf);have HF := hide hf;clear h hok hf;go_enter Tryz.func85,Tryz.ntmps85;go_wp2_with fail;refine HC.out.mono ?_;rintro e w1 ⟨rfl,hg⟩;go_wp2_with fail;exact ⟨rfl,MethC.err (hg.below.mono HM.out.le) (by unfold unIxP;rw [if_pos HF.out])⟩
 | true =>
  obtain ⟨gb,hA,hgb,hgl,hne⟩ := h.gb hf;obtain ⟨⟨nm,dA,dn,dc,xA,xn,xc⟩,he,hco,hcell⟩ := h.co hf hA;obtain ⟨c,hc⟩ : ∃ c,coAt st q.coll = c := ⟨_,rfl⟩;have hmem := (coAt_mem hf).2.1;have hlt := (coAt_mem hf).2.2.2;have hlt0 : plN (cnm st) q.coll < es.length := by rw [h.el];exact hlt
  rw [hc] at hco hmem;have hcok := hok.co c hmem;have hnd := hcok.nd;have hnx := hcok.nx;have HC := hide (coll_m h hs hf hA);have HF := hide hf;have HGB := hide hgb;have HNE := hide hne;have HGL := hide hgl;have HHA := hide hA;have HHE := hide he;have HCO := hide hco;have HCOK := hide hcok;have HCELL := hide hcell;have HCC := hide hc;obtain ⟨P,hP⟩ : ∃ P,plN (cnm st) q.coll = P := ⟨_,rfl⟩;have HP := hide hP;rw [hP] at HC HHE HCELL hlt hlt0;have HLT := hide hlt;have HLT0 := hide hlt0;have HIX := hide (fun (w1 : World) (hg : Grow w w1) => index_m (P := P) (gb := gb) (h.grow hg) (hco.grow h.le hg) (fun i v hi => (hg.below.cell (p := ⟨gb,P * 3 + i,none⟩) hgl).trans (HCELL.out i v hi)) (Nat.lt_of_lt_of_le hgl hg.size) (by omega))
  have HCD := hide (fun (w1 : World) (hg : Grow w w1) => (hg.below.cell (p := ⟨gb,P * 3 + 2,none⟩) hgl).trans ((HCELL.out 2 (.slice xA xn xc) rfl).trans (by rw [show xn = c.ixs.length from hco.xn])));obtain ⟨FF,hFF⟩ : ∃ b,plF (xnm c) q.index = b := ⟨_,rfl⟩;obtain ⟨D,hD⟩ : ∃ b,plN (xnm c) q.index = b := ⟨_,rfl⟩;rw [hFF,hD] at HIX;have HFF := hide hFF;have HDD := hide hD;clear h hok hf hA he hco hcell hc hcok hmem hP hlt hlt0 hFF hD;go_enter Tryz.func85,Tryz.ntmps85;go_wp2_with fail;refine HC.out.mono ?_;rintro e w1 ⟨rfl,hg⟩;have HG := hide hg;clear hg;go_wp2_with fail;refine (HIX.out w1 HG.out).mono ?_;rintro e w3 ⟨rfl,hg3⟩;have HG3 := hide (HG.out.trans hg3);clear hg3
  cases FF with
  | false =>
   go_wp2_with fail;refine (pmust_no 5 w3).mono ?_;rintro e w4 ⟨rfl,rfl⟩;go_wp2_with fail;exact ⟨rfl,MethC.err (HG3.out.below.mono HM.out.le) (by unfold unIxP;rw [if_neg (by rw [HF.out];decide),HCC.out,if_pos HFF.out])⟩
  | true =>
   have hDl : D < c.ixs.length := by have := plF_lt HFF.out;rw [HDD.out,List.length_map] at this;exact this
   have HDL := hide hDl;have hDw : IntKind.i64.wrap ((D : Int) + 1) = (D : Int) + 1 := by rw [IntKind.wrap_i64];omega
   have HCO3 := hide (HCO.out.grow HM.out.le HG3.out);have HM3 := hide (HM.out.grow HG3.out);have hcd := HCD.out _ HG3.out;have HDEL := hide (deleteX_any B c.ixs.length D xc xA (cellsX c.ixs) w3 (cellsX_one c.ixs) HCO3.out.ixs hDl (by omega));obtain ⟨cur,hgbk,-⟩ := HM3.out.gblk HHA.out (by have := HLT.out;omega);have HGK := hide hgbk;have HNM := hide (ownT_blk HCO3.out.ixs HM3.out.blk (by decide));have HNG := hide (ownT_blk HCO3.out.ixs hgbk (by decide));have hgm : gb ≠ mb := HNE.out;clear hgbk;go_wp2_with fail;refine (pmust_yes 5 w3).mono ?_;rintro e w4 ⟨rfl,rfl⟩;go_wp2_with fail;have HCD3 := hide hcd;clear hcd;refine HDEL.out.mono ?_;rintro ee w4 ⟨rfl,hown,hgr⟩;have HGK4 := hide (HGK.out.own hgr (fun k hk e => HNG.out (by rw [← e,← hk,ownBlock_slice])));have HBS4 := hide (HM3.out.blk.own hgr (fun k hk e => HNM.out (by rw [← e,← hk,ownBlock_slice])))
   have hgf4 := HGK4.out.frozen;have hcd4 := (hgr.cell HCD3.out (fun e => HNG.out (by rw [ownBlock_slice] at e;exact e.symm)));have HOWN := hide hown;have HGR := hide hgr;clear hown hgr;go_wp2_with fail;go_end0;have hk4 : Kept (fun k => k = mb ∨ ablk xA = some k) w3 w4 := (Kept.of_grown HGR.out).mono (fun q hq => .inr (by rw [ownBlock_slice] at hq;exact hq));have hk5 := kept_place (gb := gb) (k := P * 3 + 2) (v := .slice xA (c.ixs.length - 1) xc) hk4 rfl;have hbS : ∀ k,Sx mb gb xA k → B ≤ k := fun k hk => by
    rcases hk with rfl | rfl | hk
    ·exact HM.out.lo
    ·exact HGB.out
    exact (RowOf.le (R := xA) (.inr (.inr rfl)) HCO3.out k hk).1
   have HB := HBS4.out.far (p := ⟨gb,P * 3 + 2,none⟩) (fun e => hgm e.symm) (.slice xA (c.ixs.length - 1) xc);have hdl : (delAt c.ixs D).length = c.ixs.length - 1 := del_len HDL.out;refine MethC.ok (st' := st.set P ⟨c.name,c.docs,delAt c.ixs D⟩) (n := 0) (docs := []) ((HG3.out.below.mono HM.out.le).trans (hk5.below HM3.out.le hbS)) ?_ (Nat.lt_of_lt_of_le HM3.out.lt hk5.size) (A := A) (cap := cap) (dA := none) (dc := 0) ((HB.cell 0).trans (by rw [List.length_set];rfl)) ?_ (HB.cell 28) (HB.cell 29) (InL.nil _)
   ·unfold unIxP;rw [if_neg (by rw [HF.out];decide),HCC.out,if_neg (by rw [HFF.out];decide),HDD.out,HP.out]
   obtain ⟨ds,r1,-⟩ := HCO3.out.docs;have hrowX : (w4.setCell ⟨gb,P * 3 + 2,none⟩ (.slice xA (c.ixs.length - 1) xc)).ownsRow B 64 3 (.slice xA (delAt c.ixs D).length xc) (delAt c.ixs D).length (cellsX (delAt c.ixs D)) := by
    rw [hdl,show cellsX (delAt c.ixs D) = (cellsX c.ixs).take (D * 3) ++ (cellsX c.ixs).drop ((D + 1) * 3) from (fz_del _ 3 (fun _ => rfl) c.ixs D).symm];exact own_kept HOWN.out (Kept.set (S := fun k => k = gb) (Kept.refl _ w4) (p := ⟨gb,P * 3 + 2,none⟩) rfl _) (fun g hg hs => HNG.out (by rw [← hs];exact hg))
   refine place_close (e' := ⟨nm,dA,dn,dc,xA,c.ixs.length - 1,xc⟩) HM3.out HHA.out HHE.out HCO3.out HLT.out (R := xA) (.inr (.inr rfl)) hk5 (HOK.out.dl hN) ?_ (row_close HM3.out HHA.out HHE.out HCO3.out HLT.out (.inr (.inr rfl)) hk4 (by omega) rfl);obtain ⟨cur,hgbk,-⟩ := HM3.out.gblk HHA.out (by have := HLT.out;omega);have := (OwnCo.setX (c5 := xc) (A5 := xA) HCO3.out HM3.out.le hk5 HM.out.lo HGB.out (ownT_blk r1 HM3.out.blk (by decide)) (ownT_blk r1 hgbk (by decide)) hrowX).in_ (Nat.le_trans HM3.out.le hk5.size) (by show c.docs.length ≤ _;omega);rw [hdl] at this;exact this
end
section
open Go.RowKit
def fg (c : Co) : Co := ⟨c.name,c.docs,[]⟩
def IxP (p path : ByteArray) (c : Co) : Prop := c.ixs = [] ∨ c.ixs = [⟨p,path,false⟩]
def mapR : Res → Res
 | .error e => .error e
 | .ok (s,n,d) => .ok (s.map fg,n,d)
theorem fg_names (t : List Co) : cnm (t.map fg) = cnm t := by
 unfold cnm;rw [List.map_map];rfl
theorem fg_at (t : List Co) (s : ByteArray) : coAt (t.map fg) s = fg (coAt t s) := by
 unfold coAt;rw [fg_names,List.getD_eq_getElem?_getD,List.getD_eq_getElem?_getD,List.getElem?_map]
 cases t[plN (cnm t) s]? <;> rfl
theorem fg_set (t : List Co) (i : Nat) (c : Co) : (t.set i c).map fg = (t.map fg).set i (fg c) := by rw [List.map_set]
theorem stepV_mem' {v u : V} {s : ByteArray} (h : stepV v s = some u) : (v.k = 7 ∧ u ∈ v.l) ∨ (v.k ≠ 7 ∧ ∃ n,(n,u) ∈ v.f) := by
 obtain ⟨k,n,b,l,f⟩ := v;by_cases hk : k = 7
 ·subst hk;rw [stepV_list] at h;split at h
  ·exact .inl ⟨rfl,List.mem_of_getElem? h⟩
  cases h
 rw [stepV_doc hk,Option.map_eq_some_iff] at h;obtain ⟨⟨a,x⟩,h1,rfl⟩ := h;exact .inr ⟨hk,a,List.mem_of_find?_eq_some h1⟩
theorem mem_flat_le' {α : Type} (g : α → List UInt8) : ∀ (l : List α) (x : α),x ∈ l → (g x).length ≤ ((l.map g).flatten).length
 | y :: r,x,h => by
  rw [List.map_cons,List.flatten_cons,List.length_append];rcases List.mem_cons.1 h with h | h
  ·rw [h];omega
  have := mem_flat_le' g r x h;omega
theorem stepV_good' {v u : V} {s : ByteArray} (h : stepV v s = some u) (hv : v.good = 0) : u.good = 0 := by
 obtain ⟨h1,h2,h3,h4⟩ := good_iff.1 hv;obtain ⟨k,n,b,l,f⟩ := v;have hm := (V.most_over k n b l f 64).1 h2;rw [V.bytes_mk] at h4;refine good_iff.2 ⟨stepV_formed h h1,?_,?_,?_⟩
 ·rcases stepV_mem' h with ⟨-,q⟩ | ⟨-,m,q⟩
  ·exact hm.2.2.1 u q
  exact hm.2.2.2 _ q
 ·rcases stepV_mem' h with ⟨-,q⟩ | ⟨-,m,q⟩
  ·exact Nat.le_trans (V.depth_l q) h3
  exact Nat.le_trans (V.depth_f q) h3
 rw [V.formed_mk] at h1;simp only [Bool.and_eq_true,decide_eq_true_eq] at h1;have ho := h1.1.1.1;unfold V.own at ho;simp only [Bool.and_eq_true,decide_eq_true_eq] at ho;rcases stepV_mem' h with ⟨hk,q⟩ | ⟨hk,m,q⟩
 ·have hk' : k = 7 := hk;subst hk';have := mem_flat_le' V.bytes l u q;rw [if_neg (by decide),if_neg (by decide),if_neg (by decide),if_pos rfl] at h4;simp only [List.length_cons] at h4;omega
 have h8 : k = 8 := by
  rcases ho.2 with e | e
  ·exact e
  have q2 : (m,u) ∈ f := q;rw [List.length_eq_zero_iff.1 e] at q2;simp at q2
 subst h8;have hm := mem_flat_le' (fun x : ByteArray × V => V.item x.1 x.2.bytes) f (m,u) q;have hi : (V.item m u.bytes).length = m.size + u.bytes.length + 1 := by rw [V.item];simp
 rw [if_neg (by decide),if_neg (by decide),if_neg (by decide),if_neg (by decide),if_pos rfl] at h4;simp only [List.length_cons] at h4;dsimp only at hm;omega
theorem pathL_good' : ∀ {l : List ByteArray} {v u : V},pathL v l = some u → v.good = 0 → u.good = 0
 | [],v,u,h,hg => by injection h with h;rw [← h];exact hg
 | s :: r,v,u,h,hg => by
  rw [pathL,Option.bind_eq_some_iff] at h;obtain ⟨x,h1,h2⟩ := h;exact pathL_good' h2 (stepV_good' h1 hg)
theorem pathV_good' {v u : V} {s : ByteArray} (h : pathV v s = some u) : u.good = 0 := by
 unfold pathV at h;split at h
 ·rename_i hg;split at h
  ·injection h with h;rw [← h];exact hg
  exact pathL_good' h hg
 cases h
theorem entry_err {path : ByteArray} {d : V} (h : DocOk d) (he : (entryP path d).2.2 ≠ 0) : (entryP path d).2.2 = 14 := by
 obtain ⟨i,hi,hK,-,-,-⟩ := h.id;unfold entryP at he ⊢;rw [if_neg (by simpa using h.key)] at he ⊢
 cases hp : pathV d path with
 | none => rw [hp] at he;simp at he
 | some u =>
  rw [hp] at he;dsimp only at he ⊢;rw [hi,Option.getD_some] at he ⊢;have hug := pathV_good' hp;have e1 : (allK [u,i] [false,false]).2 = 0 ∨ (allK [u,i] [false,false]).2 = 14 := by
   unfold allK;rw [if_neg (by simp)];split
   ·right;rename_i h0;dsimp only;unfold allE at h0 ⊢;by_cases hu : (ofK u).2 = 0
    ·rw [if_neg (by simpa using hu)] at h0;unfold allE at h0;rw [hK.ofK] at h0;simp [allE] at h0
    rw [if_pos hu];unfold ofK at hu ⊢;rw [if_neg (by simpa using hug)] at hu ⊢;split at hu
    ·rename_i h2;rw [if_pos h2]
    simp at hu
   split
   ·right;rfl
   left;rfl
  rcases e1 with e1 | e1
  ·rw [if_neg (by simpa using e1)] at he;simp at he
  rw [if_pos (by rw [e1];decide),e1]
theorem ixs_err {d : V} (h : DocOk d) {p path : ByteArray} {c : Co} (hc : IxP p path c) (he : ixsE d c.ixs ≠ 0) : ixsE d c.ixs = 14 := by
 rcases hc with hc | hc
 ·rw [hc] at he;simp [ixsE] at he
 rw [hc] at he ⊢;unfold ixsE at he ⊢;split
 ·rename_i h1;exact entry_err h h1
 rename_i h1;rw [if_neg h1] at he;simp [ixsE] at he
theorem clash_no {docs : List V} {p path : ByteArray} {c : Co} (hc : IxP p path c) : clashP docs c.ixs = false := by
 rcases hc with hc | hc <;> rw [hc] <;> simp [clashP]
theorem fg_mem_set {t : List Co} {i : Nat} {c : Co} {p path : ByteArray} (h : ∀ x ∈ t,IxP p path x) (hc : IxP p path c) : ∀ x ∈ t.set i c,IxP p path x := fun x hx => by
 rcases List.mem_or_eq_of_mem_set hx with hx | hx
 ·exact h x hx
 rw [hx];exact hc
theorem act_fg {N : Nat} {p path : ByteArray} {t : List Co} {q : Rq} (hs : StOk N t) (hx : ∀ c ∈ t,IxP p path c) (hf : q.doc.fit) (hc : q.doc.count ≤ 20000) (h7 : q.do_ ≠ 7) (h8 : q.do_ ≠ 8) (h9 : q.do_ = 9 → q.index = ⟨#[]⟩) :
 actP t q = .error 14 ∨ (actP (t.map fg) q = mapR (actP t q) ∧ ∀ st' n ds,actP t q = .ok (st',n,ds) → ∀ c ∈ st',IxP p path c) := by
 have hput : putP t q = .error 14 ∨ (putP (t.map fg) q = mapR (putP t q) ∧ ∀ st' n ds,putP t q = .ok (st',n,ds) → ∀ c ∈ st',IxP p path c) := by
  unfold putP;rw [fg_names,fg_at];by_cases h1 : plF (cnm t) q.coll = false
  ·right;rw [if_pos h1,if_pos h1];exact ⟨rfl,fun _ _ _ h => by cases h⟩
  rw [if_neg h1,if_neg h1];have hF : plF (cnm t) q.coll = true := by simpa using h1
  have hco := hx _ (coAt_mem hF).2.1;by_cases h2 : (keyP q.doc).2 ≠ 0
  ·right;rw [if_pos h2,if_pos h2];exact ⟨rfl,fun _ _ _ h => by cases h⟩
  rw [if_neg h2,if_neg h2];have hd : DocOk q.doc := ⟨by simpa using h2,hf,hc⟩;by_cases h3 : ixsE q.doc (coAt t q.coll).ixs ≠ 0
  ·left;rw [if_pos h3,ixs_err hd hco h3]
  right;rw [if_neg h3,if_neg (show ¬ ixsE q.doc (fg (coAt t q.coll)).ixs ≠ 0 by simp [fg,ixsE])];have e1 : (fg (coAt t q.coll)).docs = (coAt t q.coll).docs := rfl;rw [e1];by_cases h4 : docF (coAt t q.coll).docs (keyP q.doc).1 = true ∧ q.do_ ≠ 3
  ·rw [if_pos h4,if_pos h4];exact ⟨rfl,fun _ _ _ h => by cases h⟩
  have hcl1 : ¬ clashP (putDocs (coAt t q.coll).docs q.doc) (fg (coAt t q.coll)).ixs = true := by simp [fg,clashP]
  have hcl2 : ¬ clashP (putDocs (coAt t q.coll).docs q.doc) (coAt t q.coll).ixs = true := by rw [clash_no hco];decide
  rw [if_neg h4,if_neg h4,if_neg hcl1,if_neg hcl2];refine ⟨?_,fun st' n ds h => ?_⟩
  ·unfold mapR;dsimp only;rw [fg_set];rfl
  injection h with h;injection h with h _;subst h;exact fg_mem_set hx hco
 unfold actP;by_cases k1 : q.do_ = 1
 ·rw [if_pos k1,if_pos k1];right;unfold makeP;rw [fg_names,List.length_map];split
  ·exact ⟨rfl,fun _ _ _ h => by cases h⟩
  split
  ·exact ⟨rfl,fun _ _ _ h => by cases h⟩
  split
  ·exact ⟨rfl,fun _ _ _ h => by cases h⟩
  refine ⟨?_,fun st' n ds h c hm => ?_⟩
  ·unfold mapR;dsimp only;rw [map_ins];rfl
  injection h with h;injection h with h _;subst h;rcases mem_ins.1 hm with rfl | hm
  ·exact .inl rfl
  exact hx c hm
 rw [if_neg k1,if_neg k1];by_cases k2 : q.do_ = 2
 ·rw [if_pos k2,if_pos k2];right;unfold dropP;rw [fg_names];split
  ·exact ⟨rfl,fun _ _ _ h => by cases h⟩
  refine ⟨?_,fun st' n ds h c hm => ?_⟩
  ·unfold mapR;dsimp only;rw [map_del]
  injection h with h;injection h with h _;subst h;exact hx c (mem_del hm)
 rw [if_neg k2,if_neg k2];by_cases k3 : q.do_ = 3
 ·rw [if_pos k3,if_pos k3];exact hput
 rw [if_neg k3,if_neg k3];by_cases k4 : q.do_ = 4
 ·rw [if_pos k4,if_pos k4];exact hput
 rw [if_neg k4,if_neg k4];by_cases k5 : q.do_ = 5
 ·rw [if_pos k5,if_pos k5];right;unfold takeP;rw [fg_names,fg_at];by_cases h1 : plF (cnm t) q.coll = false
  ·rw [if_pos h1,if_pos h1];exact ⟨rfl,fun _ _ _ h => by cases h⟩
  rw [if_neg h1,if_neg h1];have hF : plF (cnm t) q.coll = true := by simpa using h1
  have hco := hx _ (coAt_mem hF).2.1;have e1 : (fg (coAt t q.coll)).docs = (coAt t q.coll).docs := rfl;rw [e1];split
  ·exact ⟨rfl,fun _ _ _ h => by cases h⟩
  split
  ·exact ⟨rfl,fun _ _ _ h => by cases h⟩
  refine ⟨?_,fun st' n ds h => ?_⟩
  ·unfold mapR;dsimp only;rw [fg_set];rfl
  injection h with h;injection h with h _;subst h;exact fg_mem_set hx hco
 rw [if_neg k5,if_neg k5];by_cases k6 : q.do_ = 6
 ·rw [if_pos k6,if_pos k6];right;unfold getP;rw [fg_names,fg_at];have e1 : (fg (coAt t q.coll)).docs = (coAt t q.coll).docs := rfl;rw [e1];split
  ·exact ⟨rfl,fun _ _ _ h => by cases h⟩
  split
  ·exact ⟨rfl,fun _ _ _ h => by cases h⟩
  split
  ·exact ⟨rfl,fun _ _ _ h => by cases h⟩
  refine ⟨rfl,fun st' n ds h => ?_⟩;injection h with h;injection h with h _;subst h;exact hx
 rw [if_neg k6,if_neg k6,if_neg h7,if_neg h7,if_neg h8,if_neg h8];by_cases k9 : q.do_ = 9
 ·rw [if_pos k9,if_pos k9];right;have hi := h9 k9;unfold findP;rw [fg_names,fg_at];have e0 : findHits (fg (coAt t q.coll)) q = findHits (coAt t q.coll) q := by
   unfold findHits findDocs findV;rw [if_pos hi,if_pos hi];simp only [if_pos hi];rfl
  rw [e0];split
  ·exact ⟨rfl,fun _ _ _ h => by cases h⟩
  rw [if_neg (show ¬ (plF (xnm (fg (coAt t q.coll))) q.index = false ∧ q.index ≠ ⟨#[]⟩) from fun h => h.2 hi),if_neg (show ¬ (plF (xnm (coAt t q.coll)) q.index = false ∧ q.index ≠ ⟨#[]⟩) from fun h => h.2 hi)];split
  ·exact ⟨rfl,fun _ _ _ h => by cases h⟩
  split
  ·exact ⟨rfl,fun _ _ _ h => by cases h⟩
  split
  ·exact ⟨rfl,fun _ _ _ h => by cases h⟩
  refine ⟨rfl,fun st' n ds h => ?_⟩;injection h with h;injection h with h _;subst h;exact hx
 rw [if_neg k9,if_neg k9];by_cases k10 : q.do_ = 10
 ·rw [if_pos k10,if_pos k10];right;unfold countP;rw [fg_names,fg_at];have e1 : (fg (coAt t q.coll)).docs = (coAt t q.coll).docs := rfl;rw [e1];split
  ·exact ⟨rfl,fun _ _ _ h => by cases h⟩
  refine ⟨rfl,fun st' n ds h => ?_⟩;injection h with h;injection h with h _;subst h;exact hx
 rw [if_neg k10,if_neg k10];exact .inr ⟨rfl,fun _ _ _ h => by cases h⟩
theorem do_fg {N : Nat} {p path : ByteArray} {t : List Co} {q : Rq} (hs : StOk N t) (hx : ∀ c ∈ t,IxP p path c) (hf : q.doc.fit) (hc : q.doc.count ≤ 20000) (h7 : q.do_ ≠ 7) (h8 : q.do_ ≠ 8) (h9 : q.do_ = 9 → q.index = ⟨#[]⟩) :
 ((doP t q).2.e = 14 ∧ (doP (t.map fg) q).2.e ≠ 14) ∨ ((doP (t.map fg) q).2 = (doP t q).2 ∧ (doP (t.map fg) q).1 = (doP t q).1.map fg ∧ ∀ c ∈ (doP t q).1,IxP p path c) := by
 rcases act_fg hs hx hf hc h7 h8 h9 with h | ⟨h,h1⟩
 ·have e1 : doP t q = (t,⟨14,0,[],0⟩) := by unfold doP;rw [h]
  rw [e1];unfold doP;split
  ·rename_i e he;by_cases h14 : e = 14
   ·subst h14;exact .inr ⟨rfl,rfl,hx⟩
   exact .inl ⟨rfl,h14⟩
  exact .inl ⟨rfl,by show ¬ (0 : Int) = 14;decide⟩
 right;unfold doP;rw [h]
 cases hr : actP t q with
 | error e => exact ⟨rfl,rfl,hx⟩
 | ok r =>
  obtain ⟨st',n,ds⟩ := r;exact ⟨rfl,rfl,h1 st' n ds hr⟩
def ixRq (coll p path : ByteArray) : Rq := ⟨7,coll,p,path,false,V.zero,V.zero,V.zero,V.zero,0⟩
theorem mk_fg {N : Nat} {p path : ByteArray} {t : List Co} {q : Rq} (hs : StOk N t) (hx : ∀ c ∈ t,IxP p path c) (hf : q.doc.fit) (hc : q.doc.count ≤ 20000) (h1 : q.do_ = 1) (he : (doP t q).2.e = 0) (hp : V.name p = true) (hl : path.size ≤ 200) :
 (doP (doP t q).1 (ixRq q.coll p path)).2 = ⟨0,0,[],0⟩ ∧ (doP (doP t q).1 (ixRq q.coll p path)).1.map fg = (doP t q).1.map fg ∧ ∀ c ∈ (doP (doP t q).1 (ixRq q.coll p path)).1,IxP p path c := by
 have hok := doP_ok hs hf hc;have hmk : plF (cnm t) q.coll = false ∧ (doP t q).1 = insAt t (plN (cnm t) q.coll) ⟨q.coll,[],[]⟩ := by
  unfold doP actP at he ⊢;rw [if_pos h1] at he ⊢;unfold makeP at he ⊢;by_cases k1 : V.name q.coll = false
  ·rw [if_pos k1] at he;cases he
  rw [if_neg k1] at he ⊢;by_cases k2 : plF (cnm t) q.coll = true
  ·rw [if_pos k2] at he;cases he
  rw [if_neg k2] at he ⊢;by_cases k3 : 16 ≤ t.length
  ·rw [if_pos k3] at he;cases he
  rw [if_neg k3];exact ⟨by simpa using k2,rfl⟩
 obtain ⟨T,hT⟩ : ∃ T,(doP t q).1 = T := ⟨_,rfl⟩;rw [hT] at hmk hok ⊢;have hxT : ∀ c ∈ T,IxP p path c := fun c hm => by
  rw [hmk.2] at hm;rcases mem_ins.1 hm with rfl | hm
  ·exact .inl rfl
  exact hx c hm
 have hF : plF (cnm T) q.coll = true := by
  rw [plF_iff hok.nms,hmk.2,cnm,map_ins];exact mem_ins.2 (.inl rfl)
 obtain ⟨a1,a2,a3,a4⟩ := coAt_mem hF;have hnew : coAt T q.coll = ⟨q.coll,[],[]⟩ := by
  have hm : coAt T q.coll ∈ insAt t (plN (cnm t) q.coll) ⟨q.coll,[],[]⟩ := by
   have h2 := a2;rwa [show (coAt T q.coll ∈ T) = (coAt T q.coll ∈ insAt t (plN (cnm t) q.coll) ⟨q.coll,[],[]⟩) from congrArg (fun z => coAt T q.coll ∈ z) hmk.2] at h2
  rcases mem_ins.1 hm with hm | hm
  ·exact hm
  exfalso;have : plF (cnm t) q.coll = true := by
   rw [plF_iff hs.nms];exact List.mem_map.2 ⟨_,hm,a3⟩
  rw [hmk.1] at this;cases this
 have hact : actP T (ixRq q.coll p path) = .ok (T.set (plN (cnm T) q.coll) ⟨q.coll,[],[⟨p,path,false⟩]⟩,0,[]) := by
  have h7 : actP T (ixRq q.coll p path) = addIxP T (ixRq q.coll p path) := by unfold actP;rw [show (ixRq q.coll p path).do_ = 7 from rfl];rfl
  rw [h7];unfold addIxP ixRq;dsimp only;rw [if_neg (by rw [hp];decide),if_neg (by omega),if_neg (by rw [hF];decide),hnew];rw [if_neg (by simp [xnm,plF,bsF,bsN]),if_neg (by simp),if_neg (by simp [entsE]),if_neg (by simp)];congr 3
 have hdo : doP T (ixRq q.coll p path) = (T.set (plN (cnm T) q.coll) ⟨q.coll,[],[⟨p,path,false⟩]⟩,⟨0,0,[],0⟩) := by unfold doP;rw [hact]
 rw [hdo];refine ⟨rfl,?_,fg_mem_set hxT (.inr rfl)⟩;rw [fg_set];have e2 : (T.map fg)[plN (cnm T) q.coll]? = some (fg ⟨q.coll,[],[⟨p,path,false⟩]⟩) := by
  rw [List.getElem?_map,a1,hnew];rfl
 obtain ⟨g1,g2⟩ := List.getElem?_eq_some_iff.1 e2
 conv => lhs;rw [← g2]
 exact List.set_getElem_self _
end
end Go.Proofs.YtndjopkdbdcmdaaGreatDoor
