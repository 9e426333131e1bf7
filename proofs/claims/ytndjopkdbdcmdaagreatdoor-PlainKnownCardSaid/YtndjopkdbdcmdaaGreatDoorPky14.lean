/- Part 14 of the proof of pknown_card. -/
import Derived.Test.YtndjopkdbdcmdaaGreatDoorPky13
set_option linter.unusedVariables false
set_option linter.unusedSimpArgs false
set_option maxRecDepth 100000
set_option maxHeartbeats 12800000
namespace Go.Proofs.YtndjopkdbdcmdaaGreatDoor
section
open Go.RowKit V
def nA : ByteArray := ⟨#[97]⟩
def nB : ByteArray := ⟨#[98]⟩
def nI : ByteArray := ⟨#[105]⟩
def nJ : ByteArray := ⟨#[106]⟩
def nX : ByteArray := ⟨#[120]⟩
def iV (n : Nat) : V := .mk 3 n [] [] []
def dV (i x : Nat) : V := .mk 8 0 [] [] [(idS, iV i), (nX, iV x)]
def bV (i : Nat) : V := .mk 8 0 [] [] [(idS, iV i)]
def xV (x : Nat) : V := .mk 8 0 [] [] [(nX, iV x)]
theorem goodP {v : V} (h1 : v.formed = true) (h2 : v.most ≤ 64) (h3 : v.depth ≤ 16) (h4 : v.bytes.length ≤ 4096) : v.good = 0 := good_iff.2 ⟨h1, h2, h3, h4⟩
theorem iV_formed (n : Nat) : (iV n).formed = true := by unfold iV; rw [V.formed_mk]; unfold V.own; simp
theorem iV_most (n : Nat) : (iV n).most ≤ 64 := by unfold iV; rw [V.most_mk]; decide
theorem iV_depth (n : Nat) : (iV n).depth = 0 := by unfold iV; rw [V.depth_mk]; rfl
theorem iV_bytes (n : Nat) : (iV n).bytes.length = 9 := by unfold iV; rw [V.bytes_mk]; simp [toLe_length]
theorem iV_good (n : Nat) : (iV n).good = 0 := goodP (iV_formed n) (iV_most n) (by rw [iV_depth]; omega) (by rw [iV_bytes]; omega)
theorem iV_count (n : Nat) : (iV n).count = 1 := by unfold iV; rw [V.count_mk]; simp
theorem iV_fit {n : Nat} (h : n < 18446744073709551616) : (iV n).fit := by unfold iV; rw [V.fit]; exact ⟨h, fun x hx => by simp at hx, fun x hx => by simp at hx⟩
theorem iV_keylen (n : Nat) : (iV n).key.length = 13 := by
 unfold iV;rw [V.key_mk, if_neg (by decide), if_neg (by decide), if_pos rfl];unfold keyInt;simp [be_length]
theorem iV_keyed {n : Nat} (h : n < 18446744073709551616) : V.Keyed (iV n) := ⟨⟨iV_formed n, iV_fit h⟩, iV_good n, by rw [iV_keylen]; omega⟩
theorem iV_cmp {a b : Nat} (ha : a < 9223372036854775808) (hb : b < 9223372036854775808) : Lib.compareBytes (iV a).key (iV b).key = sg a b := by
 rw [← V.cmp_bytes (iV_keyed (by omega)).toFine (iV_keyed (by omega)).toFine];unfold iV;rw [V.cmp_mk];simp [cls, numC, i64, ha, hb]
theorem fd_good {f : List (ByteArray × V)} (hl : f.length ≤ 2) (hf : (V.mk 8 0 [] [] f).formed = true) (hx : ∀ x ∈ f, ∃ n, x.2 = iV n) (hs : ∀ x ∈ f, x.1.size ≤ 64) : (V.mk 8 0 [] [] f).good = 0 := by
 refine goodP hf ((V.most_over _ _ _ _ _ 64).2 ⟨by simp, by omega, by simp, fun x h => by obtain ⟨n, hn⟩ := hx x h; rw [hn]; exact iV_most n⟩) ?_ ?_
 ·rw [V.depth_doc];have := (foldl_max_le (f.map fun x => x.2.depth) 0 0).2 ⟨Nat.le_refl _, fun y hy => by
   obtain ⟨x, h, rfl⟩ := List.mem_map.1 hy;obtain ⟨n, hn⟩ := hx x h;rw [hn, iV_depth]; omega⟩
  omega
 rw [V.bytes_doc];have key : ∀ l : List (ByteArray × V), (∀ x ∈ l, (∃ n, x.2 = iV n) ∧ x.1.size ≤ 64) → ((l.map fun x => V.item x.1 x.2.bytes).flatten).length ≤ l.length * 100 := by
  intro l
  induction l with
  | nil => intro _; simp
  | cons x r ih =>
   intro h;have h1 := ih fun y hy => h y (List.mem_cons_of_mem _ hy)
   obtain ⟨⟨n, hn⟩, hz⟩ := h x List.mem_cons_self;rw [List.map_cons, List.flatten_cons, List.length_append, List.length_cons];have : (V.item x.1 x.2.bytes).length = x.1.size + x.2.bytes.length + 1 := by rw [V.item]; simp
   rw [this, hn, iV_bytes];omega
 have := key f fun x h => ⟨hx x h, hs x h⟩
 simp only [List.length_cons];omega
theorem nX_name : V.name nX = true := by decide +kernel
theorem idS_name : V.name idS = true := by decide +kernel
theorem dV_good (i x : Nat) : (dV i x).good = 0 := by
 unfold dV;refine fd_good (by simp) ?_ (fun y hy => ?_) (fun y hy => ?_)
 ·rw [V.formed_mk];simp [V.own, iV_formed, nX_name, idS_name];decide
 ·simp at hy;rcases hy with rfl | rfl
  ·exact ⟨_, rfl⟩
  exact ⟨_, rfl⟩
 simp at hy;rcases hy with rfl | rfl
 ·show idS.size ≤ 64; decide
 show nX.size ≤ 64; decide
theorem bV_good (i : Nat) : (bV i).good = 0 := by
 unfold bV;refine fd_good (by simp) ?_ (fun y hy => ?_) (fun y hy => ?_)
 ·rw [V.formed_mk];simp [V.own, iV_formed, idS_name]
 ·simp at hy; rw [hy]; exact ⟨_, rfl⟩
 simp at hy; rw [hy]; show idS.size ≤ 64; decide
theorem xV_good (i : Nat) : (xV i).good = 0 := by
 unfold xV;refine fd_good (by simp) ?_ (fun y hy => ?_) (fun y hy => ?_)
 ·rw [V.formed_mk];simp [V.own, iV_formed, nX_name]
 ·simp at hy; rw [hy]; exact ⟨_, rfl⟩
 simp at hy; rw [hy]; show nX.size ≤ 64; decide
theorem dV_fit {i x : Nat} (hi : i < 18446744073709551616) (hx : x < 18446744073709551616) : (dV i x).fit := by
 unfold dV; rw [V.fit];refine ⟨by decide, fun y hy => by simp at hy, fun y hy => ?_⟩;simp at hy;rcases hy with rfl | rfl
 ·exact iV_fit hi
 exact iV_fit hx
theorem bV_fit {i : Nat} (hi : i < 18446744073709551616) : (bV i).fit := by
 unfold bV; rw [V.fit];refine ⟨by decide, fun y hy => by simp at hy, fun y hy => ?_⟩;simp at hy; rw [hy]; exact iV_fit hi
theorem xV_fit {i : Nat} (hi : i < 18446744073709551616) : (xV i).fit := by
 unfold xV; rw [V.fit];refine ⟨by decide, fun y hy => by simp at hy, fun y hy => ?_⟩;simp at hy; rw [hy]; exact iV_fit hi
theorem dV_id (i x : Nat) : idP (dV i x) = some (iV i) := by show (List.find? (fun x : ByteArray × V => decide (x.1 = idS)) [(idS, iV i), (nX, iV x)]).map Prod.snd = _; simp
theorem bV_id (i : Nat) : idP (bV i) = some (iV i) := by show (List.find? (fun x : ByteArray × V => decide (x.1 = idS)) [(idS, iV i)]).map Prod.snd = _; simp
theorem xV_id (i : Nat) : idP (xV i) = none := by
 have : ¬ nX = idS := by decide
 show (List.find? (fun x : ByteArray × V => decide (x.1 = idS)) [(nX, iV i)]).map Prod.snd = none;simp [this]
theorem iV_ofK {i : Nat} (h : i < 18446744073709551616) : ofK (iV i) = ((iV i).key, 0) := (iV_keyed h).ofK
theorem dV_key {i : Nat} (x : Nat) (h : i < 18446744073709551616) : keyP (dV i x) = ((iV i).key, 0) := by
 unfold keyP; rw [if_neg (by rw [dV_good]; simp), if_neg (show ¬ (dV i x).k ≠ 8 from fun h => h rfl), dV_id]; exact iV_ofK h
theorem bV_key {i : Nat} (h : i < 18446744073709551616) : keyP (bV i) = ((iV i).key, 0) := by
 unfold keyP; rw [if_neg (by rw [bV_good]; simp), if_neg (show ¬ (bV i).k ≠ 8 from fun h => h rfl), bV_id]; exact iV_ofK h
theorem xV_key (i : Nat) : keyP (xV i) = ([], 14) := by
 unfold keyP; rw [if_neg (by rw [xV_good]; simp), if_neg (show ¬ (xV i).k ≠ 8 from fun h => h rfl), xV_id]
theorem one_path {v : V} {s : ByteArray} (h : v.good = 0) (hs : ¬ s.toList = []) (h46 : ∀ j (hj : j < s.data.toList.length), s.data.toList[j] ≠ 46) : pathV v s = stepV v s := by
 rw [pathV, if_pos h, if_neg hs, pathN_one h46];show (stepV v s).bind _ = _
 cases stepV v s <;> rfl
theorem nX_list : ¬ nX.toList = [] := by decide +kernel
theorem nX_dot : ∀ j (hj : j < nX.data.toList.length), nX.data.toList[j] ≠ 46 := by decide
theorem dV_x (i x : Nat) : pathV (dV i x) nX = some (iV x) := by
 rw [one_path (dV_good i x) nX_list nX_dot];unfold dV;rw [stepV_doc (by decide)];have : ¬ idS = nX := by decide
 simp [this]
theorem bV_x (i : Nat) : pathV (bV i) nX = none := by
 rw [one_path (bV_good i) nX_list nX_dot];unfold bV;rw [stepV_doc (by decide)];have : ¬ idS = nX := by decide
 simp [this]
theorem dV_ent {i x : Nat} (hi : i < 18446744073709551616) (hx : x < 18446744073709551616) : entryP nX (dV i x) = ((iV x).key ++ (iV i).key, true, 0) := by
 unfold entryP;rw [if_neg (by rw [dV_key x hi]; simp), dV_x];dsimp only;rw [dV_id, Option.getD_some];have : allK [iV x, iV i] [false, false] = ((iV x).key ++ (iV i).key, 0) := by
  unfold allK;have e1 : allE [iV x, iV i] = 0 := by unfold allE allE; rw [iV_ofK hx, iV_ofK hi]; rfl
  have e2 : allB [iV x, iV i] [false, false] = (iV x).key ++ (iV i).key := by simp [allB, flip]
  rw [if_neg (by simp), if_neg (by rw [e1]; simp), e2, if_neg (by rw [List.length_append, iV_keylen, iV_keylen]; omega)]
 rw [this];simp
theorem bV_ent {i : Nat} (hi : i < 18446744073709551616) : entryP nX (bV i) = ([], false, 0) := by
 unfold entryP;rw [if_neg (by rw [bV_key hi]; simp), bV_x]
def rqK (d : Int) (c : ByteArray) (k : V) : Rq := ⟨d, c, ⟨#[]⟩, ⟨#[]⟩, false, k, V.zero, V.zero, V.zero, 0⟩
def rqD (d : Int) (c : ByteArray) (x : V) : Rq := ⟨d, c, ⟨#[]⟩, ⟨#[]⟩, false, V.zero, V.zero, V.zero, x, 0⟩
def rq0 (d : Int) (c : ByteArray) : Rq := ⟨d, c, ⟨#[]⟩, ⟨#[]⟩, false, V.zero, V.zero, V.zero, V.zero, 0⟩
def rqI : Rq := ⟨7, nA, nI, nX, true, V.zero, V.zero, V.zero, V.zero, 0⟩
def rqF : Rq := ⟨9, nA, nI, ⟨#[]⟩, false, V.zero, iV 0, iV 9, V.zero, 5⟩
def rqJ : Rq := ⟨9, nA, nJ, ⟨#[]⟩, false, V.zero, V.zero, V.zero, V.zero, 1⟩
def sX (docs : List V) (ixs : List Ix) : List Co := [⟨nA, docs, ixs⟩]
def ixI : Ix := ⟨nI, nX, true⟩
theorem plA : plF [nA] nA = true ∧ plN [nA] nA = 0 := by constructor <;> decide
theorem plB : plF [nA] nB = false := by decide
theorem plI : plF [nI] nI = true ∧ plN [nI] nI = 0 := by constructor <;> decide
theorem plJ : plF [nI] nJ = false := by decide
theorem plI0 : plF [] nI = false ∧ plN [] nI = 0 := by constructor <;> decide
theorem at_sX (docs : List V) (ixs : List Ix) : coAt (sX docs ixs) nA = ⟨nA, docs, ixs⟩ := by
 unfold coAt sX; simp [cnm, plA.2]
theorem doP_ok' {st st' : List Co} {q : Rq} {n : Int} {docs : List V} (h : actP st q = .ok (st', n, docs)) : doP st q = (st', ⟨0, n, docs, 0⟩) := by unfold doP; rw [h]
theorem doP_er' {st : List Co} {q : Rq} {e : Int} (h : actP st q = .error e) : doP st q = (st, ⟨e, 0, [], 0⟩) := by unfold doP; rw [h]
theorem act1 {st : List Co} {q : Rq} (h : q.do_ = 1) : actP st q = makeP st q := by unfold actP; rw [h]; rfl
theorem act3 {st : List Co} {q : Rq} (h : q.do_ = 3) : actP st q = putP st q := by unfold actP; rw [h]; rfl
theorem act4 {st : List Co} {q : Rq} (h : q.do_ = 4) : actP st q = putP st q := by unfold actP; rw [h]; rfl
theorem act5 {st : List Co} {q : Rq} (h : q.do_ = 5) : actP st q = takeP st q := by unfold actP; rw [h]; rfl
theorem act6 {st : List Co} {q : Rq} (h : q.do_ = 6) : actP st q = getP st q := by unfold actP; rw [h]; rfl
theorem act7 {st : List Co} {q : Rq} (h : q.do_ = 7) : actP st q = addIxP st q := by unfold actP; rw [h]; rfl
theorem act9 {st : List Co} {q : Rq} (h : q.do_ = 9) : actP st q = findP st q := by unfold actP; rw [h]; rfl
theorem act10 {st : List Co} {q : Rq} (h : q.do_ = 10) : actP st q = countP st q := by unfold actP; rw [h]; rfl
theorem pl_sX (docs : List V) (ixs : List Ix) : plF (cnm (sX docs ixs)) nA = true ∧ plN (cnm (sX docs ixs)) nA = 0 := plA
theorem set_sX (docs : List V) (ixs : List Ix) (c : Co) : (sX docs ixs).set 0 c = [c] := rfl
theorem kn1 : doP [] (rq0 1 nA) = (sX [] [], Rp.zero) := by
 refine doP_ok' (act1 rfl |>.trans ?_);unfold makeP;have h1 : V.name nA = true := by decide +kernel
 rw [show (rq0 1 nA).coll = nA from rfl, h1, if_neg (by decide), if_neg (show ¬ plF (cnm []) nA = true from by decide), if_neg (by decide)];rfl
theorem doc1 (d : V) (k : List UInt8) : docF [d] k = decide (Lib.compareBytes (keyP d).1 k = 0) ∧ docN [d] k = if Lib.compareBytes (keyP d).1 k < 0 then 1 else 0 := by
 have e : docN [d] k = if Lib.compareBytes (keyP d).1 k < 0 then 1 else 0 := by
  show bsG (docCf [d] k) 1 0 1 = _;by_cases h : docCf [d] k 0 < 0
  ·rw [bsG_up (by omega) h, if_pos (by exact h)]; rfl
  rw [bsG_down (by omega) h, if_neg (by exact h)]; rfl
 refine ⟨?_, e⟩;show (decide (docN [d] k < 1) && (docCf [d] k (docN [d] k) == 0)) = _;rw [e];have h0 : docCf [d] k 0 = Lib.compareBytes (keyP d).1 k := rfl;split
 ·rename_i h;simp; omega
 rw [h0, Bool.eq_iff_iff]; simp
theorem put_sX {docs : List V} {ixs : List Ix} {q : Rq} {K : List UInt8} (hc : q.coll = nA) (hk : keyP q.doc = (K, 0)) (hx : ixsE q.doc ixs = 0) (h4 : ¬ (docF docs K = true ∧ q.do_ ≠ 3)) (hcl : clashP (putDocs docs q.doc) ixs = false) :
 putP (sX docs ixs) q = .ok (sX (putDocs docs q.doc) ixs, if docF docs K = true then 1 else 0, []) := by
 unfold putP;rw [hc, (pl_sX docs ixs).1, (pl_sX docs ixs).2, at_sX, hk];dsimp only;rw [if_neg (by decide), if_neg (by decide), if_neg (by rw [hx]; decide), if_neg h4, if_neg (by rw [hcl]; decide), set_sX];rfl
theorem kn2 : doP (sX [] []) (rqD 3 nA (dV 1 5)) = (sX [dV 1 5] [], Rp.zero) :=
 doP_ok' ((act3 rfl).trans (put_sX rfl (dV_key 5 (by decide)) rfl (fun h => by cases h.1) rfl))
theorem kn3 : doP (sX [dV 1 5] []) (rqD 3 nA (dV 1 6)) = (sX [dV 1 6] [], ⟨0, 1, [], 0⟩) := by
 have hf : docF [dV 1 5] (iV 1).key = true := by rw [(doc1 _ _).1, dV_key 5 (by decide), iV_cmp (by decide) (by decide)]; decide
 have hn : docN [dV 1 5] (iV 1).key = 0 := by rw [(doc1 _ _).2, dV_key 5 (by decide), iV_cmp (by decide) (by decide)]; decide
 have hp : putDocs [dV 1 5] (dV 1 6) = [dV 1 6] := by unfold putDocs; rw [dV_key 6 (by decide)]; dsimp only; rw [if_pos hf, hn]; rfl
 have := put_sX (docs := [dV 1 5]) (ixs := []) (q := rqD 3 nA (dV 1 6)) rfl (dV_key 6 (by decide)) rfl (fun h => h.2 rfl) rfl;rw [if_pos hf] at this;refine doP_ok' ((act3 rfl).trans (this.trans ?_));show Except.ok (sX (putDocs [dV 1 5] (dV 1 6)) [], (1 : Int), []) = _;rw [hp]
theorem hf6 : docF [dV 1 6] (iV 1).key = true ∧ docN [dV 1 6] (iV 1).key = 0 := by
 constructor
 ·rw [(doc1 _ _).1, dV_key 6 (by decide), iV_cmp (by decide) (by decide)]; decide
 rw [(doc1 _ _).2, dV_key 6 (by decide), iV_cmp (by decide) (by decide)]; decide
theorem hg6 : docF [dV 1 6] (iV 2).key = false ∧ docN [dV 1 6] (iV 2).key = 1 := by
 constructor
 ·rw [(doc1 _ _).1, dV_key 6 (by decide), iV_cmp (by decide) (by decide)]; decide
 rw [(doc1 _ _).2, dV_key 6 (by decide), iV_cmp (by decide) (by decide)]; decide
theorem kn4 : doP (sX [dV 1 6] []) (rqK 6 nA (iV 1)) = (sX [dV 1 6] [], ⟨0, 0, [dV 1 6], 0⟩) := by
 refine doP_ok' ((act6 rfl).trans ?_);unfold getP;rw [show (rqK 6 nA (iV 1)).coll = nA from rfl, show (rqK 6 nA (iV 1)).key = iV 1 from rfl, (pl_sX _ _).1, at_sX, iV_ofK (by decide)];dsimp only;rw [if_neg (by decide), if_neg (by decide), hf6.1, hf6.2, if_neg (by decide)];rfl
theorem kn5 : doP (sX [dV 1 6] []) (rq0 10 nA) = (sX [dV 1 6] [], ⟨0, 1, [], 0⟩) := by
 refine doP_ok' ((act10 rfl).trans ?_);unfold countP;rw [show (rq0 10 nA).coll = nA from rfl, (pl_sX _ _).1, at_sX, if_neg (by decide)];rfl
theorem entD : entOf nX (dV 1 6) = some ((iV 6).key ++ (iV 1).key, 13, dV 1 6) := by
 unfold entOf;rw [dV_ent (by decide) (by decide), dV_id, Option.getD_some, iV_ofK (by decide)];dsimp only;rw [if_pos rfl, List.length_append, iV_keylen, iV_keylen];rfl
theorem entD2 : entOf nX (dV 2 6) = some ((iV 6).key ++ (iV 2).key, 13, dV 2 6) := by
 unfold entOf;rw [dV_ent (by decide) (by decide), dV_id, Option.getD_some, iV_ofK (by decide)];dsimp only;rw [if_pos rfl, List.length_append, iV_keylen, iV_keylen];rfl
theorem entB : entOf nX (bV 2) = none := by
 unfold entOf;rw [bV_ent (by decide)];rfl
theorem eE1 : entsE nX [dV 1 6] = 0 := by rw [entsE, dV_ent (by decide) (by decide)]; rfl
theorem eE2 : entsE nX [dV 1 6, dV 2 6] = 0 := by rw [entsE, dV_ent (by decide) (by decide), entsE, dV_ent (by decide) (by decide)]; rfl
theorem eE3 : entsE nX [dV 1 6, bV 2] = 0 := by rw [entsE, dV_ent (by decide) (by decide), entsE, bV_ent (by decide)]; rfl
theorem eP1 : entP nX [dV 1 6] = [((iV 6).key ++ (iV 1).key, 13, dV 1 6)] := by
 unfold entP entsL;rw [if_pos eE1, List.filterMap_cons, entD];rfl
theorem eP3 : entP nX [dV 1 6, bV 2] = [((iV 6).key ++ (iV 1).key, 13, dV 1 6)] := by
 unfold entP entsL;rw [if_pos eE3, List.filterMap_cons, entD];dsimp only;rw [List.filterMap_cons, entB];rfl
theorem eP2 : entP nX [dV 1 6, dV 2 6] = [((iV 6).key ++ (iV 1).key, 13, dV 1 6), ((iV 6).key ++ (iV 2).key, 13, dV 2 6)] := by
 have hc : ltB ((iV 6).key ++ (iV 1).key) ((iV 6).key ++ (iV 2).key) = true := by
  unfold ltB;rw [ent_cmp (iV_keyed (by decide)).toFine (iV_keyed (by decide)).toFine (iV_keyed (by decide)).toFine (iV_keyed (by decide)).toFine];rw [V.cmp_bytes (iV_keyed (by decide)).toFine (iV_keyed (by decide)).toFine, V.cmp_bytes (iV_keyed (by decide)).toFine (iV_keyed (by decide)).toFine, iV_cmp (by decide) (by decide), iV_cmp (by decide) (by decide)];decide
 unfold entP entsL;rw [if_pos eE2, List.filterMap_cons, entD];dsimp only;rw [List.filterMap_cons, entD2];dsimp only;show insE _ [_] = _;unfold insE;rw [if_pos (by exact hc)];rfl
theorem kn6 : doP (sX [dV 1 6] []) rqI = (sX [dV 1 6] [ixI], Rp.zero) := by
 refine doP_ok' ((act7 rfl).trans ?_);have h1 : V.name nI = true := by decide +kernel
 unfold addIxP rqI;dsimp only;rw [h1, (pl_sX _ _).1, (pl_sX _ _).2, at_sX];dsimp only;rw [if_neg (by decide), if_neg (by decide), if_neg (by decide), if_neg (show ¬ plF (xnm ⟨nA, [dV 1 6], []⟩) nI = true from by rw [show plF (xnm ⟨nA, [dV 1 6], []⟩) nI = false from plI0.1]; decide), if_neg (by decide), eE1, if_neg (by decide), eP1, if_neg (by rintro ⟨-, h⟩; cases h), set_sX];rfl
theorem kn7 : doP (sX [dV 1 6] [ixI]) (rqD 4 nA (dV 2 6)) = (sX [dV 1 6] [ixI], ⟨13, 0, [], 0⟩) := by
 refine doP_er' ((act4 rfl).trans ?_);have hp : putDocs [dV 1 6] (dV 2 6) = [dV 1 6, dV 2 6] := by
  unfold putDocs; rw [dV_key 6 (by decide)]; dsimp only; rw [if_neg (by rw [hg6.1]; decide), hg6.2]; rfl
 have ht : twiceP (entP nX [dV 1 6, dV 2 6]) = true := by
  rw [eP2];have e1 : ((iV 6).key ++ (iV 1).key).take 13 = (iV 6).key := by rw [← iV_keylen 6, List.take_left']; rfl
  have e2 : ((iV 6).key ++ (iV 2).key).take 13 = (iV 6).key := by rw [← iV_keylen 6, List.take_left']; rfl
  show (decide (((iV 6).key ++ (iV 1).key).take 13 = ((iV 6).key ++ (iV 2).key).take 13) || _) = true;rw [e1, e2]; simp
 unfold putP rqD;dsimp only;rw [(pl_sX _ _).1, at_sX, dV_key 6 (by decide)];dsimp only;rw [if_neg (by decide), if_neg (by decide), if_neg (by rw [ixsE, show ixI.path = nX from rfl, dV_ent (by decide) (by decide)]; decide), if_neg (by rw [hg6.1]; rintro ⟨h, -⟩; cases h), hp, if_pos (by rw [clashP, show ixI.path = nX from rfl, ht]; rfl)]
theorem kn8 : doP (sX [dV 1 6] [ixI]) (rqD 4 nA (bV 1)) = (sX [dV 1 6] [ixI], ⟨6, 0, [], 0⟩) := by
 refine doP_er' ((act4 rfl).trans ?_);unfold putP rqD;dsimp only;rw [(pl_sX _ _).1, at_sX, bV_key (by decide)];dsimp only;rw [if_neg (by decide), if_neg (by decide), if_neg (by rw [ixsE, show ixI.path = nX from rfl, bV_ent (by decide)]; decide), if_pos ⟨hf6.1, by decide⟩]
theorem kn9 : doP (sX [dV 1 6] [ixI]) (rqD 4 nA (bV 2)) = (sX [dV 1 6, bV 2] [ixI], Rp.zero) := by
 have hp : putDocs [dV 1 6] (bV 2) = [dV 1 6, bV 2] := by
  unfold putDocs; rw [bV_key (by decide)]; dsimp only; rw [if_neg (by rw [hg6.1]; decide), hg6.2]; rfl
 have ht : twiceP (entP nX [dV 1 6, bV 2]) = false := by rw [eP3]; rfl
 have := put_sX (docs := [dV 1 6]) (ixs := [ixI]) (q := rqD 4 nA (bV 2)) rfl (bV_key (by decide)) (by rw [ixsE, show ixI.path = nX from rfl, show (rqD 4 nA (bV 2)).doc = bV 2 from rfl, bV_ent (by decide)]; rfl) (by rw [hg6.1]; rintro ⟨h, -⟩; cases h) (by rw [show (rqD 4 nA (bV 2)).doc = bV 2 from rfl, hp, clashP, show ixI.path = nX from rfl, ht]; rfl);rw [if_neg (by rw [hg6.1]; decide), show (rqD 4 nA (bV 2)).doc = bV 2 from rfl, hp] at this;exact doP_ok' ((act4 rfl).trans this)
theorem iV_cmpV {a b : Nat} (ha : a < 9223372036854775808) (hb : b < 9223372036854775808) : cmpV (iV a) (iV b) = (sg a b, 0) := by
 unfold cmpV;rw [iV_good, iV_good, if_pos (by rfl), V.cmp_bytes (iV_keyed (by omega)).toFine (iV_keyed (by omega)).toFine, iV_cmp ha hb]
theorem kn10 : doP (sX [dV 1 6, bV 2] [ixI]) rqF = (sX [dV 1 6, bV 2] [ixI], ⟨0, 1, [dV 1 6], 0⟩) := by
 refine doP_ok' ((act9 rfl).trans ?_);have hni : ¬ nI = ⟨#[]⟩ := by decide
 have hh : findHits ⟨nA, [dV 1 6, bV 2], [ixI]⟩ rqF = [dV 1 6] := by
  have hx : findX ⟨nA, [dV 1 6, bV 2], [ixI]⟩ rqF = nX := rfl;have hw : withinP (findV rqF nX (dV 1 6)) rqF.low rqF.high = true := by
   unfold findV;rw [if_neg (by exact hni), dV_x, Option.getD_some];show withinP (iV 6) (iV 0) (iV 9) = true;unfold withinP;rw [iV_cmpV (by decide) (by decide), iV_cmpV (by decide) (by decide)];rfl
  unfold findHits findDocs;rw [if_neg (by exact hni), hx, eP3];show ([dV 1 6].filter _).take 5 = _;rw [List.filter_cons_of_pos (by exact hw)];rfl
 unfold findP;rw [show rqF.coll = nA from rfl, (pl_sX _ _).1, at_sX, hh];rw [if_neg (by decide), if_neg (by rintro ⟨h, -⟩; rw [show plF (xnm ⟨nA, [dV 1 6, bV 2], [ixI]⟩) rqF.index = true from plI.1] at h; cases h), if_neg (by decide), if_neg (by rw [show rqF.low = iV 0 from rfl, bndE, iV_good]; decide), if_neg (by rw [show rqF.high = iV 9 from rfl, bndE, iV_good]; decide)];rfl
theorem doc2 (d e : V) (k : List UInt8) (h1 : Lib.compareBytes (keyP d).1 k < 0) (h2 : Lib.compareBytes (keyP e).1 k < 0) : docF [d, e] k = false := by
 have e : docN [d, e] k = 2 := by
  show bsG (docCf [d, e] k) 2 0 2 = _;rw [bsG_up (by omega) (by exact h2)];rfl
 show (decide (docN [d, _] k < 2) && _) = _;rw [e]; rfl
theorem kn11 : doP (sX [dV 1 6, bV 2] [ixI]) (rqK 5 nA (iV 7)) = (sX [dV 1 6, bV 2] [ixI], ⟨17, 0, [], 0⟩) := by
 refine doP_er' ((act5 rfl).trans ?_);have h := doc2 (dV 1 6) (bV 2) (iV 7).key (by rw [dV_key _ (by decide), iV_cmp (by decide) (by decide)]; decide) (by rw [bV_key (by decide), iV_cmp (by decide) (by decide)]; decide);unfold takeP rqK;dsimp only;rw [(pl_sX _ _).1, at_sX, iV_ofK (by decide)];dsimp only;rw [if_neg (by decide), if_neg (by decide), if_pos h]
theorem kn12 : doP (sX [dV 1 6, bV 2] [ixI]) (rqK 5 nB (iV 1)) = (sX [dV 1 6, bV 2] [ixI], ⟨5, 0, [], 0⟩) := by
 refine doP_er' ((act5 rfl).trans ?_);unfold takeP;rw [if_pos (by exact plB)]
theorem kn13 : doP (sX [dV 1 6, bV 2] [ixI]) (rqD 3 nA (xV 1)) = (sX [dV 1 6, bV 2] [ixI], ⟨14, 0, [], 0⟩) := by
 refine doP_er' ((act3 rfl).trans ?_);unfold putP rqD;dsimp only;rw [(pl_sX _ _).1, xV_key];rw [if_neg (by decide), if_pos (by decide)]
theorem kn14 : doP (sX [dV 1 6, bV 2] [ixI]) rqJ = (sX [dV 1 6, bV 2] [ixI], ⟨5, 0, [], 0⟩) := by
 refine doP_er' ((act9 rfl).trans ?_);have hni : ¬ nJ = ⟨#[]⟩ := by decide
 unfold findP;rw [show rqJ.coll = nA from rfl, (pl_sX _ _).1, at_sX, if_neg (by decide), if_pos ⟨plJ, hni⟩]
theorem kn15 : doP (sX [dV 1 6, bV 2] [ixI]) (rq0 1 nA) = (sX [dV 1 6, bV 2] [ixI], ⟨6, 0, [], 0⟩) := by
 refine doP_er' ((act1 rfl).trans ?_);unfold makeP;have h1 : V.name nA = true := by decide +kernel
 rw [show (rq0 1 nA).coll = nA from rfl, h1, if_neg (by decide), if_pos (by exact plA.1)]
end
section
open Go.RowKit
theorem mat_any (n cap mb : Nat) (A : Option Addr) (el : Nat → Cc) (s : ByteArray) (w : World) (hn : n ≤ 140737488355328) (hrow : RowR w A 3 n (fun j => (el j).cells)) (h0 : w.cell? ⟨mb, 0, none⟩ = some (.slice A n cap)) (h2 : w.cell? ⟨mb, 2, none⟩ = some (.string s)) (hmb : mb < w.heap.size) :
 Calls Tryz.prog 115 #[.pointer (some ⟨mb, 0, none⟩)] w fun e w' => e = .returned (.tuple #[.int .i64 (bsN (nameCf (fun j => (el j).nm) s) n : Nat), .bool (bsF (nameCf (fun j => (el j).nm) s) n)]) ∧ Grow w w' := by
 have HBS := hide (fun w1 (h : Grow w w1) => bsC_any n (nameCf (fun j => (el j).nm) s) el A cap (.string s) w1 hn (hrow.grow h) (fun j hj w' hg => atc_any (el j) s w'));have HMB := hide hmb;obtain ⟨RN, hRN⟩ : ∃ R, bsN (nameCf (fun j => (el j).nm) s) n = R := ⟨_, rfl⟩;obtain ⟨RF, hRF⟩ : ∃ R, bsF (nameCf (fun j => (el j).nm) s) n = R := ⟨_, rfl⟩;rw [hRN, hRF] at HBS ⊢;clear hrow hRN hRF;go_enter Tryz.func115, Tryz.ntmps115;go_wp2_with fail;refine wp_region_noPanic ?_;refine wp_region_held_drew (S := fun w' => Grow w w' ∧ w'.cell? ⟨mb, 0, none⟩ = some (.slice A n cap) ∧ w'.cell? ⟨mb, 2, none⟩ = some (.string s)) (by kernel_rfl) (⟨(Grow.refl w).drew, h0, h2⟩) (fun hHeld => ?_);refine tx_ 0 ?_
 try simp only [ly_]
 refine tx_ 1 ?_
 try simp only [ly_]
 refine tx_ 2 ?_
 try simp only [ly_]
 refine tx_ 3 ?_
 try simp only [ly_]
 refine tx_ 4 ?_
 try simp only [ly_]
 refine tx_ 5 ?_
 try simp only [ly_]
 refine tx_ 6 ?_
 try simp only [ly_]
 refine tx_ 7 ?_
 try simp only [ly_]
 refine tx_ 8 ?_
 try simp only [ly_]
 refine tx_ 9 ?_
 try simp only [ly_]
 refine r1_ 10 (fun K hK => ?_);go_simp;go_at_call 162;refine (HBS.out _ hHeld.1).mono ?_;rintro ee w3 ⟨rfl, hg3⟩;refine hK.out _ _ (⟨hHeld.1.trans hg3, (hg3.below.cell (p := ⟨mb, 0, none⟩) (Nat.lt_of_lt_of_le HMB.out hHeld.1.size)).trans hHeld.2.1, (hg3.below.cell (p := ⟨mb, 2, none⟩) (Nat.lt_of_lt_of_le HMB.out hHeld.1.size)).trans hHeld.2.2⟩) (fun hHeld => ?_);clear hK K
 try simp only [ly_]
 refine tk_ 11 ?_
 try simp only [ly_]
 refine tk_ 12 ?_
 try simp only [ly_]
 refine tk_ 13 ?_
 try simp only [ly_]
 refine tk_ 14 ?_
 try simp only [ly_]
 refine dn_ ?_;go_wp2_with fail;go_ret2;exact ⟨rfl, hHeld.1⟩
theorem mindex_any (n cap mb pb po : Nat) (A : Option Addr) (el : Nat → Ix) (s : ByteArray) (w : World) (hn : n ≤ 140737488355328) (hrow : RowR w A 3 n (fun j => (el j).cells)) (h0 : w.cell? ⟨pb, po + 2, none⟩ = some (.slice A n cap)) (h2 : w.cell? ⟨mb, 3, none⟩ = some (.string s)) (hmb : mb < w.heap.size) (hpb : pb < w.heap.size) :
 Calls Tryz.prog 125 #[.pointer (some ⟨mb, 0, none⟩), .pointer (some ⟨pb, po, none⟩)] w fun e w' => e = .returned (.tuple #[.int .i64 (bsN (nameCf (fun j => (el j).name) s) n : Nat), .bool (bsF (nameCf (fun j => (el j).name) s) n)]) ∧ Grow w w' := by
 have HBS := hide (fun w1 (h : Grow w w1) => bsX_any n (nameCf (fun j => (el j).name) s) el A cap (.string s) w1 hn (hrow.grow h) (fun j hj w' hg => ixc_any (el j) s w'));have HMB := hide hmb;have HPB := hide hpb;obtain ⟨RN, hRN⟩ : ∃ R, bsN (nameCf (fun j => (el j).name) s) n = R := ⟨_, rfl⟩;obtain ⟨RF, hRF⟩ : ∃ R, bsF (nameCf (fun j => (el j).name) s) n = R := ⟨_, rfl⟩;rw [hRN, hRF] at HBS ⊢;clear hrow hRN hRF;go_enter Tryz.func125, Tryz.ntmps125;go_wp2_with fail;refine wp_region_noPanic ?_;refine wp_region_held_drew (S := fun w' => Grow w w' ∧ w'.cell? ⟨pb, po + 2, none⟩ = some (.slice A n cap) ∧ w'.cell? ⟨mb, 3, none⟩ = some (.string s)) (by kernel_rfl) (⟨(Grow.refl w).drew, h0, h2⟩) (fun hHeld => ?_);refine tx_ 0 ?_
 try simp only [ly_]
 refine tx_ 1 ?_
 try simp only [ly_]
 refine tx_ 2 ?_
 try simp only [ly_]
 refine tx_ 3 ?_
 try simp only [ly_]
 refine tx_ 4 ?_
 try simp only [ly_]
 refine tx_ 5 ?_
 try simp only [ly_]
 refine tx_ 6 ?_
 try simp only [ly_]
 refine tx_ 7 ?_
 try simp only [ly_]
 refine tx_ 8 ?_
 try simp only [ly_]
 refine r1_ 9 (fun K hK => ?_);go_simp;go_at_call 170;refine (HBS.out _ hHeld.1).mono ?_;rintro ee w3 ⟨rfl, hg3⟩;refine hK.out _ _ (⟨hHeld.1.trans hg3, (hg3.below.cell (p := ⟨pb, po + 2, none⟩) (Nat.lt_of_lt_of_le HPB.out hHeld.1.size)).trans hHeld.2.1, (hg3.below.cell (p := ⟨mb, 3, none⟩) (Nat.lt_of_lt_of_le HMB.out hHeld.1.size)).trans hHeld.2.2⟩) (fun hHeld => ?_);clear hK K
 try simp only [ly_]
 refine tk_ 10 ?_
 try simp only [ly_]
 refine tk_ 11 ?_
 try simp only [ly_]
 refine tk_ 12 ?_
 try simp only [ly_]
 refine tk_ 13 ?_
 try simp only [ly_]
 refine dn_ ?_;go_wp2_with fail;go_ret2;exact ⟨rfl, hHeld.1⟩
end
section
open Go.RowKit
theorem mcoll_no (n cap mb : Nat) (A : Option Addr) (el : Nat → Cc) (s : ByteArray) (w : World) (hn : n ≤ 140737488355328) (hrow : RowR w A 3 n (fun j => (el j).cells)) (h0 : w.cell? ⟨mb, 0, none⟩ = some (.slice A n cap)) (h2 : w.cell? ⟨mb, 2, none⟩ = some (.string s)) (hmb : mb < w.heap.size) (hf : bsF (nameCf (fun j => (el j).nm) s) n = false) :
 Calls Tryz.prog 117 #[.pointer (some ⟨mb, 0, none⟩)] w fun e w' => e = .panicked (thrown 5) ∧ Grow w w' := by
 have HAT := hide (mat_any n cap mb A el s w hn hrow h0 h2 hmb);rw [hf] at HAT;obtain ⟨RN, hRN⟩ : ∃ R, bsN (nameCf (fun j => (el j).nm) s) n = R := ⟨_, rfl⟩;rw [hRN] at HAT;have HM := hide (fun w => pmust_no 5 w);clear hrow hRN hf h0 h2;go_enter Tryz.func117, Tryz.ntmps117;go_wp2_with fail;refine HAT.out.mono ?_;rintro e w1 ⟨rfl, hg⟩;have HG := hide hg;clear hg;go_wp2_with fail;refine (HM.out w1).mono ?_;rintro e w2 ⟨rfl, rfl⟩;go_wp2_with fail;exact ⟨rfl, rfl, HG.out⟩
theorem mcoll_yes (n cap mb gb o : Nat) (el : Nat → Cc) (s : ByteArray) (w : World) (hn : n ≤ 140737488355328) (hrow : RowR w (some ⟨gb, o, none⟩) 3 n (fun j => (el j).cells)) (h0 : w.cell? ⟨mb, 0, none⟩ = some (.slice (some ⟨gb, o, none⟩) n cap)) (h2 : w.cell? ⟨mb, 2, none⟩ = some (.string s)) (hmb : mb < w.heap.size) (hf : bsF (nameCf (fun j => (el j).nm) s) n = true) :
 Calls Tryz.prog 117 #[.pointer (some ⟨mb, 0, none⟩)] w fun e w' => e = .returned (.pointer (some ⟨gb, o + bsN (nameCf (fun j => (el j).nm) s) n * 3, none⟩)) ∧ Grow w w' := by
 have HAT := hide (mat_any n cap mb (some ⟨gb, o, none⟩) el s w hn hrow h0 h2 hmb);have hlt : bsN (nameCf (fun j => (el j).nm) s) n < n := by
  unfold bsF at hf;simp only [Bool.and_eq_true, decide_eq_true_eq] at hf;exact hf.1
 rw [hf] at HAT;obtain ⟨RN, hRN⟩ : ∃ R, bsN (nameCf (fun j => (el j).nm) s) n = R := ⟨_, rfl⟩;rw [hRN] at HAT hlt ⊢;have HM := hide (fun w => pmust_yes 5 w);have H0 := hide (fun (w1 : World) (h : Grow w w1) => (h.below.cell (p := ⟨mb, 0, none⟩) hmb).trans h0);clear hrow hRN hf h0 h2;go_enter Tryz.func117, Tryz.ntmps117;go_wp2_with fail;refine HAT.out.mono ?_;rintro e w1 ⟨rfl, hg⟩;have HG := hide hg;have hm0 := H0.out w1 hg;clear hg;go_wp2_with fail;refine (HM.out w1).mono ?_;rintro e w2 ⟨rfl, rfl⟩;have hi0 : (0 : Int) ≤ (RN : Int) := by omega
 have hi1 : (RN : Int) < (n : Int) := by omega
 go_wp2_with fail;go_ret;exact ⟨rfl, HG.out⟩
end
section
open Go.RowKit
def FoundC (w : World) (docs : List V) (k : V) (e : Ending) (w' : World) : Prop :=
 Grow w w' ∧ (((ofK k).2 ≠ 0 ∧ e = .panicked (thrown (ofK k).2)) ∨ ((ofK k).2 = 0 ∧ bsF (docCf docs (ofK k).1) docs.length = false ∧ e = .panicked (thrown 17)) ∨
  ((ofK k).2 = 0 ∧ bsF (docCf docs (ofK k).1) docs.length = true ∧ e = .returned (.int .i64 (bsN (docCf docs (ofK k).1) docs.length : Nat))))
theorem found_any (docs : List V) (k : V) (ck : Cv) (mb pb po cap : Nat) (A : Option Addr) (w : World) (hk20 : k.count ≤ 20000) (hcount : ∀ v ∈ docs, v.count ≤ 20000) (hlen : docs.length ≤ 140737488355328) (hT : Tabs w) (hc : w.cell? ⟨pb, po + 1, none⟩ = some (.slice A docs.length cap)) (hpb : pb < w.heap.size) (hmb : mb < w.heap.size) (hd : InL w A cap docs) (hk : In w k ck)
 (hq : ∀ i v, ck.cells[i]? = some v → w.cell? ⟨mb, 6 + i, none⟩ = some v) :
 Calls Tryz.prog 123 #[.pointer (some ⟨mb, 0, none⟩), .pointer (some ⟨pb, po, none⟩)] w (FoundC w docs k) := by
 have q0 := hq 0 _ rfl;have q1 := hq 1 _ rfl;have q2 := hq 2 _ rfl;have q3 := hq 3 _ rfl;have q4 := hq 4 _ rfl;simp only [Nat.reduceAdd] at q0 q1 q2 q3 q4;have HGOOD := hide (good_any k w ck hk20 hT hk);have HD := hide (fun (w1 : World) (hg : Grow w w1) (b : List UInt8) (K : Option Addr) (kc : Nat) (hb : InB w1 K b) => doc_any docs pb po cap A b K kc w1 hcount hlen (hT.grow hg) ((hg.below.cell (p := ⟨pb, po + 1, none⟩) hpb).trans hc) (Nat.lt_of_lt_of_le hpb hg.size) (hd.grow hg) hb);have HOF := hide (fun (w1 : World) (hg : Grow w w1) => of_any k ck w1 (IsV.fit k ck hk) hk20 (hT.grow hg) (hk.grow hg));have HQ := hide (fun (w1 : World) (hg : Grow w w1) i v (hi : ck.cells[i]? = some v) => (hg.below.cell (p := ⟨mb, 6 + i, none⟩) hmb).trans (hq i v hi));obtain ⟨g, hg0⟩ : ∃ g, k.good = g := ⟨_, rfl⟩;rw [hg0] at HGOOD;have HG0 := hide hg0;clear hq hT hk hd hc hg0 hcount
 go_enter Tryz.func123, Tryz.ntmps123;go_wp2_with fail;refine HGOOD.out.mono ?_;rintro e w1 ⟨rfl, hg1⟩;have HG1 := hide hg1;clear q0 q1 q2 q3 q4;have q0 := HQ.out w1 hg1 0 _ rfl;have q1 := HQ.out w1 hg1 1 _ rfl;have q2 := HQ.out w1 hg1 2 _ rfl;have q3 := HQ.out w1 hg1 3 _ rfl;have q4 := HQ.out w1 hg1 4 _ rfl;simp only [Nat.reduceAdd] at q0 q1 q2 q3 q4;clear hg1;by_cases h0 : g = 0
 ·subst h0;go_wp2_with fail;refine (right_yes w1).mono ?_;rintro e w2 ⟨rfl, rfl⟩;go_wp2_with fail;obtain ⟨⟨kb, ke⟩, hke⟩ : ∃ r, ofK k = r := ⟨_, rfl⟩;have HO := HOF.out w1 HG1.out;rw [hke] at HO;have HKE := hide hke;refine HO.mono ?_;rintro e w2 ⟨base, A2, c2, rfl, hb2, hr2, hg2⟩;dsimp only at hr2 ⊢;have HG2 := hide (HG1.out.trans hg2);have HR2 := hide hr2;have HD2 := hide (HD.out w2 (HG1.out.trans hg2) kb A2 c2 hr2.reads.1);clear hr2 hg2 hb2 hke HO;by_cases he : ke = 0
  ·subst he;obtain ⟨RN, hRN⟩ : ∃ R, bsN (docCf docs kb) docs.length = R := ⟨_, rfl⟩;obtain ⟨RF, hRF⟩ : ∃ R, bsF (docCf docs kb) docs.length = R := ⟨_, rfl⟩;rw [hRN, hRF] at HD2;have HRN := hide hRN;have HRF := hide hRF;clear hRN hRF;go_wp2_with fail;refine (right_yes w2).mono ?_;rintro e w3 ⟨rfl, rfl⟩;go_wp2_with fail;refine HD2.out.mono ?_;rintro e w3 ⟨rfl, hg3⟩;have HG3 := hide (HG2.out.trans hg3);clear hg3
   cases RF with
   | false =>
    go_wp2_with fail;refine (pmust_no 17 w3).mono ?_;rintro e w4 ⟨rfl, rfl⟩;go_wp2_with fail;exact ⟨rfl, HG3.out, .inr (.inl ⟨by rw [HKE.out], by rw [HKE.out]; exact HRF.out, rfl⟩)⟩
   | true =>
    go_wp2_with fail;refine (pmust_yes 17 w3).mono ?_;rintro e w4 ⟨rfl, rfl⟩;go_wp2_with fail;go_ret;exact ⟨HG3.out, .inr (.inr ⟨by rw [HKE.out], by rw [HKE.out]; exact HRF.out, by rw [HKE.out, ← HRN.out]; rfl⟩)⟩
  go_wp2_with fail;refine (right_no ke he w2).mono ?_;rintro e w3 ⟨rfl, rfl⟩;go_wp2_with fail;exact ⟨rfl, HG2.out, .inl ⟨by rw [HKE.out]; exact he, by rw [HKE.out]⟩⟩
 go_wp2_with fail;refine (right_no g h0 w1).mono ?_;rintro e w2 ⟨rfl, rfl⟩;have hof : ofK k = ([], g) := by unfold ofK; rw [if_pos (by rw [HG0.out]; exact h0), HG0.out]
 go_wp2_with fail;exact ⟨rfl, HG1.out, .inl ⟨by rw [hof]; exact h0, by rw [hof]⟩⟩
end
section
open Go.RowKit
abbrev mcells (A : Option Addr) (n cap : Nat) (d : Int) (c i p : ByteArray) (u : Bool) (k l h x : Cv) (qn : Int) : Array Value :=
 #[.slice A n cap, .int .i64 d, .string c, .string i, .string p, .bool u, .int .i64 k.k, .int .u64 k.n, .slice k.aB k.nB k.cB, .slice k.aL k.nL k.cL, .slice k.aF k.nF k.cF,
  .int .i64 l.k, .int .u64 l.n, .slice l.aB l.nB l.cB, .slice l.aL l.nL l.cL, .slice l.aF l.nF l.cF, .int .i64 h.k, .int .u64 h.n, .slice h.aB h.nB h.cB, .slice h.aL h.nL h.cL, .slice h.aF h.nF h.cF,
  .int .i64 x.k, .int .u64 x.n, .slice x.aB x.nB x.cB, .slice x.aL x.nL x.cL, .slice x.aF x.nF x.cF, .int .i64 qn, .int .i64 0, .int .i64 0, .slice none 0 0, .int .i64 0]
structure Mach (w : World) (B mb : Nat) (A : Option Addr) (cap : Nat) (es : List Cc) (st : List Co) (q : Rq) (ck cl ch cx : Cv) : Prop where
 lo : B ≤ mb
 own : Own w B A cap es st
 blk : Blk w mb 96 (mcells A st.length cap q.do_ q.coll q.index q.path q.unique ck cl ch cx q.n)
 key : InU w B q.key ck
 low : InU w B q.low cl
 high : InU w B q.high ch
 doc : InU w B q.doc cx
section
variable {w : World} {B mb cap : Nat} {A : Option Addr} {es : List Cc} {st : List Co} {q : Rq} {ck cl ch cx : Cv}
theorem Mach.lt (h : Mach w B mb A cap es st q ck cl ch cx) : mb < w.heap.size := h.blk.lt
theorem Mach.le (h : Mach w B mb A cap es st q ck cl ch cx) : B ≤ w.heap.size := Nat.le_trans h.lo (Nat.le_of_lt h.lt)
theorem Mach.grow {w' : World} (h : Mach w B mb A cap es st q ck cl ch cx) (hg : Grow w w') : Mach w' B mb A cap es st q ck cl ch cx :=
 ⟨h.lo, h.own.grow h.le hg, h.blk.grow hg, h.key.below hg.below h.le (Nat.le_refl _), h.low.below hg.below h.le (Nat.le_refl _), h.high.below hg.below h.le (Nat.le_refl _), h.doc.below hg.below h.le (Nat.le_refl _)⟩
theorem Mach.el (h : Mach w B mb A cap es st q ck cl ch cx) : es.length = st.length := h.own.two.1
theorem Mach.nms (h : Mach w B mb A cap es st q ck cl ch cx) : (fun j => (es.getD j Cc.zero).nm) = fun j => (cnm st).getD j ⟨#[]⟩ := by
 funext j;rw [List.getD_eq_getElem?_getD, List.getD_eq_getElem?_getD, List.getElem?_map];by_cases hj : j < st.length
 ·have hj' : j < es.length := by rw [h.el]; exact hj
  rw [List.getElem?_eq_getElem hj, List.getElem?_eq_getElem hj'];exact (h.own.two.at_ hj' hj).nm
 have hel := h.el;rw [List.getElem?_eq_none (show es.length ≤ j by omega), List.getElem?_eq_none (show st.length ≤ j by omega)]; rfl
theorem Mach.rowR (h : Mach w B mb A cap es st q ck cl ch cx) : RowR w A 3 st.length (fun j => (es.getD j Cc.zero).cells) := fun j hj => by
 have hj' : j < es.length := by rw [h.el]; exact hj
 have hr := own_reads (S := fun _ => False) h.own.row (fun _ _ h => h);obtain ⟨bk, o, e, hc⟩ := hr.2 (by omega);have hc0 := hc 0 _ (List.getElem?_eq_getElem (by rw [cellsC_len]; omega));refine ⟨bk, o, e, hc0.2.1, fun i v hi => ?_⟩;have h3 : i < 3 := by
  rcases Nat.lt_or_ge i 3 with h3 | h3
  ·exact h3
  rw [Array.getElem?_eq_none (by simpa using h3)] at hi; cases hi
 have hget : es.getD j Cc.zero = es[j] := by rw [List.getD_eq_getElem?_getD, List.getElem?_eq_getElem hj']; rfl
 change (es.getD j Cc.zero).cells[i]? = some v at hi;rw [hget] at hi;have := hc (j * 3 + i) v (by rw [cellsC, fz_get _ 3 (fun _ => rfl) es j i h3 es[j] (List.getElem?_eq_getElem hj')]; rw [Array.getElem?_toList]; exact hi);rw [← Nat.add_assoc] at this;exact this.1
theorem Mach.short {N : Nat} (h : StOk N st) : st.length ≤ 140737488355328 := Nat.le_trans h.n (by omega)
theorem mat_m (h : Mach w B mb A cap es st q ck cl ch cx) (hs : st.length ≤ 140737488355328) :
 Calls Tryz.prog 115 #[.pointer (some ⟨mb, 0, none⟩)] w fun e w' => e = .returned (.tuple #[.int .i64 (plN (cnm st) q.coll : Nat), .bool (plF (cnm st) q.coll)]) ∧ Grow w w' := by
 have h0 : w.cell? ⟨mb, 0, none⟩ = some (.slice A st.length cap) := by rw [h.blk.cell]; rfl
 have h2 : w.cell? ⟨mb, 2, none⟩ = some (.string q.coll) := by rw [h.blk.cell]; rfl
 have := mat_any st.length cap mb A (fun j => es.getD j Cc.zero) q.coll w hs h.rowR h0 h2 h.lt;rw [h.nms] at this;unfold plN plF;rw [List.length_map];exact this
theorem coll_m_no (h : Mach w B mb A cap es st q ck cl ch cx) (hs : st.length ≤ 140737488355328) (hf : plF (cnm st) q.coll = false) :
 Calls Tryz.prog 117 #[.pointer (some ⟨mb, 0, none⟩)] w fun e w' => e = .panicked (thrown 5) ∧ Grow w w' := by
 have h0 : w.cell? ⟨mb, 0, none⟩ = some (.slice A st.length cap) := by rw [h.blk.cell]; rfl
 have h2 : w.cell? ⟨mb, 2, none⟩ = some (.string q.coll) := by rw [h.blk.cell]; rfl
 refine mcoll_no st.length cap mb A (fun j => es.getD j Cc.zero) q.coll w hs h.rowR h0 h2 h.lt ?_;rw [h.nms];unfold plF at hf;rw [List.length_map] at hf;exact hf
theorem coll_m (h : Mach w B mb A cap es st q ck cl ch cx) (hs : st.length ≤ 140737488355328) (hf : plF (cnm st) q.coll = true) {gb : Nat} (hA : A = some ⟨gb, 0, none⟩) :
 Calls Tryz.prog 117 #[.pointer (some ⟨mb, 0, none⟩)] w fun e w' => e = .returned (.pointer (some ⟨gb, plN (cnm st) q.coll * 3, none⟩)) ∧ Grow w w' := by
 subst hA;have h0 : w.cell? ⟨mb, 0, none⟩ = some (.slice (some ⟨gb, 0, none⟩) st.length cap) := by rw [h.blk.cell]; rfl
 have h2 : w.cell? ⟨mb, 2, none⟩ = some (.string q.coll) := by rw [h.blk.cell]; rfl
 have := mcoll_yes st.length cap mb gb 0 (fun j => es.getD j Cc.zero) q.coll w hs h.rowR h0 h2 h.lt (by
  rw [h.nms];unfold plF at hf;rw [List.length_map] at hf;exact hf)
 rw [h.nms, Nat.zero_add] at this;unfold plN;rw [List.length_map];exact this
theorem Mach.gb (h : Mach w B mb A cap es st q ck cl ch cx) (hf : plF (cnm st) q.coll = true) : ∃ gb, A = some ⟨gb, 0, none⟩ ∧ B ≤ gb ∧ gb < w.heap.size ∧ gb ≠ mb := by
 have hl := (coAt_mem hf).2.2.2;obtain ⟨g, cur, e, hb, hg, -⟩ := own_open h.own.row (by omega);refine ⟨g, e, hb, (Array.getElem?_eq_some_iff.1 hg).1, fun e' => ?_⟩;exact ownT_blk h.own.row h.blk (by decide) (by rw [e, ← e']; rfl)
theorem Mach.co (h : Mach w B mb A cap es st q ck cl ch cx) (hf : plF (cnm st) q.coll = true) {gb : Nat} (hA : A = some ⟨gb, 0, none⟩) : ∃ e, es[plN (cnm st) q.coll]? = some e ∧ OwnCo w B e (coAt st q.coll) ∧
 (∀ i v, e.cells[i]? = some v → w.cell? ⟨gb, plN (cnm st) q.coll * 3 + i, none⟩ = some v) := by
 obtain ⟨h1, -, -, hl⟩ := coAt_mem hf;have hl' : plN (cnm st) q.coll < es.length := by rw [h.el]; exact hl
 refine ⟨es[plN (cnm st) q.coll], List.getElem?_eq_getElem hl', h.own.two.2 _ _ _ (List.getElem?_eq_getElem hl') h1, fun i v hi => ?_⟩;obtain ⟨bk, o, e, -, hc⟩ := h.rowR _ hl;rw [hA] at e;injection e with e;injection e with e1 e2;subst e1 e2;have hget : es.getD (plN (cnm st) q.coll) Cc.zero = es[plN (cnm st) q.coll] := by rw [List.getD_eq_getElem?_getD, List.getElem?_eq_getElem hl']; rfl
 have := hc i v (by dsimp only; rw [hget]; exact hi);rwa [Nat.zero_add] at this
end
def MethC (w : World) (B mb : Nat) (r : Res) (e : Ending) (w' : World) : Prop :=
 Below B w w' ∧ match r with
  | .error k => e = .panicked (thrown k)
  | .ok (st', n, docs) => e = .returned (.tuple #[]) ∧ mb < w'.heap.size ∧ ∃ A cap dA dc, w'.cell? ⟨mb, 0, none⟩ = some (.slice A st'.length cap) ∧ StIn w' A cap st' ∧
   w'.cell? ⟨mb, 28, none⟩ = some (.int .i64 n) ∧ w'.cell? ⟨mb, 29, none⟩ = some (.slice dA docs.length dc) ∧ InL w' dA dc docs
theorem MethC.err {w w' : World} {B mb : Nat} {r : Res} {k : Int} (hb : Below B w w') (hr : r = .error k) : MethC w B mb r (.panicked (thrown k)) w' := by subst hr; exact ⟨hb, rfl⟩
theorem MethC.ok {w w' : World} {B mb : Nat} {r : Res} {st' : List Co} {n : Int} {docs : List V} (hb : Below B w w') (hr : r = .ok (st', n, docs)) (hm : mb < w'.heap.size) {A dA : Option Addr} {cap dc : Nat} (h0 : w'.cell? ⟨mb, 0, none⟩ = some (.slice A st'.length cap)) (hs : StIn w' A cap st')
 (h28 : w'.cell? ⟨mb, 28, none⟩ = some (.int .i64 n)) (h29 : w'.cell? ⟨mb, 29, none⟩ = some (.slice dA docs.length dc)) (hd : InL w' dA dc docs) : MethC w B mb r (.returned (.tuple #[])) w' := by
 subst hr; exact ⟨hb, rfl, hm, A, cap, dA, dc, h0, hs, h28, h29, hd⟩
theorem InL.nil (w : World) : InL w none 0 [] := by
 unfold InL In;rw [IsV];exact ⟨rfl, rfl, rfl, rfl, rfl, by decide, by decide, by decide, by simp, by simp, by simp, by simp, by simp, by simp, ⟨rfl, fun h => by simp at h⟩, fun i hi => by simp at hi, fun i hi => by simp at hi⟩
end
section
open Go.RowKit
def Alien (w : World) (S : Nat → Prop) : Prop := ∀ q, S q → ∃ T cs, Blk w q T cs ∧ T ≠ 27 ∧ T ≠ 64
theorem OwnCo.far {S : Nat → Prop} {w : World} {B : Nat} {e : Cc} {c : Co} (h : OwnCo w B e c) (hT : Alien w S) : (∀ g, ablk e.dA = some g → ¬ S g) ∧ (∀ g, ablk e.xA = some g → ¬ S g) := by
 obtain ⟨cs, h1, h2⟩ := h.docs;refine ⟨fun g hg hs => ?_, fun g hg hs => ?_⟩
 ·obtain ⟨T, ds, hb, t1, t2⟩ := hT g hs;exact ownT_blk h1 hb (fun e => t1 e.symm) hg
 obtain ⟨T, ds, hb, t1, t2⟩ := hT g hs;exact ownT_blk h.ixs hb (fun e => t2 e.symm) hg
theorem OwnCo.in_ {w : World} {B : Nat} {e : Cc} {c : Co} (h : OwnCo w B e c) (hB : B ≤ w.heap.size) (hl : c.docs.length ≤ 140737488355328) : CoIn w e c :=
 (h.r (S := fun _ => False) hB (fun _ h => h.elim) (fun _ _ h => h) (fun _ _ h => h) hl).mono AtX.atW
theorem OwnCo.grow {w w' : World} {B : Nat} {e : Cc} {c : Co} (h : OwnCo w B e c) (hB : B ≤ w.heap.size) (hg : Grow w w') : OwnCo w' B e c := h.keep (Kept.grow (S := fun _ => False) hg) hB (fun _ h => h.elim) (fun _ _ h => h) (fun _ _ h => h)
theorem rows_stIn {S : Nat → Prop} {w w' : World} {B cap' : Nat} {A' : Option Addr} {es' : List Cc} {st' : List Co} (two : Two (OwnCo w B) es' st') (hk : Kept S w w') (hB : B ≤ w.heap.size) (hs : ∀ q, S q → B ≤ q) (hT : Alien w S) (hl : ∀ c ∈ st', c.docs.length ≤ 140737488355328)
 (hrow : w'.ownsRow B 48 3 (.slice A' st'.length cap') st'.length (cellsC es')) : StIn w' A' cap' st' := by
 refine ⟨(own_le hrow).1, es', ⟨two.1, fun j e c he hc => ?_⟩, (own_reads (S := fun _ => False) hrow (fun _ _ h => h)).mono AtX.atW⟩;have ho := two.2 j e c he hc;have hf := ho.far hT;exact (ho.keep hk hB hs hf.1 hf.2).in_ (Nat.le_trans hB hk.size) (hl c (List.mem_of_getElem? hc))
theorem set_stIn {S : Nat → Prop} {w w' : World} {B cap p : Nat} {A : Option Addr} {es : List Cc} {st : List Co} {e' : Cc} {c' : Co} (h : Own w B A cap es st) (hk : Kept S w w') (hB : B ≤ w.heap.size) (hs : ∀ q, S q → B ≤ q)
 (ho : ∀ (j : Nat) (e : Cc), j ≠ p → es[j]? = some e → (∀ g, ablk e.dA = some g → ¬ S g) ∧ (∀ g, ablk e.xA = some g → ¬ S g)) (hl : ∀ c ∈ st, c.docs.length ≤ 140737488355328) (hp : CoIn w' e' c')
 (hrow : w'.ownsRow B 48 3 (.slice A st.length cap) st.length (cellsC (es.set p e'))) : StIn w' A cap (st.set p c') := by
 refine ⟨by rw [List.length_set]; exact (own_le hrow).1, es.set p e', Two.set' h.two.1 p (fun j e c hj he hc => ?_) hp, ?_⟩
 ·have ho2 := h.two.2 j e c he hc;have hf := ho j e hj he;exact (ho2.keep hk hB hs hf.1 hf.2).in_ (Nat.le_trans hB hk.size) (hl c (List.mem_of_getElem? hc))
 rw [List.length_set]; exact (own_reads (S := fun _ => False) hrow (fun _ _ h => h)).mono AtX.atW
section
variable {w : World} {B mb cap : Nat} {A : Option Addr} {es : List Cc} {st : List Co} {q : Rq} {ck cl ch cx : Cv}
theorem Mach.alien (h : Mach w B mb A cap es st q ck cl ch cx) {gb : Nat} (hA : A = some ⟨gb, 0, none⟩) (hn : 0 < st.length) : Alien w (fun q => q = mb ∨ q = gb) := by
 rintro q (rfl | rfl)
 ·exact ⟨_, _, h.blk, by decide, by decide⟩
 subst hA;obtain ⟨g, cur, e, hb, hg, -⟩ := own_open h.own.row hn
 cases e
 exact ⟨_, _, hg, by decide, by decide⟩
theorem Mach.alienM (h : Mach w B mb A cap es st q ck cl ch cx) : Alien w (fun q => q = mb) := by
 rintro q rfl;exact ⟨_, _, h.blk, by decide, by decide⟩
theorem Mach.neA (h : Mach w B mb A cap es st q ck cl ch cx) : ablk A ≠ some mb := ownT_blk h.own.row h.blk (by decide)
theorem Mach.finish (h : Mach w B mb A cap es st q ck cl ch cx) {w' : World} (hk : Kept (fun q => q = mb) w w') (hl : ∀ c ∈ st, c.docs.length ≤ 140737488355328) : StIn w' A cap st :=
 rows_stIn h.own.two hk h.le (fun q hq => hq ▸ h.lo) h.alienM hl (own_kept h.own.row hk (fun g hg e => h.neA (e ▸ hg)))
end
theorem StOk.dl {N : Nat} {st : List Co} (h : StOk N st) (hN : N ≤ 1000000) : ∀ c ∈ st, c.docs.length ≤ 140737488355328 := fun c hc => by have := (h.co c hc).nd; omega
theorem count_any (N B mb cap : Nat) (A : Option Addr) (es : List Cc) (st : List Co) (q : Rq) (ck cl ch cx : Cv) (w : World) (h : Mach w B mb A cap es st q ck cl ch cx) (hok : StOk N st) (hN : N ≤ 1000000) :
 Calls Tryz.prog 87 #[.pointer (some ⟨mb, 0, none⟩)] w (MethC w B mb (countP st q)) := by
 have hs : st.length ≤ 140737488355328 := Mach.short hok;have HM := hide h;have HOK := hide hok
 cases hf : plF (cnm st) q.coll with
 | false =>
  have HC := hide (coll_m_no h hs hf);have HF := hide hf;clear h hok hf;go_enter Tryz.func87, Tryz.ntmps87;go_wp2_with fail;refine HC.out.mono ?_;rintro e w1 ⟨rfl, hg⟩;go_wp2_with fail;exact ⟨rfl, MethC.err (hg.below.mono HM.out.le) (by unfold countP; rw [if_pos HF.out])⟩
 | true =>
  obtain ⟨gb, hA, hgb, hgl, hne⟩ := h.gb hf;obtain ⟨e, he, hco, hcell⟩ := h.co hf hA;have HC := hide (coll_m h hs hf hA);have HDN := hide hco.dn;have HDL := hide (hok.dl hN _ (coAt_mem hf).2.1);have hd := hcell 1 _ rfl;have HF := hide hf;have HCELL := hide hcell;have HD := hide hd;have HGL := hide hgl;obtain ⟨P, hP⟩ : ∃ P, plN (cnm st) q.coll = P := ⟨_, rfl⟩;rw [hP] at HC HD;clear h hok hf he hco hcell hd hP hgl;go_enter Tryz.func87, Tryz.ntmps87;go_wp2_with fail;refine HC.out.mono ?_;rintro e w1 ⟨rfl, hg⟩;have hd := (hg.below.cell (p := ⟨gb, P * 3 + 1, none⟩) HGL.out).trans HD.out;have hm := (HM.out.grow hg).blk.cell;have hf := (HM.out.grow hg).blk.frozen;have HG := hide hg;clear hg;go_wp2_with fail;go_end0;have HB := ((HM.out.grow HG.out).blk.set_ 28 (.int .i64 (e.dn : Int)))
  refine MethC.ok (docs := []) (Below.setCell (HG.out.below.mono HM.out.le) (p := ⟨mb, 28, none⟩) HM.out.lo _) (by unfold countP; rw [if_neg (by rw [HF.out]; decide)]) HB.lt (A := A) (cap := cap) (dA := none) (dc := 0) (HB.cell 0) ?_ ((HB.cell 28).trans (by rw [HDN.out]; rfl)) (HB.cell 29) (InL.nil _);exact (HM.out.grow HG.out).finish (Kept.set (S := fun q => q = mb) (Kept.refl _ _) (p := ⟨mb, 28, none⟩) rfl _) (HOK.out.dl hN)
end
section
open Go.RowKit
theorem panic_put {P : Program} {F : Func} {R : Ending → World → Prop} {c : List PanicEntry} {a : Act} {d : Option Tmp} {v : Value} {w : World} (h : bodyPost P F R (.panic c) (a.put d v) w) : bodyPost P F R (.panic c) a w := by cases d <;> exact h
abbrev Ix.zero : Ix := ⟨⟨#[]⟩, ⟨#[]⟩, false⟩
theorem ixs_rowR {w : World} {B : Nat} {xA : Option Addr} {xc : Nat} {ixs : List Ix} (h : w.ownsRow B 64 3 (.slice xA ixs.length xc) ixs.length (cellsX ixs)) : RowR w xA 3 ixs.length (fun j => (ixs.getD j Ix.zero).cells) := fun j hj => by
 have hr := own_reads (S := fun _ => False) h (fun _ _ h => h);obtain ⟨bk, o, e, hc⟩ := hr.2 (by omega);have hc0 := hc 0 _ (List.getElem?_eq_getElem (by rw [cellsX_len]; omega));refine ⟨bk, o, e, hc0.2.1, fun i v hi => ?_⟩;have h3 : i < 3 := by
  rcases Nat.lt_or_ge i 3 with h3 | h3
  ·exact h3
  rw [Array.getElem?_eq_none (by simpa using h3)] at hi; cases hi
 have hget : ixs.getD j Ix.zero = ixs[j] := by rw [List.getD_eq_getElem?_getD, List.getElem?_eq_getElem hj]; rfl
 change (ixs.getD j Ix.zero).cells[i]? = some v at hi;rw [hget] at hi;have := hc (j * 3 + i) v (by rw [cellsX, fz_get _ 3 (fun _ => rfl) ixs j i h3 ixs[j] (List.getElem?_eq_getElem hj)]; rw [Array.getElem?_toList]; exact hi);rw [← Nat.add_assoc] at this;exact this.1
theorem ixs_nms (ixs : List Ix) : (fun j => (ixs.getD j Ix.zero).name) = fun j => (ixs.map Ix.name).getD j ⟨#[]⟩ := by
 funext j;rw [List.getD_eq_getElem?_getD, List.getD_eq_getElem?_getD, List.getElem?_map]
 cases ixs[j]? <;> rfl
section
variable {w : World} {B mb cap gb P : Nat} {A : Option Addr} {es : List Cc} {st : List Co} {q : Rq} {ck cl ch cx : Cv} {e : Cc} {c : Co}
theorem index_m (h : Mach w B mb A cap es st q ck cl ch cx) (hco : OwnCo w B e c) (hcell : ∀ i v, e.cells[i]? = some v → w.cell? ⟨gb, P * 3 + i, none⟩ = some v) (hgl : gb < w.heap.size) (hx : c.ixs.length ≤ 140737488355328) :
 Calls Tryz.prog 125 #[.pointer (some ⟨mb, 0, none⟩), .pointer (some ⟨gb, P * 3, none⟩)] w fun r w' => r = .returned (.tuple #[.int .i64 (plN (xnm c) q.index : Nat), .bool (plF (xnm c) q.index)]) ∧ Grow w w' := by
 have h2 := hcell 2 (.slice e.xA e.xn e.xc) rfl;have hr := ixs_rowR hco.ixs;rw [hco.xn] at h2;have := mindex_any c.ixs.length e.xc mb gb (P * 3) e.xA (fun j => c.ixs.getD j Ix.zero) q.index w hx hr h2 (by rw [h.blk.cell]; rfl) h.lt hgl;rw [ixs_nms] at this;unfold plN plF;rw [List.length_map];exact this
theorem OwnCo.inL (hco : OwnCo w B e c) (hB : B ≤ w.heap.size) (hl : c.docs.length ≤ 140737488355328) : InL w e.dA e.dc c.docs := (hco.in_ hB hl).docs
theorem found_m (h : Mach w B mb A cap es st q ck cl ch cx) (hco : OwnCo w B e c) (hcell : ∀ i v, e.cells[i]? = some v → w.cell? ⟨gb, P * 3 + i, none⟩ = some v) (hgl : gb < w.heap.size) (hl : c.docs.length ≤ 140737488355328) (hcount : ∀ d ∈ c.docs, d.count ≤ 20000) (hk : q.key.count ≤ 20000) (hT : Tabs w) :
 Calls Tryz.prog 123 #[.pointer (some ⟨mb, 0, none⟩), .pointer (some ⟨gb, P * 3, none⟩)] w (FoundC w c.docs q.key) := by
 have h1 := hcell 1 (.slice e.dA e.dn e.dc) rfl;rw [hco.dn] at h1;refine found_any c.docs q.key ck mb gb (P * 3) e.dc e.dA w hk hcount hl hT h1 hgl h.lt (hco.inL h.le hl) (h.key.in_ h.le) fun i v hi => ?_
 have h5 : i < 5 := by
  rcases Nat.lt_or_ge i 5 with h5 | h5
  ·exact h5
  rw [Array.getElem?_eq_none (by simpa using h5)] at hi; cases hi
 rw [h.blk.cell];rcases i with _ | _ | _ | _ | _ | i
 ·exact hi
 ·exact hi
 ·exact hi
 ·exact hi
 ·exact hi
 omega
end
theorem OwnCo.elem {w : World} {B : Nat} {e : Cc} {c : Co} (hco : OwnCo w B e c) (D : Nat) (hD : D < c.docs.length) : ∃ db y, e.dA = some ⟨db, 0, none⟩ ∧ db < w.heap.size ∧ B ≤ db ∧ InU w B c.docs[D] y ∧
 w.cell? ⟨db, D * 5, none⟩ = some (.int .i64 y.k) ∧ w.cell? ⟨db, D * 5 + 1, none⟩ = some (.int .u64 y.n) ∧ w.cell? ⟨db, D * 5 + 2, none⟩ = some (.slice y.aB y.nB y.cB) ∧ w.cell? ⟨db, D * 5 + 3, none⟩ = some (.slice y.aL y.nL y.cL) ∧ w.cell? ⟨db, D * 5 + 4, none⟩ = some (.slice y.aF y.nF y.cF) := by
 obtain ⟨cs, hrow, htwo⟩ := hco.docs;obtain ⟨g, cur, e1, hb, hg, -, -, -, ht, -⟩ := own_open hrow (by omega);have hDc : D < cs.length := by rw [← htwo.1]; exact hD
 have hc : ∀ i, i < 5 → ∀ v, cs[D].cells.toList[i]? = some v → w.cell? ⟨g, D * 5 + i, none⟩ = some v := fun i hi v hv =>
  own_cell hg ht _ _ (by rw [cellsV, fz_get _ 5 (fun _ => rfl) cs D i hi cs[D] (List.getElem?_eq_getElem hDc)]; exact hv)
 exact ⟨g, cs[D], e1, (Array.getElem?_eq_some_iff.1 hg).1, hb, htwo.at_ hD hDc, hc 0 (by omega) _ rfl, hc 1 (by omega) _ rfl, hc 2 (by omega) _ rfl, hc 3 (by omega) _ rfl, hc 4 (by omega) _ rfl⟩
theorem one_list {S : Nat → Prop} {w w' : World} {B : Nat} {v : V} {c : Cv} (hv : InU w B v c) (hB : B ≤ w.heap.size) (hk : Kept S (w.alloc (.cells c.cells 27)) w') (hs : ∀ q, S q → B ≤ q) (hn : ¬ S w.heap.size) : InL w' (some ⟨w.heap.size, 0, none⟩) 1 [v] := by
 have hg := (Grow.refl w).alloc (.cells c.cells 27);have hb := Blk.new w 27 c.cells;have hv' : IsV (AtX (w.alloc (.cells c.cells 27)) S) v c := (hv.below hg.below hB (Nat.le_refl _)).atX (Nat.le_trans hB hg.size) hs;have hl := list_of_row (C := AtX (w.alloc (.cells c.cells 27)) S) (A := some ⟨w.heap.size, 0, none⟩) (docs := [v]) (cs := [c]) (cap := 1) ⟨by rw [cellsV_len]; rfl, fun _ => ⟨w.heap.size, 0, rfl, fun j u hu => by
  refine ⟨?_, hb.lt, hn⟩;rw [Nat.zero_add, hb.cell j, ← hu, ← Array.getElem?_toList];congr 1⟩⟩ (Two.one hv') (Nat.le_refl _) (by simp)
 exact (hl.mono (AtX.kept hk fun _ h => h)).mono AtX.atW
def Sx (mb gb : Nat) (R : Option Addr) (q : Nat) : Prop := q = mb ∨ q = gb ∨ ablk R = some q
end
section
open Go.RowKit
def RowOf (e : Cc) (R : Option Addr) : Prop := R = none ∨ R = e.dA ∨ R = e.xA
section
variable {w : World} {B mb cap gb P : Nat} {A : Option Addr} {es : List Cc} {st : List Co} {q : Rq} {ck cl ch cx : Cv} {e : Cc} {c : Co} {R : Option Addr}
theorem RowOf.le (hR : RowOf e R) (hco : OwnCo w B e c) : ∀ g, ablk R = some g → B ≤ g ∧ g < w.heap.size := by
 intro g hg;obtain ⟨cs, h1, h2⟩ := hco.docs;rcases hR with rfl | rfl | rfl
 ·cases hg
 ·exact World.ownsRow.lt h1 g (by rw [ownBlock_slice]; exact hg)
 exact World.ownsRow.lt hco.ixs g (by rw [ownBlock_slice]; exact hg)
theorem RowOf.alien (hR : RowOf e R) (hco : OwnCo w B e c) {k : Nat} {T : TypeId} {cs : Array Value} (hb : Blk w k T cs) (h1 : T ≠ 27) (h2 : T ≠ 64) : ablk R ≠ some k := by
 obtain ⟨ds, r1, r2⟩ := hco.docs;rcases hR with rfl | rfl | rfl
 ·intro h; cases h
 ·exact ownT_blk r1 hb (fun e => h1 e.symm)
 exact ownT_blk hco.ixs hb (fun e => h2 e.symm)
theorem Mach.gblk (h : Mach w B mb A cap es st q ck cl ch cx) (hA : A = some ⟨gb, 0, none⟩) (hn : 0 < st.length) : ∃ cur, Blk w gb 48 cur ∧ B ≤ gb := by
 obtain ⟨g, cur, e, hb, hg, -⟩ := own_open h.own.row hn;rw [hA] at e
 cases e
 exact ⟨cur, hg, hb⟩
theorem place_close (h : Mach w B mb A cap es st q ck cl ch cx) (hA : A = some ⟨gb, 0, none⟩) (he : es[P]? = some e) (hco : OwnCo w B e c) (hP : P < st.length) (hR : RowOf e R) {w5 : World} {e' : Cc} {c' : Co} (hk : Kept (Sx mb gb R) w w5) (hl : ∀ c ∈ st, c.docs.length ≤ 140737488355328) (hp : CoIn w5 e' c')
 (hrow : w5.ownsRow B 48 3 (.slice A st.length cap) st.length (cellsC (es.set P e'))) : StIn w5 A cap (st.set P c') := by
 obtain ⟨cur, hgb, hgB⟩ := h.gblk hA (by omega);refine set_stIn h.own hk h.le ?_ (fun j e2 hj he2 => ?_) hl hp hrow
 ·rintro k (rfl | rfl | hk)
  ·exact h.lo
  ·exact hgB
  exact (hR.le hco k hk).1
 have hj2 : j < st.length := by rw [← h.el]; exact (List.getElem?_eq_some_iff.1 he2).1
 have ho2 := h.own.two.2 j e2 st[j] he2 (List.getElem?_eq_getElem hj2);obtain ⟨ds, r1, r2⟩ := ho2.docs;obtain ⟨ds', s1, s2⟩ := hco.docs;refine ⟨fun g hg hs => ?_, fun g hg hs => ?_⟩
 ·rcases hs with rfl | rfl | hs
  ·exact ownT_blk r1 h.blk (by decide) hg
  ·exact ownT_blk r1 hgb (by decide) hg
  rcases hR with rfl | rfl | rfl
  ·cases hs
  ·exact h.own.distD j P e2 e he2 he hj g hg hs
  exact ownT r1 hco.ixs (by decide) g hg hs
 rcases hs with rfl | rfl | hs
 ·exact ownT_blk ho2.ixs h.blk (by decide) hg
 ·exact ownT_blk ho2.ixs hgb (by decide) hg
 rcases hR with rfl | rfl | rfl
 ·cases hs
 ·exact ownT ho2.ixs s1 (by decide) g hg hs
 exact h.own.distX j P e2 e he2 he hj g hg hs
theorem row_close (h : Mach w B mb A cap es st q ck cl ch cx) (hA : A = some ⟨gb, 0, none⟩) (he : es[P]? = some e) (hco : OwnCo w B e c) (hP : P < st.length) (hR : RowOf e R) {w4 : World} (hk : Kept (fun k => k = mb ∨ ablk R = some k) w w4) {k : Nat} {v : Value} {e' : Cc} (hk3 : k < 3) (hke : e'.cells.toList = e.cells.toList.set k v) :
 (w4.setCell ⟨gb, P * 3 + k, none⟩ v).ownsRow B 48 3 (.slice A st.length cap) st.length (cellsC (es.set P e')) := by
 obtain ⟨cur, hgb, hgB⟩ := h.gblk hA (by omega);have hel := h.el;obtain ⟨hPe, hee⟩ := List.getElem?_eq_some_iff.1 he;have h4 := own_kept h.own.row hk (fun g hg hs => by
  rw [hA] at hg
  cases hg
  rcases hs with hs | hs
  ·exact h.neA (by rw [hA, ← hs]; rfl)
  exact hR.alien hco hgb (by decide) (by decide) hs)
 subst hA;exact own_setC h4 hPe hel hk3 (by rw [hee]; exact hke)
theorem kept_place {w4 w5 : World} {k : Nat} {v : Value} (hk : Kept (fun k => k = mb ∨ ablk R = some k) w w4) (h5 : w5 = w4.setCell ⟨gb, k, none⟩ v) : Kept (Sx mb gb R) w w5 := by
 subst h5;exact (hk.mono (fun q hq => hq.elim (fun h => .inl h) (fun h => .inr (.inr h)))).set (p := ⟨gb, k, none⟩) (.inr (.inl rfl)) v
end
theorem OwnCo.delD {w w5 : World} {B mb gb D : Nat} {e : Cc} {c : Co} {cs : List Cv} (hco : OwnCo w B e c) (htwo : Two (fun v c => InU w B v c) c.docs cs) (hB : B ≤ w.heap.size) (hk : Kept (Sx mb gb e.dA) w w5) (hmb : B ≤ mb) (hgb : B ≤ gb) (hD : D < c.docs.length) (hne : ablk e.xA ≠ some mb) (hne' : ablk e.xA ≠ some gb)
 (hrow : w5.ownsRow B 27 5 (.slice e.dA (c.docs.length - 1) e.dc) (c.docs.length - 1) ((cellsV cs).take (D * 5) ++ (cellsV cs).drop ((D + 1) * 5))) : OwnCo w5 B ⟨e.nm, e.dA, c.docs.length - 1, e.dc, e.xA, e.xn, e.xc⟩ ⟨c.name, delAt c.docs D, c.ixs⟩ := by
 obtain ⟨ds, r1, -⟩ := hco.docs;have hS : ∀ q, Sx mb gb e.dA q → B ≤ q := fun q hq => by
  rcases hq with rfl | rfl | hq
  ·exact hmb
  ·exact hgb
  exact (World.ownsRow.lt r1 q (by rw [ownBlock_slice]; exact hq)).1
 have hl : (delAt c.docs D).length = c.docs.length - 1 := del_len hD;refine ⟨hco.nm, hl.symm, hco.xn, ⟨delAt cs D, ?_, (htwo.del D).mono fun v c hv => hv.keep hk hB hS⟩, own_kept hco.ixs hk (fun g hg hs => ?_)⟩
 ·dsimp only;rw [hl, show cellsV (delAt cs D) = (cellsV cs).take (D * 5) ++ (cellsV cs).drop ((D + 1) * 5) from (fz_del _ 5 (fun _ => rfl) cs D).symm];exact hrow
 rcases hs with rfl | rfl | hs
 ·exact hne hg
 ·exact hne' hg
 exact ownT hco.ixs r1 (by decide) g hg hs
theorem OwnCo.setX {w w5 : World} {B mb gb c5 : Nat} {e : Cc} {c : Co} {A5 : Option Addr} {ixs : List Ix} (hco : OwnCo w B e c) (hB : B ≤ w.heap.size) (hk : Kept (Sx mb gb e.xA) w w5) (hmb : B ≤ mb) (hgb : B ≤ gb) (hne : ablk e.dA ≠ some mb) (hne' : ablk e.dA ≠ some gb)
 (hrow : w5.ownsRow B 64 3 (.slice A5 ixs.length c5) ixs.length (cellsX ixs)) : OwnCo w5 B ⟨e.nm, e.dA, e.dn, e.dc, A5, ixs.length, c5⟩ ⟨c.name, c.docs, ixs⟩ := by
 obtain ⟨ds, r1, r2⟩ := hco.docs;have hS : ∀ q, Sx mb gb e.xA q → B ≤ q := fun q hq => by
  rcases hq with rfl | rfl | hq
  ·exact hmb
  ·exact hgb
  exact (World.ownsRow.lt hco.ixs q (by rw [ownBlock_slice]; exact hq)).1
 refine ⟨hco.nm, hco.dn, rfl, ⟨ds, own_kept r1 hk (fun g hg hs => ?_), r2.mono fun v c hv => hv.keep hk hB hS⟩, hrow⟩;rcases hs with rfl | rfl | hs
 ·exact hne hg
 ·exact hne' hg
 exact ownT r1 hco.ixs (by decide) g hg hs
theorem own_put {w : World} {base g n c z D : Nat} {T : TypeId} {xs vs : List Value} (h : w.ownsRow base T z (.slice (some ⟨g, 0, none⟩) n c) n xs) (hD : D < n) (hz : vs.length = z) :
 (w.setCells g (D * z) vs).ownsRow base T z (.slice (some ⟨g, 0, none⟩) n c) n (xs.take (D * z) ++ vs ++ xs.drop ((D + 1) * z)) := by
 obtain ⟨g', cur, e, hb, hg, h1, h2, h3, ht, hl⟩ := own_open h (by omega)
 cases e
 have hDz : D * z + z ≤ n * z := by rw [← Nat.succ_mul]; exact Nat.mul_le_mul_right z hD
 have hnz : n * z ≤ cur.size := by rw [h3]; exact Nat.mul_le_mul_right z h1
 obtain ⟨cur', hg', hs', hl'⟩ := own_set hg vs (o := D * z) (by omega);have e1 : (D + 1) * z = D * z + z := by rw [Nat.add_mul, Nat.one_mul]
 refine own_mk hb hg' h1 h2 (by rw [hs', h3]) ?_ ?_
 ·rw [hl', List.take_append, List.take_of_length_le (by simp [hz]; omega), ← ht, e1, List.drop_take, List.take_take, Nat.min_eq_left (by omega)];simp only [List.length_append, List.length_take, Array.length_toList, Nat.min_eq_left (show D * z ≤ cur.size by omega), hz]
 rw [List.length_append, List.length_append, List.length_take, List.length_drop, hl, hz, e1]; omega
theorem at_storeV {P : Program} {ops : Array Oper} {Q : Exit → Act → World → Prop} {rest : List Oper} {a : Act} {w : World} (ty : TypeId) {x y : Operand} {t : TypeId} {p : String} {af : Array Edge} (h : wpList P ops Q (⟨none, .store ty x y, t, p, af, none⟩ :: rest) a w) : wpList P ops Q (⟨none, .store ty x y, t, p, af, none⟩ :: rest) a w := h
end
end Go.Proofs.YtndjopkdbdcmdaaGreatDoor
