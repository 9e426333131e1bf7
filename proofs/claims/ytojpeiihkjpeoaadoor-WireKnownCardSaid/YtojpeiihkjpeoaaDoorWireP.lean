/- The bodies of requests and replies, plainly: what is written is read, what is read was written. No program in sight. -/
import Derived.Test.YtojpeiihkjpeoaaDoorFrameP
set_option linter.unusedVariables false
set_option linter.unusedSimpArgs false
namespace Go.Proofs.YtojpeiihkjpeoaaDoor
open V

/-- A request. -/
structure Rq where
  do_ : Int
  coll : ByteArray
  index : ByteArray
  path : ByteArray
  unique : Bool
  key : V
  low : V
  high : V
  doc : V
  n : Int
def Rq.zero : Rq := ⟨0, ⟨#[]⟩, ⟨#[]⟩, ⟨#[]⟩, false, V.zero, V.zero, V.zero, V.zero, 0⟩
/-- A reply. -/
structure Rp where
  e : Int
  n : Int
  docs : List V
  cursor : Int
def Rp.zero : Rp := ⟨0, 0, [], 0⟩

/-- A text's bytes. -/
def textB (s : ByteArray) : List UInt8 := UInt8.ofNat s.size :: s.data.toList
/-- A value's bytes, behind their number. -/
def valB (v : V) : List UInt8 := toLe 2 v.bytes.length ++ v.bytes
/-- A value that may be none. -/
def mayB (v : V) : List UInt8 := if v.k = 0 then [0] else 1 :: valB v
def mayGood (v : V) : Int := if v.k = 0 then 0 else v.good
/-- A number's 32 bits. -/
def u32 (n : Int) : Nat := (n % 4294967296).toNat
/-- What is wrong with a request. -/
def Rq.args (r : Rq) : Prop := r.do_ < 0 ∨ 255 < r.do_ ∨ r.n < -2147483648 ∨ 2147483647 < r.n ∨ 200 < r.coll.size ∨ 200 < r.index.size ∨ 200 < r.path.size
instance (r : Rq) : Decidable r.args := by unfold Rq.args; exact inferInstance
/-- The first of four that is not good. -/
def firstBad : List V → Int
  | [] => 0
  | v :: l => if v.good = 0 then firstBad l else v.good
def firstMay : List V → Int
  | [] => 0
  | v :: l => if mayGood v = 0 then firstMay l else mayGood v
def Rq.vals (r : Rq) : List V := [r.key, r.low, r.high, r.doc]
def Rq.err (r : Rq) : Int := if r.args then 1 else firstMay r.vals
def Rq.headB (r : Rq) : List UInt8 := [UInt8.ofNat r.do_.toNat, if r.unique then 1 else 0] ++ textB r.coll ++ textB r.index ++ textB r.path ++ toLe 4 (u32 r.n)
def Rq.body (r : Rq) : List UInt8 := r.headB ++ (r.vals.map mayB).flatten
def Rp.args (r : Rp) : Prop := r.e < 0 ∨ 255 < r.e ∨ r.n < 0 ∨ 2147483647 < r.n ∨ r.cursor < 0 ∨ 2147483647 < r.cursor ∨ 64 < r.docs.length
instance (r : Rp) : Decidable r.args := by unfold Rp.args; exact inferInstance
def Rp.err (r : Rp) : Int := if r.args then 1 else firstBad r.docs
def Rp.headB (r : Rp) : List UInt8 := [UInt8.ofNat r.e.toNat] ++ toLe 4 r.n.toNat ++ toLe 4 r.cursor.toNat ++ [UInt8.ofNat r.docs.length]
def Rp.body (r : Rp) : List UInt8 := r.headB ++ (r.docs.map valB).flatten
/-- A frame of a body, if there is nothing wrong. -/
def putOf (err : Int) (body : List UInt8) : List UInt8 × Int := if err ≠ 0 then ([], err) else if 12000 < body.length then ([], 2) else (frameOf body, 0)
def Rq.put (r : Rq) : List UInt8 × Int := putOf r.err r.body
def Rp.put (r : Rp) : List UInt8 × Int := putOf r.err r.body

/-! Reading. -/
abbrev P (α : Type) := Option (α × List UInt8)
def pTake (n : Nat) (bs : List UInt8) : P (List UInt8) := if n ≤ bs.length then some (bs.take n, bs.drop n) else none
def pNum (n : Nat) (bs : List UInt8) : P Nat := match pTake n bs with | none => none | some (x, r) => some (le x, r)
def pText (bs : List UInt8) : P ByteArray := match pNum 1 bs with
  | none => none
  | some (n, r) => if n ≤ 200 then (match pTake n r with | none => none | some (x, r') => some (⟨x.toArray⟩, r')) else none
noncomputable def pVal (bs : List UInt8) : P V := match pNum 2 bs with
  | none => none
  | some (n, r) => match pTake n r with
    | none => none
    | some (x, r') => match rdAll x with | .error _ => none | .ok v => some (v, r')
def pFlag (bs : List UInt8) : P Bool := match pNum 1 bs with
  | none => none
  | some (k, r) => if k ≤ 1 then some (decide (k = 1), r) else none
noncomputable def pMay (bs : List UInt8) : P V := match pFlag bs with
  | none => none
  | some (b, r) => if b = true then pVal r else some (V.zero, r)
/-- A number of 32 bits that may be below 0. -/
def pInt (bs : List UInt8) : P Int := match pNum 4 bs with
  | none => none
  | some (k, r) => some (if k < 2147483648 then (k : Int) else (k : Int) - 4294967296, r)
def pCount (bs : List UInt8) : P Int := match pNum 4 bs with
  | none => none
  | some (k, r) => if k ≤ 2147483647 then some ((k : Int), r) else none
/-- One part, and what is made of it and the rest. -/
def pBind {α β : Type} (p : P α) (f : α → List UInt8 → P β) : P β := match p with
  | none => none
  | some (x, r) => f x r
theorem pBind_some {α β : Type} {p : P α} {f : α → List UInt8 → P β} {y : β × List UInt8} (h : pBind p f = some y) : ∃ x r, p = some (x, r) ∧ f x r = some y := by
  match p, h with
  | none, h => cases h
  | some (x, r), h => exact ⟨x, r, rfl, h⟩
noncomputable def pReq (bs : List UInt8) : P Rq :=
  pBind (pNum 1 bs) fun d r1 => pBind (pFlag r1) fun u r2 => pBind (pText r2) fun c r3 => pBind (pText r3) fun i r4 => pBind (pText r4) fun p r5 =>
  pBind (pInt r5) fun n r6 => pBind (pMay r6) fun k r7 => pBind (pMay r7) fun l r8 => pBind (pMay r8) fun h r9 => pBind (pMay r9) fun x r10 =>
  some (⟨(d : Int), c, i, p, u, k, l, h, x, n⟩, r10)
noncomputable def pVals : Nat → List UInt8 → P (List V)
  | 0, bs => some ([], bs)
  | n + 1, bs => match pVal bs with
    | none => none
    | some (v, r) => match pVals n r with
      | none => none
      | some (l, r') => some (v :: l, r')
noncomputable def pRep (bs : List UInt8) : P Rp :=
  pBind (pNum 1 bs) fun e r1 => pBind (pCount r1) fun n r2 => pBind (pCount r2) fun c r3 => pBind (pNum 1 r3) fun k r4 =>
  if 64 < k then none else pBind (pVals k r4) fun l r5 => some (⟨(e : Int), n, l, c⟩, r5)
/-- All of a frame's body, read. -/
noncomputable def getOf {α : Type} (zero : α) (p : List UInt8 → P α) (b : List UInt8) : α × Nat × Int :=
  if (head b).2 ≠ 0 then (zero, head b) else
  match p ((b.drop 4).take ((head b).1 - 8)) with
  | none => (zero, (head b).1, 4)
  | some (x, r) => if r = [] then (x, (head b).1, 0) else (zero, (head b).1, 4)
noncomputable def getReq (b : List UInt8) : Rq × Nat × Int := getOf Rq.zero pReq b
noncomputable def getRep (b : List UInt8) : Rp × Nat × Int := getOf Rp.zero pRep b

/-! What is written is read. -/
theorem pTake_app (x r : List UInt8) {n : Nat} (h : x.length = n) : pTake n (x ++ r) = some (x, r) := by
  rw [pTake, if_pos (by rw [List.length_append]; omega), List.take_left' h, List.drop_left' h]
theorem pNum_le (k n : Nat) (r : List UInt8) (h : n < 256 ^ k) : pNum k (toLe k n ++ r) = some (n, r) := by
  rw [pNum, pTake_app _ _ (toLe_length _ _)]
  simp only
  rw [le_toLe, Nat.mod_eq_of_lt h]
theorem pNum1 (n : Nat) (r : List UInt8) (h : n < 256) : pNum 1 (UInt8.ofNat n :: r) = some (n, r) := by
  have := pNum_le 1 n r (by omega)
  simpa [toLe] using this
theorem pText_app (s : ByteArray) (r : List UInt8) (h : s.size ≤ 200) : pText (textB s ++ r) = some (s, r) := by
  have hl : s.data.toList.length = s.size := by simp
  rw [textB, List.cons_append, pText, pNum1 _ _ (by omega)]
  simp only
  rw [if_pos h, pTake_app _ _ hl]
theorem pVal_app (v : V) (r : List UInt8) (h : rdAll v.bytes = .ok v) : pVal (valB v ++ r) = some (v, r) := by
  have hl : v.bytes.length ≤ 4096 := by
    rcases Nat.lt_or_ge 4096 v.bytes.length with h4 | h4
    · rw [rdAll, if_pos h4] at h; cases h
    · exact h4
  rw [valB, List.append_assoc, pVal, pNum_le 2 _ _ (by omega)]
  simp only
  rw [pTake_app _ _ rfl]
  simp only
  rw [h]
theorem pFlag_app (b : Bool) (r : List UInt8) : pFlag ((if b then 1 else 0) :: r) = some (b, r) := by
  have h : ∀ x : Nat, x ≤ 1 → pNum 1 (UInt8.ofNat x :: r) = some (x, r) := fun x hx => pNum1 x r (by omega)
  cases b
  · have := h 0 (by omega)
    rw [pFlag, show ((if false = true then (1 : UInt8) else 0) :: r) = UInt8.ofNat 0 :: r from rfl, this]; rfl
  · have := h 1 (by omega)
    rw [pFlag, show ((if true = true then (1 : UInt8) else 0) :: r) = UInt8.ofNat 1 :: r from rfl, this]; rfl
/-- A value as it is read: none, or a good one. -/
def MayOk (v : V) : Prop := v = V.zero ∨ (v.k ≠ 0 ∧ rdAll v.bytes = .ok v)
theorem pMay_app (v : V) (r : List UInt8) (h : MayOk v) : pMay (mayB v ++ r) = some (v, r) := by
  rcases h with rfl | ⟨hk, h⟩
  · rw [mayB, if_pos (show V.zero.k = 0 from rfl)]
    have := pFlag_app false r
    rw [pMay, show ([0] ++ r : List UInt8) = (if false = true then 1 else 0) :: r from rfl, this]; rfl
  · rw [mayB, if_neg hk]
    have := pFlag_app true (valB v ++ r)
    rw [pMay, show (1 :: valB v ++ r : List UInt8) = (if true = true then 1 else 0) :: (valB v ++ r) from rfl, this]
    simp only [if_true]
    exact pVal_app v r h
theorem u32_lt (n : Int) : u32 n < 4294967296 := by unfold u32; omega
theorem pInt_app (n : Int) (r : List UInt8) (h1 : -2147483648 ≤ n) (h2 : n ≤ 2147483647) : pInt (toLe 4 (u32 n) ++ r) = some (n, r) := by
  rw [pInt, pNum_le 4 _ _ (u32_lt n)]
  simp only
  congr 2
  unfold u32
  split <;> omega
theorem pCount_app (n : Int) (r : List UInt8) (h1 : 0 ≤ n) (h2 : n ≤ 2147483647) : pCount (toLe 4 n.toNat ++ r) = some (n, r) := by
  rw [pCount, pNum_le 4 _ _ (by omega)]
  simp only
  rw [if_pos (by omega)]
  congr 2
  omega
/-- A request as it is read. -/
structure Rq.Ok (q : Rq) : Prop where
  args : ¬ q.args
  key : MayOk q.key
  low : MayOk q.low
  high : MayOk q.high
  doc : MayOk q.doc
theorem pReq_app (q : Rq) (r : List UInt8) (h : q.Ok) : pReq (q.body ++ r) = some (q, r) := by
  obtain ⟨ha, h1, h2, h3, h4⟩ := h
  obtain ⟨d, c, i, p, u, k, l, hi, x, n⟩ := q
  unfold Rq.args at ha
  dsimp only at ha h1 h2 h3 h4
  unfold Rq.body Rq.headB Rq.vals
  simp only [List.map_cons, List.map_nil, List.flatten_cons, List.flatten_nil, List.append_nil, List.append_assoc, List.cons_append, List.nil_append]
  unfold pReq
  rw [pNum1 _ _ (by omega)]
  simp only [pBind]
  rw [pFlag_app]
  simp only
  rw [pText_app _ _ (by omega)]
  simp only
  rw [pText_app _ _ (by omega)]
  simp only
  rw [pText_app _ _ (by omega)]
  simp only
  rw [pInt_app _ _ (by omega) (by omega)]
  simp only
  rw [pMay_app _ _ h1]
  simp only
  rw [pMay_app _ _ h2]
  simp only
  rw [pMay_app _ _ h3]
  simp only
  rw [pMay_app _ _ h4]
  simp only
  rw [Int.toNat_of_nonneg (by omega)]
theorem pVals_app : ∀ (l : List V) (r : List UInt8), (∀ v ∈ l, rdAll v.bytes = .ok v) → pVals l.length ((l.map valB).flatten ++ r) = some (l, r)
  | [], r, _ => rfl
  | v :: l, r, h => by
    rw [List.map_cons, List.flatten_cons, List.append_assoc, List.length_cons, pVals, pVal_app v _ (h v (by simp))]
    simp only
    rw [pVals_app l r (fun x hx => h x (by simp [hx]))]
structure Rp.Ok (q : Rp) : Prop where
  args : ¬ q.args
  docs : ∀ v ∈ q.docs, rdAll v.bytes = .ok v
theorem pRep_app (q : Rp) (r : List UInt8) (h : q.Ok) : pRep (q.body ++ r) = some (q, r) := by
  obtain ⟨ha, h1⟩ := h
  obtain ⟨e, n, l, c⟩ := q
  unfold Rp.args at ha
  dsimp only at ha h1
  unfold Rp.body Rp.headB
  simp only [List.append_assoc, List.cons_append, List.nil_append]
  unfold pRep
  rw [pNum1 _ _ (by omega)]
  simp only [pBind]
  rw [pCount_app _ _ (by omega) (by omega)]
  simp only
  rw [pCount_app _ _ (by omega) (by omega)]
  simp only
  rw [pNum1 _ _ (by omega)]
  simp only
  rw [if_neg (by omega), pVals_app _ _ h1]
  simp only
  rw [Int.toNat_of_nonneg (by omega)]

/-! What is read was written. -/
theorem pTake_some {n : Nat} {bs x r : List UInt8} (h : pTake n bs = some (x, r)) : bs = x ++ r ∧ x.length = n := by
  unfold pTake at h
  split at h
  · injection h with h; injection h with h1 h2; subst h1 h2
    exact ⟨(List.take_append_drop n bs).symm, by rw [List.length_take]; omega⟩
  · cases h
theorem pNum_some {k n : Nat} {bs r : List UInt8} (h : pNum k bs = some (n, r)) : bs = toLe k n ++ r ∧ n < 256 ^ k := by
  unfold pNum at h
  split at h
  · cases h
  · rename_i x r' hx
    injection h with h; injection h with h1 h2; subst h1 h2
    obtain ⟨rfl, hl⟩ := pTake_some hx
    subst hl
    exact ⟨by rw [toLe_le], le_lt x⟩
theorem pNum1_some {n : Nat} {bs r : List UInt8} (h : pNum 1 bs = some (n, r)) : bs = UInt8.ofNat n :: r ∧ n < 256 := by
  obtain ⟨rfl, h2⟩ := pNum_some h
  exact ⟨by simp [toLe], by omega⟩
theorem pText_some {bs r : List UInt8} {s : ByteArray} (h : pText bs = some (s, r)) : bs = textB s ++ r ∧ s.size ≤ 200 := by
  unfold pText at h
  split at h
  · cases h
  · rename_i n r' hn
    obtain ⟨rfl, hn2⟩ := pNum1_some hn
    split at h
    · split at h
      · cases h
      · rename_i h2 x r'' hx
        injection h with h; injection h with h1 h3; subst h1 h3
        obtain ⟨rfl, hl⟩ := pTake_some hx
        have hs : (⟨x.toArray⟩ : ByteArray).size = n := by show x.toArray.size = n; simpa using hl
        refine ⟨?_, by omega⟩
        unfold textB
        rw [hs]
        simp
    · cases h
theorem pVal_some {bs r : List UInt8} {v : V} (h : pVal bs = some (v, r)) : bs = valB v ++ r ∧ rdAll v.bytes = .ok v := by
  unfold pVal at h
  split at h
  · cases h
  · rename_i n r' hn
    obtain ⟨rfl, hn2⟩ := pNum_some hn
    split at h
    · cases h
    · rename_i x r'' hx
      obtain ⟨rfl, hl⟩ := pTake_some hx
      split at h
      · cases h
      · rename_i w hw
        injection h with h; injection h with h1 h3; subst h1 h3
        have hb := (rdAll_sound hw).2
        unfold valB
        rw [hb, hl, List.append_assoc]
        exact ⟨rfl, hw⟩
theorem pFlag_some {bs r : List UInt8} {b : Bool} (h : pFlag bs = some (b, r)) : bs = (if b then 1 else 0) :: r := by
  unfold pFlag at h
  split at h
  · cases h
  · rename_i k r' hk
    obtain ⟨rfl, _⟩ := pNum1_some hk
    split at h
    · rename_i h1
      injection h with h; injection h with h2 h3; subst h2 h3
      have : k = 0 ∨ k = 1 := by omega
      rcases this with rfl | rfl <;> rfl
    · cases h
theorem pMay_some {bs r : List UInt8} {v : V} (h : pMay bs = some (v, r)) : bs = mayB v ++ r ∧ MayOk v := by
  unfold pMay at h
  split at h
  · cases h
  · rename_i b r' hb
    have hb := pFlag_some hb
    subst hb
    split at h
    · rename_i hb
      subst hb
      obtain ⟨rfl, hv⟩ := pVal_some h
      have hk : v.k ≠ 0 := by
        have hf := (good_iff.1 (rdAll_sound hv).1).1
        obtain ⟨k, n, b, l, f⟩ := v
        rw [formed_mk] at hf
        simp only [own, Bool.and_eq_true, decide_eq_true_eq] at hf
        show k ≠ 0
        omega
      exact ⟨by rw [mayB, if_neg hk]; rfl, .inr ⟨hk, hv⟩⟩
    · rename_i hb
      injection h with h; injection h with h2 h3; subst h2 h3
      have : b = false := by simpa using hb
      subst this
      exact ⟨rfl, .inl rfl⟩
theorem pInt_some {bs r : List UInt8} {n : Int} (h : pInt bs = some (n, r)) : bs = toLe 4 (u32 n) ++ r ∧ -2147483648 ≤ n ∧ n ≤ 2147483647 := by
  unfold pInt at h
  split at h
  · cases h
  · rename_i k r' hk
    obtain ⟨rfl, hk2⟩ := pNum_some hk
    injection h with h; injection h with h2 h3; subst h2 h3
    have hk3 : k < 4294967296 := hk2
    have : u32 (if k < 2147483648 then (k : Int) else (k : Int) - 4294967296) = k := by unfold u32; split <;> omega
    rw [this]
    exact ⟨rfl, by split <;> omega, by split <;> omega⟩
theorem pCount_some {bs r : List UInt8} {n : Int} (h : pCount bs = some (n, r)) : bs = toLe 4 n.toNat ++ r ∧ 0 ≤ n ∧ n ≤ 2147483647 := by
  unfold pCount at h
  split at h
  · cases h
  · rename_i k r' hk
    obtain ⟨rfl, hk2⟩ := pNum_some hk
    split at h
    · injection h with h; injection h with h2 h3; subst h2 h3
      exact ⟨rfl, by omega, by omega⟩
    · cases h
theorem pReq_some {bs r : List UInt8} {q : Rq} (h : pReq bs = some (q, r)) : bs = q.body ++ r ∧ q.Ok := by
  unfold pReq at h
  obtain ⟨d, r1, e1, h⟩ := pBind_some h
  obtain ⟨u, r2, e2, h⟩ := pBind_some h
  obtain ⟨c, r3, e3, h⟩ := pBind_some h
  obtain ⟨i, r4, e4, h⟩ := pBind_some h
  obtain ⟨p, r5, e5, h⟩ := pBind_some h
  obtain ⟨n, r6, e6, h⟩ := pBind_some h
  obtain ⟨k, r7, e7, h⟩ := pBind_some h
  obtain ⟨l, r8, e8, h⟩ := pBind_some h
  obtain ⟨hh, r9, e9, h⟩ := pBind_some h
  obtain ⟨x, r10, e10, h⟩ := pBind_some h
  injection h with h; injection h with h1 h2; subst h1 h2
  obtain ⟨rfl, k1⟩ := pNum1_some e1
  obtain rfl := pFlag_some e2
  obtain ⟨rfl, k3⟩ := pText_some e3
  obtain ⟨rfl, k4⟩ := pText_some e4
  obtain ⟨rfl, k5⟩ := pText_some e5
  obtain ⟨rfl, k6, k6'⟩ := pInt_some e6
  obtain ⟨rfl, k7⟩ := pMay_some e7
  obtain ⟨rfl, k8⟩ := pMay_some e8
  obtain ⟨rfl, k9⟩ := pMay_some e9
  obtain ⟨rfl, k10⟩ := pMay_some e10
  refine ⟨?_, ?_, k7, k8, k9, k10⟩
  · unfold Rq.body Rq.headB Rq.vals
    simp only [List.map_cons, List.map_nil, List.flatten_cons, List.flatten_nil, List.append_nil, List.append_assoc, List.cons_append, List.nil_append, Int.toNat_natCast]
  · unfold Rq.args
    dsimp only
    omega
theorem pVals_some : ∀ {n : Nat} {bs r : List UInt8} {l : List V}, pVals n bs = some (l, r) → bs = (l.map valB).flatten ++ r ∧ l.length = n ∧ ∀ v ∈ l, rdAll v.bytes = .ok v
  | 0, bs, r, l, h => by
    rw [pVals] at h
    injection h with h; injection h with h1 h2; subst h1 h2
    exact ⟨rfl, rfl, by simp⟩
  | n + 1, bs, r, l, h => by
    rw [pVals] at h
    split at h
    · cases h
    rename_i v r1 e1
    split at h
    · cases h
    rename_i l' r2 e2
    injection h with h; injection h with h1 h2; subst h1 h2
    obtain ⟨rfl, k1⟩ := pVal_some e1
    obtain ⟨rfl, k2, k3⟩ := pVals_some e2
    refine ⟨by simp, by simp [k2], fun x hx => ?_⟩
    rcases List.mem_cons.1 hx with rfl | hx
    · exact k1
    · exact k3 x hx
theorem pRep_some {bs r : List UInt8} {q : Rp} (h : pRep bs = some (q, r)) : bs = q.body ++ r ∧ q.Ok := by
  unfold pRep at h
  obtain ⟨e, r1, e1, h⟩ := pBind_some h
  obtain ⟨n, r2, e2, h⟩ := pBind_some h
  obtain ⟨c, r3, e3, h⟩ := pBind_some h
  obtain ⟨k, r4, e4, h⟩ := pBind_some h
  split at h
  · cases h
  rename_i h64
  obtain ⟨l, r5, e5, h⟩ := pBind_some h
  injection h with h; injection h with h1 h2; subst h1 h2
  obtain ⟨rfl, k1⟩ := pNum1_some e1
  obtain ⟨rfl, k2, k2'⟩ := pCount_some e2
  obtain ⟨rfl, k3, k3'⟩ := pCount_some e3
  obtain ⟨rfl, k4⟩ := pNum1_some e4
  obtain ⟨rfl, k5, k6⟩ := pVals_some e5
  refine ⟨?_, ?_, k6⟩
  · unfold Rp.body Rp.headB
    simp only [List.append_assoc, List.cons_append, List.nil_append, Int.toNat_natCast, k5]
  · unfold Rp.args
    dsimp only
    omega

/-! What follows of both. -/
/-- A value of Kind 0 is none. -/
def norm (v : V) : V := if v.k = 0 then V.zero else v
def Rq.norm (r : Rq) : Rq := { r with key := norm0 r.key, low := norm0 r.low, high := norm0 r.high, doc := norm0 r.doc }
  where norm0 := Go.Proofs.YtojpeiihkjpeoaaDoor.norm
theorem norm_body (v : V) : mayB (norm v) = mayB v := by
  unfold norm
  by_cases h : v.k = 0
  · rw [if_pos h]; unfold mayB; rw [if_pos h]; rfl
  · rw [if_neg h]
theorem Rq.norm_body (r : Rq) : r.norm.body = r.body := by
  show _ ++ [mayB (Go.Proofs.YtojpeiihkjpeoaaDoor.norm r.key), mayB (Go.Proofs.YtojpeiihkjpeoaaDoor.norm r.low), mayB (Go.Proofs.YtojpeiihkjpeoaaDoor.norm r.high), mayB (Go.Proofs.YtojpeiihkjpeoaaDoor.norm r.doc)].flatten = _
  simp only [Go.Proofs.YtojpeiihkjpeoaaDoor.norm_body]
  rfl
theorem norm_ok {v : V} (hf : v.fit) (h : mayGood v = 0) : MayOk (norm v) := by
  unfold norm mayGood at *
  by_cases hk : v.k = 0
  · rw [if_pos hk]; exact .inl rfl
  · rw [if_neg hk] at h ⊢; exact .inr ⟨hk, rdAll_good hf h⟩
structure Rq.Fit (r : Rq) : Prop where
  key : r.key.fit
  low : r.low.fit
  high : r.high.fit
  doc : r.doc.fit
theorem Rq.ok_of {r : Rq} (hf : r.Fit) (h : r.err = 0) : r.norm.Ok := by
  unfold Rq.err at h
  by_cases ha : r.args
  · rw [if_pos ha] at h; cases h
  rw [if_neg ha] at h
  unfold Rq.vals at h
  simp only [firstMay] at h
  have e1 : mayGood r.key = 0 := by split at h <;> first | assumption | (exact absurd h (by assumption))
  rw [if_pos e1] at h
  have e2 : mayGood r.low = 0 := by split at h <;> first | assumption | (exact absurd h (by assumption))
  rw [if_pos e2] at h
  have e3 : mayGood r.high = 0 := by split at h <;> first | assumption | (exact absurd h (by assumption))
  rw [if_pos e3] at h
  have e4 : mayGood r.doc = 0 := by split at h <;> first | assumption | (exact absurd h (by assumption))
  exact ⟨ha, norm_ok hf.key e1, norm_ok hf.low e2, norm_ok hf.high e3, norm_ok hf.doc e4⟩
theorem firstBad_all : ∀ {l : List V}, firstBad l = 0 → ∀ v ∈ l, v.good = 0
  | [], _, v, hv => by simp at hv
  | x :: l, h, v, hv => by
    rw [firstBad] at h
    by_cases hx : x.good = 0
    · rw [if_pos hx] at h
      rcases List.mem_cons.1 hv with rfl | hv
      · exact hx
      · exact firstBad_all h v hv
    · rw [if_neg hx] at h; exact absurd h hx
theorem Rp.ok_of {r : Rp} (hf : ∀ v ∈ r.docs, v.fit) (h : r.err = 0) : r.Ok := by
  unfold Rp.err at h
  by_cases ha : r.args
  · rw [if_pos ha] at h; cases h
  rw [if_neg ha] at h
  exact ⟨ha, fun v hv => rdAll_good (hf v hv) (firstBad_all h v hv)⟩
theorem putOf_ok {err : Int} {body p : List UInt8} (h : putOf err body = (p, 0)) : err = 0 ∧ body.length ≤ 12000 ∧ p = frameOf body := by
  unfold putOf at h
  split at h
  · rename_i h1; injection h with _ h2; exact absurd h2 h1
  split at h
  · injection h with _ h2; cases h2
  · rename_i h1 h2
    injection h with h3 _
    exact ⟨by simpa using h1, by omega, h3.symm⟩
theorem putOf_bad {err : Int} {body p : List UInt8} {e : Int} (h : putOf err body = (p, e)) (he : e ≠ 0) : p = [] := by
  unfold putOf at h
  split at h
  · injection h with h1 _; exact h1.symm
  split at h
  · injection h with h1 _; exact h1.symm
  · injection h with _ h2; exact absurd h2.symm he
/-- A frame, whatever stands behind, is read. -/
theorem getOf_frame {α : Type} {zero x : α} {p : List UInt8 → P α} {body : List UInt8} (hl : body.length ≤ 12000) (hp : p body = some (x, [])) (t : List UInt8) : getOf zero p (frameOf body ++ t) = (x, body.length + 8, 0) := by
  unfold getOf
  rw [head_frame body t hl, if_neg (by simp)]
  simp only [Nat.add_sub_cancel]
  rw [frame_body, hp]
  simp
theorem getOf_less {α : Type} {zero : α} {p : List UInt8 → P α} {body : List UInt8} (hl : body.length ≤ 12000) (k : Nat) (hk : k < body.length + 8) : getOf zero p ((frameOf body).take k) = (zero, 0, 17) := by
  unfold getOf
  rw [head_less body k hl hk, if_pos (by simp)]
theorem getOf_turned {α : Type} {zero x : α} {p : List UInt8 → P α} {body : List UInt8} (hl : body.length ≤ 12000) (hp : p body = some (x, [])) (hmore : ∀ a t y, p a = some (y, []) → p (a ++ t) = some (y, t)) (i : Nat) (y : UInt8) (hi : i < (frameOf body).length) (hy : y ≠ (frameOf body)[i]) :
    (getOf zero p ((frameOf body).set i y)).1 = zero ∧ (getOf zero p ((frameOf body).set i y)).2.2 ≠ 0 := by
  rcases head_turned body hl i y hi hy with h | ⟨n, hn, hh, hb⟩
  · unfold getOf
    rw [if_pos h]
    exact ⟨rfl, h⟩
  · unfold getOf
    rw [hh, if_neg (by simp)]
    simp only [Nat.add_sub_cancel]
    rw [hb]
    cases hq : p (body.take n) with
    | none => exact ⟨rfl, by show (4 : Int) ≠ 0; decide⟩
    | some q =>
      obtain ⟨z, r⟩ := q
      simp only
      by_cases hr : r = []
      · subst hr
        have h2 := hmore _ (body.drop n) z hq
        rw [List.take_append_drop, hp] at h2
        injection h2 with h2
        injection h2 with _ h2
        have : (body.drop n).length = 0 := by rw [← h2]; rfl
        rw [List.length_drop] at this
        omega
      · rw [if_neg hr]; exact ⟨rfl, by show (4 : Int) ≠ 0; decide⟩
theorem pReq_more (a t : List UInt8) (y : Rq) (h : pReq a = some (y, [])) : pReq (a ++ t) = some (y, t) := by
  obtain ⟨ha, hy⟩ := pReq_some h
  rw [ha, List.append_nil]
  exact pReq_app y t hy
/-- What is read of any bytes is written as the bytes that were read. -/
theorem getReq_back {b : List UInt8} {q : Rq} {m : Nat} (h : getReq b = (q, m, 0)) : q.put = (b.take m, 0) ∧ m ≤ b.length := by
  unfold getReq getOf at h
  split at h
  · rename_i h0
    injection h with _ h
    exact absurd (congrArg Prod.snd h) h0
  rename_i h0
  have h0 : (head b).2 = 0 := by simpa using h0
  obtain ⟨body, rest, hb, hm, hl, hbody⟩ := head_sound (b := b) (m := (head b).1) (by rw [← h0])
  split at h
  · injection h with _ h; injection h with _ h; cases h
  rename_i x r hx
  rw [hbody] at hx
  split at h
  · rename_i hr
    subst hr
    injection h with h1 h; injection h with h2 _
    subst h1 h2
    obtain ⟨hB, hok⟩ := pReq_some hx
    rw [List.append_nil] at hB
    have herr : x.err = 0 := by
      have mg : ∀ v, MayOk v → mayGood v = 0 := fun v hv => by
        rcases hv with rfl | ⟨hk, hv⟩
        · rfl
        · rw [mayGood, if_neg hk]; exact (rdAll_sound hv).1
      unfold Rq.err Rq.vals
      rw [if_neg hok.args]
      simp only [firstMay]
      rw [if_pos (mg _ hok.key), if_pos (mg _ hok.low), if_pos (mg _ hok.high), if_pos (mg _ hok.doc)]
    refine ⟨?_, by have := congrArg List.length hb; rw [List.length_append, frameOf_length] at this; omega⟩
    unfold Rq.put putOf
    rw [herr, if_neg (by simp), ← hB, if_neg (by omega), hm]
    have e : b.take (body.length + 8) = frameOf body := by
      rw [hb, List.take_left' (frameOf_length body)]
    rw [e]
  · injection h with _ h; injection h with _ h; cases h
end Go.Proofs.YtojpeiihkjpeoaaDoor
