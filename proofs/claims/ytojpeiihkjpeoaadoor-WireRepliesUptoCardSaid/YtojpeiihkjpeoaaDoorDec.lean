/- The reading of values, plainly. No program in sight. -/
import Derived.Test.YtojpeiihkjpeoaaDoorSpec
namespace Go.Proofs.YtojpeiihkjpeoaaDoor
open V

abbrev Got := Except Int (V × List UInt8)
/-- n values one behind the other. -/
def rdL (f : List UInt8 → Got) : Nat → List UInt8 → Except Int (List V × List UInt8)
  | 0, bs => .ok ([], bs)
  | n + 1, bs => match f bs with
    | .error e => .error e
    | .ok (x, r) => match rdL f n r with
      | .error e => .error e
      | .ok (l, r') => .ok (x :: l, r')
/-- A name ahead of bytes. -/
def rdN : List UInt8 → Option (ByteArray × List UInt8)
  | [] => none
  | m :: r => if m.toNat ≤ r.length then some (⟨(r.take m.toNat).toArray⟩, r.drop m.toNat) else none
open Classical in
/-- n fields one behind the other, the names not among those met. -/
noncomputable def rdF (f : List UInt8 → Got) : Nat → List ByteArray → List UInt8 → Except Int (List (ByteArray × V) × List UInt8)
  | 0, _, bs => .ok ([], bs)
  | n + 1, met, bs => match rdN bs with
    | none => .error 4
    | some (s, r) => if name s = true ∧ ¬ s ∈ met then
        match f r with
        | .error e => .error e
        | .ok (x, r') => match rdF f n (met ++ [s]) r' with
          | .error e => .error e
          | .ok (l, r'') => .ok ((s, x) :: l, r'')
      else .error 4
/-- A value that holds none. -/
def rdFlat (k : Nat) (bs : List UInt8) : Got :=
  if k = 1 then .ok (mk 1 0 [] [] [], bs)
  else if k = 2 then (match bs with
    | [] => .error 4
    | x :: r => if x.toNat ≤ 1 then .ok (mk 2 x.toNat [] [] [], r) else .error 4)
  else if k = 3 ∨ k = 4 then (if 8 ≤ bs.length then .ok (mk k (le (bs.take 8)) [] [] [], bs.drop 8) else .error 4)
  else if k = 5 ∨ k = 6 then (if 2 ≤ bs.length then
      (if le (bs.take 2) ≤ (bs.drop 2).length then
        (if k = 6 ∨ Lib.validD ((bs.drop 2).take (le (bs.take 2))) = true then .ok (mk k 0 ((bs.drop 2).take (le (bs.take 2))) [] [], (bs.drop 2).drop (le (bs.take 2))) else .error 4)
       else .error 4)
    else .error 4)
  else .error 4
/-- A list's or a document's number of parts. -/
def rdM : List UInt8 → Except Int (Nat × List UInt8)
  | [] => .error 4
  | x :: r => if x.toNat ≤ 64 then .ok (x.toNat, r) else .error 19
/-- One value; 'f' reads those within it, if there may be any. -/
noncomputable def rdStep (f : Option (List UInt8 → Got)) : List UInt8 → Got
  | [] => .error 4
  | k :: bs =>
    if k.toNat = 7 then (match f with
      | none => .error 3
      | some f => match rdM bs with
        | .error e => .error e
        | .ok (n, r) => match rdL f n r with
          | .error e => .error e
          | .ok (l, r') => .ok (mk 7 0 [] l [], r'))
    else if k.toNat = 8 then (match f with
      | none => .error 3
      | some f => match rdM bs with
        | .error e => .error e
        | .ok (n, r) => match rdF f n [] r with
          | .error e => .error e
          | .ok (l, r') => .ok (mk 8 0 [] [] l, r'))
    else rdFlat k.toNat bs
/-- A value with at most g lists and documents within one another. -/
noncomputable def rd : Nat → List UInt8 → Got
  | 0 => rdStep none
  | g + 1 => rdStep (some (rd g))
/-- All bytes as a value. -/
noncomputable def rdAll (bs : List UInt8) : Except Int V :=
  if 4096 < bs.length then .error 2
  else match rd 16 bs with
    | .error e => .error e
    | .ok (v, r) => if r = [] then .ok v else .error 4
end Go.Proofs.YtojpeiihkjpeoaaDoor
