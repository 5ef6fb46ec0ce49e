/-
  tag: what a tag is, what a constraint is, whether it holds, its least version, how it is written, how it is read: as plain functions. No program.
-/
import Derived.Lib.Strings
import Derived.Lib.AtoiAllCases
import Derived.Lib.ItoaNum
import Derived.Test.YtagaoilgnhdebaaDoorTgA
namespace Go.Proofs.YtagaoilgnhdebaaDoor
set_option linter.unusedSimpArgs false
set_option linter.unusedVariables false
open Go.RowKit

def mayT (c : Int) : Bool := decide (97 ≤ c) && decide (c ≤ 122) || (decide (65 ≤ c) && decide (c ≤ 90) || (figureI c || (decide (c = 95) || decide (c = 46))))
def mayTB (c : UInt8) : Bool := mayT c.toNat
theorem mayT_lt {c : Int} (h : mayT c = true) : c < 128 := by
  simp [mayT, figureI] at h; omega
def tagB (s : List UInt8) : Bool := s.all mayTB && !s.isEmpty

/-- A tag's version; -1: none. -/
def verT (s : List UInt8) : Int :=
  if Lib.hasPrefix s [103, 111, 49, 46] then (match Lib.atoiAll (s.drop 4) with | .ok v => if Lib.itoa v = s.drop 4 ∧ 0 ≤ v ∧ v ≤ 99 then v else -1 | _ => -1) else -1

/-- May it be a constraint, with so many within one another left? -/
def rightX : Nat → Xp → Bool
  | 0, _ => false
  | n + 1, t => if t.op = [] then tagB t.tag && t.kids.isEmpty
    else if t.op = [33] then decide (t.kids.length = 1) && (t.tag.isEmpty && t.kids.all (rightX n))
    else if t.op = [38, 38] ∨ t.op = [124, 124] then decide (2 ≤ t.kids.length) && (t.tag.isEmpty && t.kids.all (rightX n))
    else false

def holdsX (tags : List (List UInt8)) : Nat → Xp → Bool
  | 0, _ => false
  | n + 1, t => if t.op = [33] then !(holdsX tags n (t.kids.headD default))
    else if t.op = [38, 38] then t.kids.all (holdsX tags n)
    else if t.op = [124, 124] then t.kids.any (holdsX tags n)
    else if verT t.tag ≠ -1 then decide (verT t.tag ≤ 24) else tags.contains t.tag

def maxL : List Int → Int
  | [] => 0
  | x :: l => l.foldl max x
def minL : List Int → Int
  | [] => 0
  | x :: l => l.foldl min x
def leastX : Nat → Xp → Int
  | 0, _ => -1
  | n + 1, t => if t.op = [] then verT t.tag
    else if t.op = [38, 38] then maxL (t.kids.map (leastX n))
    else if t.op = [124, 124] then minL (t.kids.map (leastX n))
    else -1

/-- Texts in a row, with another one between. -/
def joinL (sep : List UInt8) : List (List UInt8) → List UInt8
  | [] => []
  | x :: l => l.foldl (fun a y => a ++ (sep ++ y)) x
def signed (op within : List UInt8) (s : List UInt8) : List UInt8 :=
  if within = [33] ∨ within = [38, 38] ∨ within = op then [40] ++ s ++ [41] else s
def writeX : Nat → Xp → List UInt8 → List UInt8
  | 0, _, _ => []
  | n + 1, t, within => if t.op = [33] then [33] ++ writeX n (t.kids.headD default) [33]
    else if t.op = [38, 38] ∨ t.op = [124, 124] then signed t.op within (joinL ([32] ++ t.op ++ [32]) (t.kids.map fun k => writeX n k t.op))
    else t.tag

/-! The reader. -/
def blankT (c : UInt8) : Bool := c == 32 || c == 9
/-- The text behind its first blanks. -/
def skipT (s : List UInt8) : List UInt8 := s.dropWhile blankT
/-- Is this what comes? And what is left then. -/
def takesT (sign s : List UInt8) : Bool × List UInt8 :=
  if Lib.hasPrefix (skipT s) sign then (true, (skipT s).drop sign.length) else (false, skipT s)
/-- What has a sign between, behind the first: at most so many. -/
def rowT (sign : List UInt8) (q : List UInt8 → Option (Xp × List UInt8)) : Nat → List UInt8 → Option (List Xp × List UInt8)
  | 0, _ => none
  | k + 1, s => if (takesT sign s).1 then
      match q (takesT sign s).2 with
      | none => none
      | some (x, r) => match rowT sign q k r with
        | none => none
        | some (l, r') => some (x :: l, r')
    else some ([], (takesT sign s).2)
def wrapT (sign : List UInt8) (x : Xp) (l : List Xp) : Xp := if l.isEmpty then x else .mk sign [] (x :: l)
def rowsT (sign : List UInt8) (q : List UInt8 → Option (Xp × List UInt8)) (s : List UInt8) : Option (Xp × List UInt8) :=
  match q s with
  | none => none
  | some (x, r) => match rowT sign q (r.length + 1) r with
    | none => none
    | some (l, r') => some (wrapT sign x l, r')
def termsOf (q : List UInt8 → Option (Xp × List UInt8)) (s : List UInt8) : Option (Xp × List UInt8) := rowsT [124, 124] (rowsT [38, 38] q) s
def factorT : Nat → List UInt8 → Option (Xp × List UInt8)
  | 0, _ => none
  | n + 1, s =>
    if (takesT [33] s).1 then
      match factorT n (takesT [33] s).2 with
      | none => none
      | some (x, r) => some (.mk [33] [] [x], r)
    else if (takesT [40] (takesT [33] s).2).1 then
      match termsOf (factorT n) (takesT [40] (takesT [33] s).2).2 with
      | none => none
      | some (x, r) => if (takesT [41] r).1 then some (x, (takesT [41] r).2) else none
    else
      let u := (takesT [40] (takesT [33] s).2).2
      if (u.takeWhile mayTB).isEmpty then none else some (.mk [] (u.takeWhile mayTB) [], u.dropWhile mayTB)
def termsT (n : Nat) (s : List UInt8) : Option (Xp × List UInt8) := termsOf (factorT n) s
/-- What a text is as a constraint; an error's number. -/
def readT (s : List UInt8) : Xp × Int :=
  if s.length > 500 then (default, 12)
  else match termsT (s.length + 1) s with
    | none => (default, 8)
    | some (x, r) => if skipT r = [] ∧ rightX 100 x = true then (x, 0) else (default, 8)

end Go.Proofs.YtagaoilgnhdebaaDoor
