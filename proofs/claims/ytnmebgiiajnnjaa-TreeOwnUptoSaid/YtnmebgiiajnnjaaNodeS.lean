/-
  the levels of the shapes
-/
import Derived.Test.YtnmebgiiajnnjaaNodeR
namespace Go.Proofs.Ytnmebgiiajnnjaa
set_option linter.unusedSimpArgs false
set_option linter.unusedVariables false
open Go.RowKit

/-- What the questions of tree.go answer, of nodes of at most so many within one another. -/
structure Ps where
  ty : Nd → Bool
  sg : Nd → Bool
  tm : Nd → Bool
  it : Nd → Bool
  fl : Nd → Bool
  ss : Nd → Bool
  pr : Nd → Bool
  va : Nd → Bool
  ex : Nd → Bool
  inc : Nd → Bool
  se : Nd → Bool
  cal : Nd → Bool
  sh : Nd → Bool
  bl : Nd → Bool
  iff_ : Nd → Bool
  st : Nd → Bool
  dc : Nd → Bool

def termB (ty : Nd → Bool) (t : Nd) : Bool := tildeL t.text && (t.kind == 15 && kids1 ty t.kids)
def interB (tm : Nd → Bool) (t : Nd) : Bool := t.kind == 14 && (t.text.isEmpty && (!t.kids.isEmpty && t.kids.all tm))
def fieldB (ty : Nd → Bool) (t : Nd) : Bool := nameL t.text && (t.kind == 9 && kids1 ty t.kids)
def rowB (kind : Int) (f : Nd → Bool) (t : Nd) : Bool := t.kind == kind && (t.text.isEmpty && t.kids.all f)
def kindB (kind : Int) (f : Nd → Bool) (t : Nd) : Bool := t.kind == kind && f t
def incB (ex : Nd → Bool) (t : Nd) : Bool := stepsL t.text && (t.kind == 28 && kids1 ex t.kids)
def shB (ex : Nd → Bool) (t : Nd) : Bool := boundL t.text && (t.kind == 26 && kids1 ex t.kids)

def ps0 : Ps := ⟨fun _ => false, fun _ => false, fun _ => false, fun _ => false, fun _ => false, fun _ => false, fun _ => false, fun _ => false, fun _ => false, fun _ => false, fun _ => false, fun _ => false, fun _ => false, fun _ => false, fun _ => false, fun _ => false, fun _ => false⟩
def psStep (p : Ps) : Ps where
  ty := typeB p.ty
  sg := sigB p.ty nameL
  tm := termB p.ty
  it := interB p.tm
  fl := fieldB p.ty
  ss := rowB 13 p.fl
  pr := listB (tparamB (kindB 10 p.ty) p.it)
  va := varB p.ty p.ex
  ex := exprB p.ex p.ty p.sg p.bl
  inc := incB p.ex
  se := ofB 27 (kids2 p.ex p.ex)
  cal := ofB 29 (kids1 (kindB 21 p.ex))
  sh := shB p.ex
  bl := rowB 36 p.st
  iff_ := ifB p.ex p.bl p.iff_
  st := stmtB (varB p.ty p.ex) (shB p.ex) (ofB 27 (kids2 p.ex p.ex)) (incB p.ex) (ofB 29 (kids1 (kindB 21 p.ex))) (ifB p.ex p.bl p.iff_) p.ex (rowB 36 p.st) p.bl p.sh p.se p.inc p.cal
  dc := declB p.pr p.sg p.bl p.ty p.ss p.it (varB p.ty p.ex)
def lv : Nat → Ps
  | 0 => ps0
  | n + 1 => psStep (lv n)

structure Good (p : Ps) (n : Nat) : Prop where
  ty : Ok 35 p.ty n
  sg : Ok 38 p.sg n
  tm : Ok 73 p.tm n
  it : Ok 48 p.it n
  fl : Ok 72 p.fl n
  ss : Ok 47 p.ss n
  pr : Ok 44 p.pr n
  va : Ok 49 p.va n
  ex : Ok 36 p.ex n
  inc : Ok 59 p.inc n
  se : Ok 58 p.se n
  cal : Ok 60 p.cal n
  sh : Ok 57 p.sh n
  bl : Ok 45 p.bl n
  iff_ : Ok 61 p.iff_ n
  st : Ok 37 p.st n
  dc : Ok 34 p.dc n

theorem ok_zero (K : Nat) (f : Nd → Bool) : Ok K f 0 := fun t a c w ht => by have := Nd.height_eq t; omega

theorem good_step (p : Ps) (n : Nat) (h : Good p n) : Good (psStep p) (n + 1) := by
  have va : Ok 49 (varB p.ty p.ex) (n + 1) := var_ok _ _ n h.ty h.ex
  have sh : Ok 57 (shB p.ex) (n + 1) := short_ok _ n h.ex
  have se : Ok 58 (ofB 27 (kids2 p.ex p.ex)) (n + 1) := set_ok _ n h.ex
  have inc : Ok 59 (incB p.ex) (n + 1) := inc_ok _ n h.ex
  have cal : Ok 60 (ofB 29 (kids1 (kindB 21 p.ex))) (n + 1) := call_ok _ n (call1_ok _ n h.ex)
  have i : Ok 61 (ifB p.ex p.bl p.iff_) (n + 1) := if_ok _ _ _ n h.ex h.bl h.iff_
  have bl : Ok 45 (rowB 36 p.st) (n + 1) := block_ok _ n h.st
  exact {
    ty := isType_ok _ n h.ty
    sg := isSignature_ok _ n h.ty
    tm := term_ok _ n h.ty
    it := inter_ok _ n h.tm
    fl := field_ok _ n h.ty
    ss := struct_ok _ n h.fl
    pr := params_ok _ _ n (params1_ok _ n h.ty) h.it
    va := va
    ex := expr_ok _ _ _ _ n h.ex h.ty h.sg h.bl
    inc := inc
    se := se
    cal := cal
    sh := sh
    bl := bl
    iff_ := i
    st := stmt_ok _ _ _ _ _ _ _ _ _ _ _ _ _ n va sh se inc cal i bl h.ex h.bl h.sh h.se h.inc h.cal
    dc := decl_ok _ _ _ _ _ _ _ n h.pr h.sg h.bl h.ty h.ss h.it va }

theorem good : ∀ n, Good (lv n) n
  | 0 => ⟨ok_zero _ _, ok_zero _ _, ok_zero _ _, ok_zero _ _, ok_zero _ _, ok_zero _ _, ok_zero _ _, ok_zero _ _, ok_zero _ _, ok_zero _ _, ok_zero _ _, ok_zero _ _, ok_zero _ _, ok_zero _ _, ok_zero _ _, ok_zero _ _, ok_zero _ _⟩
  | n + 1 => good_step _ n (good n)
end Go.Proofs.Ytnmebgiiajnnjaa
