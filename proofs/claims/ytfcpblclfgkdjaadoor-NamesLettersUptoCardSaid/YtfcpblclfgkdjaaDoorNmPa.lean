/-
  names: types in letters, plainly: no two types have the same letters. No program.
-/
import Derived.Test.YtfcpblclfgkdjaaDoorBgB
namespace Go.Proofs.YtfcpblclfgkdjaaDoor
set_option linter.unusedSimpArgs false
set_option linter.unusedVariables false
open Go.RowKit

/-- A type: its kind, its name, its parts. -/
inductive Ty where
  | mk (kind : Int) (name : List UInt8) (args : List Ty)
namespace Ty
def kind : Ty → Int | .mk k _ _ => k
def name : Ty → List UInt8 | .mk _ n _ => n
def args : Ty → List Ty | .mk _ _ l => l
@[simp] theorem kind_mk (k n l) : (Ty.mk k n l).kind = k := rfl
@[simp] theorem name_mk (k n l) : (Ty.mk k n l).name = n := rfl
@[simp] theorem args_mk (k n l) : (Ty.mk k n l).args = l := rfl
end Ty
theorem Ty.ind {M : Ty → Prop} (h : ∀ t : Ty, (∀ k, k ∈ t.args → M k) → M t) : ∀ t, M t
  | .mk o s l => h (.mk o s l) (fun x hx => Ty.ind h x)
termination_by t => SizeOf.sizeOf t
decreasing_by
  have := List.sizeOf_lt_of_mem hx
  simp_all
  omega

/-- How many, and a sign behind. -/
def cnt (n : Nat) : List UInt8 := Lib.decDigits n ++ [120]
def basicL (nm : List UInt8) : List UInt8 := if nm = [105, 110, 116] then [105] else if nm = [115, 116, 114, 105, 110, 103] then [116] else if nm = [98, 111, 111, 108] then [98] else []
def shapeL (k : Int) (nm : List UInt8) (n : Nat) (s : List UInt8) : List UInt8 :=
  if k = 5 ∧ n = 1 then 115 :: s
  else if k = 6 ∧ 0 < n then 102 :: (cnt n ++ s)
  else if k = 3 ∧ nm ≠ [] then 110 :: (cnt nm.length ++ (nm ++ (cnt n ++ s)))
  else []
mutual
/-- A type in letters; nothing: it has none. -/
def letT : Ty → List UInt8
  | .mk k nm l => if k = 1 ∧ l.length = 0 then basicL nm else if k = 7 ∧ l.length = 0 then [118] else match letsT l with | none => [] | some s => shapeL k nm l.length s
def letsT : List Ty → Option (List UInt8)
  | [] => some []
  | x :: l => if letT x = [] then none else match letsT l with | none => none | some s => some (letT x ++ s)
end
mutual
def plainT : Ty → Ty → Bool
  | .mk k n a, .mk k' n' a' => decide (k = k') && ((!(decide (k = 1) || decide (k = 3)) || decide (n = n')) && plainTs a a')
def plainTs : List Ty → List Ty → Bool
  | [], [] => true
  | x :: l, y :: m => plainT x y && plainTs l m
  | [], _ :: _ => false
  | _ :: _, [] => false
end

theorem letT_mk (k : Int) (nm : List UInt8) (l : List Ty) : letT (.mk k nm l) = if k = 1 ∧ l.length = 0 then basicL nm else if k = 7 ∧ l.length = 0 then [118] else match letsT l with | none => [] | some s => shapeL k nm l.length s := by rw [letT]
theorem letsT_cons (x : Ty) (l : List Ty) : letsT (x :: l) = if letT x = [] then none else match letsT l with | none => none | some s => some (letT x ++ s) := by rw [letsT]
theorem plainT_mk (k k' : Int) (n n' : List UInt8) (a a' : List Ty) : plainT (.mk k n a) (.mk k' n' a') = (decide (k = k') && ((!(decide (k = 1) || decide (k = 3)) || decide (n = n')) && plainTs a a')) := by rw [plainT]
theorem plainL_len : ∀ {l m : List Ty}, plainTs l m = true → l.length = m.length
  | [], [], _ => rfl
  | [], _ :: _, h => by rw [plainTs] at h; cases h
  | _ :: _, [], h => by rw [plainTs] at h; cases h
  | x :: l, y :: m, h => by
    rw [plainTs, Bool.and_eq_true] at h
    simp [plainL_len h.2]

/-- What is plainly the same has the same letters. -/
theorem plain_lets {l : List Ty} (h : ∀ t, t ∈ l → ∀ u, plainT t u = true → letT t = letT u) : ∀ {m : List Ty}, plainTs l m = true → letsT l = letsT m := by
  induction l with
  | nil =>
    intro m hm
    cases m with
    | nil => rfl
    | cons y m => rw [plainTs] at hm; cases hm
  | cons x l ih =>
    intro m hm
    cases m with
    | nil => rw [plainTs] at hm; cases hm
    | cons y m =>
      rw [plainTs, Bool.and_eq_true] at hm
      rw [letsT_cons, letsT_cons, h x (by simp) y hm.1, ih (fun t ht => h t (List.mem_cons_of_mem _ ht)) hm.2]
theorem plain_let : ∀ (t u : Ty), plainT t u = true → letT t = letT u := by
  refine Ty.ind (fun t ih => ?_)
  intro u hp
  obtain ⟨k, n, a⟩ := t
  obtain ⟨k', n', a'⟩ := u
  rw [plainT_mk, Bool.and_eq_true, Bool.and_eq_true] at hp
  obtain ⟨h1, h2, h3⟩ := hp
  obtain rfl : k = k' := by simpa using h1
  have hl := plainL_len h3
  simp only [Ty.args_mk] at ih
  rw [letT_mk, letT_mk, plain_lets ih h3, hl]
  by_cases hk : k = 1 ∨ k = 3
  · have : n = n' := by
      rcases hk with rfl | rfl <;> simpa using h2
    rw [this]
  · have k1 : k ≠ 1 := fun e => hk (.inl e)
    have k3 : k ≠ 3 := fun e => hk (.inr e)
    simp [shapeL, k1, k3]

/-! Letters are a code in which none is the beginning of another. -/
theorem dec_inj {n m : Nat} (h : Lib.decDigits n = Lib.decDigits m) : n = m := by
  have := congrArg dval h
  rw [dval_dec, dval_dec] at this
  omega
theorem fig_split {a b r r' : List UInt8} (ha : a.all figureB = true) (hb : b.all figureB = true) (h : a ++ 120 :: r = b ++ 120 :: r') : a = b ∧ r = r' := by
  induction a generalizing b with
  | nil =>
    cases b with
    | nil => simpa using h
    | cons y b =>
      simp only [List.nil_append, List.cons_append, List.cons.injEq] at h
      rw [List.all_cons, Bool.and_eq_true, ← h.1] at hb
      exact absurd hb.1 (by decide)
  | cons x a ih =>
    cases b with
    | nil =>
      simp only [List.nil_append, List.cons_append, List.cons.injEq] at h
      rw [List.all_cons, Bool.and_eq_true, h.1] at ha
      exact absurd ha.1 (by decide)
    | cons y b =>
      simp only [List.cons_append, List.cons.injEq] at h
      rw [List.all_cons, Bool.and_eq_true] at ha hb
      have := ih ha.2 hb.2 h.2
      exact ⟨by rw [h.1, this.1], this.2⟩
theorem cnt_split {n m : Nat} {r r' : List UInt8} (h : cnt n ++ r = cnt m ++ r') : n = m ∧ r = r' := by
  unfold cnt at h
  rw [List.append_assoc, List.append_assoc] at h
  have := fig_split (dec_all n) (dec_all m) (by simpa using h)
  exact ⟨dec_inj this.1, this.2⟩

/-- The ways of a type that has letters. -/
theorem let_cases {k : Int} {nm : List UInt8} {l : List Ty} (h : letT (.mk k nm l) ≠ []) :
    (k = 1 ∧ l = [] ∧ ((nm = [105, 110, 116] ∧ letT (.mk k nm l) = [105]) ∨ (nm = [115, 116, 114, 105, 110, 103] ∧ letT (.mk k nm l) = [116]) ∨ (nm = [98, 111, 111, 108] ∧ letT (.mk k nm l) = [98]))) ∨
    (k = 7 ∧ l = [] ∧ letT (.mk k nm l) = [118]) ∨
    (∃ s, letsT l = some s ∧ ((k = 5 ∧ l.length = 1 ∧ letT (.mk k nm l) = 115 :: s) ∨ (k = 6 ∧ letT (.mk k nm l) = 102 :: (cnt l.length ++ s)) ∨ (k = 3 ∧ letT (.mk k nm l) = 110 :: (cnt nm.length ++ (nm ++ (cnt l.length ++ s)))))) := by
  rw [letT_mk] at h ⊢
  by_cases h1 : k = 1 ∧ l.length = 0
  · rw [if_pos h1] at h ⊢
    refine .inl ⟨h1.1, List.eq_nil_of_length_eq_zero h1.2, ?_⟩
    unfold basicL at h ⊢
    by_cases a1 : nm = [105, 110, 116]
    · exact .inl ⟨a1, if_pos a1⟩
    · rw [if_neg a1] at h ⊢
      by_cases a2 : nm = [115, 116, 114, 105, 110, 103]
      · exact .inr (.inl ⟨a2, if_pos a2⟩)
      · rw [if_neg a2] at h ⊢
        by_cases a3 : nm = [98, 111, 111, 108]
        · exact .inr (.inr ⟨a3, if_pos a3⟩)
        · rw [if_neg a3] at h; exact absurd rfl h
  · rw [if_neg h1] at h ⊢
    by_cases h2 : k = 7 ∧ l.length = 0
    · rw [if_pos h2]
      exact .inr (.inl ⟨h2.1, List.eq_nil_of_length_eq_zero h2.2, rfl⟩)
    · rw [if_neg h2] at h ⊢
      cases hs : letsT l with
      | none => rw [hs] at h; exact absurd rfl h
      | some s =>
        rw [hs] at h
        refine .inr (.inr ⟨s, rfl, ?_⟩)
        simp only [shapeL] at h ⊢
        by_cases h3 : k = 5 ∧ l.length = 1
        · exact .inl ⟨h3.1, h3.2, if_pos h3⟩
        · rw [if_neg h3] at h ⊢
          by_cases h4 : k = 6 ∧ 0 < l.length
          · exact .inr (.inl ⟨h4.1, if_pos h4⟩)
          · rw [if_neg h4] at h ⊢
            by_cases h5 : k = 3 ∧ nm ≠ []
            · exact .inr (.inr ⟨h5.1, if_pos h5⟩)
            · rw [if_neg h5] at h; exact absurd rfl h

def InjT (t : Ty) : Prop := ∀ u r r', letT t ≠ [] → letT u ≠ [] → letT t ++ r = letT u ++ r' → plainT t u = true ∧ r = r'
theorem inj_lets {l : List Ty} (h : ∀ t, t ∈ l → InjT t) : ∀ (m : List Ty) (s s' r r' : List UInt8), l.length = m.length → letsT l = some s → letsT m = some s' → s ++ r = s' ++ r' → plainTs l m = true ∧ r = r' := by
  induction l with
  | nil =>
    intro m s s' r r' hl h1 h2 he
    cases m with
    | cons y m => cases hl
    | nil =>
      rw [letsT] at h1 h2
      cases h1; cases h2
      exact ⟨by rw [plainTs], by simpa using he⟩
  | cons x l ih =>
    intro m s s' r r' hl h1 h2 he
    cases m with
    | nil => cases hl
    | cons y m =>
      rw [letsT_cons] at h1 h2
      by_cases hx : letT x = []
      · rw [if_pos hx] at h1; cases h1
      by_cases hy : letT y = []
      · rw [if_pos hy] at h2; cases h2
      rw [if_neg hx] at h1
      rw [if_neg hy] at h2
      cases e1 : letsT l with
      | none => rw [e1] at h1; cases h1
      | some s1 =>
        cases e2 : letsT m with
        | none => rw [e2] at h2; cases h2
        | some s2 =>
          rw [e1] at h1
          rw [e2] at h2
          cases h1; cases h2
          rw [List.append_assoc, List.append_assoc] at he
          obtain ⟨p1, p2⟩ := h x (by simp) y _ _ hx hy he
          obtain ⟨p3, p4⟩ := ih (fun t ht => h t (List.mem_cons_of_mem _ ht)) m s1 s2 r r' (by simpa using hl) e1 e2 p2
          exact ⟨by rw [plainTs, p1, p3]; rfl, p4⟩
theorem app_len {a b r r' : List UInt8} (hl : a.length = b.length) (h : a ++ r = b ++ r') : a = b ∧ r = r' := List.append_inj h hl
set_option maxHeartbeats 1000000 in
theorem inj_let : ∀ t : Ty, InjT t := by
  refine Ty.ind (fun t ih => ?_)
  intro u r r' ht hu he
  obtain ⟨k, n, a⟩ := t
  obtain ⟨k', n', a'⟩ := u
  rw [plainT_mk]
  simp only [Ty.args_mk] at ih
  rcases let_cases ht with ⟨rfl, rfl, h1⟩ | ⟨rfl, rfl, h1⟩ | ⟨s, hs, ⟨rfl, hl, h1⟩ | ⟨rfl, h1⟩ | ⟨rfl, h1⟩⟩
  · rcases let_cases hu with ⟨rfl, rfl, h2⟩ | ⟨rfl, rfl, h2⟩ | ⟨s', hs', ⟨rfl, hl', h2⟩ | ⟨rfl, h2⟩ | ⟨rfl, h2⟩⟩
    · have hpl : plainTs [] [] = true := by rw [plainTs]
      rcases h1 with ⟨rfl, h1⟩ | ⟨rfl, h1⟩ | ⟨rfl, h1⟩ <;> rcases h2 with ⟨rfl, h2⟩ | ⟨rfl, h2⟩ | ⟨rfl, h2⟩ <;> first | (rw [h1] at he; simp at he; exact ⟨by rw [hpl]; decide, he⟩) | (rw [h1, h2] at he; simp at he)
    · rcases h1 with ⟨rfl, h1⟩ | ⟨rfl, h1⟩ | ⟨rfl, h1⟩ <;> rw [h1, h2] at he <;> simp at he
    · rcases h1 with ⟨rfl, h1⟩ | ⟨rfl, h1⟩ | ⟨rfl, h1⟩ <;> rw [h1, h2] at he <;> simp at he
    · rcases h1 with ⟨rfl, h1⟩ | ⟨rfl, h1⟩ | ⟨rfl, h1⟩ <;> rw [h1, h2] at he <;> simp at he
    · rcases h1 with ⟨rfl, h1⟩ | ⟨rfl, h1⟩ | ⟨rfl, h1⟩ <;> rw [h1, h2] at he <;> simp at he
  · rcases let_cases hu with ⟨rfl, rfl, h2⟩ | ⟨rfl, rfl, h2⟩ | ⟨s', hs', ⟨rfl, hl', h2⟩ | ⟨rfl, h2⟩ | ⟨rfl, h2⟩⟩
    · rcases h2 with ⟨rfl, h2⟩ | ⟨rfl, h2⟩ | ⟨rfl, h2⟩ <;> rw [h1, h2] at he <;> simp at he
    · rw [h1, h2] at he
      simp at he
      exact ⟨by rw [show plainTs [] [] = true by rw [plainTs]]; simp, he⟩
    · rw [h1, h2] at he; simp at he
    · rw [h1, h2] at he; simp at he
    · rw [h1, h2] at he; simp at he
  · rcases let_cases hu with ⟨rfl, rfl, h2⟩ | ⟨rfl, rfl, h2⟩ | ⟨s', hs', ⟨rfl, hl', h2⟩ | ⟨rfl, h2⟩ | ⟨rfl, h2⟩⟩
    · rcases h2 with ⟨rfl, h2⟩ | ⟨rfl, h2⟩ | ⟨rfl, h2⟩ <;> rw [h1, h2] at he <;> simp at he
    · rw [h1, h2] at he; simp at he
    · rw [h1, h2, List.cons_append, List.cons_append, List.cons.injEq] at he
      obtain ⟨p1, p2⟩ := inj_lets ih a' s s' r r' (by omega) hs hs' he.2
      exact ⟨by rw [p1]; simp, p2⟩
    · rw [h1, h2] at he; simp at he
    · rw [h1, h2] at he; simp at he
  · rcases let_cases hu with ⟨rfl, rfl, h2⟩ | ⟨rfl, rfl, h2⟩ | ⟨s', hs', ⟨rfl, hl', h2⟩ | ⟨rfl, h2⟩ | ⟨rfl, h2⟩⟩
    · rcases h2 with ⟨rfl, h2⟩ | ⟨rfl, h2⟩ | ⟨rfl, h2⟩ <;> rw [h1, h2] at he <;> simp at he
    · rw [h1, h2] at he; simp at he
    · rw [h1, h2] at he; simp at he
    · rw [h1, h2, List.cons_append, List.cons_append, List.cons.injEq, List.append_assoc, List.append_assoc] at he
      obtain ⟨q1, q2⟩ := cnt_split he.2
      obtain ⟨p1, p2⟩ := inj_lets ih a' s s' r r' q1 hs hs' q2
      exact ⟨by rw [p1]; simp, p2⟩
    · rw [h1, h2] at he; simp at he
  · rcases let_cases hu with ⟨rfl, rfl, h2⟩ | ⟨rfl, rfl, h2⟩ | ⟨s', hs', ⟨rfl, hl', h2⟩ | ⟨rfl, h2⟩ | ⟨rfl, h2⟩⟩
    · rcases h2 with ⟨rfl, h2⟩ | ⟨rfl, h2⟩ | ⟨rfl, h2⟩ <;> rw [h1, h2] at he <;> simp at he
    · rw [h1, h2] at he; simp at he
    · rw [h1, h2] at he; simp at he
    · rw [h1, h2] at he; simp at he
    · rw [h1, h2, List.cons_append, List.cons_append, List.cons.injEq] at he
      simp only [List.append_assoc] at he
      obtain ⟨q1, q2⟩ := cnt_split he.2
      obtain ⟨q3, q4⟩ := app_len q1 q2
      obtain ⟨q5, q6⟩ := cnt_split q4
      obtain ⟨p1, p2⟩ := inj_lets ih a' s s' r r' q5 hs hs' q6
      exact ⟨by rw [p1, q3]; simp, p2⟩
/-- No two types that have letters have the same ones. -/
theorem letters_same {t u : Ty} (ht : letT t ≠ []) (hu : letT u ≠ []) : decide (letT t = letT u) = plainT t u := by
  cases hp : plainT t u with
  | true => simpa using plain_let t u hp
  | false =>
    rw [decide_eq_false_iff_not]
    intro he
    have := (inj_let t u [] [] ht hu (by rw [he])).1
    rw [hp] at this; cases this
end Go.Proofs.YtfcpblclfgkdjaaDoor
