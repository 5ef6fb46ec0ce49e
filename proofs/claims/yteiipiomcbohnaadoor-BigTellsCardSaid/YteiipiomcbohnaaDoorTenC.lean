/-
  what the loops of sums, differences, products, quotients keep; plain.
-/
import Derived.Test.YteiipiomcbohnaaDoorTenA
namespace Go.Proofs.YteiipiomcbohnaaDoor.Ten
set_option linter.unusedSimpArgs false
set_option linter.unusedVariables false

def dgt (l : List Int) (k : Nat) : Int := l.getD k 0
theorem dgt_rng {l : List Int} (h : Dg l) (k : Nat) : 0 ≤ dgt l k ∧ dgt l k < 10 := h.getD k
theorem dgt_at {l : List Int} {k : Nat} (h : k < l.length) : dgt l k = l[k] := getD_at h
theorem dgt_out {l : List Int} {k : Nat} (h : l.length ≤ k) : dgt l k = 0 := by
  unfold dgt; rw [List.getD_eq_getElem?_getD, List.getElem?_eq_none h]; rfl
theorem val_take_dgt (l : List Int) (k : Nat) : val (l.take (k + 1)) = val (l.take k) + pw k * dgt l k := val_take_getD l k
theorem val_take_all {l : List Int} {k : Nat} (h : l.length ≤ k) : val (l.take k) = val l := by rw [List.take_of_length_le h]
/-- A number with a sign. -/
def sg (b : Bool) (n : Int) : Int := if b then -n else n
/-- Nought has no sign. -/
def Ok (b : Bool) (n : Nat) : Prop := b = true → n ≠ 0
theorem sg_inj {b b' : Bool} {n n' : Nat} (h : Ok b n) (h' : Ok b' n') (e : sg b n = sg b' n') : b = b' ∧ n = n' := by
  unfold sg Ok at *
  cases b <;> cases b' <;> simp at * <;> omega

structure AddI (la lb L : List Int) (k : Nat) (c : Int) : Prop where
  len : L.length = k
  dg : Dg L
  c0 : 0 ≤ c
  c1 : c ≤ 1
  eq : val L + pw k * c = val (la.take k) + val (lb.take k)
theorem AddI.start (la lb : List Int) : AddI la lb [] 0 0 := ⟨rfl, Dg.nil, by omega, by omega, by simp [val]⟩
theorem AddI.step {la lb L : List Int} {k : Nat} {c : Int} (h : AddI la lb L k c) (ha : Dg la) (hb : Dg lb) :
    AddI la lb (L ++ [(dgt la k + dgt lb k + c) % 10]) (k + 1) ((dgt la k + dgt lb k + c) / 10) := by
  have a := dgt_rng ha k
  have b := dgt_rng hb k
  have c0 := h.c0
  have c1 := h.c1
  refine ⟨by rw [List.length_append, h.len]; rfl, h.dg.snoc (by omega) (by omega), by omega, by omega, ?_⟩
  rw [val_snoc, h.len, val_take_dgt, val_take_dgt, pw]
  have e := h.eq
  generalize hn : dgt la k + dgt lb k + c = n
  have e2 : n = n % 10 + 10 * (n / 10) := by omega
  have e3 : pw k * n = pw k * (n % 10) + pw k * (10 * (n / 10)) := by rw [← Int.mul_add, ← e2]
  have e4 : pw k * n = pw k * dgt la k + pw k * dgt lb k + pw k * c := by rw [← hn, Int.mul_add, Int.mul_add]
  have e5 : pw k * (10 * (n / 10)) = 10 * pw k * (n / 10) := by rw [← Int.mul_assoc, Int.mul_comm (pw k)]
  omega
theorem AddI.done {la lb L : List Int} {k : Nat} {c : Int} (h : AddI la lb L k c) (hk : k = max la.length lb.length + 1) (ha : Dg la) (hb : Dg lb) : val L = val la + val lb := by
  have e := h.eq
  rw [val_take_all (by omega), val_take_all (by omega)] at e
  have va := val_lt ha
  have vb := val_lt hb
  have ma : pw la.length ≤ pw (max la.length lb.length) := pw_mono (by omega)
  have mb : pw lb.length ≤ pw (max la.length lb.length) := pw_mono (by omega)
  have hL := val_nonneg h.dg
  have hp := pw_pos (max la.length lb.length)
  rw [hk, pw] at e
  have c0 := h.c0
  have c1 := h.c1
  rcases (by omega : c = 0 ∨ c = 1) with rfl | rfl
  · simpa using e
  · rw [Int.mul_one] at e; omega

structure TakI (la lb L : List Int) (k : Nat) (c : Int) : Prop where
  len : L.length = k
  dg : Dg L
  c0 : 0 ≤ c
  c1 : c ≤ 1
  eq : val L - pw k * c = val (la.take k) - val (lb.take k)
theorem TakI.start (la lb : List Int) : TakI la lb [] 0 0 := ⟨rfl, Dg.nil, by omega, by omega, by simp [val]⟩
theorem TakI.step_no {la lb L : List Int} {k : Nat} {c : Int} (h : TakI la lb L k c) (ha : Dg la) (hb : Dg lb) (hn : 0 ≤ dgt la k - dgt lb k - c) :
    TakI la lb (L ++ [dgt la k - dgt lb k - c]) (k + 1) 0 := by
  have a := dgt_rng ha k
  have b := dgt_rng hb k
  have c0 := h.c0
  have c1 := h.c1
  refine ⟨by rw [List.length_append, h.len]; rfl, h.dg.snoc (by omega) (by omega), by omega, by omega, ?_⟩
  rw [val_snoc, h.len, val_take_dgt, val_take_dgt, pw]
  have e := h.eq
  have e4 : pw k * (dgt la k - dgt lb k - c) = pw k * dgt la k - pw k * dgt lb k - pw k * c := by rw [Int.mul_sub, Int.mul_sub]
  omega
theorem TakI.step_yes {la lb L : List Int} {k : Nat} {c : Int} (h : TakI la lb L k c) (ha : Dg la) (hb : Dg lb) (hn : dgt la k - dgt lb k - c < 0) :
    TakI la lb (L ++ [dgt la k - dgt lb k - c + 10]) (k + 1) 1 := by
  have a := dgt_rng ha k
  have b := dgt_rng hb k
  have c0 := h.c0
  have c1 := h.c1
  refine ⟨by rw [List.length_append, h.len]; rfl, h.dg.snoc (by omega) (by omega), by omega, by omega, ?_⟩
  rw [val_snoc, h.len, val_take_dgt, val_take_dgt, pw]
  have e := h.eq
  have e4 : pw k * (dgt la k - dgt lb k - c + 10) = pw k * dgt la k - pw k * dgt lb k - pw k * c + pw k * 10 := by rw [Int.mul_add, Int.mul_sub, Int.mul_sub]
  omega
theorem TakI.done {la lb L : List Int} {k : Nat} {c : Int} (h : TakI la lb L k c) (hk : k = la.length) (hl : lb.length ≤ la.length) (hv : val lb ≤ val la) : val L = val la - val lb := by
  have e := h.eq
  rw [val_take_all (by omega), val_take_all (by omega)] at e
  have hL := val_lt h.dg
  rw [h.len] at hL
  have c0 := h.c0
  have c1 := h.c1
  rcases (by omega : c = 0 ∨ c = 1) with rfl | rfl
  · simpa using e
  · rw [Int.mul_one] at e; omega

theorem val_set : ∀ (l : List Int) (j : Nat) (y : Int), j < l.length → val (l.set j y) = val l + pw j * (y - dgt l j)
  | [], j, y, h => by simp at h
  | x :: r, 0, y, _ => by simp only [List.set_cons_zero, val, pw, dgt, List.getD_cons_zero]; omega
  | x :: r, j + 1, y, h => by
    rw [List.set_cons_succ, val, val, val_set r j y (by simpa using h), pw]
    have : dgt (x :: r) (j + 1) = dgt r j := by simp [dgt]
    rw [this, Int.mul_assoc]; omega
theorem dgt_set_ne {l : List Int} {i j : Nat} {y : Int} (h : i ≠ j) : dgt (l.set i y) j = dgt l j := by
  unfold dgt; rw [List.getD_eq_getElem?_getD, List.getD_eq_getElem?_getD, List.getElem?_set_ne h]
theorem Dg.set {l : List Int} (h : Dg l) (j : Nat) {y : Int} (h0 : 0 ≤ y) (h1 : y < 10) : Dg (l.set j y) := fun x hx => by
  rcases List.mem_or_eq_of_mem_set hx with hx | rfl
  · exact h x hx
  · exact ⟨h0, h1⟩
theorem Dg.zeros (n : Nat) : Dg (List.replicate n 0) := fun x hx => by rw [(List.mem_replicate.1 hx).2]; omega

structure MulO (la lb O : List Int) (i : Nat) : Prop where
  len : O.length = la.length + lb.length + 1
  dg : Dg O
  eq : val O = val (la.take i) * val lb
  z : ∀ j, i + lb.length ≤ j → dgt O j = 0
theorem MulO.start (la lb : List Int) : MulO la lb (List.replicate (la.length + lb.length + 1) 0) 0 :=
  ⟨by simp, Dg.zeros _, by rw [val_zeros]; simp [val], fun j _ => by
    unfold dgt
    rw [List.getD_eq_getElem?_getD, List.getElem?_replicate]
    split <;> rfl⟩
structure MulI (la lb O : List Int) (i k : Nat) (c : Int) : Prop where
  len : O.length = la.length + lb.length + 1
  dg : Dg O
  c0 : 0 ≤ c
  c1 : c < 10
  cz : k = lb.length + 1 → c = 0
  eq : val O + pw (i + k) * c = val (la.take i) * val lb + pw i * (dgt la i * val (lb.take k))
  z : ∀ j, i + lb.length ≤ j → i + k ≤ j → dgt O j = 0
theorem MulI.start {la lb O : List Int} {i : Nat} (h : MulO la lb O i) : MulI la lb O i 0 0 :=
  ⟨h.len, h.dg, by omega, by omega, fun _ => by omega, by rw [h.eq]; simp [val], fun j hj _ => h.z j hj⟩
theorem mul_bound {x y : Int} (hx : 0 ≤ x) (hx1 : x < 10) (hy : 0 ≤ y) (hy1 : y < 10) : 0 ≤ x * y ∧ x * y ≤ 81 := by
  refine ⟨Int.mul_nonneg hx hy, ?_⟩
  have := Int.mul_le_mul (a := x) (b := y) (c := 9) (d := 9) (by omega) (by omega) hy (by omega)
  omega
theorem MulI.bnd {la lb O : List Int} {i k : Nat} {c : Int} (h : MulI la lb O i k c) (ha : Dg la) (hb : Dg lb) : 0 ≤ dgt la i * dgt lb k ∧ dgt la i * dgt lb k ≤ 81 :=
  mul_bound (dgt_rng ha i).1 (dgt_rng ha i).2 (dgt_rng hb k).1 (dgt_rng hb k).2
theorem MulI.step {la lb O : List Int} {i k : Nat} {c n : Int} (h : MulI la lb O i k c) (ha : Dg la) (hb : Dg lb) (hi : i < la.length) (hk : k ≤ lb.length) (hn : dgt O (i + k) + dgt la i * dgt lb k + c = n) :
    MulI la lb (O.set (i + k) (n % 10)) i (k + 1) (n / 10) := by
  have hm := h.bnd ha hb
  have ho := dgt_rng h.dg (i + k)
  have c0 := h.c0
  have c1 := h.c1
  have hl := h.len
  refine ⟨by rw [List.length_set]; exact hl, h.dg.set _ (by omega) (by omega), by omega, by omega, fun e => ?_, ?_, fun j h1 h2 => ?_⟩
  · have e1 : dgt lb k = 0 := dgt_out (by omega)
    have e2 := h.z (i + k) (by omega) (by omega)
    rw [e1, e2, Int.mul_zero] at hn
    omega
  · rw [val_set _ _ _ (by omega), val_take_dgt, ← Nat.add_assoc, pw]
    have e := h.eq
    have e2 : n = n % 10 + 10 * (n / 10) := by omega
    have e3 : pw (i + k) * n = pw (i + k) * (n % 10) + 10 * pw (i + k) * (n / 10) := by
      conv => lhs; rw [e2]
      rw [Int.mul_add, ← Int.mul_assoc, Int.mul_comm (pw (i + k)) 10]
    have e4 : pw (i + k) * n = pw (i + k) * dgt O (i + k) + pw (i + k) * (dgt la i * dgt lb k) + pw (i + k) * c := by rw [← hn, Int.mul_add, Int.mul_add]
    have e5 : pw (i + k) * (n % 10 - dgt O (i + k)) = pw (i + k) * (n % 10) - pw (i + k) * dgt O (i + k) := by rw [Int.mul_sub]
    have e6 : pw i * (dgt la i * (val (List.take k lb) + pw k * dgt lb k)) = pw i * (dgt la i * val (List.take k lb)) + pw (i + k) * (dgt la i * dgt lb k) := by
      rw [pw_add]; grind
    rw [e5, e6]
    omega
  · rw [dgt_set_ne (by omega)]
    exact h.z j h1 (by omega)
theorem MulI.done {la lb O : List Int} {i k : Nat} {c : Int} (h : MulI la lb O i k c) (hk : k = lb.length + 1) : MulO la lb O (i + 1) := by
  have e := h.eq
  rw [h.cz hk, val_take_all (l := lb) (by omega), Int.mul_zero, Int.add_zero] at e
  refine ⟨h.len, h.dg, ?_, fun j hj => h.z j (by omega) (by omega)⟩
  rw [val_take_dgt, e, Int.add_mul, Int.mul_assoc]
theorem MulO.done {la lb O : List Int} {i : Nat} (h : MulO la lb O i) (hi : i = la.length) : val O = val la * val lb := by
  rw [h.eq, val_take_all (by omega)]

/-! The search. -/
structure FitI (r v low high : Int) : Prop where
  l0 : 0 ≤ low
  lh : low ≤ high
  h9 : high ≤ 9
  ql : low ≤ r / v
  qh : r / v ≤ high
theorem FitI.start {r v : Int} (hr : 0 ≤ r) (hv : 0 < v) (h : r < v * 10) : FitI r v 0 9 :=
  ⟨by omega, by omega, by omega, Int.ediv_nonneg hr (by omega), by have := (Int.ediv_lt_iff_lt_mul (a := r) (b := 10) hv).2 (by rw [Int.mul_comm]; exact h); omega⟩
theorem FitI.up {r v low high : Int} (h : FitI r v low high) (hv : 0 < v) (hlt : low < high) (hc : v * ((low + high + 1) / 2) ≤ r) : FitI r v ((low + high + 1) / 2) high := by
  have l0 := h.l0; have lh := h.lh; have h9 := h.h9; have ql := h.ql; have qh := h.qh
  exact ⟨by omega, by omega, by omega, (Int.le_ediv_iff_mul_le hv).2 (by rw [Int.mul_comm]; exact hc), qh⟩
theorem FitI.down {r v low high : Int} (h : FitI r v low high) (hv : 0 < v) (_ : low < high) (hc : r < v * ((low + high + 1) / 2)) : FitI r v low ((low + high + 1) / 2 - 1) := by
  have l0 := h.l0; have lh := h.lh; have h9 := h.h9; have ql := h.ql; have qh := h.qh
  have := (Int.ediv_lt_iff_lt_mul (a := r) (b := (low + high + 1) / 2) hv).2 (by rw [Int.mul_comm]; exact hc)
  exact ⟨by omega, by omega, by omega, by omega, by omega⟩
theorem FitI.done {r v low high : Int} (h : FitI r v low high) (hlt : ¬ low < high) : low = r / v := by
  have l0 := h.l0; have lh := h.lh; have ql := h.ql; have qh := h.qh
  omega

/-! The division. -/
structure DivI (la Q : List Int) (v r : Int) (i : Nat) : Prop where
  len : Q.length = la.length
  dg : Dg Q
  eq : val (Q.drop i) = val (la.drop i) / v
  rest : r = val (la.drop i) % v
theorem DivI.start (la : List Int) (v : Int) : DivI la (List.replicate la.length 0) v 0 la.length :=
  ⟨by simp, Dg.zeros _, by rw [List.drop_of_length_le (by simp), List.drop_of_length_le (by simp)]; simp [val], by rw [List.drop_of_length_le (by simp)]; simp [val]⟩
theorem DivI.step {la Q : List Int} {v r : Int} {i : Nat} (h : DivI la Q v r (i + 1)) (ha : Dg la) (hv : 0 < v) (hi : i < la.length) :
    DivI la (Q.set i ((dgt la i + 10 * r) / v)) v (dgt la i + 10 * r - v * ((dgt la i + 10 * r) / v)) i ∧ dgt la i + 10 * r < v * 10 ∧ 0 ≤ dgt la i + 10 * r := by
  have hl := h.len
  have ad := dgt_rng ha i
  have e1 : la.drop i = dgt la i :: la.drop (i + 1) := by rw [dgt_at hi]; exact List.drop_eq_getElem_cons hi
  have r0 : 0 ≤ r := by rw [h.rest]; exact Int.emod_nonneg _ (by omega)
  have r1 : r < v := by rw [h.rest]; exact Int.emod_lt_of_pos _ hv
  have hlt : dgt la i + 10 * r < v * 10 := by omega
  have q0 : 0 ≤ (dgt la i + 10 * r) / v := Int.ediv_nonneg (by omega) (by omega)
  have q1 : (dgt la i + 10 * r) / v < 10 := (Int.ediv_lt_iff_lt_mul hv).2 (by omega)
  have hA : val (la.drop (i + 1)) = v * (val (la.drop (i + 1)) / v) + r := by rw [h.rest]; exact (Int.mul_ediv_add_emod _ _).symm
  have hT : val (la.drop i) = (dgt la i + 10 * r) + v * (10 * (val (la.drop (i + 1)) / v)) := by rw [e1, val]; grind
  have e2 : (Q.set i ((dgt la i + 10 * r) / v)).drop i = ((dgt la i + 10 * r) / v) :: Q.drop (i + 1) := by
    rw [List.drop_eq_getElem_cons (by rw [List.length_set, hl]; exact hi), List.getElem_set_self, List.drop_set_of_lt (by omega)]
  refine ⟨⟨by rw [List.length_set]; exact hl, h.dg.set _ q0 q1, ?_, ?_⟩, hlt, by omega⟩
  · rw [e2, val, h.eq, hT, Int.add_mul_ediv_left _ _ (by omega)]
  · rw [hT, Int.add_mul_emod_self_left, Int.emod_def]
theorem DivI.done {la Q : List Int} {v r : Int} {i : Nat} (h : DivI la Q v r i) (hi : i = 0) : val Q = val la / v ∧ r = val la % v := by
  subst hi
  have e := h.eq
  have e2 := h.rest
  simp only [List.drop_zero] at e e2
  exact ⟨e, e2⟩
end Go.Proofs.YteiipiomcbohnaaDoor.Ten
