/-
  names.jointed, walked; a type's letters: lengths, rows of them.
-/
import Derived.Lib.OthersKept
import Derived.Lib.AppendIntMem
import Derived.Test.YtfcpblclfgkdjaaDoorNmB
namespace Go.Proofs.YtfcpblclfgkdjaaDoor
set_option linter.unusedSimpArgs false
set_option linter.unusedVariables false
open Go.RowKit

/-- The table of powers of ten lies as it was laid. -/
def Tab (w : World) : Prop := Lib.TabIs Tryd.prog w "internal/strconv.uint64pow10" .u64 Lib.pow10Tab
theorem var_on {P : Program} {w w' : World} {name : String} {cs : Array Value} (h : w.var? P name = some cs) (hb : Below w.heap.size w w') : w'.var? P name = some cs := by
  unfold World.var? at h ⊢
  cases hg : P.globalNamed name with
  | none => rw [hg] at h; cases h
  | some g =>
    rw [hg] at h
    simp only [Option.bind_some] at h ⊢
    cases hx : w.heap[g]? with
    | none => rw [hx] at h; cases h
    | some o =>
      rw [hb.block g (Array.getElem?_eq_some_iff.1 hx).1, hx]
      rw [hx] at h
      exact h
theorem Tab.on {w w' : World} (h : Tab w) (hb : Below w.heap.size w w') : Tab w' := var_on h hb
theorem itoa_any (n : Nat) (w : World) (h1 : n ≤ 9223372036854775807) (ht : Tab w) :
    Calls Tryd.prog 16 #[.int .i64 n] w fun e w' => e = .returned (.string ⟨(Lib.decDigits n).toArray⟩) ∧ Below w.heap.size w w' :=
  (Tryd.strconv_Itoa n (by omega) (by omega) w ht).mono fun e w' ⟨he, k, os, hw⟩ => ⟨by rw [he, Lib.itoa_nonneg], by rw [hw]; exact Lib.below_grow _ w (Nat.le_refl _) k os⟩

mutual
/-- More than the letters of a type. -/
def tyLen : Ty → Nat
  | .mk _ nm l => 100 + nm.length + tysLen l
def tysLen : List Ty → Nat
  | [] => 0
  | x :: l => tyLen x + tysLen l
end
theorem tyLen_eq (t : Ty) : tyLen t = 100 + t.name.length + tysLen t.args := by cases t; rw [tyLen]; rfl
theorem tysLen_app : ∀ (l r : List Ty), tysLen (l ++ r) = tysLen l + tysLen r
  | [], r => by simp [tysLen]
  | x :: l, r => by simp [tysLen, tysLen_app l r, Nat.add_assoc]
theorem tysLen_mem : ∀ {l : List Ty} {x : Ty}, x ∈ l → tyLen x ≤ tysLen l
  | [], x, h => by cases h
  | y :: l, x, h => by
    rw [tysLen]
    rcases List.mem_cons.1 h with rfl | h
    · omega
    · have := tysLen_mem h; omega
theorem tys_len : ∀ (l : List Ty), l.length ≤ tysLen l
  | [] => by simp
  | x :: l => by have := tys_len l; have := tyLen_eq x; rw [tysLen]; simp; omega
theorem cnt_len {n : Nat} (h : n ≤ 9223372036854775807) : (cnt n).length ≤ 21 := by
  have := dec_len_le (n := n) (k := 20) (Nat.lt_of_le_of_lt h (by decide +kernel)) (by omega)
  simp [cnt]; omega
theorem lets_len {l : List Ty} (h : ∀ t, t ∈ l → (letT t).length ≤ tyLen t) : ∀ s, letsT l = some s → s.length ≤ tysLen l := by
  induction l with
  | nil => intro s hs; rw [letsT] at hs; cases hs; simp
  | cons x l ih =>
    intro s hs
    rw [letsT_cons] at hs
    by_cases hx : letT x = []
    · rw [if_pos hx] at hs; cases hs
    · rw [if_neg hx] at hs
      cases e : letsT l with
      | none => rw [e] at hs; cases hs
      | some s2 =>
        rw [e] at hs
        cases hs
        have h1 := ih (fun t ht => h t (List.mem_cons_of_mem _ ht)) s2 e
        have h2 := h x (by simp)
        rw [tysLen, List.length_append]
        omega
theorem let_len : ∀ t : Ty, tyLen t ≤ 9223372036854775807 → (letT t).length ≤ tyLen t := by
  refine Ty.ind (fun t ih => ?_)
  intro hb
  obtain ⟨k, nm, l⟩ := t
  by_cases h0 : letT (.mk k nm l) = []
  · rw [h0]; exact Nat.zero_le _
  have he : tyLen (.mk k nm l) = 100 + nm.length + tysLen l := by rw [tyLen]
  simp only [Ty.args_mk] at ih
  have hl := tys_len l
  have c1 := cnt_len (n := l.length) (by omega)
  have c2 := cnt_len (n := nm.length) (by omega)
  rcases let_cases h0 with ⟨_, _, ⟨_, h1⟩ | ⟨_, h1⟩ | ⟨_, h1⟩⟩ | ⟨_, _, h1⟩ | ⟨s, hs, ⟨_, _, h1⟩ | ⟨_, h1⟩ | ⟨_, h1⟩⟩
  · rw [h1, he]; simp; omega
  · rw [h1, he]; simp; omega
  · rw [h1, he]; simp; omega
  · rw [h1, he]; simp; omega
  all_goals
    have hx := lets_len (fun t ht => ih t ht (by have := tysLen_mem ht; omega)) s hs
    rw [h1, he]; simp only [List.length_cons, List.length_append]; omega

/-- The letters of the first ones. -/
theorem lets_snoc (x : Ty) : ∀ l : List Ty, letsT (l ++ [x]) = match letsT l with | none => none | some s => if letT x = [] then none else some (s ++ letT x)
  | [] => by
    rw [List.nil_append, letsT_cons, letsT]
    by_cases h : letT x = [] <;> simp [h]
  | y :: l => by
    rw [List.cons_append, letsT_cons, letsT_cons, lets_snoc x l]
    by_cases h : letT y = []
    · simp [h]
    · rw [if_neg h, if_neg h]
      cases letsT l with
      | none => rfl
      | some s => by_cases hx : letT x = [] <;> simp [hx]
theorem lets_none {l r : List Ty} (h : letsT l = none) : letsT (l ++ r) = none := by
  induction r generalizing l with
  | nil => simpa using h
  | cons x r ih =>
    rw [show l ++ x :: r = (l ++ [x]) ++ r by simp]
    exact ih (by rw [lets_snoc, h])
/-- What row hands back. -/
def rowR (l : List Ty) : List UInt8 × Bool := match letsT l with | none => ([], false) | some s => (cnt l.length ++ s, true)

def jointedB (l : List UInt8) : Bool := decide (1 < l.length) && (Lib.trimB l 95).isEmpty
theorem jointed_any (l : List UInt8) (w : World) (hl : l.length ≤ 9223372036854775807) :
    Calls Tryd.prog 23 #[.string ⟨l.toArray⟩] w fun e w' => e = .returned (.bool (jointedB l)) ∧ Below w.heap.size w w' := by
  by_cases h1 : 1 < l.length
  · have HT := Lib.hid fun W => Tryd.strings_Trim_one ⟨l.toArray⟩ 95 (by decide) W (by simpa [ByteArray.size] using hl)
    have hj : jointedB l = (Lib.trimB l 95).isEmpty := by rw [jointedB, decide_eq_true h1, Bool.true_and]
    obtain ⟨T, hT⟩ : ∃ T, Lib.trimB l 95 = T := ⟨_, rfl⟩
    simp only [List.toList_toArray] at HT
    rw [hT] at HT hj
    have HJ := Lib.hid hj
    have h1' : (1 : Int) < l.length := by omega
    clear hT hj
    cases e : T.isEmpty with
    | true =>
      obtain rfl : T = [] := by simpa using e
      go_enter Tryd.func23, Tryd.ntmps23
      go_wp2_with fail
      refine (HT.out _).mono ?_
      rintro e2 w' ⟨rfl, hw⟩
      have hb : Below w.heap.size w w' := by
        rcases hw with rfl | rfl
        · exact Below.refl _ _
        · exact (Below.refl _ _).drew
      have HB := Lib.hid hb
      clear hw hb
      go_wp2_with fail
      go_ret
      exact ⟨ret_bool (by rw [HJ.out]; rfl), HB.out⟩
    | false =>
      have hne : ((⟨T.toArray⟩ : ByteArray) == ⟨#[]⟩) = false := by
        cases T with
        | nil => simp at e
        | cons x r => rfl
      go_enter Tryd.func23, Tryd.ntmps23
      go_wp2_with fail
      refine (HT.out _).mono ?_
      rintro e2 w' ⟨rfl, hw⟩
      have hb : Below w.heap.size w w' := by
        rcases hw with rfl | rfl
        · exact Below.refl _ _
        · exact (Below.refl _ _).drew
      have HB := Lib.hid hb
      clear hw hb
      go_wp2_with fail
      go_ret
      exact ⟨ret_bool (by rw [HJ.out, e]), HB.out⟩
  · have h1' : ¬ (1 : Int) < l.length := by omega
    go_enter Tryd.func23, Tryd.ntmps23
    go_wp2_with fail
    go_ret
    exact ⟨ret_bool (by rw [jointedB, decide_eq_false h1, Bool.false_and]), Below.refl _ _⟩
end Go.Proofs.YtfcpblclfgkdjaaDoor
