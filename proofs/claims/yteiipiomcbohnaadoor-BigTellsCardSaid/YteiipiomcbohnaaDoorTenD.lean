/-
  figures as rows; the document's at.
-/
import Derived.Test.YteiipiomcbohnaaDoorTenC
import Derived.Test.YteiipiomcbohnaaDoorBgB
import Derived.Test.YteiipiomcbohnaaDoorBgH
namespace Go.Proofs.YteiipiomcbohnaaDoor.Ten
set_option linter.unusedSimpArgs false
set_option linter.unusedVariables false
open Go.RowKit

/-- A text's figures, the lowest first. -/
def fr (s : List UInt8) : List Int := s.reverse.map fun c => (c.toNat : Int) - 48
theorem fr_len (s : List UInt8) : (fr s).length = s.length := by simp [fr]
theorem fr_snoc (s : List UInt8) (c : UInt8) : fr (s ++ [c]) = ((c.toNat : Int) - 48) :: fr s := by simp [fr]
theorem fr_dg {s : List UInt8} (h : s.all figureB = true) : Dg (fr s) := fun x hx => by
  unfold fr at hx
  obtain ⟨c, hc, rfl⟩ := List.mem_map.1 hx
  have := figB.1 (List.all_eq_true.1 h c (List.mem_reverse.1 hc))
  omega
theorem val_fr : ∀ (n : Nat) (s : List UInt8), s.length = n → val (fr s) = dval s
  | 0, s, h => by rw [List.eq_nil_of_length_eq_zero h]; rfl
  | n + 1, s, h => by
    rcases List.eq_nil_or_concat s with rfl | ⟨t, c, rfl⟩
    · cases h
    · rw [List.concat_eq_append, fr_snoc, dval_snoc, val, val_fr n t (by simpa using h)]
      omega
theorem val_fr' (s : List UInt8) : val (fr s) = dval s := val_fr _ s rfl
theorem fr_at {s : List UInt8} {k : Nat} (h : k < s.length) : dgt (fr s) k = ((s[s.length - 1 - k]'(by omega)).toNat : Int) - 48 := by
  rw [dgt_at (by rw [fr_len]; exact h)]
  simp [fr]
theorem byte_at (s : List UInt8) (i : Nat) (h : i < s.length) : ((⟨s.toArray⟩ : ByteArray)[i]'(by simpa [ByteArray.size] using h)) = s[i] := by simp [ByteArray.getElem_eq_getElem_data]

set_option maxRecDepth 100000 in
theorem at_any (s : List UInt8) (k : Nat) (w : World) (hs : s.length ≤ 1000) (hk : k ≤ 1000000) :
    Calls Tryd.prog 70 #[.string ⟨s.toArray⟩, .int .i64 k] w fun e w' => e = .returned (.int .i64 (dgt (fr s) k)) ∧ w' = w := by
  by_cases h : k < s.length
  · obtain ⟨j, hj⟩ : ∃ j, s.length - 1 - k = j := ⟨_, rfl⟩
    have hjl : j < s.length := by omega
    have E1 := Lib.hid (show dgt (fr s) k = ((s[j]'hjl).toNat : Int) - 48 by rw [fr_at h]; simp only [hj])
    have e2 := byte_at s j hjl
    have e3 : ((s.length : Int) - 1 - k) = (j : Int) := by omega
    have hu := (s[j]'hjl).toNat_lt
    have h2 : (k : Int) < s.length := by omega
    clear hj
    go_enter Tryd.func70, Tryd.ntmps70
    go_wp2
    go_ret
    exact ⟨ret_int E1.out.symm, rfl⟩
  · have e1 := Lib.hid (dgt_out (l := fr s) (k := k) (by rw [fr_len]; omega))
    go_enter Tryd.func70, Tryd.ntmps70
    go_wp2
    go_ret
    exact ⟨ret_int e1.out.symm, rfl⟩
end Go.Proofs.YteiipiomcbohnaaDoor.Ten
