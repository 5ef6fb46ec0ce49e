/-
  the document's Int.
-/
import Derived.Test.YteiipiomcbohnaaDoorTenT
namespace Go.Proofs.YteiipiomcbohnaaDoor.Ten
set_option linter.unusedSimpArgs false
set_option linter.unusedVariables false
open Go.RowKit

def In64 (z : Int) : Prop := -9223372036854775808 ≤ z ∧ z ≤ 9223372036854775807
instance (z : Int) : Decidable (In64 z) := by unfold In64; exact inferInstance
/-- What a text tells as a number of 64 bits. -/
def intT (a : List UInt8) : Int × Int :=
  match numR a with
  | none => (0, 1)
  | some z => if In64 z then (z, 0) else (0, 10)
def top7 : List UInt8 := [57, 50, 50, 51, 51, 55, 50, 48, 51, 54, 56, 53, 52, 55, 55, 53, 56, 48, 55]
def top8 : List UInt8 := [57, 50, 50, 51, 51, 55, 50, 48, 51, 54, 56, 53, 52, 55, 55, 53, 56, 48, 56]
theorem top7_dec : Lib.decDigits 9223372036854775807 = top7 := by decide +kernel
theorem top8_dec : Lib.decDigits 9223372036854775808 = top8 := by decide +kernel
theorem dval_take_le {s : List UInt8} (h : s.all figureB = true) (k : Nat) : dval (s.take k) ≤ dval s := by
  have e := dval_app (s.take k) (s.drop k).length (s.drop k) rfl
  rw [List.take_append_drop] at e
  have h1 : (s.take k).all figureB = true := by rw [List.all_eq_true] at h ⊢; exact fun x hx => h x (List.mem_of_mem_take hx)
  have h2 : (s.drop k).all figureB = true := by rw [List.all_eq_true] at h ⊢; exact fun x hx => h x (List.mem_of_mem_drop hx)
  have r1 := (dval_rng _ _ rfl h1).1
  have r2 := (dval_rng _ _ rfl h2).1
  have h3 : dval (s.take k) * 1 ≤ dval (s.take k) * 10 ^ (s.drop k).length := Int.mul_le_mul_of_nonneg_left (by have := Int.pow_pos (n := 10) (m := (s.drop k).length) (by omega); omega) r1
  omega
theorem dval_step {s : List UInt8} {k : Nat} (h : k < s.length) : dval (s.take (k + 1)) = 10 * dval (s.take k) + ((s[k].toNat : Int) - 48) := by
  rw [List.take_add_one, List.getElem?_eq_getElem h, Option.toList_some, dval_snoc]

set_option maxRecDepth 100000 in
theorem int_bad (a X : List UInt8) (mx ox : Bool) (HA : Hid (Qt 39 #[.string ⟨a.toArray⟩] (.tuple #[.string ⟨X.toArray⟩, .bool mx, .bool ox]))) (HRA : Hid (Gr 24 #[.string ⟨a.toArray⟩] (.bool false))) :
    Gr 23 #[.string ⟨a.toArray⟩] (.tuple #[.int .i64 0, .int .i64 1]) := by
  intro w
  go_enter Tryd.func23, Tryd.ntmps23
  go_wp2_with fail
  refine (HA.out w).mono ?_
  rintro e w' ⟨rfl, h9⟩
  obtain rfl := h9
  go_wp2_with fail
  refine (HRA.out w).mono ?_
  rintro e v1 ⟨rfl, hv1⟩
  go_wp2
  refine bodyPost_ret (v := .tuple #[.int .i64 0, .int .i64 1]) (by simp [results, Tryd.results23, go_sem]) rfl ?_
  exact ⟨rfl, hv1⟩
set_option maxRecDepth 100000 in
theorem int_big (a X T : List UInt8) (mx : Bool) (hT : Hid ((if mx then top8 else top7) = T)) (HA : Hid (Qt 39 #[.string ⟨a.toArray⟩] (.tuple #[.string ⟨X.toArray⟩, .bool mx, .bool true]))) (HRA : Hid (Gr 24 #[.string ⟨a.toArray⟩] (.bool true)))
    (HL : Hid (Qt 40 #[.string ⟨T.toArray⟩, .string ⟨X.toArray⟩] (.bool true))) :
    Gr 23 #[.string ⟨a.toArray⟩] (.tuple #[.int .i64 0, .int .i64 10]) := by
  intro w
  cases mx
  all_goals
    obtain rfl := hT.out
    go_enter Tryd.func23, Tryd.ntmps23
    go_wp2_with fail
    refine (HA.out w).mono ?_
    rintro e w' ⟨rfl, h9⟩
    obtain rfl := h9
    go_wp2_with fail
    refine (HRA.out w).mono ?_
    rintro e v1 ⟨rfl, hv1⟩
    go_wp2_with fail
    refine (HL.out v1).mono ?_
    rintro e w' ⟨rfl, h9⟩
    obtain rfl := h9
    go_wp2
    refine bodyPost_ret (v := .tuple #[.int .i64 0, .int .i64 10]) (by simp [results, Tryd.results23, go_sem]) rfl ?_
    exact ⟨rfl, hv1⟩
set_option maxRecDepth 100000 in
set_option maxHeartbeats 4000000 in
theorem int_pos (a X : List UInt8) (HA : Hid (Qt 39 #[.string ⟨a.toArray⟩] (.tuple #[.string ⟨X.toArray⟩, .bool false, .bool true]))) (HRA : Hid (Gr 24 #[.string ⟨a.toArray⟩] (.bool true)))
    (HL : Hid (Qt 40 #[.string ⟨top7.toArray⟩, .string ⟨X.toArray⟩] (.bool false))) (hf : X.all figureB = true) (hl : X.length ≤ 1000) (hv : dval X ≤ 9223372036854775807) :
    Gr 23 #[.string ⟨a.toArray⟩] (.tuple #[.int .i64 (dval X), .int .i64 0]) := by
  intro w
  have FA := Lib.hid hf
  have HV := Lib.hid hv
  clear hf hv
  go_enter Tryd.func23, Tryd.ntmps23
  go_wp2_with fail
  refine (HA.out w).mono ?_
  rintro e w' ⟨rfl, h9⟩
  obtain rfl := h9
  go_wp2_with fail
  refine (HRA.out w).mono ?_
  rintro e v1 ⟨rfl, hv1⟩
  go_wp2_with fail
  refine (HL.out v1).mono ?_
  rintro e w' ⟨rfl, h9⟩
  obtain rfl := h9
  go_wp2
  go_loopw [8, 9] (fun n i wr => ∃ (k : Nat) (z : Int), k ≤ X.length ∧ i = .int .i64 k ∧ n = .int .i64 z ∧ Hid (dval (X.take k) = z) ∧ v1 = wr)
    (fun _ i _ => X.length - (intOf i).toNat)
  case atStart => exact ⟨0, 0, by omega, rfl, rfl, Lib.hid rfl, rfl⟩
  case round =>
    obtain ⟨k, z, hk, rfl, rfl, hz, rfl⟩ := hrel
    by_cases hlt : k < X.length
    · have e2 := byte_at X k hlt
      have hfc := figB.1 (List.all_eq_true.1 FA.out X[k] (List.getElem_mem hlt))
      have hst := dval_step hlt
      rw [hz.out] at hst
      have h1 := dval_take_le FA.out (k + 1)
      have h2 := HV.out
      have h0 := (dval_rng _ _ rfl (show (X.take k).all figureB = true by have := FA.out; rw [List.all_eq_true] at this ⊢; exact fun x hx => this x (List.mem_of_mem_take hx))).1
      rw [hz.out] at h0
      obtain ⟨c, hc⟩ : ∃ c, X[k] = c := ⟨_, rfl⟩
      rw [hc] at e2 hfc hst
      have hu := c.toNat_lt
      obtain ⟨Z, hZ⟩ : ∃ Z, 10 * z + ((c.toNat : Int) - 48) = Z := ⟨_, rfl⟩
      rw [hZ] at hst
      have b0 : 0 ≤ Z := by omega
      have b1 : Z ≤ 9223372036854775807 := by omega
      obtain ⟨f0, f1⟩ := hfc
      have HS := Lib.hid hst
      clear hst hc h1 h2
      go_wp2
      go_roundw
      case rel => exact ⟨k + 1, Z, by omega, by go_num, rfl, HS, by first | trivial | rfl⟩
      case measure => simp [intOf]; omega
    · have HE := Lib.hid (show z = dval X by rw [← hz.out, List.take_of_length_le (by omega)])
      go_wp2
      refine bodyPost_ret (v := .tuple #[.int .i64 z, .int .i64 0]) (by simp [results, Tryd.results23, go_sem]) rfl ?_
      exact ⟨by rw [HE.out], hv1⟩
set_option maxRecDepth 100000 in
set_option maxHeartbeats 4000000 in
theorem int_neg (a X : List UInt8) (HA : Hid (Qt 39 #[.string ⟨a.toArray⟩] (.tuple #[.string ⟨X.toArray⟩, .bool true, .bool true]))) (HRA : Hid (Gr 24 #[.string ⟨a.toArray⟩] (.bool true)))
    (HL : Hid (Qt 40 #[.string ⟨top8.toArray⟩, .string ⟨X.toArray⟩] (.bool false))) (hf : X.all figureB = true) (hl : X.length ≤ 1000) (hv : dval X ≤ 9223372036854775808) :
    Gr 23 #[.string ⟨a.toArray⟩] (.tuple #[.int .i64 (-dval X), .int .i64 0]) := by
  intro w
  have FA := Lib.hid hf
  have HV := Lib.hid hv
  clear hf hv
  go_enter Tryd.func23, Tryd.ntmps23
  go_wp2_with fail
  refine (HA.out w).mono ?_
  rintro e w' ⟨rfl, h9⟩
  obtain rfl := h9
  go_wp2_with fail
  refine (HRA.out w).mono ?_
  rintro e v1 ⟨rfl, hv1⟩
  go_wp2_with fail
  refine (HL.out v1).mono ?_
  rintro e w' ⟨rfl, h9⟩
  obtain rfl := h9
  go_wp2
  go_loopw [8, 9] (fun n i wr => ∃ (k : Nat) (z : Int), k ≤ X.length ∧ i = .int .i64 k ∧ n = .int .i64 z ∧ Hid (dval (X.take k) = -z) ∧ v1 = wr)
    (fun _ i _ => X.length - (intOf i).toNat)
  case atStart => exact ⟨0, 0, by omega, rfl, rfl, Lib.hid (by simp [dval]), rfl⟩
  case round =>
    obtain ⟨k, z, hk, rfl, rfl, hz, rfl⟩ := hrel
    by_cases hlt : k < X.length
    · have e2 := byte_at X k hlt
      have hfc := figB.1 (List.all_eq_true.1 FA.out X[k] (List.getElem_mem hlt))
      have hst := dval_step hlt
      rw [hz.out] at hst
      have h1 := dval_take_le FA.out (k + 1)
      have h2 := HV.out
      have h0 := (dval_rng _ _ rfl (show (X.take k).all figureB = true by have := FA.out; rw [List.all_eq_true] at this ⊢; exact fun x hx => this x (List.mem_of_mem_take hx))).1
      rw [hz.out] at h0
      obtain ⟨c, hc⟩ : ∃ c, X[k] = c := ⟨_, rfl⟩
      rw [hc] at e2 hfc hst
      have hu := c.toNat_lt
      obtain ⟨Z, hZ⟩ : ∃ Z, 10 * z - ((c.toNat : Int) - 48) = Z := ⟨_, rfl⟩
      have hst : dval (X.take (k + 1)) = -Z := by omega
      have b0 : Z ≤ 0 := by omega
      have b1 : -9223372036854775808 ≤ Z := by omega
      obtain ⟨f0, f1⟩ := hfc
      have HS := Lib.hid hst
      clear hst hc h1 h2
      go_wp2
      go_roundw
      case rel => exact ⟨k + 1, Z, by omega, by go_num, rfl, HS, by first | trivial | rfl⟩
      case measure => simp [intOf]; omega
    · have HE := Lib.hid (show z = -dval X by have := hz.out; rw [List.take_of_length_le (by omega)] at this; omega)
      go_wp2
      refine bodyPost_ret (v := .tuple #[.int .i64 z, .int .i64 0]) (by simp [results, Tryd.results23, go_sem]) rfl ?_
      exact ⟨by rw [HE.out], hv1⟩
theorem int_ref (a : List UInt8) (ha : a.length ≤ 1000) :
    Gr 23 #[.string ⟨a.toArray⟩] (.tuple #[.int .i64 (intT a).1, .int .i64 (intT a).2]) := by
  unfold intT
  cases h1 : numR a with
  | none =>
    obtain ⟨X, mx, ox, HA⟩ := am_any a ha
    exact int_bad a X mx ox HA (rt_any (by rw [h1]; rfl) ha)
  | some z =>
    have HRA := rt_any (v := true) (by rw [h1]; rfl) ha
    have HA := am_num h1 ha
    have s1 := small_320 (num_lt h1)
    have hl := len_320 s1
    have hd := dval_dec z.natAbs
    simp only
    by_cases hm : z < 0
    · rw [show decide (z < 0) = true by simpa using hm] at HA
      have HL := hid_below 9223372036854775808 z.natAbs (small_320 (by decide +kernel)) s1 rfl
      rw [top8_dec] at HL
      by_cases hi : In64 z
      · rw [if_pos hi]
        unfold In64 at hi
        rw [show decide (9223372036854775808 < z.natAbs) = false by simp; omega] at HL
        have h := int_neg a _ HA HRA HL (dec_all _) (by omega) (by omega)
        rw [hd, show -(z.natAbs : Int) = z by omega] at h
        exact h
      · rw [if_neg hi]
        unfold In64 at hi
        rw [show decide (9223372036854775808 < z.natAbs) = true by simp; omega] at HL
        exact int_big a _ top8 true (Lib.hid rfl) HA HRA HL
    · rw [show decide (z < 0) = false by simpa using hm] at HA
      have HL := hid_below 9223372036854775807 z.natAbs (small_320 (by decide +kernel)) s1 rfl
      rw [top7_dec] at HL
      by_cases hi : In64 z
      · rw [if_pos hi]
        unfold In64 at hi
        rw [show decide (9223372036854775807 < z.natAbs) = false by simp; omega] at HL
        have h := int_pos a _ HA HRA HL (dec_all _) (by omega) (by omega)
        rw [hd, show (z.natAbs : Int) = z by omega] at h
        exact h
      · rw [if_neg hi]
        unfold In64 at hi
        rw [show decide (9223372036854775807 < z.natAbs) = true by simp; omega] at HL
        exact int_big a _ top7 false (Lib.hid rfl) HA HRA HL
end Go.Proofs.YteiipiomcbohnaaDoor.Ten
