/-
  BigRests, walked.
-/
import Derived.Test.YteiipiomcbohnaaDoorBgLe
import Derived.RegionCalls
namespace Go.Proofs.YteiipiomcbohnaaDoor
set_option linter.unusedSimpArgs false
set_option linter.unusedVariables false
open Go.RowKit

def Amt (s r : List UInt8) : Prop :=
  ∀ w, Calls Tryd.prog 21 #[.string ⟨s.toArray⟩] w fun e w' => e = .returned (.string ⟨r.toArray⟩) ∧ Hid (Below w.heap.size w w')
theorem amt_of {s r : List UInt8} (h : amT s = r) (hs : Fit s) : Amt s r := fun w => by rw [← h]; exact amount_any s w hs
theorem u8_not {c : UInt8} (h : ¬ c = 45) : ((c.toNat : Int) == 45) = false := by
  simp only [beq_eq_false_iff_ne, ne_eq]
  intro e
  exact h (UInt8.toNat_inj.1 (show c.toNat = (45 : UInt8).toNat by simp; omega))
set_option maxRecDepth 100000 in
set_option maxHeartbeats 16000000 in
theorem rests_no (A B : List UInt8) (w : World) (HT : Hid (Tab w)) (H1 : Hid (Op2 16 A B [] 1)) : Calls Tryd.prog 9 #[.string ⟨A.toArray⟩, .string ⟨B.toArray⟩] w (Good w) := by
  go_enter Tryd.func9, Tryd.ntmps9
  go_wp2_with fail
  refine (H1.out w HT.out).mono ?_
  rintro e w1 ⟨rfl, hw1⟩
  go_wp2_with fail
  refine (awake_any w1 hw1.out.2).mono ?_
  rintro e w2 ⟨rfl, hw2⟩
  go_wp2
  go_ret
  exact ⟨rfl, (bext hw1.out.1 hw2.out)⟩
set_option maxRecDepth 100000 in
set_option maxHeartbeats 16000000 in
theorem rests_zero (A B U V : List UInt8) (w : World) (HT : Hid (Tab w)) (H1 : Hid (Op2 16 A B [48] 0)) (H2 : Hid (Amt [48] U)) (H3 : Hid (Amt B V)) (H4 : Hid (Cmp2 U V (-1))) :
    Calls Tryd.prog 9 #[.string ⟨(A).toArray⟩, .string ⟨B.toArray⟩] w (Good w) := by
  go_enter Tryd.func9, Tryd.ntmps9
  go_wp2_with fail
  refine (H1.out w HT.out).mono ?_
  rintro e w1 ⟨rfl, hw1⟩
  go_wp2_with fail
  refine (H2.out w1).mono ?_
  rintro e w2 ⟨rfl, hw2⟩
  go_wp2_with fail
  refine (H3.out w2).mono ?_
  rintro e w3 ⟨rfl, hw3⟩
  have HB := Lib.hid (bext (bext hw1.out.1 hw2.out) hw3.out)
  have HT3 := Lib.hid (HT.out.on HB.out)
  clear hw1 hw2 hw3
  go_wp2_with fail
  refine region_K (S := fun _ => True) (kp := fun _ => true) (by kernel_rfl) trivial (fun _ => ?_)
  (refine wpAnyK_take (i := 0) (v := ?_) rfl (by decide +kernel) (by decide +kernel) (by decide +kernel) (by decide +kernel) (fun _ _ _ h => h) (Or.inl ⟨?_, ?_⟩) trivial ?_; rotate_left 1; (focus rfl); (focus (intro w9 hSw; go_simp; (try with_reducible rfl); done)); (try simp only [Act.put, List.setIfInBounds_toArray, List.set_cons_zero, List.set_cons_succ, List.getElem_toArray, List.getElem_cons_zero, List.getElem_cons_succ]))
  (refine wpAnyK_take (i := 1) (v := ?_) rfl (by decide +kernel) (by decide +kernel) (by decide +kernel) (by decide +kernel) (fun _ _ _ h => h) (Or.inl ⟨?_, ?_⟩) trivial ?_; rotate_left 1; (focus rfl); (focus (intro w9 hSw; go_simp; (try with_reducible rfl); done)); (try simp only [Act.put, List.setIfInBounds_toArray, List.set_cons_zero, List.set_cons_succ, List.getElem_toArray, List.getElem_cons_zero, List.getElem_cons_succ]))
  refine wpAnyK_ready (rs := [2]) (by decide +kernel) (by simp) ?_
  refine AllReadyK.cons rfl (fun K hK => ?_) AllReadyK.nil
  rw [if_pos (by rfl)]
  go_simp
  refine (H4.out _).mono ?_
  rintro e w4 ⟨rfl, hw4⟩
  refine hK.out _ _ (fun _ => trivial) (?_)
  clear hK K
  (try simp only [Act.put, List.setIfInBounds_toArray, List.set_cons_zero, List.set_cons_succ, List.getElem_toArray, List.getElem_cons_zero, List.getElem_cons_succ])
  (refine wpAnyK_take (i := 3) (v := ?_) rfl (by decide +kernel) (by decide +kernel) (by decide +kernel) (by decide +kernel) (fun _ _ _ h => h) (Or.inl ⟨?_, ?_⟩) trivial ?_; rotate_left 1; (focus rfl); (focus (intro w9 hSw; go_simp; (try with_reducible rfl); done)); (try simp only [Act.put, List.setIfInBounds_toArray, List.set_cons_zero, List.set_cons_succ, List.getElem_toArray, List.getElem_cons_zero, List.getElem_cons_succ]))
  (refine wpAnyK_take (i := 4) (v := ?_) rfl (by decide +kernel) (by decide +kernel) (by decide +kernel) (by decide +kernel) (fun _ _ _ h => h) (Or.inl ⟨?_, ?_⟩) trivial ?_; rotate_left 1; (focus rfl); (focus (intro w9 hSw; go_simp; (try with_reducible rfl); done)); (try simp only [Act.put, List.setIfInBounds_toArray, List.set_cons_zero, List.set_cons_succ, List.getElem_toArray, List.getElem_cons_zero, List.getElem_cons_succ]))
  (refine wpAnyK_take (i := 5) (v := ?_) rfl (by decide +kernel) (by decide +kernel) (by decide +kernel) (by decide +kernel) (fun _ _ _ h => h) (Or.inl ⟨?_, ?_⟩) trivial ?_; rotate_left 1; (focus rfl); (focus (intro w9 hSw; go_simp; (try with_reducible rfl); done)); (try simp only [Act.put, List.setIfInBounds_toArray, List.set_cons_zero, List.set_cons_succ, List.getElem_toArray, List.getElem_cons_zero, List.getElem_cons_succ]))
  (refine wpAnyK_take (i := 6) (v := ?_) rfl (by decide +kernel) (by decide +kernel) (by decide +kernel) (by decide +kernel) (fun _ _ _ h => h) (Or.inl ⟨?_, ?_⟩) trivial ?_; rotate_left 1; (focus rfl); (focus (intro w9 hSw; go_simp; (try with_reducible rfl); done)); (try simp only [Act.put, List.setIfInBounds_toArray, List.set_cons_zero, List.set_cons_succ, List.getElem_toArray, List.getElem_cons_zero, List.getElem_cons_succ]))
  (refine wpAnyK_take (i := 7) (v := ?_) rfl (by decide +kernel) (by decide +kernel) (by decide +kernel) (by decide +kernel) (fun _ _ _ h => h) (Or.inl ⟨?_, ?_⟩) trivial ?_; rotate_left 1; (focus rfl); (focus (intro w9 hSw; go_simp; (try with_reducible rfl); done)); (try simp only [Act.put, List.setIfInBounds_toArray, List.set_cons_zero, List.set_cons_succ, List.getElem_toArray, List.getElem_cons_zero, List.getElem_cons_succ]))
  (refine wpAnyK_take (i := 8) (v := undef) rfl (by decide +kernel) (by decide +kernel) (by decide +kernel) (by decide +kernel) (fun _ _ _ h => h) (Or.inr ⟨?_, rfl⟩) trivial ?_; (focus rfl); (try simp only [Act.put, List.setIfInBounds_toArray, List.set_cons_zero, List.set_cons_succ, List.getElem_toArray, List.getElem_cons_zero, List.getElem_cons_succ]))
  (refine wpAnyK_take (i := 9) (v := undef) rfl (by decide +kernel) (by decide +kernel) (by decide +kernel) (by decide +kernel) (fun _ _ _ h => h) (Or.inr ⟨?_, rfl⟩) trivial ?_; (focus rfl); (try simp only [Act.put, List.setIfInBounds_toArray, List.set_cons_zero, List.set_cons_succ, List.getElem_toArray, List.getElem_cons_zero, List.getElem_cons_succ]))
  (refine wpAnyK_take (i := 10) (v := undef) rfl (by decide +kernel) (by decide +kernel) (by decide +kernel) (by decide +kernel) (fun _ _ _ h => h) (Or.inr ⟨?_, rfl⟩) trivial ?_; (focus rfl); (try simp only [Act.put, List.setIfInBounds_toArray, List.set_cons_zero, List.set_cons_succ, List.getElem_toArray, List.getElem_cons_zero, List.getElem_cons_succ]))
  (refine wpAnyK_take (i := 11) (v := undef) rfl (by decide +kernel) (by decide +kernel) (by decide +kernel) (by decide +kernel) (fun _ _ _ h => h) (Or.inr ⟨?_, rfl⟩) trivial ?_; (focus rfl); (try simp only [Act.put, List.setIfInBounds_toArray, List.set_cons_zero, List.set_cons_succ, List.getElem_toArray, List.getElem_cons_zero, List.getElem_cons_succ]))
  (refine wpAnyK_take (i := 12) (v := undef) rfl (by decide +kernel) (by decide +kernel) (by decide +kernel) (by decide +kernel) (fun _ _ _ h => h) (Or.inr ⟨?_, rfl⟩) trivial ?_; (focus rfl); (try simp only [Act.put, List.setIfInBounds_toArray, List.set_cons_zero, List.set_cons_succ, List.getElem_toArray, List.getElem_cons_zero, List.getElem_cons_succ]))
  (refine wpAnyK_take (i := 13) (v := undef) rfl (by decide +kernel) (by decide +kernel) (by decide +kernel) (by decide +kernel) (fun _ _ _ h => h) (Or.inr ⟨?_, rfl⟩) trivial ?_; (focus rfl); (try simp only [Act.put, List.setIfInBounds_toArray, List.set_cons_zero, List.set_cons_succ, List.getElem_toArray, List.getElem_cons_zero, List.getElem_cons_succ]))
  (refine wpAnyK_take (i := 14) (v := undef) rfl (by decide +kernel) (by decide +kernel) (by decide +kernel) (by decide +kernel) (fun _ _ _ h => h) (Or.inr ⟨?_, rfl⟩) trivial ?_; (focus rfl); (try simp only [Act.put, List.setIfInBounds_toArray, List.set_cons_zero, List.set_cons_succ, List.getElem_toArray, List.getElem_cons_zero, List.getElem_cons_succ]))
  (refine wpAnyK_take (i := 15) (v := ?_) rfl (by decide +kernel) (by decide +kernel) (by decide +kernel) (by decide +kernel) (fun _ _ _ h => h) (Or.inl ⟨?_, ?_⟩) trivial ?_; rotate_left 1; (focus rfl); (focus (intro w9 hSw; go_simp; (try with_reducible rfl); done)); (try simp only [Act.put, List.setIfInBounds_toArray, List.set_cons_zero, List.set_cons_succ, List.getElem_toArray, List.getElem_cons_zero, List.getElem_cons_succ]))
  (refine wpAnyK_take (i := 16) (v := ?_) rfl (by decide +kernel) (by decide +kernel) (by decide +kernel) (by decide +kernel) (fun _ _ _ h => h) (Or.inl ⟨?_, ?_⟩) trivial ?_; rotate_left 1; (focus rfl); (focus (intro w9 hSw; go_simp; (try with_reducible rfl); done)); (try simp only [Act.put, List.setIfInBounds_toArray, List.set_cons_zero, List.set_cons_succ, List.getElem_toArray, List.getElem_cons_zero, List.getElem_cons_succ]))
  (refine wpAnyK_take (i := 17) (v := ?_) rfl (by decide +kernel) (by decide +kernel) (by decide +kernel) (by decide +kernel) (fun _ _ _ h => h) (Or.inl ⟨?_, ?_⟩) trivial ?_; rotate_left 1; (focus rfl); (focus (intro w9 hSw; go_simp; (try with_reducible rfl); done)); (try simp only [Act.put, List.setIfInBounds_toArray, List.set_cons_zero, List.set_cons_succ, List.getElem_toArray, List.getElem_cons_zero, List.getElem_cons_succ]))
  refine wpAnyK_ready (rs := [18]) (by decide +kernel) (by simp) ?_
  refine AllReadyK.cons rfl (fun K hK => ?_) AllReadyK.nil
  rw [if_pos (by rfl)]
  go_simp
  refine (awake_any _ (HT3.out.on (bext (Below.refl _ _).drew hw4.out))).mono ?_
  rintro e w5 ⟨rfl, hw5⟩
  refine hK.out _ _ (fun _ => trivial) (?_)
  clear hK K
  (try simp only [Act.put, List.setIfInBounds_toArray, List.set_cons_zero, List.set_cons_succ, List.getElem_toArray, List.getElem_cons_zero, List.getElem_cons_succ])
  (refine wpAnyK_take (i := 19) (v := ?_) rfl (by decide +kernel) (by decide +kernel) (by decide +kernel) (by decide +kernel) (fun _ _ _ h => h) (Or.inl ⟨?_, ?_⟩) trivial ?_; rotate_left 1; (focus rfl); (focus (intro w9 hSw; go_simp; (try with_reducible rfl); done)); (try simp only [Act.put, List.setIfInBounds_toArray, List.set_cons_zero, List.set_cons_succ, List.getElem_toArray, List.getElem_cons_zero, List.getElem_cons_succ]))
  (refine wpAnyK_take (i := 20) (v := ?_) rfl (by decide +kernel) (by decide +kernel) (by decide +kernel) (by decide +kernel) (fun _ _ _ h => h) (Or.inl ⟨?_, ?_⟩) trivial ?_; rotate_left 1; (focus rfl); (focus (intro w9 hSw; go_simp; (try with_reducible rfl); done)); (try simp only [Act.put, List.setIfInBounds_toArray, List.set_cons_zero, List.set_cons_succ, List.getElem_toArray, List.getElem_cons_zero, List.getElem_cons_succ]))
  refine wpAnyK_done (by decide +kernel) ?_ _
  all_goals go_wp2
  all_goals go_ret
  all_goals exact ⟨rfl, bext (bext HB.out (bext (Below.refl _ _).drew hw4.out)) hw5.out⟩
set_option maxRecDepth 100000 in
set_option maxHeartbeats 16000000 in
theorem rests_neg (A R B U V : List UInt8) (w : World) (HT : Hid (Tab w)) (hR : ((45 :: R) == [48]) = false) (H1 : Hid (Op2 16 (45 :: A) B (45 :: R) 0)) (H2 : Hid (Amt (45 :: R) U)) (H3 : Hid (Amt B V)) (H4 : Hid (Cmp2 U V (-1))) :
    Calls Tryd.prog 9 #[.string ⟨((45 :: A)).toArray⟩, .string ⟨B.toArray⟩] w (Good w) := by
  have e1 : ((⟨(45 :: A).toArray⟩ : ByteArray)[0]'(by simp [ByteArray.size])).toNat = 45 := rfl
  have e2 : ((⟨(45 :: R).toArray⟩ : ByteArray)[0]'(by simp [ByteArray.size])).toNat = 45 := rfl
  go_enter Tryd.func9, Tryd.ntmps9
  go_wp2_with fail
  refine (H1.out w HT.out).mono ?_
  rintro e w1 ⟨rfl, hw1⟩
  go_wp2_with fail
  refine (H2.out w1).mono ?_
  rintro e w2 ⟨rfl, hw2⟩
  go_wp2_with fail
  refine (H3.out w2).mono ?_
  rintro e w3 ⟨rfl, hw3⟩
  have HB := Lib.hid (bext (bext hw1.out.1 hw2.out) hw3.out)
  have HT3 := Lib.hid (HT.out.on HB.out)
  clear hw1 hw2 hw3
  go_wp2_with fail
  refine region_K (S := fun _ => True) (kp := fun _ => true) (by kernel_rfl) trivial (fun _ => ?_)
  (refine wpAnyK_take (i := 0) (v := ?_) rfl (by decide +kernel) (by decide +kernel) (by decide +kernel) (by decide +kernel) (fun _ _ _ h => h) (Or.inl ⟨?_, ?_⟩) trivial ?_; rotate_left 1; (focus rfl); (focus (intro w9 hSw; go_simp; (try with_reducible rfl); done)); (try simp only [Act.put, List.setIfInBounds_toArray, List.set_cons_zero, List.set_cons_succ, List.getElem_toArray, List.getElem_cons_zero, List.getElem_cons_succ]))
  (refine wpAnyK_take (i := 1) (v := ?_) rfl (by decide +kernel) (by decide +kernel) (by decide +kernel) (by decide +kernel) (fun _ _ _ h => h) (Or.inl ⟨?_, ?_⟩) trivial ?_; rotate_left 1; (focus rfl); (focus (intro w9 hSw; go_simp; (try with_reducible rfl); done)); (try simp only [Act.put, List.setIfInBounds_toArray, List.set_cons_zero, List.set_cons_succ, List.getElem_toArray, List.getElem_cons_zero, List.getElem_cons_succ]))
  refine wpAnyK_ready (rs := [2]) (by decide +kernel) (by simp) ?_
  refine AllReadyK.cons rfl (fun K hK => ?_) AllReadyK.nil
  rw [if_pos (by rfl)]
  go_simp
  refine (H4.out _).mono ?_
  rintro e w4 ⟨rfl, hw4⟩
  refine hK.out _ _ (fun _ => trivial) (?_)
  clear hK K
  (try simp only [Act.put, List.setIfInBounds_toArray, List.set_cons_zero, List.set_cons_succ, List.getElem_toArray, List.getElem_cons_zero, List.getElem_cons_succ])
  (refine wpAnyK_take (i := 3) (v := ?_) rfl (by decide +kernel) (by decide +kernel) (by decide +kernel) (by decide +kernel) (fun _ _ _ h => h) (Or.inl ⟨?_, ?_⟩) trivial ?_; rotate_left 1; (focus rfl); (focus (intro w9 hSw; go_simp; (try with_reducible rfl); done)); (try simp only [Act.put, List.setIfInBounds_toArray, List.set_cons_zero, List.set_cons_succ, List.getElem_toArray, List.getElem_cons_zero, List.getElem_cons_succ]))
  (refine wpAnyK_take (i := 4) (v := ?_) rfl (by decide +kernel) (by decide +kernel) (by decide +kernel) (by decide +kernel) (fun _ _ _ h => h) (Or.inl ⟨?_, ?_⟩) trivial ?_; rotate_left 1; (focus rfl); (focus (intro w9 hSw; go_simp; (try with_reducible rfl); done)); (try simp only [Act.put, List.setIfInBounds_toArray, List.set_cons_zero, List.set_cons_succ, List.getElem_toArray, List.getElem_cons_zero, List.getElem_cons_succ]))
  (refine wpAnyK_take (i := 5) (v := ?_) rfl (by decide +kernel) (by decide +kernel) (by decide +kernel) (by decide +kernel) (fun _ _ _ h => h) (Or.inl ⟨?_, ?_⟩) trivial ?_; rotate_left 1; (focus rfl); (focus (intro w9 hSw; go_simp; (try with_reducible rfl); done)); (try simp only [Act.put, List.setIfInBounds_toArray, List.set_cons_zero, List.set_cons_succ, List.getElem_toArray, List.getElem_cons_zero, List.getElem_cons_succ]))
  (refine wpAnyK_take (i := 6) (v := ?_) rfl (by decide +kernel) (by decide +kernel) (by decide +kernel) (by decide +kernel) (fun _ _ _ h => h) (Or.inl ⟨?_, ?_⟩) trivial ?_; rotate_left 1; (focus rfl); (focus (intro w9 hSw; go_simp; (try with_reducible rfl); done)); (try simp only [Act.put, List.setIfInBounds_toArray, List.set_cons_zero, List.set_cons_succ, List.getElem_toArray, List.getElem_cons_zero, List.getElem_cons_succ]))
  (try simp only [hR, e1, e2])
  (refine wpAnyK_take (i := 7) (v := ?_) rfl (by decide +kernel) (by decide +kernel) (by decide +kernel) (by decide +kernel) (fun _ _ _ h => h) (Or.inl ⟨?_, ?_⟩) trivial ?_; rotate_left 1; (focus rfl); (focus (intro w9 hSw; go_simp; (try with_reducible rfl); done)); (try simp only [Act.put, List.setIfInBounds_toArray, List.set_cons_zero, List.set_cons_succ, List.getElem_toArray, List.getElem_cons_zero, List.getElem_cons_succ]))
  (refine wpAnyK_take (i := 8) (v := ?_) rfl (by decide +kernel) (by decide +kernel) (by decide +kernel) (by decide +kernel) (fun _ _ _ h => h) (Or.inl ⟨?_, ?_⟩) trivial ?_; rotate_left 1; (focus rfl); (focus (intro w9 hSw; go_simp; (try with_reducible rfl); done)); (try simp only [Act.put, List.setIfInBounds_toArray, List.set_cons_zero, List.set_cons_succ, List.getElem_toArray, List.getElem_cons_zero, List.getElem_cons_succ]))
  (refine wpAnyK_take (i := 9) (v := ?_) rfl (by decide +kernel) (by decide +kernel) (by decide +kernel) (by decide +kernel) (fun _ _ _ h => h) (Or.inl ⟨?_, ?_⟩) trivial ?_; rotate_left 1; (focus rfl); (focus (intro w9 hSw; go_simp; (try with_reducible rfl); done)); (try simp only [Act.put, List.setIfInBounds_toArray, List.set_cons_zero, List.set_cons_succ, List.getElem_toArray, List.getElem_cons_zero, List.getElem_cons_succ]))
  (refine wpAnyK_take (i := 10) (v := ?_) rfl (by decide +kernel) (by decide +kernel) (by decide +kernel) (by decide +kernel) (fun _ _ _ h => h) (Or.inl ⟨?_, ?_⟩) trivial ?_; rotate_left 1; (focus rfl); (focus (intro w9 hSw; go_simp; (try with_reducible rfl); done)); (try simp only [Act.put, List.setIfInBounds_toArray, List.set_cons_zero, List.set_cons_succ, List.getElem_toArray, List.getElem_cons_zero, List.getElem_cons_succ]))
  (try simp only [hR, e1, e2])
  (refine wpAnyK_take (i := 11) (v := ?_) rfl (by decide +kernel) (by decide +kernel) (by decide +kernel) (by decide +kernel) (fun _ _ _ h => h) (Or.inl ⟨?_, ?_⟩) trivial ?_; rotate_left 1; (focus rfl); (focus (intro w9 hSw; go_simp; (try with_reducible rfl); done)); (try simp only [Act.put, List.setIfInBounds_toArray, List.set_cons_zero, List.set_cons_succ, List.getElem_toArray, List.getElem_cons_zero, List.getElem_cons_succ]))
  (refine wpAnyK_take (i := 12) (v := ?_) rfl (by decide +kernel) (by decide +kernel) (by decide +kernel) (by decide +kernel) (fun _ _ _ h => h) (Or.inl ⟨?_, ?_⟩) trivial ?_; rotate_left 1; (focus rfl); (focus (intro w9 hSw; go_simp; (try with_reducible rfl); done)); (try simp only [Act.put, List.setIfInBounds_toArray, List.set_cons_zero, List.set_cons_succ, List.getElem_toArray, List.getElem_cons_zero, List.getElem_cons_succ]))
  (refine wpAnyK_take (i := 13) (v := ?_) rfl (by decide +kernel) (by decide +kernel) (by decide +kernel) (by decide +kernel) (fun _ _ _ h => h) (Or.inl ⟨?_, ?_⟩) trivial ?_; rotate_left 1; (focus rfl); (focus (intro w9 hSw; go_simp; (try with_reducible rfl); done)); (try simp only [Act.put, List.setIfInBounds_toArray, List.set_cons_zero, List.set_cons_succ, List.getElem_toArray, List.getElem_cons_zero, List.getElem_cons_succ]))
  (try simp only [hR, e1, e2])
  (refine wpAnyK_take (i := 14) (v := ?_) rfl (by decide +kernel) (by decide +kernel) (by decide +kernel) (by decide +kernel) (fun _ _ _ h => h) (Or.inl ⟨?_, ?_⟩) trivial ?_; rotate_left 1; (focus rfl); (focus (intro w9 hSw; go_simp; (try with_reducible rfl); done)); (try simp only [Act.put, List.setIfInBounds_toArray, List.set_cons_zero, List.set_cons_succ, List.getElem_toArray, List.getElem_cons_zero, List.getElem_cons_succ]))
  (refine wpAnyK_take (i := 15) (v := ?_) rfl (by decide +kernel) (by decide +kernel) (by decide +kernel) (by decide +kernel) (fun _ _ _ h => h) (Or.inl ⟨?_, ?_⟩) trivial ?_; rotate_left 1; (focus rfl); (focus (intro w9 hSw; go_simp; (try with_reducible rfl); done)); (try simp only [Act.put, List.setIfInBounds_toArray, List.set_cons_zero, List.set_cons_succ, List.getElem_toArray, List.getElem_cons_zero, List.getElem_cons_succ]))
  (refine wpAnyK_take (i := 16) (v := ?_) rfl (by decide +kernel) (by decide +kernel) (by decide +kernel) (by decide +kernel) (fun _ _ _ h => h) (Or.inl ⟨?_, ?_⟩) trivial ?_; rotate_left 1; (focus rfl); (focus (intro w9 hSw; go_simp; (try with_reducible rfl); done)); (try simp only [Act.put, List.setIfInBounds_toArray, List.set_cons_zero, List.set_cons_succ, List.getElem_toArray, List.getElem_cons_zero, List.getElem_cons_succ]))
  (refine wpAnyK_take (i := 17) (v := ?_) rfl (by decide +kernel) (by decide +kernel) (by decide +kernel) (by decide +kernel) (fun _ _ _ h => h) (Or.inl ⟨?_, ?_⟩) trivial ?_; rotate_left 1; (focus rfl); (focus (intro w9 hSw; go_simp; (try with_reducible rfl); done)); (try simp only [Act.put, List.setIfInBounds_toArray, List.set_cons_zero, List.set_cons_succ, List.getElem_toArray, List.getElem_cons_zero, List.getElem_cons_succ]))
  refine wpAnyK_ready (rs := [18]) (by decide +kernel) (by simp) ?_
  refine AllReadyK.cons rfl (fun K hK => ?_) AllReadyK.nil
  rw [if_pos (by rfl)]
  go_simp
  refine (awake_any _ (HT3.out.on (bext (Below.refl _ _).drew hw4.out))).mono ?_
  rintro e w5 ⟨rfl, hw5⟩
  refine hK.out _ _ (fun _ => trivial) (?_)
  clear hK K
  (try simp only [Act.put, List.setIfInBounds_toArray, List.set_cons_zero, List.set_cons_succ, List.getElem_toArray, List.getElem_cons_zero, List.getElem_cons_succ])
  (refine wpAnyK_take (i := 19) (v := ?_) rfl (by decide +kernel) (by decide +kernel) (by decide +kernel) (by decide +kernel) (fun _ _ _ h => h) (Or.inl ⟨?_, ?_⟩) trivial ?_; rotate_left 1; (focus rfl); (focus (intro w9 hSw; go_simp; (try with_reducible rfl); done)); (try simp only [Act.put, List.setIfInBounds_toArray, List.set_cons_zero, List.set_cons_succ, List.getElem_toArray, List.getElem_cons_zero, List.getElem_cons_succ]))
  (refine wpAnyK_take (i := 20) (v := ?_) rfl (by decide +kernel) (by decide +kernel) (by decide +kernel) (by decide +kernel) (fun _ _ _ h => h) (Or.inl ⟨?_, ?_⟩) trivial ?_; rotate_left 1; (focus rfl); (focus (intro w9 hSw; go_simp; (try with_reducible rfl); done)); (try simp only [Act.put, List.setIfInBounds_toArray, List.set_cons_zero, List.set_cons_succ, List.getElem_toArray, List.getElem_cons_zero, List.getElem_cons_succ]))
  refine wpAnyK_done (by decide +kernel) ?_ _
  all_goals go_wp2
  all_goals go_ret
  all_goals exact ⟨rfl, bext (bext HB.out (bext (Below.refl _ _).drew hw4.out)) hw5.out⟩
set_option maxRecDepth 100000 in
set_option maxHeartbeats 16000000 in
theorem rests_pos (c d : UInt8) (A R B U V : List UInt8) (w : World) (HT : Hid (Tab w)) (hR : ((d :: R) == [48]) = false) (hc : ¬ c = 45) (hd : ¬ d = 45) (H1 : Hid (Op2 16 (c :: A) B (d :: R) 0)) (H2 : Hid (Amt (d :: R) U)) (H3 : Hid (Amt B V)) (H4 : Hid (Cmp2 U V (-1))) :
    Calls Tryd.prog 9 #[.string ⟨((c :: A)).toArray⟩, .string ⟨B.toArray⟩] w (Good w) := by
  have e1 : ((((⟨(c :: A).toArray⟩ : ByteArray)[0]'(by simp [ByteArray.size])).toNat : Int) == 45) = false := u8_not hc
  have e2 : ((((⟨(d :: R).toArray⟩ : ByteArray)[0]'(by simp [ByteArray.size])).toNat : Int) == 45) = false := u8_not hd
  go_enter Tryd.func9, Tryd.ntmps9
  go_wp2_with fail
  refine (H1.out w HT.out).mono ?_
  rintro e w1 ⟨rfl, hw1⟩
  go_wp2_with fail
  refine (H2.out w1).mono ?_
  rintro e w2 ⟨rfl, hw2⟩
  go_wp2_with fail
  refine (H3.out w2).mono ?_
  rintro e w3 ⟨rfl, hw3⟩
  have HB := Lib.hid (bext (bext hw1.out.1 hw2.out) hw3.out)
  have HT3 := Lib.hid (HT.out.on HB.out)
  clear hw1 hw2 hw3
  go_wp2_with fail
  refine region_K (S := fun _ => True) (kp := fun _ => true) (by kernel_rfl) trivial (fun _ => ?_)
  (refine wpAnyK_take (i := 0) (v := ?_) rfl (by decide +kernel) (by decide +kernel) (by decide +kernel) (by decide +kernel) (fun _ _ _ h => h) (Or.inl ⟨?_, ?_⟩) trivial ?_; rotate_left 1; (focus rfl); (focus (intro w9 hSw; go_simp; (try with_reducible rfl); done)); (try simp only [Act.put, List.setIfInBounds_toArray, List.set_cons_zero, List.set_cons_succ, List.getElem_toArray, List.getElem_cons_zero, List.getElem_cons_succ]))
  (refine wpAnyK_take (i := 1) (v := ?_) rfl (by decide +kernel) (by decide +kernel) (by decide +kernel) (by decide +kernel) (fun _ _ _ h => h) (Or.inl ⟨?_, ?_⟩) trivial ?_; rotate_left 1; (focus rfl); (focus (intro w9 hSw; go_simp; (try with_reducible rfl); done)); (try simp only [Act.put, List.setIfInBounds_toArray, List.set_cons_zero, List.set_cons_succ, List.getElem_toArray, List.getElem_cons_zero, List.getElem_cons_succ]))
  refine wpAnyK_ready (rs := [2]) (by decide +kernel) (by simp) ?_
  refine AllReadyK.cons rfl (fun K hK => ?_) AllReadyK.nil
  rw [if_pos (by rfl)]
  go_simp
  refine (H4.out _).mono ?_
  rintro e w4 ⟨rfl, hw4⟩
  refine hK.out _ _ (fun _ => trivial) (?_)
  clear hK K
  (try simp only [Act.put, List.setIfInBounds_toArray, List.set_cons_zero, List.set_cons_succ, List.getElem_toArray, List.getElem_cons_zero, List.getElem_cons_succ])
  (refine wpAnyK_take (i := 3) (v := ?_) rfl (by decide +kernel) (by decide +kernel) (by decide +kernel) (by decide +kernel) (fun _ _ _ h => h) (Or.inl ⟨?_, ?_⟩) trivial ?_; rotate_left 1; (focus rfl); (focus (intro w9 hSw; go_simp; (try with_reducible rfl); done)); (try simp only [Act.put, List.setIfInBounds_toArray, List.set_cons_zero, List.set_cons_succ, List.getElem_toArray, List.getElem_cons_zero, List.getElem_cons_succ]))
  (refine wpAnyK_take (i := 4) (v := ?_) rfl (by decide +kernel) (by decide +kernel) (by decide +kernel) (by decide +kernel) (fun _ _ _ h => h) (Or.inl ⟨?_, ?_⟩) trivial ?_; rotate_left 1; (focus rfl); (focus (intro w9 hSw; go_simp; (try with_reducible rfl); done)); (try simp only [Act.put, List.setIfInBounds_toArray, List.set_cons_zero, List.set_cons_succ, List.getElem_toArray, List.getElem_cons_zero, List.getElem_cons_succ]))
  (refine wpAnyK_take (i := 5) (v := ?_) rfl (by decide +kernel) (by decide +kernel) (by decide +kernel) (by decide +kernel) (fun _ _ _ h => h) (Or.inl ⟨?_, ?_⟩) trivial ?_; rotate_left 1; (focus rfl); (focus (intro w9 hSw; go_simp; (try with_reducible rfl); done)); (try simp only [Act.put, List.setIfInBounds_toArray, List.set_cons_zero, List.set_cons_succ, List.getElem_toArray, List.getElem_cons_zero, List.getElem_cons_succ]))
  (refine wpAnyK_take (i := 6) (v := ?_) rfl (by decide +kernel) (by decide +kernel) (by decide +kernel) (by decide +kernel) (fun _ _ _ h => h) (Or.inl ⟨?_, ?_⟩) trivial ?_; rotate_left 1; (focus rfl); (focus (intro w9 hSw; go_simp; (try with_reducible rfl); done)); (try simp only [Act.put, List.setIfInBounds_toArray, List.set_cons_zero, List.set_cons_succ, List.getElem_toArray, List.getElem_cons_zero, List.getElem_cons_succ]))
  (try simp only [hR, e1, e2])
  (refine wpAnyK_take (i := 7) (v := ?_) rfl (by decide +kernel) (by decide +kernel) (by decide +kernel) (by decide +kernel) (fun _ _ _ h => h) (Or.inl ⟨?_, ?_⟩) trivial ?_; rotate_left 1; (focus rfl); (focus (intro w9 hSw; go_simp; (try with_reducible rfl); done)); (try simp only [Act.put, List.setIfInBounds_toArray, List.set_cons_zero, List.set_cons_succ, List.getElem_toArray, List.getElem_cons_zero, List.getElem_cons_succ]))
  (refine wpAnyK_take (i := 8) (v := ?_) rfl (by decide +kernel) (by decide +kernel) (by decide +kernel) (by decide +kernel) (fun _ _ _ h => h) (Or.inl ⟨?_, ?_⟩) trivial ?_; rotate_left 1; (focus rfl); (focus (intro w9 hSw; go_simp; (try with_reducible rfl); done)); (try simp only [Act.put, List.setIfInBounds_toArray, List.set_cons_zero, List.set_cons_succ, List.getElem_toArray, List.getElem_cons_zero, List.getElem_cons_succ]))
  (refine wpAnyK_take (i := 9) (v := ?_) rfl (by decide +kernel) (by decide +kernel) (by decide +kernel) (by decide +kernel) (fun _ _ _ h => h) (Or.inl ⟨?_, ?_⟩) trivial ?_; rotate_left 1; (focus rfl); (focus (intro w9 hSw; go_simp; (try with_reducible rfl); done)); (try simp only [Act.put, List.setIfInBounds_toArray, List.set_cons_zero, List.set_cons_succ, List.getElem_toArray, List.getElem_cons_zero, List.getElem_cons_succ]))
  (refine wpAnyK_take (i := 10) (v := ?_) rfl (by decide +kernel) (by decide +kernel) (by decide +kernel) (by decide +kernel) (fun _ _ _ h => h) (Or.inl ⟨?_, ?_⟩) trivial ?_; rotate_left 1; (focus rfl); (focus (intro w9 hSw; go_simp; (try with_reducible rfl); done)); (try simp only [Act.put, List.setIfInBounds_toArray, List.set_cons_zero, List.set_cons_succ, List.getElem_toArray, List.getElem_cons_zero, List.getElem_cons_succ]))
  (try simp only [hR, e1, e2])
  (refine wpAnyK_take (i := 11) (v := ?_) rfl (by decide +kernel) (by decide +kernel) (by decide +kernel) (by decide +kernel) (fun _ _ _ h => h) (Or.inl ⟨?_, ?_⟩) trivial ?_; rotate_left 1; (focus rfl); (focus (intro w9 hSw; go_simp; (try with_reducible rfl); done)); (try simp only [Act.put, List.setIfInBounds_toArray, List.set_cons_zero, List.set_cons_succ, List.getElem_toArray, List.getElem_cons_zero, List.getElem_cons_succ]))
  (refine wpAnyK_take (i := 12) (v := ?_) rfl (by decide +kernel) (by decide +kernel) (by decide +kernel) (by decide +kernel) (fun _ _ _ h => h) (Or.inl ⟨?_, ?_⟩) trivial ?_; rotate_left 1; (focus rfl); (focus (intro w9 hSw; go_simp; (try with_reducible rfl); done)); (try simp only [Act.put, List.setIfInBounds_toArray, List.set_cons_zero, List.set_cons_succ, List.getElem_toArray, List.getElem_cons_zero, List.getElem_cons_succ]))
  (refine wpAnyK_take (i := 13) (v := ?_) rfl (by decide +kernel) (by decide +kernel) (by decide +kernel) (by decide +kernel) (fun _ _ _ h => h) (Or.inl ⟨?_, ?_⟩) trivial ?_; rotate_left 1; (focus rfl); (focus (intro w9 hSw; go_simp; (try with_reducible rfl); done)); (try simp only [Act.put, List.setIfInBounds_toArray, List.set_cons_zero, List.set_cons_succ, List.getElem_toArray, List.getElem_cons_zero, List.getElem_cons_succ]))
  (try simp only [hR, e1, e2])
  (refine wpAnyK_take (i := 14) (v := ?_) rfl (by decide +kernel) (by decide +kernel) (by decide +kernel) (by decide +kernel) (fun _ _ _ h => h) (Or.inl ⟨?_, ?_⟩) trivial ?_; rotate_left 1; (focus rfl); (focus (intro w9 hSw; go_simp; (try with_reducible rfl); done)); (try simp only [Act.put, List.setIfInBounds_toArray, List.set_cons_zero, List.set_cons_succ, List.getElem_toArray, List.getElem_cons_zero, List.getElem_cons_succ]))
  (refine wpAnyK_take (i := 15) (v := ?_) rfl (by decide +kernel) (by decide +kernel) (by decide +kernel) (by decide +kernel) (fun _ _ _ h => h) (Or.inl ⟨?_, ?_⟩) trivial ?_; rotate_left 1; (focus rfl); (focus (intro w9 hSw; go_simp; (try with_reducible rfl); done)); (try simp only [Act.put, List.setIfInBounds_toArray, List.set_cons_zero, List.set_cons_succ, List.getElem_toArray, List.getElem_cons_zero, List.getElem_cons_succ]))
  (refine wpAnyK_take (i := 16) (v := ?_) rfl (by decide +kernel) (by decide +kernel) (by decide +kernel) (by decide +kernel) (fun _ _ _ h => h) (Or.inl ⟨?_, ?_⟩) trivial ?_; rotate_left 1; (focus rfl); (focus (intro w9 hSw; go_simp; (try with_reducible rfl); done)); (try simp only [Act.put, List.setIfInBounds_toArray, List.set_cons_zero, List.set_cons_succ, List.getElem_toArray, List.getElem_cons_zero, List.getElem_cons_succ]))
  (refine wpAnyK_take (i := 17) (v := ?_) rfl (by decide +kernel) (by decide +kernel) (by decide +kernel) (by decide +kernel) (fun _ _ _ h => h) (Or.inl ⟨?_, ?_⟩) trivial ?_; rotate_left 1; (focus rfl); (focus (intro w9 hSw; go_simp; (try with_reducible rfl); done)); (try simp only [Act.put, List.setIfInBounds_toArray, List.set_cons_zero, List.set_cons_succ, List.getElem_toArray, List.getElem_cons_zero, List.getElem_cons_succ]))
  refine wpAnyK_ready (rs := [18]) (by decide +kernel) (by simp) ?_
  refine AllReadyK.cons rfl (fun K hK => ?_) AllReadyK.nil
  rw [if_pos (by rfl)]
  go_simp
  refine (awake_any _ (HT3.out.on (bext (Below.refl _ _).drew hw4.out))).mono ?_
  rintro e w5 ⟨rfl, hw5⟩
  refine hK.out _ _ (fun _ => trivial) (?_)
  clear hK K
  (try simp only [Act.put, List.setIfInBounds_toArray, List.set_cons_zero, List.set_cons_succ, List.getElem_toArray, List.getElem_cons_zero, List.getElem_cons_succ])
  (refine wpAnyK_take (i := 19) (v := ?_) rfl (by decide +kernel) (by decide +kernel) (by decide +kernel) (by decide +kernel) (fun _ _ _ h => h) (Or.inl ⟨?_, ?_⟩) trivial ?_; rotate_left 1; (focus rfl); (focus (intro w9 hSw; go_simp; (try with_reducible rfl); done)); (try simp only [Act.put, List.setIfInBounds_toArray, List.set_cons_zero, List.set_cons_succ, List.getElem_toArray, List.getElem_cons_zero, List.getElem_cons_succ]))
  (refine wpAnyK_take (i := 20) (v := ?_) rfl (by decide +kernel) (by decide +kernel) (by decide +kernel) (by decide +kernel) (fun _ _ _ h => h) (Or.inl ⟨?_, ?_⟩) trivial ?_; rotate_left 1; (focus rfl); (focus (intro w9 hSw; go_simp; (try with_reducible rfl); done)); (try simp only [Act.put, List.setIfInBounds_toArray, List.set_cons_zero, List.set_cons_succ, List.getElem_toArray, List.getElem_cons_zero, List.getElem_cons_succ]))
  refine wpAnyK_done (by decide +kernel) ?_ _
  all_goals go_wp2
  all_goals go_ret
  all_goals exact ⟨rfl, bext (bext HB.out (bext (Below.refl _ _).drew hw4.out)) hw5.out⟩

theorem am_itoa (z : Int) : amT (Lib.itoa z) = Lib.itoa (z.natAbs : Int) := by
  have h2 : Lib.itoa (z.natAbs : Int) = Lib.decDigits z.natAbs := by unfold Lib.itoa; rw [if_neg (by omega)]; simp
  rw [h2]
  unfold Lib.itoa
  split
  · simp [amT]
  · rename_i hz
    rw [show z.toNat = z.natAbs by omega]
    have := dec_head_fig z.natAbs
    cases hd : Lib.decDigits z.natAbs with
    | nil => rfl
    | cons c t =>
      rw [hd] at this
      simp at this
      simp [amT, this]
theorem itoa_neg {z : Int} (h : z < 0) : ∃ t, Lib.itoa z = 45 :: t := by unfold Lib.itoa; rw [if_pos h]; exact ⟨_, rfl⟩
theorem itoa_pos {z : Int} (h : 0 ≤ z) : ∃ c t, Lib.itoa z = c :: t ∧ ¬ c = 45 := by
  unfold Lib.itoa
  rw [if_neg (by omega)]
  have := dec_head_fig z.toNat
  cases hd : Lib.decDigits z.toNat with
  | nil => exact absurd hd (dec_ne _)
  | cons c t =>
    rw [hd] at this
    simp at this
    exact ⟨c, t, rfl, this⟩
theorem tmod_sign (x y : Int) : (0 ≤ x → 0 ≤ x.tmod y) ∧ (x < 0 → x.tmod y ≤ 0) := by
  refine ⟨fun h => Int.tmod_nonneg _ h, fun h => ?_⟩
  have := Int.tmod_nonneg (a := -x) y (by omega)
  rw [Int.neg_tmod] at this
  omega
theorem rest_none {A B : List UInt8} (h : numR A = none ∨ numR B = none ∨ numR B = some 0) : restT A B = ([], 1) := by
  unfold restT partsT
  rcases h with h | h | h
  · exact resD_none (.inl h)
  · exact resD_none (.inr h)
  · cases hA : numR A with
    | none => exact resD_none (.inl hA)
    | some x => unfold resD; rw [hA, h]; rfl
theorem rests_law (A B : List UInt8) (w : World) (hT : Tab w) (fA : Fit A) (fB : Fit B) : Calls Tryd.prog 9 #[.string ⟨A.toArray⟩, .string ⟨B.toArray⟩] w (Good w) := by
  have HT := Lib.hid hT
  by_cases hn : numR A = none ∨ numR B = none ∨ numR B = some 0
  · exact rests_no A B w HT (Lib.hid (op_Rest (rest_none hn) fA fB))
  · cases hx : numR A with
    | none => exact absurd (.inl hx) hn
    | some x =>
      cases hy : numR B with
      | none => exact absurd (.inr (.inl hy)) hn
      | some y =>
        have h0 : y ≠ 0 := by rintro rfl; exact hn (.inr (.inr hy))
        have wx := (numR_text hx).2.1
        have wy := (numR_text hy).2.1
        have lx := (not_wide wx).1
        have r1 : (x.tmod y).natAbs ≤ x.natAbs := by rw [Int.natAbs_tmod]; exact Nat.mod_le _ _
        have r2 : (x.tmod y).natAbs < y.natAbs := by rw [Int.natAbs_tmod]; exact Nat.mod_lt _ (by omega)
        obtain ⟨s1, s2⟩ := tmod_sign x y
        obtain ⟨r, hr⟩ : ∃ r, x.tmod y = r := ⟨_, rfl⟩
        rw [hr] at r1 r2 s1 s2
        have wr : wideB r.natAbs = false := nw (by omega)
        have e1 : restT A B = (Lib.itoa r, 0) := resD_ok hx hy (by unfold partsF; rw [if_neg h0, if_pos rfl, hr]) wr
        have nR := numR_itoa wr
        have k1 := op_Rest e1 fA fB
        have k2 : Amt (Lib.itoa r) (Lib.itoa (r.natAbs : Int)) := amt_of (am_itoa r) (fit_itoa wr)
        have k3 : Amt B (Lib.itoa (y.natAbs : Int)) := amt_of (by rw [(numR_text hy).1, am_itoa]) fB
        have wr' : wideB ((r.natAbs : Int)).natAbs = false := by simpa using wr
        have wy' : wideB ((y.natAbs : Int)).natAbs = false := by simpa using wy
        have k4 : Cmp2 (Lib.itoa (r.natAbs : Int)) (Lib.itoa (y.natAbs : Int)) (-1) := cmp2_of ((cmp_of (numR_itoa wr') (numR_itoa wy')).trans (cmpI_m (by omega))) (fit_itoa wr') (fit_itoa wy')
        have hA := (numR_text hx).1
        have hR := (is_nought nR).2
        by_cases hz : r = 0
        · rw [hz, itoa_0] at k1 k2
          rw [hz] at k4
          exact rests_zero A B _ _ w HT (Lib.hid k1) (Lib.hid k2) (Lib.hid k3) (Lib.hid k4)
        · rcases Int.lt_or_le x 0 with hs | hs
          · obtain ⟨a, ha⟩ := itoa_neg hs
            obtain ⟨t, ht⟩ := itoa_neg (z := r) (by have := s2 hs; omega)
            rw [← hA] at ha
            subst ha
            rw [ht] at k1 k2 hR
            exact rests_neg a t B _ _ w HT (hR hz) (Lib.hid k1) (Lib.hid k2) (Lib.hid k3) (Lib.hid k4)
          · obtain ⟨c, a, ha, hc⟩ := itoa_pos hs
            obtain ⟨d, t, ht, hd⟩ := itoa_pos (z := r) (s1 hs)
            rw [← hA] at ha
            subst ha
            rw [ht] at k1 k2 hR
            exact rests_pos c d a t B _ _ w HT (hR hz) hc hd (Lib.hid k1) (Lib.hid k2) (Lib.hid k3) (Lib.hid k4)
end Go.Proofs.YteiipiomcbohnaaDoor
