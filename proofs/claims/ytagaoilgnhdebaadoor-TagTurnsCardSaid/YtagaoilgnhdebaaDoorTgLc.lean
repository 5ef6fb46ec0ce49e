/-
  the law TagLists, walked. (printed by gen_taglists.py)
-/
import Derived.Deep.RegionHeld3
import Derived.Deep.AppendLies
import Derived.Test.YtagaoilgnhdebaaDoorTgPk
namespace Go.Proofs.YtagaoilgnhdebaaDoor
set_option linter.unusedSimpArgs false
set_option linter.unusedVariables false
open Go.RowKit

/-! The plain law: only which tags are given counts. -/
theorem all_congr {α : Type} {l : List α} {p q : α → Bool} (h : ∀ x, x ∈ l → p x = q x) : l.all p = l.all q := by
  induction l with
  | nil => rfl
  | cons x l ih => rw [List.all_cons, List.all_cons, h x (by simp), ih (fun y hy => h y (List.mem_cons_of_mem _ hy))]
theorem any_congr {α : Type} {l : List α} {p q : α → Bool} (h : ∀ x, x ∈ l → p x = q x) : l.any p = l.any q := by
  induction l with
  | nil => rfl
  | cons x l ih => rw [List.any_cons, List.any_cons, h x (by simp), ih (fun y hy => h y (List.mem_cons_of_mem _ hy))]
theorem holds_mem {T U : List (List UInt8)} (h : ∀ s, T.contains s = U.contains s) : ∀ (n : Nat) (t : Xp), holdsX T n t = holdsX U n t
  | 0, _ => rfl
  | n + 1, .mk op tag kids => by
    have ih := holds_mem h n
    rw [holdsX_mk, holdsX_mk, ih, h, all_congr (fun x _ => ih x), any_congr (fun x _ => ih x)]
def dupL (l : List (List UInt8)) : List (List UInt8) := l.reverse.flatMap fun s => [s, s]
theorem dupL_len (l : List (List UInt8)) : (dupL l).length = 2 * l.length := by
  unfold dupL
  have hr : l.length = l.reverse.length := by simp
  rw [hr]
  induction l.reverse with
  | nil => rfl
  | cons x r ih => rw [List.flatMap_cons, List.length_append, ih]; simp; omega
theorem dupL_contains (l : List (List UInt8)) (s : List UInt8) : (dupL l).contains s = l.contains s := by
  rw [Bool.eq_iff_iff]
  simp [dupL, List.mem_flatMap]
theorem drop_reverse {l : List (List UInt8)} {j : Nat} (hj : j < l.length) : dupL (l.drop j) = dupL (l.drop (j + 1)) ++ [l[j], l[j]] := by
  rw [List.drop_eq_getElem_cons hj, dupL, List.reverse_cons, List.flatMap_append]; rfl
theorem dup_step {l : List (List UInt8)} {j : Nat} (hj : j < l.length) : (dupL (l.drop j)).map valS = (dupL (l.drop (j + 1))).map valS ++ [valS l[j], valS l[j]] := by
  rw [drop_reverse hj, List.map_append]; rfl
theorem lists_same (tags : List (List UInt8)) (t : Xp) : holdsR (dupL tags) t = holdsR tags t := by
  unfold holdsR
  rw [holds_mem (dupL_contains tags)]

theorem strs_own {base : Nat} {e : TypeId} {v : Value} {l : List (List UInt8)} {w : World} (h : w.ownsRow base e 1 v l.length (l.map valS)) : ∃ a c, v = .slice a l.length c ∧ Strs w a l := by
  cases l with
  | nil =>
    obtain ⟨a, c, rfl⟩ := own_shape h
    exact ⟨a, c, rfl, Strs.nil _ _⟩
  | cons x r =>
    obtain ⟨g, cap, rfl, _, _, _, hc⟩ := own_cells h (by simp)
    refine ⟨some ⟨g, 0, none⟩, cap, rfl, fun j hj => ⟨g, 0, rfl, ?_⟩⟩
    rw [Nat.zero_add, hc j hj, List.getElem?_map, List.getElem?_eq_getElem hj]; rfl

theorem laid3r (w : World) (x : Xp) (a : Option Addr) (c : Nat) : ∃ wa, w.alloc (.cells #[.string ⟨x.op.toArray⟩, .string ⟨x.tag.toArray⟩, .slice a x.kids.length c] 24) = wa ∧ Below w.heap.size w wa ∧
    wa.cell? ⟨w.heap.size, 0, none⟩ = some (.string ⟨x.op.toArray⟩) ∧ wa.cell? ⟨w.heap.size, 1, none⟩ = some (.string ⟨x.tag.toArray⟩) ∧ wa.cell? ⟨w.heap.size, 2, none⟩ = some (.slice a x.kids.length c) ∧ wa.heap.size = w.heap.size + 1 :=
  ⟨_, rfl, below_alloc _ _, by simp [go_sem], by simp [go_sem], by simp [go_sem], by simp⟩

section
variable {w0 : World} {B : World → Prop} {K : List (Xp × Option Addr × Nat)} {W : World} {tags : List (List UInt8)} {at_ ab : Option Addr}
theorem lists_holds (h : Pk w0 B K [(tags, at_), (dupL tags, ab)] W) (hB : Keep B) (t : Xp) (r : Bool) (hr : holdsR tags t = r) (ht : tags.length ≤ 100) (a : Option Addr) (c : Nat) (hm : (t, a, c) ∈ K) (a' : Option Addr) (n' ct : Nat) (ho : (a' = at_ ∧ n' = tags.length) ∨ (a' = ab ∧ n' = (dupL tags).length)) :
    Calls Tryd.prog 14 #[.agg #[.string ⟨t.op.toArray⟩, .string ⟨t.tag.toArray⟩, .slice a t.kids.length c], .slice a' n' ct] W (PkPost w0 B K [(tags, at_), (dupL tags, ab)] (.bool r)) := by
  rw [← hr]
  rcases ho with ⟨rfl, rfl⟩ | ⟨rfl, rfl⟩
  · exact pk_holds h hB t a c hm tags a' ct (by simp) (by omega)
  · rw [← lists_same]
    exact pk_holds h hB t a c hm (dupL tags) a' ct (by simp) (by rw [dupL_len]; omega)
end

set_option maxRecDepth 100000 in
set_option maxHeartbeats 16000000 in
theorem lists_any (x : Xp) (a0 : Option Addr) (c0 : Nat) (tags : List (List UInt8)) (at_ : Option Addr) (ct : Nat) (w : World) (hE : Env w) (hk : Xids w Any a0 x.kids) (hf : Fitx x c0) (hs : Strs w at_ tags) (ht : tags.length ≤ 9223372036854775807) (htc : tags.length ≤ ct) :
    Calls Tryd.prog 9 #[.agg #[.string ⟨x.op.toArray⟩, .string ⟨x.tag.toArray⟩, .slice a0 x.kids.length c0], .slice at_ tags.length ct] w (Good w) := by
  have HE := Lib.hid hE
  have HK := Lib.hid hk
  have HF := Lib.hid hf
  have HST := Lib.hid hs
  obtain ⟨wa, hwa, hba, p0, p1, p2, hsa⟩ := laid3r w x a0 c0
  have hsz := size_any x a0 c0 wa (hk.on hba) hf
  obtain ⟨N, hN⟩ : ∃ N, wrap64 (sizeX x) = N := ⟨_, rfl⟩
  rw [hN] at hsz
  have HSZ := Lib.hid hsz
  have HBA := Lib.hid hba
  clear hE hk hf hs hba hsz hN
  by_cases hn : 200 < N
  · go_enter Tryd.func9, Tryd.ntmps9
    go_wp2_with fail
    refine HSZ.out.mono ?_
    rintro e w1 ⟨rfl, hb1⟩
    have HB1 := Lib.hid (bext HBA.out hb1)
    clear hb1
    go_wp2_with fail
    refine bodyPost_ret (v := .bool true) (by simp [results, Tryd.results9, go_sem]) rfl ⟨rfl, HB1.out⟩
  by_cases hl : (20 : Int) < tags.length
  · go_enter Tryd.func9, Tryd.ntmps9
    go_wp2_with fail
    refine HSZ.out.mono ?_
    rintro e w1 ⟨rfl, hb1⟩
    have HB1 := Lib.hid (bext HBA.out hb1)
    clear hb1
    go_wp2_with fail
    refine bodyPost_ret (v := .bool true) (by simp [results, Tryd.results9, go_sem]) rfl ⟨rfl, HB1.out⟩
  obtain ⟨ii, hi, hz0, hz1, hz2⟩ := info_parts infoS
  obtain ⟨r, hr⟩ : ∃ r, holdsR tags x = r := ⟨_, rfl⟩
  have HR := Lib.hid hr
  clear hr
  go_enter Tryd.func9, Tryd.ntmps9
  go_wp2_with fail
  refine HSZ.out.mono ?_
  rintro e w1 ⟨rfl, hb1⟩
  obtain ⟨p0, p1, p2⟩ := three_on' hb1 p0 p1 p2
  have HB1 := Lib.hid (bext HBA.out hb1)
  clear hb1 HBA HSZ hsa
  go_wp2_with fail
  go_loopw [5, 6] (fun v i wr => ∃ k : Nat, k ≤ tags.length ∧ i = .int .i64 ((k : Int) - 1) ∧ wr.ownsRow (w.heap.size + 1) 9 1 v (dupL (tags.drop k)).length ((dupL (tags.drop k)).map valS) ∧ Below w.heap.size w wr ∧
    (wr.cell? ⟨w.heap.size, 0, none⟩ = some (.string ⟨x.op.toArray⟩) ∧ wr.cell? ⟨w.heap.size, 1, none⟩ = some (.string ⟨x.tag.toArray⟩) ∧ wr.cell? ⟨w.heap.size, 2, none⟩ = some (.slice a0 x.kids.length c0))) (fun _ i _ => ((intOf i) + 1).toNat)
  case atStart => exact ⟨tags.length, Nat.le_refl _, rfl, by rw [List.drop_length]; exact World.ownsRow_nil _ _ _ _, HB1.out, p0, p1, p2⟩
  case round =>
    clear HB1 p0 p1 p2 hwa
    obtain ⟨k, hk1, hik, hown, hb, q0, q1, q2⟩ := hrel
    have HBW := Lib.hid hb
    have HOWN := Lib.hid hown
    clear hb hown
    cases k with
    | zero =>
      obtain rfl : u6 = .int .i64 (-1) := by simpa using hik
      rw [List.drop_zero] at HOWN
      obtain ⟨ab, cb, rfl, hsb⟩ := strs_own HOWN.out
      obtain ⟨nb, hnb⟩ : ∃ nb, (dupL tags).length = nb := ⟨_, rfl⟩
      have HNB := Lib.hid hnb
      rw [hnb]
      have hKB : Keep (fun W => (W.cell? ⟨w.heap.size, 0, none⟩ = some (.string ⟨x.op.toArray⟩) ∧ W.cell? ⟨w.heap.size, 1, none⟩ = some (.string ⟨x.tag.toArray⟩) ∧ W.cell? ⟨w.heap.size, 2, none⟩ = some (.slice a0 x.kids.length c0))) := fun W W' hb h => three_on' hb h.1 h.2.1 h.2.2
      have HP := Lib.hid (show Pk w (fun W => (W.cell? ⟨w.heap.size, 0, none⟩ = some (.string ⟨x.op.toArray⟩) ∧ W.cell? ⟨w.heap.size, 1, none⟩ = some (.string ⟨x.tag.toArray⟩) ∧ W.cell? ⟨w.heap.size, 2, none⟩ = some (.slice a0 x.kids.length c0))) [(x, a0, c0)] [(tags, at_), (dupL tags, ab)] wr.drew from
        ⟨bext HBW.out (Below.refl _ _).drew, (HE.out.on HBW.out).on (Below.refl _ _).drew, ⟨q0, q1, q2⟩, fun y hy => by
          rw [List.mem_singleton] at hy; subst hy; exact ⟨(HK.out.on HBW.out).on (Below.refl _ _).drew, HF.out⟩, fun y hy => by
          simp only [List.mem_cons, List.not_mem_nil, or_false] at hy
          rcases hy with rfl | rfl
          · exact (HST.out.on HBW.out).on (Below.refl _ _).drew
          · exact hsb.on (Below.refl _ _).drew⟩)
      have HKB := Lib.hid hKB
      have hBl : w.heap.size < wr.heap.size := cell_lt1 q0
      clear hsb hnb hik HOWN hKB
      go_wp2_with fail
      go_region_held3 (fun w' => (w'.cell? ⟨w.heap.size, 0, none⟩ = some (.string ⟨x.op.toArray⟩) ∧ w'.cell? ⟨w.heap.size, 1, none⟩ = some (.string ⟨x.tag.toArray⟩) ∧ w'.cell? ⟨w.heap.size, 2, none⟩ = some (.slice a0 x.kids.length c0))) (go_keep)
        (first
          | (go_at_call 11
             refine (pk_of HP.out HKB.out x _ _ ?_).mono ?_
             focus (simp)
             rintro e w2 ⟨a2, c2, rfl, ⟨q0, q1, q2⟩, HP⟩)
          | (go_at_call 14
             refine (lists_holds HP.out HKB.out x r HR.out (by omega) _ _ ?_ _ _ _ ?_).mono ?_
             focus (simp)
             focus (first | exact .inl ⟨rfl, rfl⟩ | exact .inr ⟨rfl, HNB.out.symm⟩)
             rintro e w2 ⟨rfl, ⟨q0, q1, q2⟩, HP⟩)
          | (go_at_call 17
             refine (pk_awake HP.out HKB.out).mono ?_
             rintro e w2 ⟨rfl, ⟨q0, q1, q2⟩, HP⟩))
      all_goals
        go_wp2_with fail
        go_ret
        exact ⟨rfl, HP.out.below⟩
    | succ j =>
      have hj : j < tags.length := by omega
      obtain rfl : u6 = .int .i64 (j : Int) := by rw [hik]; congr 1; omega
      obtain ⟨b, off, rfl, hcj⟩ := HST.out j hj
      have hb0 : b < w.heap.size := cell_lt1 hcj
      have hbS : b < w.heap.size + 1 := by omega
      replace hcj := (HBW.out.cell (p := ⟨b, off + j, none⟩) hb0).trans hcj
      have hrl := own_lt HOWN.out
      have HOA := Lib.hid fun (W : World) (hW : Below wr.heap.size wr W) => ownsRow_of HOWN.out (fun g hg => hW.block g (hrl g hg).2)
      have HRL := Lib.hid hrl
      have hblt : b < wr.heap.size := by have := HBW.out.size; omega
      have hjt : (j : Int) < tags.length := by omega
      have hj63 : (j : Int) ≤ 20 := by omega
      clear hrl hik HOWN
      go_wp2_with fail
      refine wp_region_held_drew (S := Sees (w.heap.size + 1) wr) (by kernel_rfl) (fun p u _ hu => hu) (fun hHeld => ?_)
      (refine wpAnyH_take (i := 0) (v := ?_) rfl (by decide +kernel) (by decide +kernel) (by decide +kernel) (fun _ _ _ h => h) (Or.inl ⟨?_, ?_⟩) hHeld ?_; rotate_left 1; (focus rfl); (focus (intro w9 hSw; go_simp; (try with_reducible rfl); done)); (try simp only [Act.put, List.setIfInBounds_toArray, List.set_cons_zero, List.set_cons_succ, List.getElem_toArray, List.getElem_cons_zero, List.getElem_cons_succ]))
      (refine wpAnyH_take (i := 1) (v := ?_) rfl (by decide +kernel) (by decide +kernel) (by decide +kernel) (fun _ _ _ h => h) (Or.inl ⟨?_, ?_⟩) hHeld ?_; rotate_left 1; (focus rfl); (focus (intro w9 hSw; go_simp; (try with_reducible rfl); done)); (try simp only [Act.put, List.setIfInBounds_toArray, List.set_cons_zero, List.set_cons_succ, List.getElem_toArray, List.getElem_cons_zero, List.getElem_cons_succ]))
      (refine wpAnyH_take (i := 2) (v := ?_) rfl (by decide +kernel) (by decide +kernel) (by decide +kernel) (fun _ _ _ h => h) (Or.inl ⟨?_, ?_⟩) hHeld ?_; rotate_left 1; (focus rfl); (focus (intro w9 hSw; go_simp; (try with_reducible rfl); done)); (try simp only [Act.put, List.setIfInBounds_toArray, List.set_cons_zero, List.set_cons_succ, List.getElem_toArray, List.getElem_cons_zero, List.getElem_cons_succ]))
      (refine wpAnyH_take (i := 3) (v := ?_) rfl (by decide +kernel) (by decide +kernel) (by decide +kernel) (fun _ _ _ h => h) (Or.inl ⟨?_, ?_⟩) hHeld ?_; rotate_left 1; (focus rfl); (focus (intro w9 hSw; go_simp; (try with_reducible rfl); done)); (try simp only [Act.put, List.setIfInBounds_toArray, List.set_cons_zero, List.set_cons_succ, List.getElem_toArray, List.getElem_cons_zero, List.getElem_cons_succ]))
      (refine wpAnyH_take (i := 4) (v := ?_) rfl (by decide +kernel) (by decide +kernel) (by decide +kernel) (fun _ _ _ h => h) (Or.inl ⟨?_, ?_⟩) hHeld ?_; rotate_left 1; (focus rfl); (focus (intro w9 hSw; have l9 := hSw ⟨b, off + j, none⟩ _ hbS hcj; go_simp; (try with_reducible rfl); done)); (try simp only [Act.put, List.setIfInBounds_toArray, List.set_cons_zero, List.set_cons_succ, List.getElem_toArray, List.getElem_cons_zero, List.getElem_cons_succ]))
      (refine wpAnyH_take (i := 5) (v := ?_) rfl (by decide +kernel) (by decide +kernel) (by decide +kernel) (fun _ _ _ h => h) (Or.inl ⟨?_, ?_⟩) hHeld ?_; rotate_left 1; (focus rfl); (focus (intro w9 hSw; go_simp; (try with_reducible rfl); done)); (try simp only [Act.put, List.setIfInBounds_toArray, List.set_cons_zero, List.set_cons_succ, List.getElem_toArray, List.getElem_cons_zero, List.getElem_cons_succ]))
      (refine wpAnyH_take (i := 6) (v := ?_) rfl (by decide +kernel) (by decide +kernel) (by decide +kernel) (fun _ _ _ h => h) (Or.inl ⟨?_, ?_⟩) hHeld ?_; rotate_left 1; (focus rfl); (focus (intro w9 hSw; go_simp; (try with_reducible rfl); done)); (try simp only [Act.put, List.setIfInBounds_toArray, List.set_cons_zero, List.set_cons_succ, List.getElem_toArray, List.getElem_cons_zero, List.getElem_cons_succ]))
      (refine wpAnyH_take (i := 7) (v := ?_) rfl (by decide +kernel) (by decide +kernel) (by decide +kernel) (fun _ _ _ h => h) (Or.inl ⟨?_, ?_⟩) hHeld ?_; rotate_left 1; (focus rfl); (focus (intro w9 hSw; go_simp; (try with_reducible rfl); done)); (try simp only [Act.put, List.setIfInBounds_toArray, List.set_cons_zero, List.set_cons_succ, List.getElem_toArray, List.getElem_cons_zero, List.getElem_cons_succ]))
      (refine wpAnyH_take (i := 8) (v := ?_) rfl (by decide +kernel) (by decide +kernel) (by decide +kernel) (fun _ _ _ h => h) (Or.inl ⟨?_, ?_⟩) hHeld ?_; rotate_left 1; (focus rfl); (focus (intro w9 hSw; have l9 := hSw ⟨b, off + j, none⟩ _ hbS hcj; go_simp; (try with_reducible rfl); done)); (try simp only [Act.put, List.setIfInBounds_toArray, List.set_cons_zero, List.set_cons_succ, List.getElem_toArray, List.getElem_cons_zero, List.getElem_cons_succ]))
      refine wpAnyH_ready (rs := [9]) (by decide +kernel) (by simp) ?_
      refine AllReadyH.cons rfl (fun K hK => ?_) AllReadyH.nil
      rw [if_pos (by rfl)]
      go_simp
      refine hK.out _ _ (hHeld.alloc _) (fun hHeld => ?_)
      clear hK K
      (try simp only [Act.put, List.setIfInBounds_toArray, List.set_cons_zero, List.set_cons_succ, List.getElem_toArray, List.getElem_cons_zero, List.getElem_cons_succ])
      refine wpAnyH_ready (rs := [10]) (by decide +kernel) (by simp) ?_
      refine AllReadyH.cons rfl (fun K hK => ?_) AllReadyH.nil
      refine step_append_lies _ (by rfl) _ _ _ (by rfl) (w.heap.size + 1) 9 ii (.string ByteArray.empty) 1 16 Tryd.underlying25 hi hz0 hz1 hz2 rfl (by omega) u5 ((dupL (tags.drop (j + 1))).length) ((dupL (tags.drop (j + 1))).map valS) (by rfl) (HOA.out _ ((Below.refl _ _).drew.alloc (Nat.le_refl _) _)) ⟨wr.drew.heap.size, 0, none⟩ 2 2 [valS tags[j], valS tags[j]] (by rfl) (by rfl) (World.news_of_block (cs := #[valS tags[j], valS tags[j]]) (t := 9) (fr := (0, 0)) (heap_alloc_new wr.drew _)) (by simp [valS, Value.oneCell']) (by omega) (by rw [dupL_len]; simp [maxLen]; omega) (by rw [dupL_len]; simp; omega) (by have := HBW.out.size; simp; omega) (wr.heap.size + 1) (by simp) ?_
      intro gg cap w4 hown4 hgrow hat hlt4
      have hsee : Sees (w.heap.size + 1) wr w4 := fun p u hp hu => (hgrow.cell_far p (cell_lt1 (hHeld p u hp hu)) (fun e => by have := (HRL.out _ e.symm).1; omega)).trans (hHeld p u hp hu)
      have HG4 := Lib.hid hgrow
      have HO4 := Lib.hid hown4
      clear hgrow hown4 hat
      refine hK.out _ _ hsee (fun hHeld => ?_)
      clear hK K
      (try simp only [Act.put, List.setIfInBounds_toArray, List.set_cons_zero, List.set_cons_succ, List.getElem_toArray, List.getElem_cons_zero, List.getElem_cons_succ])
      (refine wpAnyH_take (i := 11) (v := ?_) rfl (by decide +kernel) (by decide +kernel) (by decide +kernel) (fun _ _ _ h => h) (Or.inl ⟨?_, ?_⟩) hHeld ?_; rotate_left 1; (focus rfl); (focus (intro w9 hSw; go_simp; (try with_reducible rfl); done)); (try simp only [Act.put, List.setIfInBounds_toArray, List.set_cons_zero, List.set_cons_succ, List.getElem_toArray, List.getElem_cons_zero, List.getElem_cons_succ]))
      refine wpAnyH_done (by decide +kernel) ?_ _
      go_wp2_with fail
      go_roundw
      case rel =>
        have hr : Below w.heap.size w w4 := ((HBW.out.drew).alloc (by have := HBW.out.size; simp; omega) _).grown HG4.out (by have := HBW.out.size; simp; omega) (fun i e => by have := (HRL.out i e).1; omega)
        have hcellw : ∀ (o : Nat) (v : Value), wr.cell? ⟨w.heap.size, o, none⟩ = some v → w4.cell? ⟨w.heap.size, o, none⟩ = some v := fun o v h => hHeld ⟨w.heap.size, o, none⟩ v (by show w.heap.size < _; omega) h
        refine ⟨j, by omega, by go_num, ?_, hr, hcellw _ _ q0, hcellw _ _ q1, hcellw _ _ q2⟩
        have h8 := HO4.out
        rw [← dup_step hj] at h8
        rw [show (dupL (tags.drop j)).length = (dupL (tags.drop (j + 1))).length + 2 by rw [drop_reverse hj]; simp]
        exact h8
      case measure => simp [intOf]
end Go.Proofs.YtagaoilgnhdebaaDoor
