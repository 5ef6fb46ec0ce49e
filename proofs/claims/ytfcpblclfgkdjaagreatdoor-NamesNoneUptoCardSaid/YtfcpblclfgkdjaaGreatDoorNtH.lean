/-
  names: the closures of Called and of Free, walked.
-/
import Derived.Test.YtfcpblclfgkdjaaGreatDoorNtG
import Derived.Test.YtfcpblclfgkdjaaGreatDoorNtQ
namespace Go.Proofs.YtfcpblclfgkdjaaGreatDoor
set_option linter.unusedSimpArgs false
set_option linter.unusedVariables false
open Go.RowKit Go.Maps

/-- The boxes of the two names. -/
def CallSt (n : Nat) (s u : List UInt8) (_ : List (List UInt8)) (W : World) : Prop := W.cell? ⟨n, 0, none⟩ = some (.string ⟨s.toArray⟩) ∧ W.cell? ⟨n + 1, 0, none⟩ = some (.string ⟨u.toArray⟩)
theorem sets_below {w wa W : World} (hb : Below w.heap.size w wa) (h : Sets w.heap.size wa W) : Below w.heap.size w W := by
  obtain ⟨o1, o2, o3, o4, o5⟩ := h
  exact ⟨o1.trans hb.os, o2.trans hb.tape, o3.trans hb.output, by have := hb.size; omega, fun k hk => (o5 k (.inl hk)).trans (hb.block k hk)⟩

set_option maxRecDepth 100000 in
set_option maxHeartbeats 8000000 in
theorem called1_any (n : Nat) (s u : List UInt8) (t : Nd) (a : Option Addr) (c : Nat) (w : World) (h : CallSt n s u [] w) :
    Calls Tryz.prog 19 #[.agg #[.int .i64 t.kind, .string ⟨t.text.toArray⟩, .slice a t.kids.length c, .int .i64 t.pos], .pointer (some ⟨n, 0, none⟩), .pointer (some ⟨n + 1, 0, none⟩)] w fun e w' => e = .returned (.agg #[.int .i64 (ren s u t).kind, .string ⟨(ren s u t).text.toArray⟩, .slice a (ren s u t).kids.length c, .int .i64 (ren s u t).pos]) ∧ Below w.heap.size w w' := by
  obtain ⟨wa, hwa⟩ : ∃ wa, (w.alloc (.cells #[.int .i64 t.kind, .string ⟨t.text.toArray⟩, .slice a t.kids.length c, .int .i64 t.pos] 25)).alloc (.cells #[.int .i64 0, .string ⟨#[]⟩, .slice none 0 0, .int .i64 0] 25) = wa := ⟨_, rfl⟩
  have hba : Below w.heap.size w wa := by rw [← hwa]; exact ((Below.refl _ _).alloc (Nat.le_refl _) _).alloc (by simp) _
  have n0 : wa.cell? ⟨w.heap.size, 0, none⟩ = some (.int .i64 t.kind) := by rw [← hwa]; simp [go_sem]
  have n1 : wa.cell? ⟨w.heap.size, 1, none⟩ = some (.string ⟨t.text.toArray⟩) := by rw [← hwa]; simp [go_sem]
  have n2 : wa.cell? ⟨w.heap.size, 2, none⟩ = some (.slice a t.kids.length c) := by rw [← hwa]; simp [go_sem]
  have n3 : wa.cell? ⟨w.heap.size, 3, none⟩ = some (.int .i64 t.pos) := by rw [← hwa]; simp [go_sem]
  have zn : wa.frozen? ⟨w.heap.size, 1, none⟩ = false := by rw [← hwa]; simp [go_sem]
  have r0 : wa.cell? ⟨w.heap.size + 1, 0, none⟩ = some (.int .i64 0) := by rw [← hwa]; simp [go_sem]
  have r1 : wa.cell? ⟨w.heap.size + 1, 1, none⟩ = some (.string ⟨#[]⟩) := by rw [← hwa]; simp [go_sem]
  have r2 : wa.cell? ⟨w.heap.size + 1, 2, none⟩ = some (.slice none 0 0) := by rw [← hwa]; simp [go_sem]
  have r3 : wa.cell? ⟨w.heap.size + 1, 3, none⟩ = some (.int .i64 0) := by rw [← hwa]; simp [go_sem]
  have z0 : wa.frozen? ⟨w.heap.size + 1, 0, none⟩ = false := by rw [← hwa]; simp [go_sem]
  have z1 : wa.frozen? ⟨w.heap.size + 1, 1, none⟩ = false := by rw [← hwa]; simp [go_sem]
  have z2 : wa.frozen? ⟨w.heap.size + 1, 2, none⟩ = false := by rw [← hwa]; simp [go_sem]
  have z3 : wa.frozen? ⟨w.heap.size + 1, 3, none⟩ = false := by rw [← hwa]; simp [go_sem]
  have c0 := (hba.cell (p := ⟨n, 0, none⟩) (cell_lt h.1)).trans h.1
  have c1 := (hba.cell (p := ⟨n + 1, 0, none⟩) (cell_lt h.2)).trans h.2
  have ln := cell_lt h.1
  have ln1 := cell_lt h.2
  have lr := cell_lt r0
  have lw := cell_lt n0
  have HP := Lib.hid (show ∀ W6, Sets w.heap.size wa W6 → Below w.heap.size w W6 from fun W6 hs => sets_below hba hs)
  clear h hba
  cases heq : (t.text == s) with
  | false =>
    have hE : ren s u t = t := ren_none (by simpa using heq)
    rw [hE]
    clear hE
    go_enter Tryz.func19, Tryz.ntmps19
    go_wp2_with fail
    refine bodyPost_ret (v := .agg #[.int .i64 t.kind, .string ⟨t.text.toArray⟩, .slice a t.kids.length c, .int .i64 t.pos]) (by simp [results, Tryz.results19, go_sem, r0, r1, r2, r3, lr]) rfl ⟨rfl, ?_⟩
    exact HP.out _ (by repeat first | (with_reducible exact Sets.refl _ _) | (with_reducible refine Sets.set ?_ _ _ (by omega) _))
  | true =>
    have hE : ren s u t = .mk t.kind u t.kids t.pos := if_pos (by simpa using heq)
    rw [hE]
    show Calls _ _ _ _ fun e w' => e = .returned (.agg #[.int .i64 t.kind, .string ⟨u.toArray⟩, .slice a t.kids.length c, .int .i64 t.pos]) ∧ Below w.heap.size w w'
    clear hE
    go_enter Tryz.func19, Tryz.ntmps19
    go_wp2_with fail
    refine bodyPost_ret (v := .agg #[.int .i64 t.kind, .string ⟨u.toArray⟩, .slice a t.kids.length c, .int .i64 t.pos]) (by simp [results, Tryz.results19, go_sem, r0, r1, r2, r3, lr]) rfl ⟨rfl, ?_⟩
    exact HP.out _ (by repeat first | (with_reducible exact Sets.refl _ _) | (with_reducible refine Sets.set ?_ _ _ (by omega) _))

/-- The closure of Called. -/
theorem called_free (n nS : Nat) (s u : List UInt8) (hu : u.length ≤ 140737488351232) (hn : n + 1 < nS) :
    FreeC 19 #[.pointer (some ⟨n, 0, none⟩), .pointer (some ⟨n + 1, 0, none⟩)] (ren s u) none nS (CallSt n s u) where
  en := enters_of Tryz.func19 (by kernel_rfl) rfl
  on := fun l W W' h h1 h2 hb => ⟨(World.cell?_of_block (hb n (by omega))).trans h.1, (World.cell?_of_block (hb (n + 1) (by omega))).trans h.2⟩
  mine := fun l W h r e => by cases e
  call := fun l W t a c h h1 _ _ => (called1_any n s u t a c W h).mono fun e W' ⟨he, hb⟩ => ⟨he, gb none hb, ⟨(hb.cell (p := ⟨n, 0, none⟩) (cell_lt h.1)).trans h.1, (hb.cell (p := ⟨n + 1, 0, none⟩) (cell_lt h.2)).trans h.2⟩⟩
  kids := ren_kids s u
  fits := fun t c h => by
    obtain ⟨e1, e2, e3, e4, e5, e6⟩ := h
    refine ⟨by rw [ren_kind]; exact e1, by rw [ren_kind]; exact e2, ?_, ?_, ?_, by rw [ren_kids]; exact e6⟩
    · unfold ren; split <;> exact e3
    · unfold ren; split <;> exact e4
    · unfold ren; split
      · exact hu
      · exact e5

/-- The map of the names found so far, and its box. -/
def FreeSt (n : Nat) (l : List (List UInt8)) (W : World) : Prop := W.cell? ⟨n + 1, 0, none⟩ = some (.map (some n)) ∧ W.ownsMap Tryz.prog 9 (plainElem Tryz.prog 4) n l.length (bD l.reverse)
theorem ownsMap_block {W W' : World} {n k : Nat} {D : DataW Unit} (h : W.ownsMap Tryz.prog 9 (plainElem Tryz.prog 4) n k D) (hb : W'.heap[n]? = W.heap[n]?) : W'.ownsMap Tryz.prog 9 (plainElem Tryz.prog 4) n k D := by
  obtain ⟨es, clk, hh, hr⟩ := h
  exact ⟨es, clk, hb.trans hh, hr⟩
set_option maxRecDepth 100000 in
set_option maxHeartbeats 8000000 in
theorem free1_any (n : Nat) (l : List (List UInt8)) (t : Nd) (a : Option Addr) (c : Nat) (w : World) (h : FreeSt n l w) (hl : l.length < 1152921504606846976) (hf : Fits t c) :
    Calls Tryz.prog 22 #[.agg #[.int .i64 t.kind, .string ⟨t.text.toArray⟩, .slice a t.kids.length c, .int .i64 t.pos], .pointer (some ⟨n + 1, 0, none⟩)] w fun e w' => e = .returned (.agg #[.int .i64 t.kind, .string ⟨t.text.toArray⟩, .slice a t.kids.length c, .int .i64 t.pos]) ∧ w.grownBy w' (some n) ∧ FreeSt n (l ++ [t.text]) w' := by
  obtain ⟨wa, hwa⟩ : ∃ wa, (w.alloc (.cells #[.int .i64 t.kind, .string ⟨t.text.toArray⟩, .slice a t.kids.length c, .int .i64 t.pos] 25)).alloc (.cells #[.int .i64 0, .string ⟨#[]⟩, .slice none 0 0, .int .i64 0] 25) = wa := ⟨_, rfl⟩
  have hba : Below w.heap.size w wa := by rw [← hwa]; exact ((Below.refl _ _).alloc (Nat.le_refl _) _).alloc (by simp) _
  have n0 : wa.cell? ⟨w.heap.size, 0, none⟩ = some (.int .i64 t.kind) := by rw [← hwa]; simp [go_sem]
  have n1 : wa.cell? ⟨w.heap.size, 1, none⟩ = some (.string ⟨t.text.toArray⟩) := by rw [← hwa]; simp [go_sem]
  have n2 : wa.cell? ⟨w.heap.size, 2, none⟩ = some (.slice a t.kids.length c) := by rw [← hwa]; simp [go_sem]
  have n3 : wa.cell? ⟨w.heap.size, 3, none⟩ = some (.int .i64 t.pos) := by rw [← hwa]; simp [go_sem]
  have r0 : wa.cell? ⟨w.heap.size + 1, 0, none⟩ = some (.int .i64 0) := by rw [← hwa]; simp [go_sem]
  have r1 : wa.cell? ⟨w.heap.size + 1, 1, none⟩ = some (.string ⟨#[]⟩) := by rw [← hwa]; simp [go_sem]
  have r2 : wa.cell? ⟨w.heap.size + 1, 2, none⟩ = some (.slice none 0 0) := by rw [← hwa]; simp [go_sem]
  have r3 : wa.cell? ⟨w.heap.size + 1, 3, none⟩ = some (.int .i64 0) := by rw [← hwa]; simp [go_sem]
  have z0 : wa.frozen? ⟨w.heap.size + 1, 0, none⟩ = false := by rw [← hwa]; simp [go_sem]
  have z1 : wa.frozen? ⟨w.heap.size + 1, 1, none⟩ = false := by rw [← hwa]; simp [go_sem]
  have z2 : wa.frozen? ⟨w.heap.size + 1, 2, none⟩ = false := by rw [← hwa]; simp [go_sem]
  have z3 : wa.frozen? ⟨w.heap.size + 1, 3, none⟩ = false := by rw [← hwa]; simp [go_sem]
  have c1 := (hba.cell (p := ⟨n + 1, 0, none⟩) (cell_lt h.1)).trans h.1
  have hltn := h.2.lt
  have hown := ownsMap_block h.2 (hba.block n hltn)
  have ln1 := cell_lt h.1
  have hkey := key9 t.text (by have := hf.2.2.2.2.1; unfold maxLen; omega)
  have hnn : l.length < maxLen := by unfold maxLen; omega
  have HO := Lib.hid hown
  have HB := Lib.hid hba
  have HC := Lib.hid c1
  clear h hba hown hf hl
  go_enter Tryz.func22, Tryz.ntmps22
  go_wp2_with (first
    | (at_mapUpdate
       refine wpList_mapUpdate_own _ rfl _ _ _ 39 rfl 9 4 law9 undM _ n l.length _ rfl HO.out hnn _ _ _ rfl rfl hkey _ [] (plainElem_bool Tryz.underlying4 true) ?_
       intro w2 hown2 hgrow2
       have f0 : ∀ p : Addr, p.block = w.heap.size ∨ p.block = w.heap.size + 1 → some p.block ≠ some n := fun p hp e => by have e' : p.block = n := Option.some.inj e; omega
       have z0 := (hgrow2.frozen_far ⟨w.heap.size + 1, 0, none⟩ (cell_lt' r0) (f0 _ (.inr rfl))).trans z0
       have z1 := (hgrow2.frozen_far ⟨w.heap.size + 1, 1, none⟩ (cell_lt' r1) (f0 _ (.inr rfl))).trans z1
       have z2 := (hgrow2.frozen_far ⟨w.heap.size + 1, 2, none⟩ (cell_lt' r2) (f0 _ (.inr rfl))).trans z2
       have z3 := (hgrow2.frozen_far ⟨w.heap.size + 1, 3, none⟩ (cell_lt' r3) (f0 _ (.inr rfl))).trans z3
       have n0 := (hgrow2.cell_far ⟨w.heap.size, 0, none⟩ (cell_lt' n0) (f0 _ (.inl rfl))).trans n0
       have n1 := (hgrow2.cell_far ⟨w.heap.size, 1, none⟩ (cell_lt' n1) (f0 _ (.inl rfl))).trans n1
       have n2 := (hgrow2.cell_far ⟨w.heap.size, 2, none⟩ (cell_lt' n2) (f0 _ (.inl rfl))).trans n2
       have n3 := (hgrow2.cell_far ⟨w.heap.size, 3, none⟩ (cell_lt' n3) (f0 _ (.inl rfl))).trans n3
       have r0 := (hgrow2.cell_far ⟨w.heap.size + 1, 0, none⟩ (cell_lt' r0) (f0 _ (.inr rfl))).trans r0
       have r1 := (hgrow2.cell_far ⟨w.heap.size + 1, 1, none⟩ (cell_lt' r1) (f0 _ (.inr rfl))).trans r1
       have r2 := (hgrow2.cell_far ⟨w.heap.size + 1, 2, none⟩ (cell_lt' r2) (f0 _ (.inr rfl))).trans r2
       have r3 := (hgrow2.cell_far ⟨w.heap.size + 1, 3, none⟩ (cell_lt' r3) (f0 _ (.inr rfl))).trans r3
       have lr := cell_lt r0
       have HP := Lib.hid (show ∀ W6, Sets w.heap.size w2 W6 → w.grownBy W6 (some n) ∧ FreeSt n (l ++ [t.text]) W6 from fun W6 hs => by
         obtain ⟨o1, o2, o3, o4, o5⟩ := hs
         have hb := HB.out
         have hsz := hb.size
         have hsz2 := hgrow2.size
         refine ⟨⟨o1.trans (hgrow2.os.trans hb.os), o2.trans (hgrow2.tape.trans hb.tape), o3.trans (hgrow2.output.trans hb.output), by omega, fun k hk hne => (o5 k (.inl hk)).trans ((hgrow2.block k (by omega) hne).trans (hb.block k hk))⟩, ?_, ?_⟩
         · refine (World.cell?_of_block (o5 (n + 1) (.inl ln1))).trans ((hgrow2.cell_far ⟨n + 1, 0, none⟩ (cell_lt' HC.out) (fun e => by have e' : n + 1 = n := Option.some.inj e; omega)).trans HC.out)
         · rw [List.length_append, List.reverse_append]
           exact ownsMap_block hown2 (o5 n (.inl hltn)))
       clear hown2 hgrow2 f0))
  refine bodyPost_ret (v := .agg #[.int .i64 t.kind, .string ⟨t.text.toArray⟩, .slice a t.kids.length c, .int .i64 t.pos]) (by simp [results, Tryz.results22, go_sem, r0, r1, r2, r3, lr]) rfl ⟨rfl, ?_⟩
  exact HP.out _ (by repeat first | (with_reducible exact Sets.refl _ _) | (with_reducible refine Sets.set ?_ _ _ (by omega) _))

/-- The closure of Free. -/
theorem free_free (n nS : Nat) (hn : n + 1 < nS) : FreeC 22 #[.pointer (some ⟨n + 1, 0, none⟩)] id (some n) nS (FreeSt n) where
  en := enters_of Tryz.func22 (by kernel_rfl) rfl
  on := fun l W W' h h1 h2 hb => ⟨(World.cell?_of_block (hb (n + 1) (by omega))).trans h.1, ownsMap_block h.2 (hb n (by omega))⟩
  mine := fun l W h r e => by
    cases e
    obtain ⟨es, clk, hh, _⟩ := h.2
    exact ⟨by omega, _, hh, rfl⟩
  call := fun l W t a c h h1 h2 hf => free1_any n l t a c W h h2 hf
  kids := fun _ => rfl
  fits := fun _ _ h => h
end Go.Proofs.YtfcpblclfgkdjaaGreatDoor
