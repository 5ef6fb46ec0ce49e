/-
  ver.Path.
-/
import Derived.Test.YtgldnkpanimihaaDoorSeqB
import Derived.Laws.EntriesVeiled
namespace Go.Proofs.YtgldnkpanimihaaDoor
set_option linter.unusedSimpArgs false
set_option linter.unusedVariables false
open Go.RowKit Go.Shelf
attribute [local go_sem] Oper.semAt_some

theorem boxed_keep {A A' : World} {row : Option Nat} {B : Nat} {t : TypeId} {v : Value} (h : Boxed A B t v) (hg : A.grownBy A' row) (hr : ∀ r, row = some r → ∃ o : Obj, A.heap[r]? = some o ∧ o.isCells = false) : Boxed A' B t v :=
  h.kept hg (fun e => by obtain ⟨o, ho, hc⟩ := hr B e.symm; rw [show A.heap[B]? = _ from h] at ho; cases ho; cases hc)
theorem boxed_set {A : World} {B : Nat} {t : TypeId} {v : Value} (h : Boxed A B t v) {p : Addr} (u : Value) (hp : B ≠ p.block) : Boxed (A.setCell p u) B t v := (Below.heap_setCell A p u B hp).trans h
theorem Kx.box {own : Nat → Prop} {A A' : World} (k : Kx own A A') {B : Nat} {t : TypeId} {v : Value} (h : Boxed A B t v) (ho : ¬ own B) : Boxed A' B t v := k.same B _ ho h rfl

theorem KeepsOthers.of_below {A B : World} (h : Below A.heap.size A B) : KeepsOthers A B := ⟨h.size, fun k o hk _ => (h.block k (Array.getElem?_eq_some_iff.1 hk).1).trans hk⟩
/-- Is a text a path? -/
def pathL (s : List UInt8) : Bool := (splitL 47 s).all (allB mayI) && decide (s.length ≤ 200)

set_option maxRecDepth 100000 in
set_option maxHeartbeats 4000000 in
theorem path_any (s : List UInt8) (w : World) (hs : s.length ≤ 100000) :
    Calls Tryd.prog 13 #[.string ⟨s.toArray⟩] w fun e w' => e = .returned (.bool (pathL s)) ∧ Hid (Below w.heap.size w w') := by
  refine (callsIn_wide (n := 5)).1 ?_
  have h1 : 1 ≤ 5 := by omega
  have HALL := Lib.hid fun (l : List UInt8) (hl : l.length ≤ 100000) wa => all_any 22 (enters_of Tryd.func22 (by kernel_rfl) rfl) mayI (fun c h => mayI_lt h) may_any l wa (by omega)
  refine callsIn_of_wp_marks Tryd.func13 rfl trivial ?_ rfl
  simp only [Tryd.ntmps13, List.size_toArray, List.length_cons, List.length_nil, Nat.reduceAdd, Nat.reduceSub, Array.replicate_succ, Array.replicate_zero, List.push_toArray, List.append_toArray, List.nil_append, List.cons_append]
  gi_wp2_with (refine ⟨trivial, ?_⟩; gi_at_call 24; refine (callsIn_wide.2 (splitSeq_any s [47] _)).mono ?_; rintro e w' ⟨rfl, rfl⟩)
  obtain ⟨W5, hW5⟩ : ∃ W5, (((((w.alloc (.cells #[.bool false] 4)).alloc (.cells #[.func (.func 22) #[] #[]] 50)).alloc (.cells #[.string ⟨s.toArray⟩] 9)).alloc (.cells #[.string ⟨#[47]⟩] 9)).alloc (.cells #[.int .i64 0] 3)) = W5 := ⟨_, rfl⟩
  rw [hW5]
  have hsz : W5.heap.size = w.heap.size + 5 := by rw [← hW5]; simp
  have hb5 : Below w.heap.size w W5 := by rw [← hW5]; exact ((((((Below.refl _ w).alloc (Nat.le_refl _) _).alloc (by simp) _).alloc (by simp; omega) _).alloc (by simp; omega) _).alloc (by simp; omega) _)
  have x0 : Boxed W5 w.heap.size 4 (.bool false) := by rw [← hW5]; exact ((((Boxed.new w _ _).alloc _).alloc _).alloc _).alloc _
  have x1 : Boxed W5 (w.heap.size + 1) 50 (.func (.func 22) #[] #[]) := by
    rw [← hW5]; have := Boxed.new (w.alloc (.cells #[.bool false] 4)) 50 (.func (.func 22) #[] #[]); rw [World.size_alloc] at this; exact ((this.alloc _).alloc _).alloc _
  have x2 : Boxed W5 (w.heap.size + 1 + 1) 9 (.string ⟨s.toArray⟩) := by
    rw [← hW5]; have := Boxed.new ((w.alloc (.cells #[.bool false] 4)).alloc (.cells #[.func (.func 22) #[] #[]] 50)) 9 (.string ⟨s.toArray⟩); rw [World.size_alloc, World.size_alloc] at this; exact (this.alloc _).alloc _
  have x3 : Boxed W5 (w.heap.size + 1 + 1 + 1) 9 (.string ⟨#[47]⟩) := by
    rw [← hW5]; have := Boxed.new (((w.alloc (.cells #[.bool false] 4)).alloc (.cells #[.func (.func 22) #[] #[]] 50)).alloc (.cells #[.string ⟨s.toArray⟩] 9)) 9 (.string ⟨#[47]⟩); rw [World.size_alloc, World.size_alloc, World.size_alloc] at this; exact this.alloc _
  have x4 : Boxed W5 (w.heap.size + 1 + 1 + 2) 3 (.int .i64 0) := by
    rw [← hW5]; have := Boxed.new ((((w.alloc (.cells #[.bool false] 4)).alloc (.cells #[.func (.func 22) #[] #[]] 50)).alloc (.cells #[.string ⟨s.toArray⟩] 9)).alloc (.cells #[.string ⟨#[47]⟩] 9)) 3 (.int .i64 0); rw [World.size_alloc, World.size_alloc, World.size_alloc, World.size_alloc] at this; exact this
  clear hW5
  refine wpIn_rangeFunc_free rfl h1 (gf := 41) (lb := #[.pointer (some ⟨w.heap.size + 1 + 1 + 1, 0, none⟩), .pointer (some ⟨w.heap.size + 1 + 1, 0, none⟩), .pointer (some ⟨w.heap.size + 1 + 1 + 2, 0, none⟩)]) rfl trivial (enters_of Tryd.func41 (by kernel_rfl) rfl)
    (split_stops (5 - 1) (fun b => b = w.heap.size) (W5.heap.size + 2) 47 s hs _ _ _ W5 x2 x3 x4 (by omega) (by omega) (by omega) (by omega) (by omega))
    (fun _ _ _ _ _ _ _ _ => trivial) Ky.trans (fun W o o' h hc => Ky.put (by omega) h hc) (Below.refl _ _) (fun b hb => by subst hb; omega) (fun _ => rfl)
    (fun pre W => Boxed W w.heap.size 4 (.bool false) ∧ Boxed W (w.heap.size + 1) 50 (.func (.func 22) #[] #[]) ∧ Hid ((pre.map (·.1)).all (allB mayI) = true) ∧ Below w.heap.size w W)
    (fun c pre W => c = .ret ∧ Boxed W w.heap.size 4 (.bool false) ∧ Hid ((pre.map (·.1)).all (allB mayI) = false) ∧ Below w.heap.size w W)
    (fun s A B row hs hg hr => ⟨boxed_keep hs.1 hg (fun r e => (hr r e).2), boxed_keep hs.2.1 hg (fun r e => (hr r e).2), hs.2.2.1, hs.2.2.2.grown hg hs.2.2.2.size (fun k e => by have := (hr k e).1; omega)⟩)
    (fun c s A B row hs hg hr => ⟨hs.1, boxed_keep hs.2.1 hg (fun r e => (hr r e).2), hs.2.2.1, hs.2.2.2.grown hg hs.2.2.2.size (fun k e => by have := (hr k e).1; omega)⟩)
    (fun s W p v hs hp => ⟨boxed_set hs.1 v (by omega), boxed_set hs.2.1 v (by omega), hs.2.2.1, hs.2.2.2.setCell (by omega) _⟩)
    (fun c s W p v hs hp => ⟨hs.1, boxed_set hs.2.1 v (by omega), hs.2.2.1, hs.2.2.2.setCell (by omega) _⟩)
    ⟨x0, x1, Lib.hid rfl, hb5⟩
    (fun x => { tmps := #[.string ⟨s.toArray⟩, undef, .pointer (some ⟨w.heap.size, 0, none⟩), .pointer (some ⟨w.heap.size + 1, 0, none⟩), .string ⟨x.1.toArray⟩, .string ⟨s.toArray⟩,
      .func (.func 41) #[] #[.pointer (some ⟨w.heap.size + 1 + 1 + 1, 0, none⟩), .pointer (some ⟨w.heap.size + 1 + 1, 0, none⟩), .pointer (some ⟨w.heap.size + 1 + 1 + 2, 0, none⟩)], .string ⟨x.1.toArray⟩, undef, undef, undef, undef, undef, undef, undef], defers := [] }) ?assign ?body ?done ?stop
  case assign =>
    intro l x W K hK
    gi_wp2
    simpa [encP] using hK
  case body =>
    rintro l pre x W ⟨y0, y1, hok, hb⟩ hlen -
    have q1 := y1.cell
    have Y0 := Lib.hid y0
    have Y1 := Lib.hid y1
    have HB := Lib.hid hb
    have HS := Lib.hid hsz
    have HC0 := HALL.out x.1 x.2 W
    cases hx : allB mayI x.1 with
    | true =>
      rw [hx] at HC0
      have HC := Lib.hid HC0
      have HN := Lib.hid (show ((pre ++ [x]).map (·.1)).all (allB mayI) = true by rw [List.map_append, List.all_append, hok.out]; simp [hx])
      clear HC0 hx y0 y1 hb hsz x0 x1 x2 x3 x4 hb5 hlen
      gi_wp2_with (refine ⟨trivial, ?_⟩; gi_at_call 25; refine (CallsIn.inRound l (callsIn_wide.2 HC.out)).mono ?_; rintro e W2 ⟨rfl, h2⟩)
      exact ⟨(KeepsOthers.of_below h2.out).from _, Ky.below h2.out, (h2.out.block _ Y0.out.lt).trans Y0.out, (h2.out.block _ Y1.out.lt).trans Y1.out, HN, HB.out.trans (h2.out.mono HB.out.size)⟩
    | false =>
      rw [hx] at HC0
      have HC := Lib.hid (HC0.mono (R' := fun e w' => e = .returned (.bool false) ∧ w'.cell? ⟨w.heap.size, 0, none⟩ = some (.bool false) ∧ w'.frozen? ⟨w.heap.size, 0, none⟩ = false ∧ Hid (Below W.heap.size W w')) (fun e w' h => by
        have hbx : Boxed w' w.heap.size 4 (.bool false) := (h.2.out.block _ y0.lt).trans y0
        exact ⟨h.1, hbx.cell, hbx.frozen, h.2⟩))
      have HN := Lib.hid (show ((pre ++ [x]).map (·.1)).all (allB mayI) = false by rw [List.map_append, List.all_append]; simp [hx])
      clear HC0 hx y0 y1 hb hsz x0 x1 x2 x3 x4 hb5 hlen
      gi_wp2_with (refine ⟨trivial, ?_⟩; gi_at_call 25; refine (CallsIn.inRound l (callsIn_wide.2 HC.out)).mono ?_; rintro e W2 ⟨rfl, z0, z1, h2⟩)
      exact ⟨((KeepsOthers.of_below h2.out).trans (KeepsOthers.setCell _ _ _)).from _, (Ky.below h2.out).trans (Ky.cell _ rfl), rfl, Boxed.set _ ((h2.out.block _ Y0.out.lt).trans Y0.out), HN, (HB.out.trans (h2.out.mono HB.out.size)).setCell (Nat.le_refl _) _⟩
  case done =>
    rintro D xs W hD hx ⟨y0, y1, hok, hb⟩ hK
    have q0 := y0.cell
    have q0f := y0.frozen
    have HN := Lib.hid (show pathL s = decide (s.length ≤ 200) by unfold pathL; rw [← hx, hok.out]; rfl)
    clear hx hok
    gi_wp2
    have hw2 := Boxed.set (.bool (decide ((s.length : Int) ≤ 200))) y0
    have hK2 : (W.setCell ⟨w.heap.size, 0, none⟩ (.bool (decide ((s.length : Int) ≤ 200)))).heap[D]? = some (.deferred (some [])) := (Below.heap_setCell W ⟨w.heap.size, 0, none⟩ _ D (by show D ≠ w.heap.size; omega)).trans hK
    have hb2 : Below w.heap.size w (W.setCell ⟨w.heap.size, 0, none⟩ (.bool (decide ((s.length : Int) ≤ 200)))) := hb.setCell (Nat.le_refl _) _
    refine ⟨by simp, .inl ⟨_, _, rfl, run_takeDeferred hK2, ?_⟩⟩
    have hc : ((W.setCell ⟨w.heap.size, 0, none⟩ (.bool (decide ((s.length : Int) ≤ 200)))).putObj D (.deferred none)).cell? ⟨w.heap.size, 0, none⟩ = some (.bool (decide ((s.length : Int) ≤ 200))) :=
      Boxed.cell ((World.putObj_heap_other (by omega)).trans hw2)
    refine ⟨.bool (decide ((s.length : Int) ≤ 200)), by simp [results, Tryd.results13, go_sem, hc], ?_, Lib.hid (hb2.trans (belowK_b (w := w) (Nat.le_refl _) _ D _ _ (by omega) hK2 rfl rfl))⟩
    rw [HN.out]
    congr 2
    rw [decide_eq_decide]
    omega
  case stop =>
    rintro D c pre W hD hpre ⟨rfl, y0, hno, hb⟩ hK
    have HN := Lib.hid (show pathL s = false by
      obtain ⟨r, hr⟩ := hpre
      unfold pathL
      rw [← hr, List.all_append, hno.out]
      rfl)
    clear hpre hno
    gi_wp2
    refine ⟨by simp, .inl ⟨_, _, rfl, run_takeDeferred hK, ?_⟩⟩
    have hc : (W.putObj D (.deferred none)).cell? ⟨w.heap.size, 0, none⟩ = some (.bool false) := Boxed.cell ((World.putObj_heap_other (by omega)).trans y0)
    exact ⟨.bool false, by simp [results, Tryd.results13, go_sem, hc], by rw [HN.out], Lib.hid (hb.trans (belowK_b (w := w) (Nat.le_refl _) _ D _ _ (by omega) hK rfl rfl))⟩
end Go.Proofs.YtgldnkpanimihaaDoor
