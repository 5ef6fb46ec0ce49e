/-
  ver.Read.
-/
import Derived.Test.YtgldnkpanimihaaDoorVrE
namespace Go.Proofs.YtgldnkpanimihaaDoor
set_option linter.unusedSimpArgs false
set_option linter.unusedVariables false
open Go.RowKit Go.Shelf
attribute [local go_sem] Oper.semAt_some

/-- What is known of a go.mod so far: its path, its minor, how often a version was told. -/
structure St where
  path : List UInt8
  minor : Int
  many : Int
def st0 : St := ⟨[], 16, 0⟩
def stepR (s : St) (l : List (List UInt8)) : Option St :=
  match l with
  | [k, v] =>
    if k = [109, 111, 100, 117, 108, 101] then (if s.path ≠ [] ∨ pathL v = false then none else some { s with path := v })
    else if k = [103, 111] then (if (minorG v).2 ≠ 0 ∨ s.many ≠ 0 then none else some { s with minor := (minorG v).1, many := 1 })
    else if k = [116, 111, 111, 108, 99, 104, 97, 105, 110] then some s
    else none
  | _ => none
/-- What a go.mod says: its path, its minor, an error's number. -/
def readL (b : List UInt8) : List UInt8 × Int × Int :=
  match (linesOf (splitL 10 b)).foldlM stepR st0 with
  | none => ([], 0, 7)
  | some s => if s.path = [] then ([], 0, 7) else (s.path, s.minor, 0)

/-- A block of two cells. -/
def Pair (W : World) (B : Nat) (u v : Value) : Prop := W.heap[B]? = some (.cells #[u, v] 24 (0, 0))
theorem Pair.lt {W : World} {B : Nat} {u v : Value} (h : Pair W B u v) : B < W.heap.size := (Array.getElem?_eq_some_iff.1 h).1
theorem Pair.c0 {W : World} {B : Nat} {u v : Value} (h : Pair W B u v) : W.cell? ⟨B, 0, none⟩ = some u := by simp [World.cell?, show W.heap[B]? = _ from h]
theorem Pair.c1 {W : World} {B : Nat} {u v : Value} (h : Pair W B u v) : W.cell? ⟨B, 1, none⟩ = some v := by simp [World.cell?, show W.heap[B]? = _ from h]
theorem Pair.f0 {W : World} {B : Nat} {u v : Value} (h : Pair W B u v) : W.frozen? ⟨B, 0, none⟩ = false := by simp [World.frozen?, show W.heap[B]? = _ from h]
theorem Pair.f1 {W : World} {B : Nat} {u v : Value} (h : Pair W B u v) : W.frozen? ⟨B, 1, none⟩ = false := by simp [World.frozen?, show W.heap[B]? = _ from h]
theorem Pair.set0 {W : World} {B : Nat} {u v : Value} (u' : Value) (h : Pair W B u v) : Pair (W.setCell ⟨B, 0, none⟩ u') B u' v := by
  obtain ⟨hlt, hk⟩ := Array.getElem?_eq_some_iff.1 h
  show (W.heap.modify B _)[B]? = _
  rw [Array.getElem?_eq_getElem (by rw [Array.size_modify]; exact hlt), Array.getElem_modify_self, hk]
  rfl
theorem Pair.set1 {W : World} {B : Nat} {u v : Value} (v' : Value) (h : Pair W B u v) : Pair (W.setCell ⟨B, 1, none⟩ v') B u v' := by
  obtain ⟨hlt, hk⟩ := Array.getElem?_eq_some_iff.1 h
  show (W.heap.modify B _)[B]? = _
  rw [Array.getElem?_eq_getElem (by rw [Array.size_modify]; exact hlt), Array.getElem_modify_self, hk]
  rfl
theorem Pair.new (W : World) (u v : Value) : Pair (W.alloc (.cells #[u, v] 24)) W.heap.size u v := World.alloc_heap_new W _
theorem Pair.alloc {W : World} {B : Nat} {u v : Value} (h : Pair W B u v) (o : Obj) : Pair (W.alloc o) B u v := (Below.heap_alloc W o B h.lt).trans h
theorem Pair.below {W W' : World} {B : Nat} {u v : Value} (h : Pair W B u v) (hb : Below W.heap.size W W') : Pair W' B u v := (hb.block _ h.lt).trans h
theorem Pair.other {W : World} {B : Nat} {u v : Value} (h : Pair W B u v) {p : Addr} (x : Value) (hp : B ≠ p.block) : Pair (W.setCell p x) B u v := (Below.heap_setCell W p x B hp).trans h
theorem Pair.keep {A A' : World} {row : Option Nat} {B : Nat} {u v : Value} (h : Pair A B u v) (hg : A.grownBy A' row) (hr : ∀ r, row = some r → ∃ o : Obj, A.heap[r]? = some o ∧ o.isCells = false) : Pair A' B u v :=
  (hg.block B h.lt (fun e => by obtain ⟨o, ho, hc⟩ := hr B e.symm; rw [show A.heap[B]? = _ from h] at ho; cases ho; cases hc)).trans h
theorem boxed_below {W W' : World} {B : Nat} {t : TypeId} {v : Value} (h : Boxed W B t v) (hb : Below W.heap.size W W') : Boxed W' B t v := (hb.block _ h.lt).trans h

def ReadPost (r : List UInt8 × Int × Int) (w : World) (e : Ending) (w' : World) : Prop := e = .returned (.tuple #[.agg #[.string ⟨r.1.toArray⟩, .int .i64 r.2.1], .int .i64 r.2.2]) ∧ Hid (Below w.heap.size w w')

set_option maxRecDepth 100000 in
set_option maxHeartbeats 8000000 in
theorem read_any (b : List UInt8) (a : Option Addr) (c : Nat) (w : World) (hE : Env w) (hba : BAt w a b) (hl : b.length ≤ 65536) :
    Calls Tryd.prog 10 #[.slice a b.length c] w (ReadPost (readL b) w) := by
  refine (callsIn_wide (n := 9)).1 ?_
  have h1 : 1 ≤ 9 := by omega
  refine callsIn_of_wp_marks Tryd.func10 rfl trivial ?_ rfl
  simp only [Tryd.ntmps10, List.size_toArray, List.length_cons, List.length_nil, Nat.reduceAdd, Nat.reduceSub, Array.replicate_succ, Array.replicate_zero, List.push_toArray, List.append_toArray, List.nil_append, List.cons_append]
  gi_wp2_with (refine ⟨trivial, ?_⟩; gi_at_call 20; refine (callsIn_wide.2 (lines_any _ a b.length c _ rfl)).mono ?_; rintro e w' ⟨rfl, rfl⟩)
  obtain ⟨W5, hW5⟩ : ∃ W5, (((((w.alloc (.cells #[.string ⟨#[]⟩, .int .i64 0] 24)).alloc (.cells #[.int .i64 0] 25)).alloc (.cells #[.string ⟨#[]⟩, .int .i64 16] 24)).alloc (.cells #[.int .i64 0] 3)).alloc (.cells #[.slice a b.length c] 22)) = W5 := ⟨_, rfl⟩
  rw [hW5]
  have hsz : W5.heap.size = w.heap.size + 5 := by rw [← hW5]; simp
  have hb5 : Below w.heap.size w W5 := by rw [← hW5]; exact ((((((Below.refl _ w).alloc (Nat.le_refl _) _).alloc (by simp) _).alloc (by simp; omega) _).alloc (by simp; omega) _).alloc (by simp; omega) _)
  have x2 : Pair W5 (w.heap.size) (.string ⟨#[]⟩) (.int .i64 0) := by rw [← hW5]; exact ((((Pair.new w _ _).alloc _).alloc _).alloc _).alloc _
  have x3 : Boxed W5 (w.heap.size + 1) 25 (.int .i64 0) := by
    rw [← hW5]; have := Boxed.new (w.alloc (.cells #[.string ⟨#[]⟩, .int .i64 0] 24)) 25 (.int .i64 0); rw [World.size_alloc] at this; exact ((this.alloc _).alloc _).alloc _
  have x4 : Pair W5 (w.heap.size + 1 + 1) (.string ⟨#[]⟩) (.int .i64 16) := by
    rw [← hW5]; have := Pair.new ((w.alloc (.cells #[.string ⟨#[]⟩, .int .i64 0] 24)).alloc (.cells #[.int .i64 0] 25)) (.string ⟨#[]⟩) (.int .i64 16); rw [World.size_alloc, World.size_alloc] at this; exact (this.alloc _).alloc _
  have x5 : Boxed W5 (w.heap.size + 1 + 1 + 1) 3 (.int .i64 0) := by
    rw [← hW5]; have := Boxed.new (((w.alloc (.cells #[.string ⟨#[]⟩, .int .i64 0] 24)).alloc (.cells #[.int .i64 0] 25)).alloc (.cells #[.string ⟨#[]⟩, .int .i64 16] 24)) 3 (.int .i64 0); rw [World.size_alloc, World.size_alloc, World.size_alloc] at this; exact this.alloc _
  have x6 : Boxed W5 (w.heap.size + 1 + 1 + 1 + 1) 22 (.slice a b.length c) := by
    rw [← hW5]; have := Boxed.new ((((w.alloc (.cells #[.string ⟨#[]⟩, .int .i64 0] 24)).alloc (.cells #[.int .i64 0] 25)).alloc (.cells #[.string ⟨#[]⟩, .int .i64 16] 24)).alloc (.cells #[.int .i64 0] 3)) 22 (.slice a b.length c); rw [World.size_alloc, World.size_alloc, World.size_alloc, World.size_alloc] at this; exact this
  have HE := Lib.hid hE
  clear hW5
  have hown : ∀ k, (w.heap.size ≤ k ∧ k < w.heap.size + 4) → w.heap.size ≤ k ∧ k < W5.heap.size := fun k h => ⟨h.1, by omega⟩
  refine wpIn_rangeFunc_free rfl h1 (gf := 31) (lb := #[.pointer (some ⟨w.heap.size + 1 + 1 + 1 + 1, 0, none⟩)]) rfl trivial (enters_of Tryd.func31 (by kernel_rfl) rfl)
    (lines1_stops (9 - 1) (by omega) (fun k => w.heap.size ≤ k ∧ k < w.heap.size + 4) b (by omega) _ a c w W5 hE hb5 hown x6 (hba.on hb5))
    (fun x A l o o' h ho hc => h.put o' ho hc) Ky.trans (fun A o o' h hc => Ky.put (by omega) h hc) (Below.refl _ _) (fun k hk => hk.elim) (fun _ => rfl)
    (fun pre A => ∃ st : St, Hid ((pre.map (·.1.1)).foldlM stepR st0 = some st) ∧ Pair A (w.heap.size) (.string ⟨#[]⟩) (.int .i64 0) ∧ Boxed A (w.heap.size + 1) 25 (.int .i64 0) ∧ Pair A (w.heap.size + 1 + 1) (.string ⟨st.path.toArray⟩) (.int .i64 st.minor) ∧ Boxed A (w.heap.size + 1 + 1 + 1) 3 (.int .i64 st.many) ∧ (st.many = 0 ∨ st.many = 1) ∧ Below w.heap.size w A)
    (fun c pre A => c = .ret ∧ Pair A (w.heap.size) (.string ⟨#[]⟩) (.int .i64 0) ∧ Boxed A (w.heap.size + 1) 25 (.int .i64 7) ∧ Hid ((pre.map (·.1.1)).foldlM stepR st0 = none) ∧ Below w.heap.size w A)
    (fun s A B row ⟨st, h0, h2, h3, h4, h5, hm, hb⟩ hg hr => ⟨st, h0, h2.keep hg (fun r e => (hr r e).2), boxed_keep h3 hg (fun r e => (hr r e).2), h4.keep hg (fun r e => (hr r e).2), boxed_keep h5 hg (fun r e => (hr r e).2), hm, hb.grown hg hb.size (fun k e => by have := (hr k e).1; omega)⟩)
    (fun c s A B row ⟨h0, h2, h3, h4, hb⟩ hg hr => ⟨h0, h2.keep hg (fun r e => (hr r e).2), boxed_keep h3 hg (fun r e => (hr r e).2), h4, hb.grown hg hb.size (fun k e => by have := (hr k e).1; omega)⟩)
    (fun s A p v ⟨st, h0, h2, h3, h4, h5, hm, hb⟩ hq => by
      have hq : W5.heap.size ≤ p.block := hq.elim (fun h => h.elim) id
      exact ⟨st, h0, h2.other v (by omega), boxed_set h3 v (by omega), h4.other v (by omega), boxed_set h5 v (by omega), hm, hb.setCell (by omega) v⟩)
    (fun c s A p v ⟨h0, h2, h3, h4, hb⟩ hq => by
      have hq : W5.heap.size ≤ p.block := hq.elim (fun h => h.elim) id
      exact ⟨h0, h2.other v (by omega), boxed_set h3 v (by omega), h4, hb.setCell (by omega) v⟩)
    ⟨st0, Lib.hid rfl, x2, x3, x4, x5, .inl rfl, hb5⟩
    (fun x => { tmps := #[.slice a b.length c, undef, .pointer (some ⟨w.heap.size, 0, none⟩), .pointer (some ⟨w.heap.size + 1, 0, none⟩), .pointer (some ⟨w.heap.size + 1 + 1, 0, none⟩), .pointer (some ⟨w.heap.size + 1 + 1 + 1, 0, none⟩), .slice (some ⟨x.1.2, 0, none⟩) x.1.1.length x.1.1.length, undef, undef, .slice a b.length c, .int .i64 b.length, .bool (decide (65536 < (b.length : Int))), undef, .agg #[.string ⟨#[]⟩, .int .i64 16], .slice a b.length c, .func (.func 31) #[] #[.pointer (some ⟨w.heap.size + 1 + 1 + 1 + 1, 0, none⟩)], .slice (some ⟨x.1.2, 0, none⟩) x.1.1.length x.1.1.length, undef, undef, undef, undef, undef, undef, undef, undef, undef, undef, undef, undef, undef, undef, undef, undef, undef, undef, undef, undef, undef, undef, undef, undef, undef, undef, undef, undef, undef, undef, undef, undef, undef, undef, undef, undef, undef, undef, undef, undef, undef, undef, undef, undef, undef, undef, undef, undef, undef, undef, undef, undef], defers := [] }) ?assign ?body ?done ?stop
  case assign =>
    intro l x W K hK
    gi_wp2
    simpa [encL] using hK
  case body =>
    rintro l' pre ⟨⟨ws, AA⟩, hws⟩ A ⟨st, h0, h2, h3, h4, h5, hm, hb⟩ hlen hat
    have HS5 := Lib.hid hsz
    have HB := Lib.hid hb
    have HP2 := Lib.hid h2
    have HP3 := Lib.hid h3
    have HP4 := Lib.hid h4
    have HP5 := Lib.hid h5
    have q20 := h2.c0
    have q21 := h2.c1
    have f20 := h2.f0
    have f21 := h2.f1
    have q3 := h3.cell
    have f3 := h3.frozen
    have HEA := Lib.hid (HE.out.on hb)
    have HNX := Lib.hid (show ((pre ++ [(⟨(ws, AA), hws⟩ : Ln)]).map (·.1.1)).foldlM stepR st0 = stepR st ws by rw [List.map_append, List.foldlM_append, h0.out]; simp)
    have hat : Texts A AA ws := hat
    have l2 : w.heap.size + 1 + 1 + 1 < A.heap.size := h5.lt
    obtain ⟨pth, mnr, mny⟩ := st
    dsimp only at h4 h5 hm HP4 HP5
    by_cases h2l : ws.length = 2
    · obtain ⟨k, v, rfl⟩ : ∃ k v, ws = [k, v] := by
        match ws, h2l with
        | [k, v], _ => exact ⟨k, v, rfl⟩
      have c0 : A.cell? ⟨AA, 0, none⟩ = some (.string ⟨k.toArray⟩) := hat 0 (by simp)
      have c1 : A.cell? ⟨AA, 1, none⟩ = some (.string ⟨v.toArray⟩) := hat 1 (by simp)
      have hv : v.length ≤ 100000 := hws v (by simp)
      have HV := Lib.hid hv
      have q40 := h4.c0
      have q41 := h4.c1
      have f40 := h4.f0
      have f41 := h4.f1
      have q5 := h5.cell
      have f5 := h5.frozen
      clear h0 h2 h3 h4 h5 hlen hat hsz x2 x3 x4 x5 x6 hown h2l hba hb5
      by_cases km : k = [109, 111, 100, 117, 108, 101]
      · subst km
        clear q5 f5
        cases pth with
        | cons p0 pt =>
          have hpe : ((p0 :: pt) == ([] : List UInt8)) = false := by simp
          have HN := Lib.hid (show stepR ⟨p0 :: pt, mnr, mny⟩ [[109, 111, 100, 117, 108, 101], v] = none by simp [stepR])
          clear q41 f40 f41
          gi_wp2
          refine ⟨trivial, ?_⟩
          gi_wp2
          have g2 := HP2.out
          have g3 := HP3.out
          have g4 := HP4.out
          have g5 := HP5.out
          have hs5 := HS5.out
          have hky : Ky (fun k => w.heap.size ≤ k ∧ k < w.heap.size + 4) W5.heap.size A (World.setCell (World.setCell (World.setCell A ⟨w.heap.size, 0, none⟩ (.string ⟨#[]⟩)) ⟨w.heap.size, 1, none⟩ (.int .i64 0)) ⟨w.heap.size + 1, 0, none⟩ (.int .i64 7)) := (((Ky.cell (own := fun k => w.heap.size ≤ k ∧ k < w.heap.size + 4) (B := W5.heap.size) (X := A) (p := ⟨w.heap.size, 0, none⟩) (.string ⟨#[]⟩) ⟨by dsimp only; omega, by dsimp only; omega⟩).trans (Ky.cell (own := fun k => w.heap.size ≤ k ∧ k < w.heap.size + 4) (B := W5.heap.size) (X := (World.setCell A ⟨w.heap.size, 0, none⟩ (.string ⟨#[]⟩))) (p := ⟨w.heap.size, 1, none⟩) (.int .i64 0) ⟨by dsimp only; omega, by dsimp only; omega⟩)).trans (Ky.cell (own := fun k => w.heap.size ≤ k ∧ k < w.heap.size + 4) (B := W5.heap.size) (X := (World.setCell (World.setCell A ⟨w.heap.size, 0, none⟩ (.string ⟨#[]⟩)) ⟨w.heap.size, 1, none⟩ (.int .i64 0))) (p := ⟨w.heap.size + 1, 0, none⟩) (.int .i64 7) ⟨by dsimp only; omega, by dsimp only; omega⟩))
          exact ⟨hky.2, hky.less (by omega), rfl, (((g2.set0 (.string ⟨#[]⟩)).set1 (.int .i64 0)).other (p := ⟨w.heap.size + 1, 0, none⟩) (.int .i64 7) (by dsimp only; omega)), (Boxed.set (.int .i64 7) (boxed_set (boxed_set g3 (p := ⟨w.heap.size, 0, none⟩) (.string ⟨#[]⟩) (by dsimp only; omega)) (p := ⟨w.heap.size, 1, none⟩) (.int .i64 0) (by dsimp only; omega))), Lib.hid (HNX.out.trans HN.out), (((HB.out.setCell (p := ⟨w.heap.size, 0, none⟩) (by dsimp only; omega) (.string ⟨#[]⟩)).setCell (p := ⟨w.heap.size, 1, none⟩) (by dsimp only; omega) (.int .i64 0)).setCell (p := ⟨w.heap.size + 1, 0, none⟩) (by dsimp only; omega) (.int .i64 7))⟩
        | nil =>
          cases hpv : pathL v with
          | false =>
            have HN := Lib.hid (show stepR ⟨[], mnr, mny⟩ [[109, 111, 100, 117, 108, 101], v] = none by simp [stepR, hpv])
            have HCP := path_any v A hv
            rw [hpv] at HCP
            have HC := Lib.hid ((HCP).mono (R' := fun e w' => e = .returned (.bool false) ∧ Hid (Below A.heap.size A w') ∧ w'.cell? ⟨w.heap.size, 0, none⟩ = some (.string ⟨#[]⟩) ∧ w'.cell? ⟨w.heap.size, 1, none⟩ = some (.int .i64 0) ∧ w'.frozen? ⟨w.heap.size, 0, none⟩ = false ∧ w'.frozen? ⟨w.heap.size, 1, none⟩ = false ∧ w'.cell? ⟨w.heap.size + 1, 0, none⟩ = some (.int .i64 0) ∧ w'.frozen? ⟨w.heap.size + 1, 0, none⟩ = false ∧ w'.cell? ⟨w.heap.size + 1 + 1, 0, none⟩ = some (.string ⟨([] : List UInt8).toArray⟩) ∧ w'.cell? ⟨w.heap.size + 1 + 1, 1, none⟩ = some (.int .i64 mnr) ∧ w'.frozen? ⟨w.heap.size + 1 + 1, 0, none⟩ = false ∧ w'.frozen? ⟨w.heap.size + 1 + 1, 1, none⟩ = false ∧ w'.cell? ⟨w.heap.size + 1 + 1 + 1, 0, none⟩ = some (.int .i64 mny) ∧ w'.frozen? ⟨w.heap.size + 1 + 1 + 1, 0, none⟩ = false ∧ w'.cell? ⟨AA, 1, none⟩ = some (.string ⟨v.toArray⟩)) (fun e w' hh => by
              have h9 := hh.2
              have hb2 := hh.2.out
              have g2 := HP2.out.below hb2
              have g3 := boxed_below HP3.out hb2
              have g4 := HP4.out.below hb2
              have g5 := boxed_below HP5.out hb2
              exact ⟨hh.1, h9, g2.c0, g2.c1, g2.f0, g2.f1, g3.cell, g3.frozen, g4.c0, g4.c1, g4.f0, g4.f1, g5.cell, g5.frozen, (h9.out.cell (cell_lt0 c1)).trans c1⟩))
            clear hpv HCP q41 f40 f41
            gi_wp2_with (refine ⟨trivial, ?_⟩; gi_at_call 13; refine (CallsIn.inRound l' (callsIn_wide.2 HC.out)).mono ?_; rintro e A2 ⟨rfl, h9, y1, y2, y3, y4, y5, y6, y7, y8, y9, y10, y11, y12, y13⟩)
            have hb2 := h9.out
            have g2 := HP2.out.below hb2
            have g3 := boxed_below HP3.out hb2
            have g4 := HP4.out.below hb2
            have g5 := boxed_below HP5.out hb2
            have hs5 := HS5.out
            have hky : Ky (fun k => w.heap.size ≤ k ∧ k < w.heap.size + 4) W5.heap.size A (World.setCell (World.setCell (World.setCell A2 ⟨w.heap.size, 0, none⟩ (.string ⟨#[]⟩)) ⟨w.heap.size, 1, none⟩ (.int .i64 0)) ⟨w.heap.size + 1, 0, none⟩ (.int .i64 7)) := ((((Ky.below (own := fun k => w.heap.size ≤ k ∧ k < w.heap.size + 4) (B := W5.heap.size) hb2).trans (Ky.cell (own := fun k => w.heap.size ≤ k ∧ k < w.heap.size + 4) (B := W5.heap.size) (X := A2) (p := ⟨w.heap.size, 0, none⟩) (.string ⟨#[]⟩) ⟨by dsimp only; omega, by dsimp only; omega⟩)).trans (Ky.cell (own := fun k => w.heap.size ≤ k ∧ k < w.heap.size + 4) (B := W5.heap.size) (X := (World.setCell A2 ⟨w.heap.size, 0, none⟩ (.string ⟨#[]⟩))) (p := ⟨w.heap.size, 1, none⟩) (.int .i64 0) ⟨by dsimp only; omega, by dsimp only; omega⟩)).trans (Ky.cell (own := fun k => w.heap.size ≤ k ∧ k < w.heap.size + 4) (B := W5.heap.size) (X := (World.setCell (World.setCell A2 ⟨w.heap.size, 0, none⟩ (.string ⟨#[]⟩)) ⟨w.heap.size, 1, none⟩ (.int .i64 0))) (p := ⟨w.heap.size + 1, 0, none⟩) (.int .i64 7) ⟨by dsimp only; omega, by dsimp only; omega⟩))
            exact ⟨hky.2, hky.less (by omega), rfl, (((g2.set0 (.string ⟨#[]⟩)).set1 (.int .i64 0)).other (p := ⟨w.heap.size + 1, 0, none⟩) (.int .i64 7) (by dsimp only; omega)), (Boxed.set (.int .i64 7) (boxed_set (boxed_set g3 (p := ⟨w.heap.size, 0, none⟩) (.string ⟨#[]⟩) (by dsimp only; omega)) (p := ⟨w.heap.size, 1, none⟩) (.int .i64 0) (by dsimp only; omega))), Lib.hid (HNX.out.trans HN.out), ((((HB.out.trans (hb2.mono HB.out.size)).setCell (p := ⟨w.heap.size, 0, none⟩) (by dsimp only; omega) (.string ⟨#[]⟩)).setCell (p := ⟨w.heap.size, 1, none⟩) (by dsimp only; omega) (.int .i64 0)).setCell (p := ⟨w.heap.size + 1, 0, none⟩) (by dsimp only; omega) (.int .i64 7))⟩
          | true =>
            have HN := Lib.hid (show stepR ⟨[], mnr, mny⟩ [[109, 111, 100, 117, 108, 101], v] = some ⟨v, mnr, mny⟩ by simp [stepR, hpv])
            have HCP := path_any v A hv
            rw [hpv] at HCP
            have HC := Lib.hid ((HCP).mono (R' := fun e w' => e = .returned (.bool true) ∧ Hid (Below A.heap.size A w') ∧ w'.cell? ⟨w.heap.size, 0, none⟩ = some (.string ⟨#[]⟩) ∧ w'.cell? ⟨w.heap.size, 1, none⟩ = some (.int .i64 0) ∧ w'.frozen? ⟨w.heap.size, 0, none⟩ = false ∧ w'.frozen? ⟨w.heap.size, 1, none⟩ = false ∧ w'.cell? ⟨w.heap.size + 1, 0, none⟩ = some (.int .i64 0) ∧ w'.frozen? ⟨w.heap.size + 1, 0, none⟩ = false ∧ w'.cell? ⟨w.heap.size + 1 + 1, 0, none⟩ = some (.string ⟨([] : List UInt8).toArray⟩) ∧ w'.cell? ⟨w.heap.size + 1 + 1, 1, none⟩ = some (.int .i64 mnr) ∧ w'.frozen? ⟨w.heap.size + 1 + 1, 0, none⟩ = false ∧ w'.frozen? ⟨w.heap.size + 1 + 1, 1, none⟩ = false ∧ w'.cell? ⟨w.heap.size + 1 + 1 + 1, 0, none⟩ = some (.int .i64 mny) ∧ w'.frozen? ⟨w.heap.size + 1 + 1 + 1, 0, none⟩ = false ∧ w'.cell? ⟨AA, 1, none⟩ = some (.string ⟨v.toArray⟩)) (fun e w' hh => by
              have h9 := hh.2
              have hb2 := hh.2.out
              have g2 := HP2.out.below hb2
              have g3 := boxed_below HP3.out hb2
              have g4 := HP4.out.below hb2
              have g5 := boxed_below HP5.out hb2
              exact ⟨hh.1, h9, g2.c0, g2.c1, g2.f0, g2.f1, g3.cell, g3.frozen, g4.c0, g4.c1, g4.f0, g4.f1, g5.cell, g5.frozen, (h9.out.cell (cell_lt0 c1)).trans c1⟩))
            clear hpv HCP q41 f40 f41
            gi_wp2_with (refine ⟨trivial, ?_⟩; gi_at_call 13; refine (CallsIn.inRound l' (callsIn_wide.2 HC.out)).mono ?_; rintro e A2 ⟨rfl, h9, y1, y2, y3, y4, y5, y6, y7, y8, y9, y10, y11, y12, y13⟩)
            have hb2 := h9.out
            have g2 := HP2.out.below hb2
            have g3 := boxed_below HP3.out hb2
            have g4 := HP4.out.below hb2
            have g5 := boxed_below HP5.out hb2
            have hs5 := HS5.out
            have hky : Ky (fun k => w.heap.size ≤ k ∧ k < w.heap.size + 4) W5.heap.size A (World.setCell A2 ⟨w.heap.size + 1 + 1, 0, none⟩ (.string ⟨v.toArray⟩)) := ((Ky.below (own := fun k => w.heap.size ≤ k ∧ k < w.heap.size + 4) (B := W5.heap.size) hb2).trans (Ky.cell (own := fun k => w.heap.size ≤ k ∧ k < w.heap.size + 4) (B := W5.heap.size) (X := A2) (p := ⟨w.heap.size + 1 + 1, 0, none⟩) (.string ⟨v.toArray⟩) ⟨by dsimp only; omega, by dsimp only; omega⟩))
            exact ⟨hky.2, hky.less (by omega), ⟨v, mnr, mny⟩, Lib.hid (HNX.out.trans HN.out), (g2.other (p := ⟨w.heap.size + 1 + 1, 0, none⟩) (.string ⟨v.toArray⟩) (by dsimp only; omega)), (boxed_set g3 (p := ⟨w.heap.size + 1 + 1, 0, none⟩) (.string ⟨v.toArray⟩) (by dsimp only; omega)), (g4.set0 (.string ⟨v.toArray⟩)), (boxed_set g5 (p := ⟨w.heap.size + 1 + 1, 0, none⟩) (.string ⟨v.toArray⟩) (by dsimp only; omega)), hm, ((HB.out.trans (hb2.mono HB.out.size)).setCell (p := ⟨w.heap.size + 1 + 1, 0, none⟩) (by dsimp only; omega) (.string ⟨v.toArray⟩))⟩
      · have km1 : (k == [109, 111, 100, 117, 108, 101]) = false := by simpa using km
        by_cases kg : k = [103, 111]
        · subst kg
          clear km1 km q40 f40
          have HM := minor_any v A HEA.out hv
          unfold MinPost at HM
          obtain ⟨⟨nn, ee⟩, hne⟩ : ∃ r, minorG v = r := ⟨_, rfl⟩
          rw [hne] at HM
          dsimp only at HM
          rcases hm with rfl | rfl
          · by_cases hee : ee = 0
            · subst hee
              have HN := Lib.hid (show stepR ⟨pth, mnr, 0⟩ [[103, 111], v] = some ⟨pth, nn, 1⟩ by simp [stepR, hne])
              have HC := Lib.hid ((HM).mono (R' := fun e w' => e = .returned (.tuple #[.int .i64 nn, .int .i64 0]) ∧ Hid (Below A.heap.size A w') ∧ w'.cell? ⟨w.heap.size, 0, none⟩ = some (.string ⟨#[]⟩) ∧ w'.cell? ⟨w.heap.size, 1, none⟩ = some (.int .i64 0) ∧ w'.frozen? ⟨w.heap.size, 0, none⟩ = false ∧ w'.frozen? ⟨w.heap.size, 1, none⟩ = false ∧ w'.cell? ⟨w.heap.size + 1, 0, none⟩ = some (.int .i64 0) ∧ w'.frozen? ⟨w.heap.size + 1, 0, none⟩ = false ∧ w'.cell? ⟨w.heap.size + 1 + 1, 0, none⟩ = some (.string ⟨pth.toArray⟩) ∧ w'.cell? ⟨w.heap.size + 1 + 1, 1, none⟩ = some (.int .i64 mnr) ∧ w'.frozen? ⟨w.heap.size + 1 + 1, 0, none⟩ = false ∧ w'.frozen? ⟨w.heap.size + 1 + 1, 1, none⟩ = false ∧ w'.cell? ⟨w.heap.size + 1 + 1 + 1, 0, none⟩ = some (.int .i64 0) ∧ w'.frozen? ⟨w.heap.size + 1 + 1 + 1, 0, none⟩ = false ∧ w'.cell? ⟨AA, 1, none⟩ = some (.string ⟨v.toArray⟩)) (fun e w' hh => by
                have h9 := hh.2
                have hb2 := hh.2.out
                have g2 := HP2.out.below hb2
                have g3 := boxed_below HP3.out hb2
                have g4 := HP4.out.below hb2
                have g5 := boxed_below HP5.out hb2
                exact ⟨hh.1, h9, g2.c0, g2.c1, g2.f0, g2.f1, g3.cell, g3.frozen, g4.c0, g4.c1, g4.f0, g4.f1, g5.cell, g5.frozen, (h9.out.cell (cell_lt0 c1)).trans c1⟩))
              clear hne HM
              gi_wp2_with (refine ⟨trivial, ?_⟩; gi_at_call 14; refine (CallsIn.inRound l' (callsIn_wide.2 HC.out)).mono ?_; rintro e A2 ⟨rfl, h9, y1, y2, y3, y4, y5, y6, y7, y8, y9, y10, y11, y12, y13⟩)
              have hb2 := h9.out
              have g2 := HP2.out.below hb2
              have g3 := boxed_below HP3.out hb2
              have g4 := HP4.out.below hb2
              have g5 := boxed_below HP5.out hb2
              have hs5 := HS5.out
              have hky : Ky (fun k => w.heap.size ≤ k ∧ k < w.heap.size + 4) W5.heap.size A (World.setCell (World.setCell A2 ⟨w.heap.size + 1 + 1 + 1, 0, none⟩ (.int .i64 1)) ⟨w.heap.size + 1 + 1, 1, none⟩ (.int .i64 nn)) := (((Ky.below (own := fun k => w.heap.size ≤ k ∧ k < w.heap.size + 4) (B := W5.heap.size) hb2).trans (Ky.cell (own := fun k => w.heap.size ≤ k ∧ k < w.heap.size + 4) (B := W5.heap.size) (X := A2) (p := ⟨w.heap.size + 1 + 1 + 1, 0, none⟩) (.int .i64 1) ⟨by dsimp only; omega, by dsimp only; omega⟩)).trans (Ky.cell (own := fun k => w.heap.size ≤ k ∧ k < w.heap.size + 4) (B := W5.heap.size) (X := (World.setCell A2 ⟨w.heap.size + 1 + 1 + 1, 0, none⟩ (.int .i64 1))) (p := ⟨w.heap.size + 1 + 1, 1, none⟩) (.int .i64 nn) ⟨by dsimp only; omega, by dsimp only; omega⟩))
              exact ⟨hky.2, hky.less (by omega), ⟨pth, nn, 1⟩, Lib.hid (HNX.out.trans HN.out), ((g2.other (p := ⟨w.heap.size + 1 + 1 + 1, 0, none⟩) (.int .i64 1) (by dsimp only; omega)).other (p := ⟨w.heap.size + 1 + 1, 1, none⟩) (.int .i64 nn) (by dsimp only; omega)), (boxed_set (boxed_set g3 (p := ⟨w.heap.size + 1 + 1 + 1, 0, none⟩) (.int .i64 1) (by dsimp only; omega)) (p := ⟨w.heap.size + 1 + 1, 1, none⟩) (.int .i64 nn) (by dsimp only; omega)), ((g4.other (p := ⟨w.heap.size + 1 + 1 + 1, 0, none⟩) (.int .i64 1) (by dsimp only; omega)).set1 (.int .i64 nn)), (boxed_set (Boxed.set (.int .i64 1) g5) (p := ⟨w.heap.size + 1 + 1, 1, none⟩) (.int .i64 nn) (by dsimp only; omega)), .inr rfl, (((HB.out.trans (hb2.mono HB.out.size)).setCell (p := ⟨w.heap.size + 1 + 1 + 1, 0, none⟩) (by dsimp only; omega) (.int .i64 1)).setCell (p := ⟨w.heap.size + 1 + 1, 1, none⟩) (by dsimp only; omega) (.int .i64 nn))⟩
            · have hee1 : (ee != 0) = true := by simpa using hee
              have HN := Lib.hid (show stepR ⟨pth, mnr, 0⟩ [[103, 111], v] = none by simp [stepR, hne, hee])
              have HC := Lib.hid ((HM).mono (R' := fun e w' => e = .returned (.tuple #[.int .i64 nn, .int .i64 ee]) ∧ Hid (Below A.heap.size A w') ∧ w'.cell? ⟨w.heap.size, 0, none⟩ = some (.string ⟨#[]⟩) ∧ w'.cell? ⟨w.heap.size, 1, none⟩ = some (.int .i64 0) ∧ w'.frozen? ⟨w.heap.size, 0, none⟩ = false ∧ w'.frozen? ⟨w.heap.size, 1, none⟩ = false ∧ w'.cell? ⟨w.heap.size + 1, 0, none⟩ = some (.int .i64 0) ∧ w'.frozen? ⟨w.heap.size + 1, 0, none⟩ = false ∧ w'.cell? ⟨w.heap.size + 1 + 1, 0, none⟩ = some (.string ⟨pth.toArray⟩) ∧ w'.cell? ⟨w.heap.size + 1 + 1, 1, none⟩ = some (.int .i64 mnr) ∧ w'.frozen? ⟨w.heap.size + 1 + 1, 0, none⟩ = false ∧ w'.frozen? ⟨w.heap.size + 1 + 1, 1, none⟩ = false ∧ w'.cell? ⟨w.heap.size + 1 + 1 + 1, 0, none⟩ = some (.int .i64 0) ∧ w'.frozen? ⟨w.heap.size + 1 + 1 + 1, 0, none⟩ = false ∧ w'.cell? ⟨AA, 1, none⟩ = some (.string ⟨v.toArray⟩)) (fun e w' hh => by
                have h9 := hh.2
                have hb2 := hh.2.out
                have g2 := HP2.out.below hb2
                have g3 := boxed_below HP3.out hb2
                have g4 := HP4.out.below hb2
                have g5 := boxed_below HP5.out hb2
                exact ⟨hh.1, h9, g2.c0, g2.c1, g2.f0, g2.f1, g3.cell, g3.frozen, g4.c0, g4.c1, g4.f0, g4.f1, g5.cell, g5.frozen, (h9.out.cell (cell_lt0 c1)).trans c1⟩))
              clear hne HM hee
              gi_wp2_with (refine ⟨trivial, ?_⟩; gi_at_call 14; refine (CallsIn.inRound l' (callsIn_wide.2 HC.out)).mono ?_; rintro e A2 ⟨rfl, h9, y1, y2, y3, y4, y5, y6, y7, y8, y9, y10, y11, y12, y13⟩)
              have hb2 := h9.out
              have g2 := HP2.out.below hb2
              have g3 := boxed_below HP3.out hb2
              have g4 := HP4.out.below hb2
              have g5 := boxed_below HP5.out hb2
              have hs5 := HS5.out
              have hky : Ky (fun k => w.heap.size ≤ k ∧ k < w.heap.size + 4) W5.heap.size A (World.setCell (World.setCell (World.setCell (World.setCell A2 ⟨w.heap.size + 1 + 1 + 1, 0, none⟩ (.int .i64 1)) ⟨w.heap.size, 0, none⟩ (.string ⟨#[]⟩)) ⟨w.heap.size, 1, none⟩ (.int .i64 0)) ⟨w.heap.size + 1, 0, none⟩ (.int .i64 7)) := (((((Ky.below (own := fun k => w.heap.size ≤ k ∧ k < w.heap.size + 4) (B := W5.heap.size) hb2).trans (Ky.cell (own := fun k => w.heap.size ≤ k ∧ k < w.heap.size + 4) (B := W5.heap.size) (X := A2) (p := ⟨w.heap.size + 1 + 1 + 1, 0, none⟩) (.int .i64 1) ⟨by dsimp only; omega, by dsimp only; omega⟩)).trans (Ky.cell (own := fun k => w.heap.size ≤ k ∧ k < w.heap.size + 4) (B := W5.heap.size) (X := (World.setCell A2 ⟨w.heap.size + 1 + 1 + 1, 0, none⟩ (.int .i64 1))) (p := ⟨w.heap.size, 0, none⟩) (.string ⟨#[]⟩) ⟨by dsimp only; omega, by dsimp only; omega⟩)).trans (Ky.cell (own := fun k => w.heap.size ≤ k ∧ k < w.heap.size + 4) (B := W5.heap.size) (X := (World.setCell (World.setCell A2 ⟨w.heap.size + 1 + 1 + 1, 0, none⟩ (.int .i64 1)) ⟨w.heap.size, 0, none⟩ (.string ⟨#[]⟩))) (p := ⟨w.heap.size, 1, none⟩) (.int .i64 0) ⟨by dsimp only; omega, by dsimp only; omega⟩)).trans (Ky.cell (own := fun k => w.heap.size ≤ k ∧ k < w.heap.size + 4) (B := W5.heap.size) (X := (World.setCell (World.setCell (World.setCell A2 ⟨w.heap.size + 1 + 1 + 1, 0, none⟩ (.int .i64 1)) ⟨w.heap.size, 0, none⟩ (.string ⟨#[]⟩)) ⟨w.heap.size, 1, none⟩ (.int .i64 0))) (p := ⟨w.heap.size + 1, 0, none⟩) (.int .i64 7) ⟨by dsimp only; omega, by dsimp only; omega⟩))
              exact ⟨hky.2, hky.less (by omega), rfl, ((((g2.other (p := ⟨w.heap.size + 1 + 1 + 1, 0, none⟩) (.int .i64 1) (by dsimp only; omega)).set0 (.string ⟨#[]⟩)).set1 (.int .i64 0)).other (p := ⟨w.heap.size + 1, 0, none⟩) (.int .i64 7) (by dsimp only; omega)), (Boxed.set (.int .i64 7) (boxed_set (boxed_set (boxed_set g3 (p := ⟨w.heap.size + 1 + 1 + 1, 0, none⟩) (.int .i64 1) (by dsimp only; omega)) (p := ⟨w.heap.size, 0, none⟩) (.string ⟨#[]⟩) (by dsimp only; omega)) (p := ⟨w.heap.size, 1, none⟩) (.int .i64 0) (by dsimp only; omega))), Lib.hid (HNX.out.trans HN.out), (((((HB.out.trans (hb2.mono HB.out.size)).setCell (p := ⟨w.heap.size + 1 + 1 + 1, 0, none⟩) (by dsimp only; omega) (.int .i64 1)).setCell (p := ⟨w.heap.size, 0, none⟩) (by dsimp only; omega) (.string ⟨#[]⟩)).setCell (p := ⟨w.heap.size, 1, none⟩) (by dsimp only; omega) (.int .i64 0)).setCell (p := ⟨w.heap.size + 1, 0, none⟩) (by dsimp only; omega) (.int .i64 7))⟩
          · by_cases hee : ee = 0
            · subst hee
              have HN := Lib.hid (show stepR ⟨pth, mnr, 1⟩ [[103, 111], v] = none by simp [stepR, hne])
              have HC := Lib.hid ((HM).mono (R' := fun e w' => e = .returned (.tuple #[.int .i64 nn, .int .i64 0]) ∧ Hid (Below A.heap.size A w') ∧ w'.cell? ⟨w.heap.size, 0, none⟩ = some (.string ⟨#[]⟩) ∧ w'.cell? ⟨w.heap.size, 1, none⟩ = some (.int .i64 0) ∧ w'.frozen? ⟨w.heap.size, 0, none⟩ = false ∧ w'.frozen? ⟨w.heap.size, 1, none⟩ = false ∧ w'.cell? ⟨w.heap.size + 1, 0, none⟩ = some (.int .i64 0) ∧ w'.frozen? ⟨w.heap.size + 1, 0, none⟩ = false ∧ w'.cell? ⟨w.heap.size + 1 + 1, 0, none⟩ = some (.string ⟨pth.toArray⟩) ∧ w'.cell? ⟨w.heap.size + 1 + 1, 1, none⟩ = some (.int .i64 mnr) ∧ w'.frozen? ⟨w.heap.size + 1 + 1, 0, none⟩ = false ∧ w'.frozen? ⟨w.heap.size + 1 + 1, 1, none⟩ = false ∧ w'.cell? ⟨w.heap.size + 1 + 1 + 1, 0, none⟩ = some (.int .i64 1) ∧ w'.frozen? ⟨w.heap.size + 1 + 1 + 1, 0, none⟩ = false ∧ w'.cell? ⟨AA, 1, none⟩ = some (.string ⟨v.toArray⟩)) (fun e w' hh => by
                have h9 := hh.2
                have hb2 := hh.2.out
                have g2 := HP2.out.below hb2
                have g3 := boxed_below HP3.out hb2
                have g4 := HP4.out.below hb2
                have g5 := boxed_below HP5.out hb2
                exact ⟨hh.1, h9, g2.c0, g2.c1, g2.f0, g2.f1, g3.cell, g3.frozen, g4.c0, g4.c1, g4.f0, g4.f1, g5.cell, g5.frozen, (h9.out.cell (cell_lt0 c1)).trans c1⟩))
              clear hne HM
              gi_wp2_with (refine ⟨trivial, ?_⟩; gi_at_call 14; refine (CallsIn.inRound l' (callsIn_wide.2 HC.out)).mono ?_; rintro e A2 ⟨rfl, h9, y1, y2, y3, y4, y5, y6, y7, y8, y9, y10, y11, y12, y13⟩)
              have hb2 := h9.out
              have g2 := HP2.out.below hb2
              have g3 := boxed_below HP3.out hb2
              have g4 := HP4.out.below hb2
              have g5 := boxed_below HP5.out hb2
              have hs5 := HS5.out
              have hky : Ky (fun k => w.heap.size ≤ k ∧ k < w.heap.size + 4) W5.heap.size A (World.setCell (World.setCell (World.setCell (World.setCell A2 ⟨w.heap.size + 1 + 1 + 1, 0, none⟩ (.int .i64 2)) ⟨w.heap.size, 0, none⟩ (.string ⟨#[]⟩)) ⟨w.heap.size, 1, none⟩ (.int .i64 0)) ⟨w.heap.size + 1, 0, none⟩ (.int .i64 7)) := (((((Ky.below (own := fun k => w.heap.size ≤ k ∧ k < w.heap.size + 4) (B := W5.heap.size) hb2).trans (Ky.cell (own := fun k => w.heap.size ≤ k ∧ k < w.heap.size + 4) (B := W5.heap.size) (X := A2) (p := ⟨w.heap.size + 1 + 1 + 1, 0, none⟩) (.int .i64 2) ⟨by dsimp only; omega, by dsimp only; omega⟩)).trans (Ky.cell (own := fun k => w.heap.size ≤ k ∧ k < w.heap.size + 4) (B := W5.heap.size) (X := (World.setCell A2 ⟨w.heap.size + 1 + 1 + 1, 0, none⟩ (.int .i64 2))) (p := ⟨w.heap.size, 0, none⟩) (.string ⟨#[]⟩) ⟨by dsimp only; omega, by dsimp only; omega⟩)).trans (Ky.cell (own := fun k => w.heap.size ≤ k ∧ k < w.heap.size + 4) (B := W5.heap.size) (X := (World.setCell (World.setCell A2 ⟨w.heap.size + 1 + 1 + 1, 0, none⟩ (.int .i64 2)) ⟨w.heap.size, 0, none⟩ (.string ⟨#[]⟩))) (p := ⟨w.heap.size, 1, none⟩) (.int .i64 0) ⟨by dsimp only; omega, by dsimp only; omega⟩)).trans (Ky.cell (own := fun k => w.heap.size ≤ k ∧ k < w.heap.size + 4) (B := W5.heap.size) (X := (World.setCell (World.setCell (World.setCell A2 ⟨w.heap.size + 1 + 1 + 1, 0, none⟩ (.int .i64 2)) ⟨w.heap.size, 0, none⟩ (.string ⟨#[]⟩)) ⟨w.heap.size, 1, none⟩ (.int .i64 0))) (p := ⟨w.heap.size + 1, 0, none⟩) (.int .i64 7) ⟨by dsimp only; omega, by dsimp only; omega⟩))
              exact ⟨hky.2, hky.less (by omega), rfl, ((((g2.other (p := ⟨w.heap.size + 1 + 1 + 1, 0, none⟩) (.int .i64 2) (by dsimp only; omega)).set0 (.string ⟨#[]⟩)).set1 (.int .i64 0)).other (p := ⟨w.heap.size + 1, 0, none⟩) (.int .i64 7) (by dsimp only; omega)), (Boxed.set (.int .i64 7) (boxed_set (boxed_set (boxed_set g3 (p := ⟨w.heap.size + 1 + 1 + 1, 0, none⟩) (.int .i64 2) (by dsimp only; omega)) (p := ⟨w.heap.size, 0, none⟩) (.string ⟨#[]⟩) (by dsimp only; omega)) (p := ⟨w.heap.size, 1, none⟩) (.int .i64 0) (by dsimp only; omega))), Lib.hid (HNX.out.trans HN.out), (((((HB.out.trans (hb2.mono HB.out.size)).setCell (p := ⟨w.heap.size + 1 + 1 + 1, 0, none⟩) (by dsimp only; omega) (.int .i64 2)).setCell (p := ⟨w.heap.size, 0, none⟩) (by dsimp only; omega) (.string ⟨#[]⟩)).setCell (p := ⟨w.heap.size, 1, none⟩) (by dsimp only; omega) (.int .i64 0)).setCell (p := ⟨w.heap.size + 1, 0, none⟩) (by dsimp only; omega) (.int .i64 7))⟩
            · have hee1 : (ee != 0) = true := by simpa using hee
              have HN := Lib.hid (show stepR ⟨pth, mnr, 1⟩ [[103, 111], v] = none by simp [stepR, hne, hee])
              have HC := Lib.hid ((HM).mono (R' := fun e w' => e = .returned (.tuple #[.int .i64 nn, .int .i64 ee]) ∧ Hid (Below A.heap.size A w') ∧ w'.cell? ⟨w.heap.size, 0, none⟩ = some (.string ⟨#[]⟩) ∧ w'.cell? ⟨w.heap.size, 1, none⟩ = some (.int .i64 0) ∧ w'.frozen? ⟨w.heap.size, 0, none⟩ = false ∧ w'.frozen? ⟨w.heap.size, 1, none⟩ = false ∧ w'.cell? ⟨w.heap.size + 1, 0, none⟩ = some (.int .i64 0) ∧ w'.frozen? ⟨w.heap.size + 1, 0, none⟩ = false ∧ w'.cell? ⟨w.heap.size + 1 + 1, 0, none⟩ = some (.string ⟨pth.toArray⟩) ∧ w'.cell? ⟨w.heap.size + 1 + 1, 1, none⟩ = some (.int .i64 mnr) ∧ w'.frozen? ⟨w.heap.size + 1 + 1, 0, none⟩ = false ∧ w'.frozen? ⟨w.heap.size + 1 + 1, 1, none⟩ = false ∧ w'.cell? ⟨w.heap.size + 1 + 1 + 1, 0, none⟩ = some (.int .i64 1) ∧ w'.frozen? ⟨w.heap.size + 1 + 1 + 1, 0, none⟩ = false ∧ w'.cell? ⟨AA, 1, none⟩ = some (.string ⟨v.toArray⟩)) (fun e w' hh => by
                have h9 := hh.2
                have hb2 := hh.2.out
                have g2 := HP2.out.below hb2
                have g3 := boxed_below HP3.out hb2
                have g4 := HP4.out.below hb2
                have g5 := boxed_below HP5.out hb2
                exact ⟨hh.1, h9, g2.c0, g2.c1, g2.f0, g2.f1, g3.cell, g3.frozen, g4.c0, g4.c1, g4.f0, g4.f1, g5.cell, g5.frozen, (h9.out.cell (cell_lt0 c1)).trans c1⟩))
              clear hne HM hee
              gi_wp2_with (refine ⟨trivial, ?_⟩; gi_at_call 14; refine (CallsIn.inRound l' (callsIn_wide.2 HC.out)).mono ?_; rintro e A2 ⟨rfl, h9, y1, y2, y3, y4, y5, y6, y7, y8, y9, y10, y11, y12, y13⟩)
              have hb2 := h9.out
              have g2 := HP2.out.below hb2
              have g3 := boxed_below HP3.out hb2
              have g4 := HP4.out.below hb2
              have g5 := boxed_below HP5.out hb2
              have hs5 := HS5.out
              have hky : Ky (fun k => w.heap.size ≤ k ∧ k < w.heap.size + 4) W5.heap.size A (World.setCell (World.setCell (World.setCell (World.setCell A2 ⟨w.heap.size + 1 + 1 + 1, 0, none⟩ (.int .i64 2)) ⟨w.heap.size, 0, none⟩ (.string ⟨#[]⟩)) ⟨w.heap.size, 1, none⟩ (.int .i64 0)) ⟨w.heap.size + 1, 0, none⟩ (.int .i64 7)) := (((((Ky.below (own := fun k => w.heap.size ≤ k ∧ k < w.heap.size + 4) (B := W5.heap.size) hb2).trans (Ky.cell (own := fun k => w.heap.size ≤ k ∧ k < w.heap.size + 4) (B := W5.heap.size) (X := A2) (p := ⟨w.heap.size + 1 + 1 + 1, 0, none⟩) (.int .i64 2) ⟨by dsimp only; omega, by dsimp only; omega⟩)).trans (Ky.cell (own := fun k => w.heap.size ≤ k ∧ k < w.heap.size + 4) (B := W5.heap.size) (X := (World.setCell A2 ⟨w.heap.size + 1 + 1 + 1, 0, none⟩ (.int .i64 2))) (p := ⟨w.heap.size, 0, none⟩) (.string ⟨#[]⟩) ⟨by dsimp only; omega, by dsimp only; omega⟩)).trans (Ky.cell (own := fun k => w.heap.size ≤ k ∧ k < w.heap.size + 4) (B := W5.heap.size) (X := (World.setCell (World.setCell A2 ⟨w.heap.size + 1 + 1 + 1, 0, none⟩ (.int .i64 2)) ⟨w.heap.size, 0, none⟩ (.string ⟨#[]⟩))) (p := ⟨w.heap.size, 1, none⟩) (.int .i64 0) ⟨by dsimp only; omega, by dsimp only; omega⟩)).trans (Ky.cell (own := fun k => w.heap.size ≤ k ∧ k < w.heap.size + 4) (B := W5.heap.size) (X := (World.setCell (World.setCell (World.setCell A2 ⟨w.heap.size + 1 + 1 + 1, 0, none⟩ (.int .i64 2)) ⟨w.heap.size, 0, none⟩ (.string ⟨#[]⟩)) ⟨w.heap.size, 1, none⟩ (.int .i64 0))) (p := ⟨w.heap.size + 1, 0, none⟩) (.int .i64 7) ⟨by dsimp only; omega, by dsimp only; omega⟩))
              exact ⟨hky.2, hky.less (by omega), rfl, ((((g2.other (p := ⟨w.heap.size + 1 + 1 + 1, 0, none⟩) (.int .i64 2) (by dsimp only; omega)).set0 (.string ⟨#[]⟩)).set1 (.int .i64 0)).other (p := ⟨w.heap.size + 1, 0, none⟩) (.int .i64 7) (by dsimp only; omega)), (Boxed.set (.int .i64 7) (boxed_set (boxed_set (boxed_set g3 (p := ⟨w.heap.size + 1 + 1 + 1, 0, none⟩) (.int .i64 2) (by dsimp only; omega)) (p := ⟨w.heap.size, 0, none⟩) (.string ⟨#[]⟩) (by dsimp only; omega)) (p := ⟨w.heap.size, 1, none⟩) (.int .i64 0) (by dsimp only; omega))), Lib.hid (HNX.out.trans HN.out), (((((HB.out.trans (hb2.mono HB.out.size)).setCell (p := ⟨w.heap.size + 1 + 1 + 1, 0, none⟩) (by dsimp only; omega) (.int .i64 2)).setCell (p := ⟨w.heap.size, 0, none⟩) (by dsimp only; omega) (.string ⟨#[]⟩)).setCell (p := ⟨w.heap.size, 1, none⟩) (by dsimp only; omega) (.int .i64 0)).setCell (p := ⟨w.heap.size + 1, 0, none⟩) (by dsimp only; omega) (.int .i64 7))⟩
        · have kg1 : (k == [103, 111]) = false := by simpa using kg
          by_cases kt : k = [116, 111, 111, 108, 99, 104, 97, 105, 110]
          · subst kt
            have HN := Lib.hid (show stepR ⟨pth, mnr, mny⟩ [[116, 111, 111, 108, 99, 104, 97, 105, 110], v] = some ⟨pth, mnr, mny⟩ by simp [stepR])
            clear km1 km kg1 kg q40 f40 q41 f41 q5 f5
            gi_wp2
            have g2 := HP2.out
            have g3 := HP3.out
            have g4 := HP4.out
            have g5 := HP5.out
            have hs5 := HS5.out
            have hky : Ky (fun k => w.heap.size ≤ k ∧ k < w.heap.size + 4) W5.heap.size A A := ⟨Kx.refl _ _, KeepsFrom.refl _ _⟩
            exact ⟨hky.2, hky.less (by omega), ⟨pth, mnr, mny⟩, Lib.hid (HNX.out.trans HN.out), g2, g3, g4, g5, hm, HB.out⟩
          · have kt1 : (k == [116, 111, 111, 108, 99, 104, 97, 105, 110]) = false := by simpa using kt
            have HN := Lib.hid (show stepR ⟨pth, mnr, mny⟩ [k, v] = none by simp [stepR, km, kg, kt])
            clear km kg kt q40 f40 q41 f41 q5 f5
            gi_wp2
            have g2 := HP2.out
            have g3 := HP3.out
            have g4 := HP4.out
            have g5 := HP5.out
            have hs5 := HS5.out
            have hky : Ky (fun k => w.heap.size ≤ k ∧ k < w.heap.size + 4) W5.heap.size A (World.setCell (World.setCell (World.setCell A ⟨w.heap.size, 0, none⟩ (.string ⟨#[]⟩)) ⟨w.heap.size, 1, none⟩ (.int .i64 0)) ⟨w.heap.size + 1, 0, none⟩ (.int .i64 7)) := (((Ky.cell (own := fun k => w.heap.size ≤ k ∧ k < w.heap.size + 4) (B := W5.heap.size) (X := A) (p := ⟨w.heap.size, 0, none⟩) (.string ⟨#[]⟩) ⟨by dsimp only; omega, by dsimp only; omega⟩).trans (Ky.cell (own := fun k => w.heap.size ≤ k ∧ k < w.heap.size + 4) (B := W5.heap.size) (X := (World.setCell A ⟨w.heap.size, 0, none⟩ (.string ⟨#[]⟩))) (p := ⟨w.heap.size, 1, none⟩) (.int .i64 0) ⟨by dsimp only; omega, by dsimp only; omega⟩)).trans (Ky.cell (own := fun k => w.heap.size ≤ k ∧ k < w.heap.size + 4) (B := W5.heap.size) (X := (World.setCell (World.setCell A ⟨w.heap.size, 0, none⟩ (.string ⟨#[]⟩)) ⟨w.heap.size, 1, none⟩ (.int .i64 0))) (p := ⟨w.heap.size + 1, 0, none⟩) (.int .i64 7) ⟨by dsimp only; omega, by dsimp only; omega⟩))
            exact ⟨hky.2, hky.less (by omega), rfl, (((g2.set0 (.string ⟨#[]⟩)).set1 (.int .i64 0)).other (p := ⟨w.heap.size + 1, 0, none⟩) (.int .i64 7) (by dsimp only; omega)), (Boxed.set (.int .i64 7) (boxed_set (boxed_set g3 (p := ⟨w.heap.size, 0, none⟩) (.string ⟨#[]⟩) (by dsimp only; omega)) (p := ⟨w.heap.size, 1, none⟩) (.int .i64 0) (by dsimp only; omega))), Lib.hid (HNX.out.trans HN.out), (((HB.out.setCell (p := ⟨w.heap.size, 0, none⟩) (by dsimp only; omega) (.string ⟨#[]⟩)).setCell (p := ⟨w.heap.size, 1, none⟩) (by dsimp only; omega) (.int .i64 0)).setCell (p := ⟨w.heap.size + 1, 0, none⟩) (by dsimp only; omega) (.int .i64 7))⟩

    · have hn2 : ((ws.length : Int) == 2) = false := by simp only [beq_eq_false_iff_ne, ne_eq]; omega
      have HN := Lib.hid (show stepR ⟨pth, mnr, mny⟩ ws = none by unfold stepR; split; (simp at h2l); rfl)
      clear h0 h2 h3 h4 h5 hlen hat hsz x2 x3 x4 x5 x6 hown h2l hba hb5
      gi_wp2
      have g2 := HP2.out
      have g3 := HP3.out
      have g4 := HP4.out
      have g5 := HP5.out
      have hs5 := HS5.out
      have hky : Ky (fun k => w.heap.size ≤ k ∧ k < w.heap.size + 4) W5.heap.size A (World.setCell (World.setCell (World.setCell A ⟨w.heap.size, 0, none⟩ (.string ⟨#[]⟩)) ⟨w.heap.size, 1, none⟩ (.int .i64 0)) ⟨w.heap.size + 1, 0, none⟩ (.int .i64 7)) := (((Ky.cell (own := fun k => w.heap.size ≤ k ∧ k < w.heap.size + 4) (B := W5.heap.size) (X := A) (p := ⟨w.heap.size, 0, none⟩) (.string ⟨#[]⟩) ⟨by dsimp only; omega, by dsimp only; omega⟩).trans (Ky.cell (own := fun k => w.heap.size ≤ k ∧ k < w.heap.size + 4) (B := W5.heap.size) (X := (World.setCell A ⟨w.heap.size, 0, none⟩ (.string ⟨#[]⟩))) (p := ⟨w.heap.size, 1, none⟩) (.int .i64 0) ⟨by dsimp only; omega, by dsimp only; omega⟩)).trans (Ky.cell (own := fun k => w.heap.size ≤ k ∧ k < w.heap.size + 4) (B := W5.heap.size) (X := (World.setCell (World.setCell A ⟨w.heap.size, 0, none⟩ (.string ⟨#[]⟩)) ⟨w.heap.size, 1, none⟩ (.int .i64 0))) (p := ⟨w.heap.size + 1, 0, none⟩) (.int .i64 7) ⟨by dsimp only; omega, by dsimp only; omega⟩))
      exact ⟨hky.2, hky.less (by omega), rfl, (((g2.set0 (.string ⟨#[]⟩)).set1 (.int .i64 0)).other (p := ⟨w.heap.size + 1, 0, none⟩) (.int .i64 7) (by dsimp only; omega)), (Boxed.set (.int .i64 7) (boxed_set (boxed_set g3 (p := ⟨w.heap.size, 0, none⟩) (.string ⟨#[]⟩) (by dsimp only; omega)) (p := ⟨w.heap.size, 1, none⟩) (.int .i64 0) (by dsimp only; omega))), Lib.hid (HNX.out.trans HN.out), (((HB.out.setCell (p := ⟨w.heap.size, 0, none⟩) (by dsimp only; omega) (.string ⟨#[]⟩)).setCell (p := ⟨w.heap.size, 1, none⟩) (by dsimp only; omega) (.int .i64 0)).setCell (p := ⟨w.heap.size + 1, 0, none⟩) (by dsimp only; omega) (.int .i64 7))⟩
  case done =>
    rintro D xs A hD hx ⟨st, h0, h2, h3, h4, h5, hm, hb⟩ hK
    obtain ⟨pth, mnr, mny⟩ := st
    dsimp only at h4 h5 hm
    have q20 := h2.c0
    have q21 := h2.c1
    have f20 := h2.f0
    have f21 := h2.f1
    have q3 := h3.cell
    have f3 := h3.frozen
    have q40 := h4.c0
    have q41 := h4.c1
    cases pth with
    | nil =>
      have HR := Lib.hid (show readL b = ([], 0, 7) by unfold readL; rw [← hx, h0.out]; rfl)
      clear h0 hx
      gi_wp2
      have hk2 : (World.setCell (World.setCell (World.setCell A ⟨w.heap.size, 0, none⟩ (.string ⟨#[]⟩)) ⟨w.heap.size, 1, none⟩ (.int .i64 0)) ⟨w.heap.size + 1, 0, none⟩ (.int .i64 7)).heap[D]? = some (.deferred (some [])) := ((Below.heap_setCell (World.setCell (World.setCell A ⟨w.heap.size, 0, none⟩ (.string ⟨#[]⟩)) ⟨w.heap.size, 1, none⟩ (.int .i64 0)) ⟨w.heap.size + 1, 0, none⟩ (.int .i64 7) D (by dsimp only; omega)).trans ((Below.heap_setCell (World.setCell A ⟨w.heap.size, 0, none⟩ (.string ⟨#[]⟩)) ⟨w.heap.size, 1, none⟩ (.int .i64 0) D (by dsimp only; omega)).trans ((Below.heap_setCell A ⟨w.heap.size, 0, none⟩ (.string ⟨#[]⟩) D (by dsimp only; omega)).trans hK)))
      refine ⟨by simp, .inl ⟨_, _, rfl, run_takeDeferred hk2, ?_⟩⟩
      have r2 : Pair ((World.setCell (World.setCell (World.setCell A ⟨w.heap.size, 0, none⟩ (.string ⟨#[]⟩)) ⟨w.heap.size, 1, none⟩ (.int .i64 0)) ⟨w.heap.size + 1, 0, none⟩ (.int .i64 7)).putObj D (.deferred none)) (w.heap.size) (.string ⟨#[]⟩) (.int .i64 0) := (World.putObj_heap_other (by omega)).trans (((h2.set0 (.string ⟨#[]⟩)).set1 (.int .i64 0)).other (p := ⟨w.heap.size + 1, 0, none⟩) (.int .i64 7) (by dsimp only; omega))
      have r3 : Boxed ((World.setCell (World.setCell (World.setCell A ⟨w.heap.size, 0, none⟩ (.string ⟨#[]⟩)) ⟨w.heap.size, 1, none⟩ (.int .i64 0)) ⟨w.heap.size + 1, 0, none⟩ (.int .i64 7)).putObj D (.deferred none)) (w.heap.size + 1) 25 (.int .i64 (7)) := (World.putObj_heap_other (by omega)).trans (Boxed.set (.int .i64 7) (boxed_set (boxed_set h3 (p := ⟨w.heap.size, 0, none⟩) (.string ⟨#[]⟩) (by dsimp only; omega)) (p := ⟨w.heap.size, 1, none⟩) (.int .i64 0) (by dsimp only; omega)))
      have r20 := r2.c0
      have r21 := r2.c1
      have r30 := r3.cell
      exact ⟨.tuple #[.agg #[.string ⟨#[]⟩, .int .i64 0], .int .i64 (7)], by simp [results, Tryd.results10, go_sem, r20, r21, r30], by rw [HR.out], Lib.hid ((((hb.setCell (p := ⟨w.heap.size, 0, none⟩) (by dsimp only; omega) (.string ⟨#[]⟩)).setCell (p := ⟨w.heap.size, 1, none⟩) (by dsimp only; omega) (.int .i64 0)).setCell (p := ⟨w.heap.size + 1, 0, none⟩) (by dsimp only; omega) (.int .i64 7)).trans (belowK_b (w := w) (Nat.le_refl _) _ D _ _ (by omega) hk2 rfl rfl))⟩
    | cons p0 pt =>
      have hpe : ((p0 :: pt) == ([] : List UInt8)) = false := by simp
      have HR := Lib.hid (show readL b = (p0 :: pt, mnr, 0) by unfold readL; rw [← hx, h0.out]; simp)
      clear h0 hx
      gi_wp2
      have hk2 : (World.setCell (World.setCell (World.setCell A ⟨w.heap.size, 0, none⟩ (.string ⟨(p0 :: pt).toArray⟩)) ⟨w.heap.size, 1, none⟩ (.int .i64 mnr)) ⟨w.heap.size + 1, 0, none⟩ (.int .i64 0)).heap[D]? = some (.deferred (some [])) := ((Below.heap_setCell (World.setCell (World.setCell A ⟨w.heap.size, 0, none⟩ (.string ⟨(p0 :: pt).toArray⟩)) ⟨w.heap.size, 1, none⟩ (.int .i64 mnr)) ⟨w.heap.size + 1, 0, none⟩ (.int .i64 0) D (by dsimp only; omega)).trans ((Below.heap_setCell (World.setCell A ⟨w.heap.size, 0, none⟩ (.string ⟨(p0 :: pt).toArray⟩)) ⟨w.heap.size, 1, none⟩ (.int .i64 mnr) D (by dsimp only; omega)).trans ((Below.heap_setCell A ⟨w.heap.size, 0, none⟩ (.string ⟨(p0 :: pt).toArray⟩) D (by dsimp only; omega)).trans hK)))
      refine ⟨by simp, .inl ⟨_, _, rfl, run_takeDeferred hk2, ?_⟩⟩
      have r2 : Pair ((World.setCell (World.setCell (World.setCell A ⟨w.heap.size, 0, none⟩ (.string ⟨(p0 :: pt).toArray⟩)) ⟨w.heap.size, 1, none⟩ (.int .i64 mnr)) ⟨w.heap.size + 1, 0, none⟩ (.int .i64 0)).putObj D (.deferred none)) (w.heap.size) (.string ⟨(p0 :: pt).toArray⟩) (.int .i64 mnr) := (World.putObj_heap_other (by omega)).trans (((h2.set0 (.string ⟨(p0 :: pt).toArray⟩)).set1 (.int .i64 mnr)).other (p := ⟨w.heap.size + 1, 0, none⟩) (.int .i64 0) (by dsimp only; omega))
      have r3 : Boxed ((World.setCell (World.setCell (World.setCell A ⟨w.heap.size, 0, none⟩ (.string ⟨(p0 :: pt).toArray⟩)) ⟨w.heap.size, 1, none⟩ (.int .i64 mnr)) ⟨w.heap.size + 1, 0, none⟩ (.int .i64 0)).putObj D (.deferred none)) (w.heap.size + 1) 25 (.int .i64 (0)) := (World.putObj_heap_other (by omega)).trans (Boxed.set (.int .i64 0) (boxed_set (boxed_set h3 (p := ⟨w.heap.size, 0, none⟩) (.string ⟨(p0 :: pt).toArray⟩) (by dsimp only; omega)) (p := ⟨w.heap.size, 1, none⟩) (.int .i64 mnr) (by dsimp only; omega)))
      have r20 := r2.c0
      have r21 := r2.c1
      have r30 := r3.cell
      exact ⟨.tuple #[.agg #[.string ⟨(p0 :: pt).toArray⟩, .int .i64 mnr], .int .i64 (0)], by simp [results, Tryd.results10, go_sem, r20, r21, r30], by rw [HR.out], Lib.hid ((((hb.setCell (p := ⟨w.heap.size, 0, none⟩) (by dsimp only; omega) (.string ⟨(p0 :: pt).toArray⟩)).setCell (p := ⟨w.heap.size, 1, none⟩) (by dsimp only; omega) (.int .i64 mnr)).setCell (p := ⟨w.heap.size + 1, 0, none⟩) (by dsimp only; omega) (.int .i64 0)).trans (belowK_b (w := w) (Nat.le_refl _) _ D _ _ (by omega) hk2 rfl rfl))⟩
  case stop =>
    rintro D c pre A hD hpre ⟨rfl, h2, h3, hno, hb⟩ hK
    have HR := Lib.hid (show readL b = ([], 0, 7) by
      obtain ⟨r, hr⟩ := hpre
      unfold readL
      rw [← hr, List.foldlM_append, hno.out]
      rfl)
    clear hpre hno
    gi_wp2
    have hk2 : A.heap[D]? = some (.deferred (some [])) := hK
    refine ⟨by simp, .inl ⟨_, _, rfl, run_takeDeferred hk2, ?_⟩⟩
    have r2 : Pair (A.putObj D (.deferred none)) (w.heap.size) (.string ⟨#[]⟩) (.int .i64 0) := (World.putObj_heap_other (by omega)).trans h2
    have r3 : Boxed (A.putObj D (.deferred none)) (w.heap.size + 1) 25 (.int .i64 (7)) := (World.putObj_heap_other (by omega)).trans h3
    have r20 := r2.c0
    have r21 := r2.c1
    have r30 := r3.cell
    exact ⟨.tuple #[.agg #[.string ⟨#[]⟩, .int .i64 0], .int .i64 (7)], by simp [results, Tryd.results10, go_sem, r20, r21, r30], by rw [HR.out], Lib.hid (hb.trans (belowK_b (w := w) (Nat.le_refl _) _ D _ _ (by omega) hk2 rfl rfl))⟩
end Go.Proofs.YtgldnkpanimihaaDoor
