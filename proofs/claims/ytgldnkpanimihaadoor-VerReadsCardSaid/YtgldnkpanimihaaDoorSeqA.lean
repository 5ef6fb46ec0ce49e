/-
  a range over a function whose iterator keeps state of its own in cells: the law; what a round keeps.
-/
import Derived.RangeFuncNested
import Derived.RangeFuncBound
import Derived.RangeFuncCalls
import Derived.RangeFuncLeaves
import Derived.Shelf.Abstract
import Derived.Shelf.RegionOpen
import Derived.WalkKit
import Derived.OwnWalkIn
import Derived.TacticsInMore
import Derived.LoopNIn
import Derived.LoopIn
import Derived.Test.YtgldnkpanimihaaDoorVrB
namespace Go.Proofs.YtgldnkpanimihaaDoor
set_option linter.unusedSimpArgs false
set_option linter.unusedVariables false
open Go.RowKit Go.Shelf

/-- What is said abides stores into cells that are the iterator's own: mine, or laid at B or beyond. -/
def Free {β : Type} (mine : Nat → Prop) (B : Nat) (J : β → World → Prop) : Prop :=
  ∀ s W p v, J s W → (mine p.block ∨ B ≤ p.block) → J s (W.setCell p v)
/-- An iterator's word, where it may store into cells of its own; At: what holds of what comes. -/
def SeqS {α : Type} (F : Fence) (n : Nat) (P : Program) (g : Nat) (lb : Array Value) (encs : α → Array Value) (Kp : World → World → Prop) (mine : Nat → Prop) (At : α → World → Prop) (S Sp : List α → Prop) (N : Nat) (w : World) : Prop :=
  ∀ (l : Nat) (J Jx : List α → World → Prop) (W : World), Below w.heap.size w W → OwnFrom W.heap.size J → OwnFrom W.heap.size Jx → Free mine W.heap.size J → Free mine W.heap.size Jx →
    (∀ pre x W1, J pre W1 → pre.length < N → At x W1 → YieldAt F (n - 1) P l (encs x) W1 fun e W' =>
      (e = .returned (.bool true) ∧ J (pre ++ [x]) W' ∧ Kp W1 W') ∨ (e = .returned (.bool false) ∧ Jx (pre ++ [x]) W' ∧ Kp W1 W')) →
    J [] W →
    CallsIn F n P g (#[.func (.yield l) #[] #[]] ++ lb) W fun e W' => (∃ v, e = .returned v) ∧ ((∃ xs, S xs ∧ J xs W') ∨ (∃ pre, Sp pre ∧ Jx pre W'))

/-- The loop's record and its block for deferred calls. -/
structure Bk (l D : Nat) (r : Loop) (W : World) : Prop where
  it : W.heap[l]? = some (.loop r)
  dq : W.heap[D]? = some (.deferred (some []))
theorem Bk.grown {l D : Nat} {r : Loop} {A B : World} {row : Option Nat} (h : Bk l D r A) (hg : A.grownBy B row) (h1 : some l ≠ row) (h2 : some D ≠ row) : Bk l D r B :=
  ⟨(hg.block l (Array.getElem?_eq_some_iff.1 h.it).1 h1).trans h.it, (hg.block D (Array.getElem?_eq_some_iff.1 h.dq).1 h2).trans h.dq⟩
theorem Bk.cell {l D : Nat} {r : Loop} {A : World} (h : Bk l D r A) {p : Addr} (v : Value) (h1 : l ≠ p.block) (h2 : D ≠ p.block) : Bk l D r (A.setCell p v) :=
  ⟨(Below.heap_setCell A p v l h1).trans h.it, (Below.heap_setCell A p v D h2).trans h.dq⟩
theorem Bk.keeps {l D n : Nat} {r : Loop} {A B : World} (h : Bk l D r A) (k : KeepsFrom n A B) (h1 : n ≤ l) (h2 : n ≤ D) : Bk l D r B := ⟨k.same _ _ h1 h.it rfl, k.same _ _ h2 h.dq rfl⟩
theorem Bk.put {l D : Nat} {r : Loop} {A : World} (h : Bk l D r A) (r' : Loop) (hn : l ≠ D) : Bk l D r' (A.putObj l (.loop r')) :=
  ⟨World.putObj_heap_same (Array.getElem?_eq_some_iff.1 h.it).1, (World.putObj_heap_other (fun e => hn e.symm)).trans h.dq⟩

/-- How a round's body may be left. -/
def postS {α : Type} (B : Nat) (Kp : World → World → Prop) (I : List α → World → Prop) (Ix : Code → List α → World → Prop) (xs : List α) (W : World) : Exit → Act → World → Prop
  | .normal, _, W' => KeepsFrom B W W' ∧ Kp W W' ∧ I xs W'
  | .ret, _, W' => KeepsFrom B W W' ∧ Kp W W' ∧ Ix .ret xs W'
  | .exit id, _, W' => KeepsFrom B W W' ∧ Kp W W' ∧ Ix (.exit id) xs W'
  | .goto t, _, W' => KeepsFrom B W W' ∧ Kp W W' ∧ Ix (.goto t) xs W'
  | .panic _, _, _ => False
  | .outgrown, _, _ => False

variable {F : Fence} {n : Nat} {P : Program}

theorem wpIn_rangeFunc_free {α : Type} {g : Operand} {ps : Array Tmp} {assign body : Code} {Q : Exit → Act → World → Prop} {a : Act} {w : World}
    (hro : F.round = none) (h1 : 1 ≤ n) {gf : Nat} {lb : Array Value} (hg : a.eval g = .func (.func gf) #[] lb) (hFg : F.fn gf) (eg : ∀ args w, (callFunc gf args).run P w = .ok (.enter gf args) w)
    {encs : α → Array Value} {Kp : World → World → Prop} {mine : Nat → Prop} {At : α → World → Prop} {S Sp : List α → Prop} {N : Nat} {w0 : World} (hseq : SeqS F (n - 1) P gf lb encs Kp mine At S Sp N w0)
    (hAt : ∀ x (W : World) (l : Nat) (o o' : Obj), At x W → W.heap[l]? = some o → o.isCells = false → At x (W.putObj l o'))
    (hKt : ∀ {A B C : World}, Kp A B → Kp B C → Kp A C) (hKb : ∀ (W : World) (o o' : Obj), W.heap[w.heap.size + 1]? = some o → o.isCells = false → Kp W (W.putObj (w.heap.size + 1) o')) (hb0 : Below w0.heap.size w0 w) (hmine : ∀ b, mine b → b < w.heap.size) (hps : ∀ x, (encs x).size = ps.size)
    (I : List α → World → Prop) (Ix : Code → List α → World → Prop) (hI : OwnFrom w.heap.size I) (hIx : ∀ c, OwnFrom w.heap.size (Ix c)) (fI : Free mine w.heap.size I) (fIx : ∀ c, Free mine w.heap.size (Ix c)) (h0 : I [] w) (a₁ : α → Act)
    (hassign : ∀ (l : Nat) (x : α) (W : World) (K : Act → World → Prop), K (a₁ x) W →
      assign.wpIn (F.inRound l) (n - 1 - 1) P (Exit.then K (fun _ _ _ => False)) { tmps := (ps.zip (encs x)).foldl (fun t (p, v) => t.setIfInBounds p v) a.tmps, defers := [] } W)
    (hbody : ∀ (l : Nat) (pre : List α) (x : α) (W : World), I pre W → pre.length < N → At x W → body.wpIn (F.inRound l) (n - 1 - 1) P (postS w.heap.size Kp I Ix (pre ++ [x]) W) (a₁ x) W)
    (hdone : ∀ (D : Nat) (xs : List α) (W : World), w.heap.size ≤ D → S xs → I xs W → W.heap[D]? = some (.deferred (some [])) → Q .normal { a with defers := { target := .collected D, args := #[] } :: a.defers } W)
    (hstop : ∀ (D : Nat) (c : Code) (pre : List α) (W : World), w.heap.size ≤ D → Sp pre → Ix c pre W → W.heap[D]? = some (.deferred (some [])) → c.wpIn F n P Q { a with defers := { target := .collected D, args := #[] } :: a.defers } W) :
    (Code.rangeFunc g ps assign body).wpIn F n P Q a w := by
  refine wpIn_rangeFunc fun fn hfn => ?_
  rw [hro]
  let rc : LoopState → Option Code → Loop := fun st pe => { state := st, pending := pe, fn, tmps := a.tmps, params := ps, assign, body, defers := w.heap.size }
  have hne : w.heap.size + 1 ≠ w.heap.size := by omega
  obtain ⟨wl, hwl⟩ : ∃ wl, (w.alloc (.deferred (some []))).alloc (.loop (rc .ready none)) = wl := ⟨_, rfl⟩
  have hsz : wl.heap.size = w.heap.size + 2 := by rw [← hwl]; simp
  have hbl : Bk (w.heap.size + 1) w.heap.size (rc .ready none) wl := by
    rw [← hwl]
    refine ⟨?_, (Below.heap_alloc _ _ _ (by simp)).trans (World.alloc_heap_new w _)⟩
    have := World.alloc_heap_new (w.alloc (.deferred (some []))) (.loop (rc .ready none))
    rwa [World.size_alloc] at this
  have hIl : I [] wl := by rw [← hwl]; exact hI.alloc _ (hI.alloc _ h0)
  have hb1 : Below w0.heap.size w0 wl := by
    rw [← hwl]; exact hb0.trans ((((Below.refl _ w).alloc (Nat.le_refl _) _).alloc (by simp) _).mono hb0.size)
  refine ⟨w.heap.size + 1, [{ target := .collected w.heap.size, args := #[] }], wl, { target := .fn (.func gf) lb, args := #[.func (.yield (w.heap.size + 1)) #[] #[]] }, wl, gf,
    #[.func (.yield (w.heap.size + 1)) #[] #[]] ++ lb, wl, by rw [← hwl]; exact run_enterLoop_outer _ _ _ _ _, ?_, ?_, by simp [invoke, go_sem, eg], fun _ => h1, ?_⟩
  · simp only [resolve, hg]; simp [go_sem]
  · intro f' hf'; simp [Target.leads] at hf'; subst hf'; exact hFg
  have up : ∀ {A : World} {row : Option Nat}, (∀ r, row = some r → wl.heap.size ≤ r ∧ ∃ o : Obj, A.heap[r]? = some o ∧ o.isCells = false) → (∀ r, row = some r → w.heap.size ≤ r ∧ ∃ o : Obj, A.heap[r]? = some o ∧ o.isCells = false) ∧ some (w.heap.size + 1) ≠ row ∧ some w.heap.size ≠ row :=
    fun hr => ⟨fun r e => ⟨by have := (hr r e).1; omega, (hr r e).2⟩, fun e => by have := (hr _ e.symm).1; omega, fun e => by have := (hr _ e.symm).1; omega⟩
  have away : ∀ p : Addr, (mine p.block ∨ wl.heap.size ≤ p.block) → (mine p.block ∨ w.heap.size ≤ p.block) ∧ w.heap.size + 1 ≠ p.block ∧ w.heap.size ≠ p.block := fun p h => by
    rcases h with h | h
    · have := hmine _ h; exact ⟨.inl h, by omega, by omega⟩
    · exact ⟨.inr (by omega), by omega, by omega⟩
  refine (hseq (w.heap.size + 1)
    (fun pre W => I pre W ∧ Bk (w.heap.size + 1) w.heap.size (rc .ready none) W)
    (fun pre W => ∃ c, Ix c pre W ∧ Bk (w.heap.size + 1) w.heap.size (rc .done (some c)) W)
    wl hb1
    (fun s A B row hs hg' hr => ⟨hI s A B row hs.1 hg' (up hr).1, hs.2.grown hg' (up hr).2.1 (up hr).2.2⟩)
    (fun s A B row ⟨c, hc, hk⟩ hg' hr => ⟨c, hIx c s A B row hc hg' (up hr).1, hk.grown hg' (up hr).2.1 (up hr).2.2⟩)
    (fun s A p v hs hp => ⟨fI s A p v hs.1 (away p hp).1, hs.2.cell v (away p hp).2.1 (away p hp).2.2⟩)
    (fun s A p v ⟨c, hc, hk⟩ hp => ⟨c, fIx c s A p v hc (away p hp).1, hk.cell v (away p hp).2.1 (away p hp).2.2⟩)
    ?_ ⟨hIl, hbl⟩).mono ?_
  · rintro pre x W ⟨hi, hk⟩ hlen hat
    refine ⟨fn, _, assign, body, run_yield (r := rc .ready none) hk.it (hps x), roundIn_of_wpIn hfn (hassign _ x W _ ⟨_, run_beginRound hk.it rfl, ?_⟩)⟩
    have hk2 := hk.put { rc .ready none with state := .busy } hne
    have kp2 : Kp W (W.putObj (w.heap.size + 1) (.loop { rc .ready none with state := .busy })) := hKb _ _ _ hk.it rfl
    refine wpIn_mono (hbody _ pre x _ (hI.putObj _ hi (by omega) hk.it rfl) hlen (hAt x _ _ _ _ hat hk.it rfl)) fun e a3 W3 hp => ?_
    cases e with
    | normal =>
      obtain ⟨hk3, hkp3, hi3⟩ := hp
      have hk4 := hk2.keeps hk3 (by omega) (Nat.le_refl _)
      exact ⟨_, _, run_endRound none hk4.it, .inl ⟨rfl, ⟨hI.putObj _ hi3 (by omega) hk4.it rfl, hk4.put _ hne⟩, hKt (hKt kp2 hkp3) (hKb _ _ _ hk4.it rfl)⟩⟩
    | ret =>
      obtain ⟨hk3, hkp3, hi3⟩ := hp
      have hk4 := hk2.keeps hk3 (by omega) (Nat.le_refl _)
      exact ⟨_, _, run_endRound (some .ret) hk4.it, .inr ⟨rfl, ⟨.ret, (hIx _).putObj _ hi3 (by omega) hk4.it rfl, hk4.put _ hne⟩, hKt (hKt kp2 hkp3) (hKb _ _ _ hk4.it rfl)⟩⟩
    | exit id =>
      obtain ⟨hk3, hkp3, hi3⟩ := hp
      have hk4 := hk2.keeps hk3 (by omega) (Nat.le_refl _)
      exact ⟨_, _, run_endRound (some (.exit id)) hk4.it, .inr ⟨rfl, ⟨.exit id, (hIx _).putObj _ hi3 (by omega) hk4.it rfl, hk4.put _ hne⟩, hKt (hKt kp2 hkp3) (hKb _ _ _ hk4.it rfl)⟩⟩
    | goto t =>
      obtain ⟨hk3, hkp3, hi3⟩ := hp
      have hk4 := hk2.keeps hk3 (by omega) (Nat.le_refl _)
      exact ⟨_, _, run_endRound (some (.goto t)) hk4.it, .inr ⟨rfl, ⟨.goto t, (hIx _).putObj _ hi3 (by omega) hk4.it rfl, hk4.put _ hne⟩, hKt (hKt kp2 hkp3) (hKb _ _ _ hk4.it rfl)⟩⟩
    | panic ch => exact hp.elim
    | outgrown => exact hp.elim
  · rintro e W2 ⟨⟨v, rfl⟩, ⟨xs, hS, hi, hk⟩ | ⟨pre, hSp, c, hi, hk⟩⟩
    · exact ⟨none, _, run_endLoop hk.it (by simp [rc]), hdone _ xs _ (Nat.le_refl _) hS (hI.putObj _ hi (by omega) hk.it rfl) (hk.put _ hne).dq⟩
    · exact ⟨some c, _, run_endLoop hk.it (by simp [rc]), hstop _ c pre _ (Nat.le_refl _) hSp ((hIx c).putObj _ hi (by omega) hk.it rfl) (hk.put _ hne).dq⟩

/-- What a round keeps: all cells but those of its own. -/
structure Kx (own : Nat → Prop) (A B : World) : Prop where
  size : A.heap.size ≤ B.heap.size
  same : ∀ k o, ¬ own k → A.heap[k]? = some o → o.isCells = true → B.heap[k]? = some o
theorem Kx.refl (own : Nat → Prop) (A : World) : Kx own A A := ⟨Nat.le_refl _, fun _ _ _ h _ => h⟩
theorem Kx.trans {own : Nat → Prop} {A B C : World} (h : Kx own A B) (k : Kx own B C) : Kx own A C := ⟨Nat.le_trans h.size k.size, fun j o hj h1 h2 => k.same j o hj (h.same j o hj h1 h2) h2⟩
theorem Kx.put {own : Nat → Prop} (W : World) (l : Nat) (o o' : Obj) (h : W.heap[l]? = some o) (hc : o.isCells = false) : Kx own W (W.putObj l o') :=
  ⟨by simp, fun k o2 _ hk h2 => by
    have : k ≠ l := by rintro rfl; rw [h] at hk; cases hk; rw [hc] at h2; cases h2
    exact (World.putObj_heap_other this).trans hk⟩
theorem Kx.grown {own : Nat → Prop} {A B C : World} {row : Option Nat} (h : Kx own A B) (hg : B.grownBy C row) (hr : ∀ r, row = some r → ∃ o : Obj, B.heap[r]? = some o ∧ o.isCells = false) : Kx own A C :=
  ⟨Nat.le_trans h.size hg.size, fun k o hk h1 h2 => by
    have h3 := h.same k o hk h1 h2
    refine (hg.block k (Array.getElem?_eq_some_iff.1 h3).1 (fun e => ?_)).trans h3
    obtain ⟨o', ho, hc⟩ := hr k e.symm
    rw [h3] at ho
    cases ho
    rw [h2] at hc
    cases hc⟩
/-- A store into a cell that did not lie when it began. -/
theorem Kx.fresh {own : Nat → Prop} {A B : World} (h : Kx own A B) {p : Addr} (v : Value) (hp : A.heap.size ≤ p.block) : Kx own A (B.setCell p v) :=
  ⟨Nat.le_trans h.size (by simp [World.setCell]), fun k o hk h1 h2 => (Below.heap_setCell B p v k (by have := (Array.getElem?_eq_some_iff.1 h1).1; omega)).trans (h.same k o hk h1 h2)⟩
theorem Kx.below {own : Nat → Prop} {A B : World} (h : Below A.heap.size A B) : Kx own A B :=
  ⟨h.size, fun k _ _ hk _ => (h.block k (Array.getElem?_eq_some_iff.1 hk).1).trans hk⟩
theorem Kx.cell {own : Nat → Prop} {A : World} {p : Addr} (v : Value) (h : own p.block) : Kx own A (A.setCell p v) :=
  ⟨by simp [World.setCell], fun k _ hk h1 _ => (Below.heap_setCell A p v k (by rintro rfl; exact hk h)).trans h1⟩
theorem Kx.less {own own' : Nat → Prop} {A B : World} (h : Kx own A B) (hl : ∀ k, own k → own' k) : Kx own' A B := ⟨h.size, fun k o hk => h.same k o (fun e => hk (hl k e))⟩
theorem Kx.at {own : Nat → Prop} {A B : World} (h : Kx own A B) {p : Addr} {v : Value} (hp : A.cell? p = some v) (ho : ¬ own p.block) : B.cell? p = some v := by
  unfold World.cell? at hp ⊢
  cases ha : A.heap[p.block]? with
  | none => rw [ha] at hp; cases hp
  | some o =>
    rw [ha] at hp
    cases o with
    | cells c t f => rw [h.same _ _ ho ha rfl]; exact hp
    | _ => simp at hp
/-- What a round keeps: all cells but its own, and what else lies at B or beyond. -/
def Ky (own : Nat → Prop) (B : Nat) (X Y : World) : Prop := Kx own X Y ∧ KeepsFrom B X Y
theorem Ky.trans {own : Nat → Prop} {B : Nat} {X Y Z : World} (h : Ky own B X Y) (k : Ky own B Y Z) : Ky own B X Z := ⟨h.1.trans k.1, h.2.trans k.2⟩
theorem Ky.less {own : Nat → Prop} {B B' : Nat} {X Y : World} (h : Ky own B X Y) (hB : B ≤ B') : Ky own B' X Y := ⟨h.1, h.2.size, fun k o hk => h.2.same k o (by omega)⟩
theorem Ky.put {own : Nat → Prop} {B l : Nat} {W : World} {o o' : Obj} (hl : l < B) (h : W.heap[l]? = some o) (hc : o.isCells = false) : Ky own B W (W.putObj l o') :=
  ⟨Kx.put W l o o' h hc, by simp, fun k o2 hk h2 _ => (World.putObj_heap_other (by omega)).trans h2⟩
theorem Ky.below {own : Nat → Prop} {B : Nat} {X Y : World} (h : Below X.heap.size X Y) : Ky own B X Y :=
  ⟨Kx.below h, h.size, fun k o _ hk _ => (h.block k (Array.getElem?_eq_some_iff.1 hk).1).trans hk⟩
theorem Ky.cell {own : Nat → Prop} {B : Nat} {X : World} {p : Addr} (v : Value) (h : own p.block) : Ky own B X (X.setCell p v) := ⟨Kx.cell v h, (KeepsOthers.setCell X p v).from B⟩
theorem grown_of_below {X Y : World} (h : Below X.heap.size X Y) : X.grownBy Y none := ⟨h.os, h.tape, h.output, h.size, fun k hk _ => h.block k hk⟩
end Go.Proofs.YtgldnkpanimihaaDoor
