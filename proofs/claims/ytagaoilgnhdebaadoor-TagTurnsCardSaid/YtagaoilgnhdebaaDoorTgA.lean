/-
  Trees of constraints as plain data (Xp), and when a slice value holds a list of them in memory (Xids). Plain lemmas; no program.
-/
import Derived.Test.YtagaoilgnhdebaaDoorBgT
namespace Go.Proofs.YtagaoilgnhdebaaDoor
set_option linter.unusedSimpArgs false
set_option linter.unusedVariables false
open Go.RowKit

/-- A constraint: its sign, its tag, its parts. -/
inductive Xp where
  | mk (op tag : List UInt8) (kids : List Xp)

namespace Xp
def op : Xp → List UInt8 | .mk o _ _ => o
def tag : Xp → List UInt8 | .mk _ t _ => t
def kids : Xp → List Xp | .mk _ _ l => l
@[simp] theorem op_mk (o t l) : (Xp.mk o t l).op = o := rfl
@[simp] theorem tag_mk (o t l) : (Xp.mk o t l).tag = t := rfl
@[simp] theorem kids_mk (o t l) : (Xp.mk o t l).kids = l := rfl
theorem eta (t : Xp) : Xp.mk t.op t.tag t.kids = t := by cases t; rfl
instance : Inhabited Xp := ⟨.mk [] [] []⟩
end Xp

/-- What a constraint's own lengths must be to be a Go value. -/
def Fitx (t : Xp) (c : Nat) : Prop :=
  t.op.length ≤ 140737488351232 ∧ t.tag.length ≤ 140737488351232 ∧ t.kids.length ≤ c ∧ c ≤ 9223372036854775807 ∧ t.kids.length * 56 ≤ 140737488351232

/-- The three cells of one, from an offset on. -/
def Three (w : World) (b off : Nat) (t : Xp) (a : Option Addr) (c : Nat) : Prop :=
  w.cell? ⟨b, off, none⟩ = some (.string ⟨t.op.toArray⟩) ∧ w.cell? ⟨b, off + 1, none⟩ = some (.string ⟨t.tag.toArray⟩) ∧
  w.cell? ⟨b, off + 2, none⟩ = some (.slice a t.kids.length c)

mutual
def XpIn (w : World) (Zo : Nat → Prop) : Xp → Option Addr → Prop
  | .mk _ _ kids, a => XidsFrom w Zo kids a 0
def XidsFrom (w : World) (Zo : Nat → Prop) : List Xp → Option Addr → Nat → Prop
  | [], _, _ => True
  | t :: ts, a, i => (∃ b off a' c', a = some ⟨b, off, none⟩ ∧ Zo b ∧ Three w b (off + i * 3) t a' c' ∧ Fitx t c' ∧ XpIn w Zo t a') ∧ XidsFrom w Zo ts a (i + 1)
end

/-- The slice that begins at a holds these, all of whose memory lies in the zone. -/
def Xids (w : World) (Zo : Nat → Prop) (a : Option Addr) (l : List Xp) : Prop := XidsFrom w Zo l a 0

theorem xpIn_iff (w : World) (Zo : Nat → Prop) (t : Xp) (a : Option Addr) : XpIn w Zo t a ↔ Xids w Zo a t.kids := by
  cases t; simp [XpIn, Xids]

theorem xidsFrom_iff (w : World) (Zo : Nat → Prop) (a : Option Addr) : ∀ (l : List Xp) (i : Nat), XidsFrom w Zo l a i ↔
    ∀ j (h : j < l.length), ∃ b off a' c', a = some ⟨b, off, none⟩ ∧ Zo b ∧ Three w b (off + (i + j) * 3) l[j] a' c' ∧ Fitx l[j] c' ∧ Xids w Zo a' l[j].kids
  | [], i => by simp [XidsFrom]
  | t :: ts, i => by
    rw [XidsFrom, xidsFrom_iff w Zo a ts (i + 1)]
    constructor
    · rintro ⟨⟨b, off, a', c', ha, hb, h4, hf, hn⟩, h⟩ j hj
      cases j with
      | zero => exact ⟨b, off, a', c', ha, hb, by simpa using h4, by simpa using hf, by simpa using (xpIn_iff w Zo t a').1 hn⟩
      | succ j =>
        obtain ⟨b, off, a', c', ha, hb, h4, hf, hn⟩ := h j (by simpa using hj)
        exact ⟨b, off, a', c', ha, hb, by simpa [Nat.add_assoc, Nat.add_comm 1 j] using h4, by simpa using hf, by simpa using hn⟩
    · intro h
      refine ⟨?_, fun j hj => ?_⟩
      · obtain ⟨b, off, a', c', ha, hb, h4, hf, hn⟩ := h 0 (by simp)
        exact ⟨b, off, a', c', ha, hb, by simpa using h4, by simpa using hf, (xpIn_iff w Zo t a').2 (by simpa using hn)⟩
      · obtain ⟨b, off, a', c', ha, hb, h4, hf, hn⟩ := h (j + 1) (by simpa using hj)
        exact ⟨b, off, a', c', ha, hb, by simpa [Nat.add_assoc, Nat.add_comm 1 j] using h4, by simpa using hf, by simpa using hn⟩

theorem xids_iff {w : World} {Zo : Nat → Prop} {a : Option Addr} {l : List Xp} : Xids w Zo a l ↔
    ∀ j (h : j < l.length), ∃ b off a' c', a = some ⟨b, off, none⟩ ∧ Zo b ∧ Three w b (off + j * 3) l[j] a' c' ∧ Fitx l[j] c' ∧ Xids w Zo a' l[j].kids := by
  unfold Xids
  rw [xidsFrom_iff]
  simp [Xids]

theorem Xids.nil (w : World) (Zo : Nat → Prop) (a : Option Addr) : Xids w Zo a [] := by simp [Xids, XidsFrom]

theorem Xids.get {w : World} {Zo : Nat → Prop} {a : Option Addr} {l : List Xp} (h : Xids w Zo a l) {j : Nat} (hj : j < l.length) :
    ∃ b off a' c', a = some ⟨b, off, none⟩ ∧ Zo b ∧ Three w b (off + j * 3) l[j] a' c' ∧ Fitx l[j] c' ∧ Xids w Zo a' l[j].kids := xids_iff.1 h j hj

/-- Induction on constraints through the list of parts. -/
theorem Xp.ind {M : Xp → Prop} (h : ∀ t : Xp, (∀ k, k ∈ t.kids → M k) → M t) : ∀ t, M t
  | .mk o s l => h (.mk o s l) (fun x hx => Xp.ind h x)
termination_by t => SizeOf.sizeOf t
decreasing_by
  have := List.sizeOf_lt_of_mem hx
  simp_all
  omega

/-- Cells of the zone that are kept, in a zone that holds it. -/
theorem Xids.moveAll {w w' : World} {Zo Zo' : Nat → Prop} (hZ : ∀ b, Zo b → Zo' b) (hk : ∀ (p : Addr) u, Zo p.block → w.cell? p = some u → w'.cell? p = some u) :
    ∀ (t : Xp) (a : Option Addr), Xids w Zo a t.kids → Xids w' Zo' a t.kids := by
  refine Xp.ind (fun t ih a h => ?_)
  rw [xids_iff] at h ⊢
  intro j hj
  obtain ⟨b, off, a', c', ha, hb, ⟨h0, h1, h2⟩, hf, hn⟩ := h j hj
  exact ⟨b, off, a', c', ha, hZ b hb, ⟨hk _ _ hb h0, hk _ _ hb h1, hk _ _ hb h2⟩, hf, ih _ (List.getElem_mem hj) a' hn⟩
theorem Xids.move {w w' : World} {Zo Zo' : Nat → Prop} {a : Option Addr} {l : List Xp} (h : Xids w Zo a l) (hZ : ∀ b, Zo b → Zo' b) (hk : ∀ (p : Addr) u, Zo p.block → w.cell? p = some u → w'.cell? p = some u) : Xids w' Zo' a l :=
  Xids.moveAll hZ hk (.mk [] [] l) a h
/-- All that lies. -/
def Any (_ : Nat) : Prop := True
theorem cell_lt1 {w : World} {p : Addr} {v : Value} (h : w.cell? p = some v) : p.block < w.heap.size := by
  unfold World.cell? at h
  rcases Nat.lt_or_ge p.block w.heap.size with hl | hl
  · exact hl
  · simp only [Array.getElem?_eq_none hl] at h
    cases h
/-- From one world on into a later one that has kept all that lay. -/
theorem Xids.on {w w' : World} {Zo : Nat → Prop} {a : Option Addr} {l : List Xp} (h : Xids w Zo a l) (hb : Below w.heap.size w w') : Xids w' Zo a l :=
  h.move (fun _ h => h) (fun p u _ hu => (hb.cell (cell_lt1 hu)).trans hu)
theorem Xids.any {w : World} {Zo : Nat → Prop} {a : Option Addr} {l : List Xp} (h : Xids w Zo a l) : Xids w Any a l := h.move (fun _ _ => trivial) (fun _ _ _ hu => hu)
/-- The call of function g is entered in place. -/
def Enters (P : Program) (g : Nat) : Prop := ∀ args w, (callFunc g args).run P w = .ok (.enter g args) w
/-- Called with this constraint, in whatever later world, the function value g over lb hands back b and turns nothing that lay. -/
def SaysXp (P : Program) (g : Nat) (lb : Array Value) (t : Xp) (b : Bool) (w : World) : Prop :=
  ∀ W a c, Below w.heap.size w W → Xids W Any a t.kids → Fitx t c → Calls P g (#[.agg #[.string ⟨t.op.toArray⟩, .string ⟨t.tag.toArray⟩, .slice a t.kids.length c]] ++ lb) W fun e W' => e = .returned (.bool b) ∧ Below W.heap.size W W'
theorem SaysXp.on {P : Program} {g : Nat} {lb : Array Value} {t : Xp} {b : Bool} {w w' : World} (h : SaysXp P g lb t b w) (hb : Below w.heap.size w w') : SaysXp P g lb t b w' :=
  fun W a c hW => h W a c (bext hb hW)
/-- The first place of which q holds is i; none: i is below 0. -/
def FirstAt (q : Xp → Bool) (l : List Xp) (w : World) (e : Ending) (w' : World) : Prop := ∃ i : Int, e = .returned (.int .i64 i) ∧ decide (0 ≤ i) = l.any q ∧ Below w.heap.size w w'
theorem any_take {q : Xp → Bool} {l : List Xp} {k : Nat} (hk : k < l.length) (h : (l.take k).any q = false) (hq : q l[k] = false) : (l.take (k + 1)).any q = false := by
  rw [List.take_succ_eq_append_getElem hk, List.any_append, h]; simp [hq]
theorem any_at {q : Xp → Bool} {l : List Xp} {k : Nat} (hk : k < l.length) (hq : q l[k] = true) : l.any q = true :=
  List.any_eq_true.2 ⟨_, List.getElem_mem hk, hq⟩
theorem len_zero {α : Type} (l : List α) : ((l.length : Int) == 0) = l.isEmpty := by cases l <;> simp; omega
theorem not_any_not {α : Type} (l : List α) (p : α → Bool) : (!(l.any fun t => !p t)) = l.all p := by
  induction l with
  | nil => rfl
  | cons x r ih => simp only [List.any_cons, List.all_cons, ← ih]; cases p x <;> simp
theorem cell_new (w : World) (v : Value) (ty : TypeId) : (w.alloc (.cells #[v] ty)).cell? ⟨w.heap.size, 0, none⟩ = some v := by
  simp
end Go.Proofs.YtagaoilgnhdebaaDoor
