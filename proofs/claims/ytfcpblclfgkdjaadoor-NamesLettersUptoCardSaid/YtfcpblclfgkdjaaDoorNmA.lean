/-
  names: when a slice value holds a list of types in memory. Plain lemmas; no program.
-/
import Derived.Test.YtfcpblclfgkdjaaDoorBgT
import Derived.Test.YtfcpblclfgkdjaaDoorNmPa
namespace Go.Proofs.YtfcpblclfgkdjaaDoor
set_option linter.unusedSimpArgs false
set_option linter.unusedVariables false
open Go.RowKit

/-- What a type's own parts must be to be a Go value. -/
def Fity (t : Ty) (c : Nat) : Prop :=
  (-9223372036854775808 ≤ t.kind ∧ t.kind ≤ 9223372036854775807) ∧ t.name.length ≤ 140737488351232 ∧ t.args.length ≤ c ∧ c ≤ 9223372036854775807 ∧ t.args.length * 48 ≤ 140737488351232

/-- The three cells of one, from an offset on. -/
def TThree (w : World) (b off : Nat) (t : Ty) (a : Option Addr) (c : Nat) : Prop :=
  w.cell? ⟨b, off, none⟩ = some (.int .i64 t.kind) ∧ w.cell? ⟨b, off + 1, none⟩ = some (.string ⟨t.name.toArray⟩) ∧
  w.cell? ⟨b, off + 2, none⟩ = some (.slice a t.args.length c)

mutual
def TyIn (w : World) (Zo : Nat → Prop) : Ty → Option Addr → Prop
  | .mk _ _ args, a => TidsFrom w Zo args a 0
def TidsFrom (w : World) (Zo : Nat → Prop) : List Ty → Option Addr → Nat → Prop
  | [], _, _ => True
  | t :: ts, a, i => (∃ b off a' c', a = some ⟨b, off, none⟩ ∧ Zo b ∧ TThree w b (off + i * 3) t a' c' ∧ Fity t c' ∧ TyIn w Zo t a') ∧ TidsFrom w Zo ts a (i + 1)
end

/-- The slice that begins at a holds these, all of whose memory lies in the zone. -/
def Tids (w : World) (Zo : Nat → Prop) (a : Option Addr) (l : List Ty) : Prop := TidsFrom w Zo l a 0

theorem tyIn_iff (w : World) (Zo : Nat → Prop) (t : Ty) (a : Option Addr) : TyIn w Zo t a ↔ Tids w Zo a t.args := by
  cases t; simp [TyIn, Tids]

theorem tidsFrom_iff (w : World) (Zo : Nat → Prop) (a : Option Addr) : ∀ (l : List Ty) (i : Nat), TidsFrom w Zo l a i ↔
    ∀ j (h : j < l.length), ∃ b off a' c', a = some ⟨b, off, none⟩ ∧ Zo b ∧ TThree w b (off + (i + j) * 3) l[j] a' c' ∧ Fity l[j] c' ∧ Tids w Zo a' l[j].args
  | [], i => by simp [TidsFrom]
  | t :: ts, i => by
    rw [TidsFrom, tidsFrom_iff w Zo a ts (i + 1)]
    constructor
    · rintro ⟨⟨b, off, a', c', ha, hb, h4, hf, hn⟩, h⟩ j hj
      cases j with
      | zero => exact ⟨b, off, a', c', ha, hb, by simpa using h4, by simpa using hf, by simpa using (tyIn_iff w Zo t a').1 hn⟩
      | succ j =>
        obtain ⟨b, off, a', c', ha, hb, h4, hf, hn⟩ := h j (by simpa using hj)
        exact ⟨b, off, a', c', ha, hb, by simpa [Nat.add_assoc, Nat.add_comm 1 j] using h4, by simpa using hf, by simpa using hn⟩
    · intro h
      refine ⟨?_, fun j hj => ?_⟩
      · obtain ⟨b, off, a', c', ha, hb, h4, hf, hn⟩ := h 0 (by simp)
        exact ⟨b, off, a', c', ha, hb, by simpa using h4, by simpa using hf, (tyIn_iff w Zo t a').2 (by simpa using hn)⟩
      · obtain ⟨b, off, a', c', ha, hb, h4, hf, hn⟩ := h (j + 1) (by simpa using hj)
        exact ⟨b, off, a', c', ha, hb, by simpa [Nat.add_assoc, Nat.add_comm 1 j] using h4, by simpa using hf, by simpa using hn⟩

theorem tids_iff {w : World} {Zo : Nat → Prop} {a : Option Addr} {l : List Ty} : Tids w Zo a l ↔
    ∀ j (h : j < l.length), ∃ b off a' c', a = some ⟨b, off, none⟩ ∧ Zo b ∧ TThree w b (off + j * 3) l[j] a' c' ∧ Fity l[j] c' ∧ Tids w Zo a' l[j].args := by
  unfold Tids
  rw [tidsFrom_iff]
  simp [Tids]

theorem Tids.nil (w : World) (Zo : Nat → Prop) (a : Option Addr) : Tids w Zo a [] := by simp [Tids, TidsFrom]

theorem Tids.get {w : World} {Zo : Nat → Prop} {a : Option Addr} {l : List Ty} (h : Tids w Zo a l) {j : Nat} (hj : j < l.length) :
    ∃ b off a' c', a = some ⟨b, off, none⟩ ∧ Zo b ∧ TThree w b (off + j * 3) l[j] a' c' ∧ Fity l[j] c' ∧ Tids w Zo a' l[j].args := tids_iff.1 h j hj

/-- Cells of the zone that are kept, in a zone that holds it. -/
theorem Tids.moveAll {w w' : World} {Zo Zo' : Nat → Prop} (hZ : ∀ b, Zo b → Zo' b) (hk : ∀ (p : Addr) u, Zo p.block → w.cell? p = some u → w'.cell? p = some u) :
    ∀ (t : Ty) (a : Option Addr), Tids w Zo a t.args → Tids w' Zo' a t.args := by
  refine Ty.ind (fun t ih a h => ?_)
  rw [tids_iff] at h ⊢
  intro j hj
  obtain ⟨b, off, a', c', ha, hb, ⟨h0, h1, h2⟩, hf, hn⟩ := h j hj
  exact ⟨b, off, a', c', ha, hZ b hb, ⟨hk _ _ hb h0, hk _ _ hb h1, hk _ _ hb h2⟩, hf, ih _ (List.getElem_mem hj) a' hn⟩
theorem Tids.move {w w' : World} {Zo Zo' : Nat → Prop} {a : Option Addr} {l : List Ty} (h : Tids w Zo a l) (hZ : ∀ b, Zo b → Zo' b) (hk : ∀ (p : Addr) u, Zo p.block → w.cell? p = some u → w'.cell? p = some u) : Tids w' Zo' a l :=
  Tids.moveAll hZ hk (.mk 0 [] l) a h
/-- All that lies. -/
def Any (_ : Nat) : Prop := True
theorem cell_lt1 {w : World} {p : Addr} {v : Value} (h : w.cell? p = some v) : p.block < w.heap.size := by
  unfold World.cell? at h
  rcases Nat.lt_or_ge p.block w.heap.size with hl | hl
  · exact hl
  · simp only [Array.getElem?_eq_none hl] at h
    cases h
/-- From one world on into a later one that has kept all that lay. -/
theorem Tids.on {w w' : World} {Zo : Nat → Prop} {a : Option Addr} {l : List Ty} (h : Tids w Zo a l) (hb : Below w.heap.size w w') : Tids w' Zo a l :=
  h.move (fun _ h => h) (fun p u _ hu => (hb.cell (cell_lt1 hu)).trans hu)
theorem Tids.any {w : World} {Zo : Nat → Prop} {a : Option Addr} {l : List Ty} (h : Tids w Zo a l) : Tids w Any a l := h.move (fun _ _ => trivial) (fun _ _ _ hu => hu)
end Go.Proofs.YtfcpblclfgkdjaaDoor
