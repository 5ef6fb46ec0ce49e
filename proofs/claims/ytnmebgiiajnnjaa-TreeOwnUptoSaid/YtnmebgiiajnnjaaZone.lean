/-
  nodes in a zone of blocks; copies, plain
-/
import Derived.Test.YtnmebgiiajnnjaaIterA
namespace Go.Proofs.Ytnmebgiiajnnjaa
set_option linter.unusedSimpArgs false
set_option linter.unusedVariables false
open Go.RowKit

mutual
def NdZ (w : World) (Z : Nat → Prop) : Nd → Option Addr → Prop
  | .mk _ _ kids _, a => KidsZFrom w Z kids a 0
def KidsZFrom (w : World) (Z : Nat → Prop) : List Nd → Option Addr → Nat → Prop
  | [], _, _ => True
  | t :: ts, a, i => (∃ b off a' c', a = some ⟨b, off, none⟩ ∧ Z b ∧ Four w b (off + i * 4) t a' c' ∧ Fits t c' ∧ NdZ w Z t a') ∧ KidsZFrom w Z ts a (i + 1)
end

/-- The slice that begins at a holds these nodes, all of whose memory lies in blocks of a zone. -/
def KidsZ (w : World) (Z : Nat → Prop) (a : Option Addr) (l : List Nd) : Prop := KidsZFrom w Z l a 0

theorem ndZ_iff (w : World) (Z : Nat → Prop) (t : Nd) (a : Option Addr) : NdZ w Z t a ↔ KidsZ w Z a t.kids := by
  cases t; simp [NdZ, KidsZ]

theorem kidsZFrom_iff (w : World) (Z : Nat → Prop) (a : Option Addr) : ∀ (l : List Nd) (i : Nat), KidsZFrom w Z l a i ↔
    ∀ j (h : j < l.length), ∃ b off a' c', a = some ⟨b, off, none⟩ ∧ Z b ∧ Four w b (off + (i + j) * 4) l[j] a' c' ∧ Fits l[j] c' ∧ KidsZ w Z a' l[j].kids
  | [], i => by simp [KidsZFrom]
  | t :: ts, i => by
    rw [KidsZFrom, kidsZFrom_iff w Z a ts (i + 1)]
    constructor
    · rintro ⟨⟨b, off, a', c', ha, hb, h4, hf, hn⟩, h⟩ j hj
      cases j with
      | zero => exact ⟨b, off, a', c', ha, hb, by simpa using h4, by simpa using hf, by simpa using (ndZ_iff w Z t a').1 hn⟩
      | succ j =>
        obtain ⟨b, off, a', c', ha, hb, h4, hf, hn⟩ := h j (by simpa using hj)
        exact ⟨b, off, a', c', ha, hb, by simpa [Nat.add_assoc, Nat.add_comm 1 j] using h4, by simpa using hf, by simpa using hn⟩
    · intro h
      refine ⟨?_, fun j hj => ?_⟩
      · obtain ⟨b, off, a', c', ha, hb, h4, hf, hn⟩ := h 0 (by simp)
        exact ⟨b, off, a', c', ha, hb, by simpa using h4, by simpa using hf, (ndZ_iff w Z t a').2 (by simpa using hn)⟩
      · obtain ⟨b, off, a', c', ha, hb, h4, hf, hn⟩ := h (j + 1) (by simpa using hj)
        exact ⟨b, off, a', c', ha, hb, by simpa [Nat.add_assoc, Nat.add_comm 1 j] using h4, by simpa using hf, by simpa using hn⟩

theorem kidsZ_iff {w : World} {Z : Nat → Prop} {a : Option Addr} {l : List Nd} : KidsZ w Z a l ↔
    ∀ j (h : j < l.length), ∃ b off a' c', a = some ⟨b, off, none⟩ ∧ Z b ∧ Four w b (off + j * 4) l[j] a' c' ∧ Fits l[j] c' ∧ KidsZ w Z a' l[j].kids := by
  unfold KidsZ
  rw [kidsZFrom_iff]
  simp [KidsZ]

theorem KidsZ.moveAll {w w' : World} {Z Z' : Nat → Prop} (hZ : ∀ b, Z b → Z' b) (hk : ∀ p v, Z p.block → w.cell? p = some v → w'.cell? p = some v) :
    ∀ (t : Nd) (a : Option Addr), KidsZ w Z a t.kids → KidsZ w' Z' a t.kids := by
  refine Nd.ind (fun t ih a h => ?_)
  rw [kidsZ_iff] at h ⊢
  intro j hj
  obtain ⟨b, off, a', c', ha, hb, ⟨h0, h1, h2, h3⟩, hf, hn⟩ := h j hj
  exact ⟨b, off, a', c', ha, hZ b hb, ⟨hk ⟨b, _, none⟩ _ hb h0, hk ⟨b, _, none⟩ _ hb h1, hk ⟨b, _, none⟩ _ hb h2, hk ⟨b, _, none⟩ _ hb h3⟩, hf, ih _ (List.getElem_mem hj) a' hn⟩
theorem KidsZ.move {w w' : World} {Z Z' : Nat → Prop} {a : Option Addr} {l : List Nd} (h : KidsZ w Z a l) (hZ : ∀ b, Z b → Z' b) (hk : ∀ p v, Z p.block → w.cell? p = some v → w'.cell? p = some v) : KidsZ w' Z' a l :=
  KidsZ.moveAll hZ hk (.mk 0 [] l 0) a h
theorem KidsZ.mono {w : World} {Z Z' : Nat → Prop} {a : Option Addr} {l : List Nd} (h : KidsZ w Z a l) (hZ : ∀ b, Z b → Z' b) : KidsZ w Z' a l := h.move hZ (fun _ _ _ hv => hv)

theorem kidsZ_of_kids {w : World} {B : Nat} : ∀ (t : Nd) (a : Option Addr), Kids w B a t.kids → KidsZ w (· < B) a t.kids := by
  refine Nd.ind (fun t ih a h => ?_)
  rw [kids_iff] at h
  rw [kidsZ_iff]
  intro j hj
  obtain ⟨b, off, a', c', ha, hb, h4, hf, hn⟩ := h j hj
  exact ⟨b, off, a', c', ha, hb, h4, hf, ih _ (List.getElem_mem hj) a' hn⟩
theorem kids_of_kidsZ {w : World} {B : Nat} : ∀ (t : Nd) (a : Option Addr), KidsZ w (· < B) a t.kids → Kids w B a t.kids := by
  refine Nd.ind (fun t ih a h => ?_)
  rw [kidsZ_iff] at h
  rw [kids_iff]
  intro j hj
  obtain ⟨b, off, a', c', ha, hb, h4, hf, hn⟩ := h j hj
  exact ⟨b, off, a', c', ha, hb, h4, hf, ih _ (List.getElem_mem hj) a' hn⟩
theorem Kids.toZ {w : World} {B : Nat} {a : Option Addr} {l : List Nd} (h : Kids w B a l) : KidsZ w (· < B) a l := kidsZ_of_kids (.mk 0 [] l 0) a h
theorem KidsZ.toKids {w : World} {B : Nat} {a : Option Addr} {l : List Nd} (h : KidsZ w (· < B) a l) : Kids w B a l := kids_of_kidsZ (.mk 0 [] l 0) a h
theorem KidsZ.kids {w : World} {Z : Nat → Prop} {B : Nat} {a : Option Addr} {l : List Nd} (h : KidsZ w Z a l) (hZ : ∀ b, Z b → b < B) : Kids w B a l := (h.mono hZ).toKids
theorem KidsZ.nil (w : World) (Z : Nat → Prop) (a : Option Addr) : KidsZ w Z a [] := by simp [KidsZ, KidsZFrom]

/-- A block of cells made behind n, that may be written. -/
def Fresh (n : Nat) (w : World) (b : Nat) : Prop := n ≤ b ∧ ∃ cs ty, w.heap[b]? = some (.cells cs ty (0, 0))
theorem Fresh.lo {n b : Nat} {w : World} (h : Fresh n w b) : n ≤ b := h.1
theorem Fresh.hi {n b : Nat} {w : World} (h : Fresh n w b) : b < w.heap.size := by
  obtain ⟨_, cs, ty, h⟩ := h
  exact (Array.getElem?_eq_some_iff.1 h).1
theorem Fresh.fr {n b : Nat} {w : World} (h : Fresh n w b) (o : Nat) : w.frozen? ⟨b, o, none⟩ = false := by
  obtain ⟨_, cs, ty, h⟩ := h
  simp [World.frozen?, h]
theorem Fresh.low {n n' b : Nat} {w : World} (h : Fresh n w b) (hn : n' ≤ b) : Fresh n' w b := ⟨hn, h.2⟩
theorem Fresh.keep {n b : Nat} {w w' : World} (h : Fresh n w b) (hk : w'.heap[b]? = w.heap[b]?) : Fresh n w' b := by
  obtain ⟨h1, cs, ty, h⟩ := h
  exact ⟨h1, cs, ty, hk.trans h⟩
theorem Fresh.on {n b : Nat} {w w' : World} (h : Fresh n w b) (hb : Below w.heap.size w w') : Fresh n w' b := h.keep (hb.block b h.hi)
theorem Fresh.set {n b : Nat} {w : World} (h : Fresh n w b) (p : Addr) (u : Value) : Fresh n (w.setCell p u) b := by
  obtain ⟨h1, cs, ty, h⟩ := h
  refine ⟨h1, ?_⟩
  by_cases e : p.block = b
  · refine ⟨if p.spot.isSome then cs else cs.setIfInBounds p.off u, ty, ?_⟩
    unfold World.setCell
    simp only [Array.getElem?_modify, e, if_true, h, Option.map_some]
  · refine ⟨cs, ty, ?_⟩
    unfold World.setCell
    simp only [Array.getElem?_modify, e, if_false, h]
theorem Fresh.al {n b : Nat} {w : World} (h : Fresh n w b) (o : Obj) : Fresh n (w.alloc o) b := h.on (below_alloc w o)

/-- A copy, with some nodes replaced, to a depth. -/
def copyL (f : Nd → Option Nd) : Nat → Nd → Nd
  | 0, t => t
  | d + 1, t => match f t with
    | some by_ => by_
    | none => .mk t.kind t.text (t.kids.map (copyL f d)) t.pos
theorem copyL_none : ∀ (d : Nat) (t : Nd), copyL (fun _ => none) d t = t
  | 0, t => rfl
  | d + 1, t => by
    have e : copyL (fun _ => none) d = id := funext (fun k => copyL_none d k)
    rw [copyL, e, List.map_id, Nd.eta]
end Go.Proofs.Ytnmebgiiajnnjaa
