/-
  Trees of api.Node as plain data (Nd), and when a slice value holds a list of them in memory (Kids). Plain lemmas; no program.
-/
import Derived.Test.YtfcpblclfgkdjaaGreatDoorTok
namespace Go.Proofs.YtfcpblclfgkdjaaGreatDoor
set_option linter.unusedSimpArgs false
set_option linter.unusedVariables false
open Go.RowKit

/-- A node: kind, text, kids, the byte at which it begins. -/
inductive Nd where
  | mk (kind : Int) (text : List UInt8) (kids : List Nd) (pos : Int)

namespace Nd
def kind : Nd → Int | .mk k _ _ _ => k
def text : Nd → List UInt8 | .mk _ s _ _ => s
def kids : Nd → List Nd | .mk _ _ l _ => l
def pos : Nd → Int | .mk _ _ _ p => p
@[simp] theorem kind_mk (k s l p) : (Nd.mk k s l p).kind = k := rfl
@[simp] theorem text_mk (k s l p) : (Nd.mk k s l p).text = s := rfl
@[simp] theorem kids_mk (k s l p) : (Nd.mk k s l p).kids = l := rfl
@[simp] theorem pos_mk (k s l p) : (Nd.mk k s l p).pos = p := rfl
theorem eta (t : Nd) : Nd.mk t.kind t.text t.kids t.pos = t := by cases t; rfl
instance : Inhabited Nd := ⟨.mk 0 [] [] 0⟩
end Nd

/-- What a node's own numbers and lengths must be to be a Go value. -/
def Fits (t : Nd) (c : Nat) : Prop :=
  -9223372036854775808 ≤ t.kind ∧ t.kind ≤ 9223372036854775807 ∧ -9223372036854775808 ≤ t.pos ∧ t.pos ≤ 9223372036854775807 ∧
  t.text.length ≤ 140737488351232 ∧ t.kids.length ≤ c ∧ (c ≤ 9223372036854775807 ∧ t.kids.length * 56 ≤ 140737488351232)

/-- The four cells of one node, from an offset on. -/
def Four (w : World) (b off : Nat) (t : Nd) (a : Option Addr) (c : Nat) : Prop :=
  w.cell? ⟨b, off, none⟩ = some (.int .i64 t.kind) ∧ w.cell? ⟨b, off + 1, none⟩ = some (.string ⟨t.text.toArray⟩) ∧
  w.cell? ⟨b, off + 2, none⟩ = some (.slice a t.kids.length c) ∧ w.cell? ⟨b, off + 3, none⟩ = some (.int .i64 t.pos)

mutual
def NdIn (w : World) (B : Nat) : Nd → Option Addr → Prop
  | .mk _ _ kids _, a => KidsFrom w B kids a 0
def KidsFrom (w : World) (B : Nat) : List Nd → Option Addr → Nat → Prop
  | [], _, _ => True
  | t :: ts, a, i => (∃ b off a' c', a = some ⟨b, off, none⟩ ∧ b < B ∧ Four w b (off + i * 4) t a' c' ∧ Fits t c' ∧ NdIn w B t a') ∧ KidsFrom w B ts a (i + 1)
end

/-- The slice that begins at a holds these nodes, all of whose memory lies below block B. -/
def Kids (w : World) (B : Nat) (a : Option Addr) (l : List Nd) : Prop := KidsFrom w B l a 0

theorem ndIn_iff (w : World) (B : Nat) (t : Nd) (a : Option Addr) : NdIn w B t a ↔ Kids w B a t.kids := by
  cases t; simp [NdIn, Kids]

theorem kidsFrom_iff (w : World) (B : Nat) (a : Option Addr) : ∀ (l : List Nd) (i : Nat), KidsFrom w B l a i ↔
    ∀ j (h : j < l.length), ∃ b off a' c', a = some ⟨b, off, none⟩ ∧ b < B ∧ Four w b (off + (i + j) * 4) l[j] a' c' ∧ Fits l[j] c' ∧ Kids w B a' l[j].kids
  | [], i => by simp [KidsFrom]
  | t :: ts, i => by
    rw [KidsFrom, kidsFrom_iff w B a ts (i + 1)]
    constructor
    · rintro ⟨⟨b, off, a', c', ha, hb, h4, hf, hn⟩, h⟩ j hj
      cases j with
      | zero => exact ⟨b, off, a', c', ha, hb, by simpa using h4, by simpa using hf, by simpa using (ndIn_iff w B t a').1 hn⟩
      | succ j =>
        obtain ⟨b, off, a', c', ha, hb, h4, hf, hn⟩ := h j (by simpa using hj)
        exact ⟨b, off, a', c', ha, hb, by simpa [Nat.add_assoc, Nat.add_comm 1 j] using h4, by simpa using hf, by simpa using hn⟩
    · intro h
      refine ⟨?_, fun j hj => ?_⟩
      · obtain ⟨b, off, a', c', ha, hb, h4, hf, hn⟩ := h 0 (by simp)
        exact ⟨b, off, a', c', ha, hb, by simpa using h4, by simpa using hf, (ndIn_iff w B t a').2 (by simpa using hn)⟩
      · obtain ⟨b, off, a', c', ha, hb, h4, hf, hn⟩ := h (j + 1) (by simpa using hj)
        exact ⟨b, off, a', c', ha, hb, by simpa [Nat.add_assoc, Nat.add_comm 1 j] using h4, by simpa using hf, by simpa using hn⟩

theorem kids_iff {w : World} {B : Nat} {a : Option Addr} {l : List Nd} : Kids w B a l ↔
    ∀ j (h : j < l.length), ∃ b off a' c', a = some ⟨b, off, none⟩ ∧ b < B ∧ Four w b (off + j * 4) l[j] a' c' ∧ Fits l[j] c' ∧ Kids w B a' l[j].kids := by
  unfold Kids
  rw [kidsFrom_iff]
  simp [Kids]

theorem Kids.nil (w : World) (B : Nat) (a : Option Addr) : Kids w B a [] := by simp [Kids, KidsFrom]

theorem Kids.get {w : World} {B : Nat} {a : Option Addr} {l : List Nd} (h : Kids w B a l) {j : Nat} (hj : j < l.length) :
    ∃ b off a' c', a = some ⟨b, off, none⟩ ∧ b < B ∧ Four w b (off + j * 4) l[j] a' c' ∧ Fits l[j] c' ∧ Kids w B a' l[j].kids := kids_iff.1 h j hj

/-- Induction on nodes through the list of kids. -/
theorem Nd.ind {M : Nd → Prop} (h : ∀ t : Nd, (∀ k, k ∈ t.kids → M k) → M t) : ∀ t, M t
  | .mk k s l p => h (.mk k s l p) (fun x hx => Nd.ind h x)
termination_by t => SizeOf.sizeOf t
decreasing_by
  have := List.sizeOf_lt_of_mem hx
  simp_all
  omega

theorem Kids.keepAll {w w' : World} {B B' : Nat} (hB : B ≤ B') (hk : ∀ p : Addr, p.block < B → w'.cell? p = w.cell? p) :
    ∀ (t : Nd) (a : Option Addr), Kids w B a t.kids → Kids w' B' a t.kids := by
  refine Nd.ind (fun t ih a h => ?_)
  rw [kids_iff] at h ⊢
  intro j hj
  obtain ⟨b, off, a', c', ha, hb, ⟨h0, h1, h2, h3⟩, hf, hn⟩ := h j hj
  refine ⟨b, off, a', c', ha, by omega, ⟨?_, ?_, ?_, ?_⟩, hf, ih _ (List.getElem_mem hj) a' hn⟩
  · rw [hk _ hb]; exact h0
  · rw [hk _ hb]; exact h1
  · rw [hk _ hb]; exact h2
  · rw [hk _ hb]; exact h3

theorem Kids.keep {w w' : World} {B B' : Nat} {a : Option Addr} {l : List Nd} (h : Kids w B a l) (hB : B ≤ B') (hk : ∀ p : Addr, p.block < B → w'.cell? p = w.cell? p) :
    Kids w' B' a l := Kids.keepAll hB hk (.mk 0 [] l 0) a h

theorem Kids.below {w w' : World} {B B' : Nat} {a : Option Addr} {l : List Nd} (h : Kids w B a l) (hb : Below B w w') (hB : B ≤ B') : Kids w' B' a l :=
  h.keep hB (fun _ hp => hb.cell hp)

/-- From one world on into a later one that has kept all that lay. -/
theorem Kids.on {w w' : World} {a : Option Addr} {l : List Nd} (h : Kids w w.heap.size a l) (hb : Below w.heap.size w w') : Kids w' w'.heap.size a l :=
  h.below hb hb.size

/-! Function values. -/
/-- The call of function g is entered in place. -/
def Enters (P : Program) (g : Nat) : Prop := ∀ args w, (callFunc g args).run P w = .ok (.enter g args) w
/-- Called with this node, in whatever later world, the function value g over lb hands back b and turns nothing that lay. -/
def SaysNd (P : Program) (g : Nat) (lb : Array Value) (t : Nd) (b : Bool) (w : World) : Prop :=
  ∀ W a c, Below w.heap.size w W → Kids W W.heap.size a t.kids → Fits t c → Calls P g (#[.agg #[.int .i64 t.kind, .string ⟨t.text.toArray⟩, .slice a t.kids.length c, .int .i64 t.pos]] ++ lb) W fun e W' => e = .returned (.bool b) ∧ Below W.heap.size W W'
/-- Likewise with this text. -/
def SaysTx (P : Program) (g : Nat) (lb : Array Value) (l : List UInt8) (b : Bool) (w : World) : Prop :=
  ∀ W, Below w.heap.size w W → Calls P g (#[.string ⟨l.toArray⟩] ++ lb) W fun e W' => e = .returned (.bool b) ∧ Below W.heap.size W W'
theorem SaysNd.on {P : Program} {g : Nat} {lb : Array Value} {t : Nd} {b : Bool} {w w' : World} (h : SaysNd P g lb t b w) (hb : Below w.heap.size w w') : SaysNd P g lb t b w' :=
  fun W a c hW => h W a c (bext hb hW)
theorem SaysTx.on {P : Program} {g : Nat} {lb : Array Value} {l : List UInt8} {b : Bool} {w w' : World} (h : SaysTx P g lb l b w) (hb : Below w.heap.size w w') : SaysTx P g lb l b w' :=
  fun W hW => h W (bext hb hW)
/-- The first place of which q holds is i; none: i is below 0. -/
def FirstAt (q : Nd → Bool) (l : List Nd) (w : World) (e : Ending) (w' : World) : Prop := ∃ i : Int, e = .returned (.int .i64 i) ∧ decide (0 ≤ i) = l.any q ∧ Below w.heap.size w w'
theorem any_take {q : Nd → Bool} {l : List Nd} {k : Nat} (hk : k < l.length) (h : (l.take k).any q = false) (hq : q l[k] = false) : (l.take (k + 1)).any q = false := by
  rw [List.take_succ_eq_append_getElem hk, List.any_append, h]; simp [hq]
theorem any_at {q : Nd → Bool} {l : List Nd} {k : Nat} (hk : k < l.length) (hq : q l[k] = true) : l.any q = true :=
  List.any_eq_true.2 ⟨_, List.getElem_mem hk, hq⟩
theorem cell_lt {w : World} {b o : Nat} {v : Value} (h : w.cell? ⟨b, o, none⟩ = some v) : b < w.heap.size := by
  unfold World.cell? at h
  rcases Nat.lt_or_ge b w.heap.size with hl | hl
  · exact hl
  · simp only [Array.getElem?_eq_none hl] at h
    cases h
theorem len_zero {α : Type} (l : List α) : ((l.length : Int) == 0) = l.isEmpty := by cases l <;> simp; omega
theorem not_any_not {α : Type} (l : List α) (p : α → Bool) : (!(l.any fun t => !p t)) = l.all p := by
  induction l with
  | nil => rfl
  | cons x r ih => simp only [List.any_cons, List.all_cons, ← ih]; cases p x <;> simp
theorem cell_new (w : World) (v : Value) (ty : TypeId) : (w.alloc (.cells #[v] ty)).cell? ⟨w.heap.size, 0, none⟩ = some v := by
  simp
theorem below_alloc (w : World) (o : Obj) : Below w.heap.size w (w.alloc o) := (Below.refl _ _).alloc (Nat.le_refl _) _
mutual
def Nd.height : Nd → Nat
  | .mk _ _ l _ => Nd.heights l + 1
def Nd.heights : List Nd → Nat
  | [] => 0
  | t :: ts => max t.height (Nd.heights ts)
end
theorem Nd.heights_mem {k : Nd} : ∀ {l : List Nd}, k ∈ l → k.height ≤ Nd.heights l
  | [], h => by cases h
  | t :: ts, h => by
    rw [Nd.heights]
    rcases List.mem_cons.1 h with rfl | h
    · omega
    · have := Nd.heights_mem h; omega
theorem Nd.height_eq (t : Nd) : t.height = Nd.heights t.kids + 1 := by cases t; simp [Nd.height]
theorem Nd.height_kid {t k : Nd} (h : k ∈ t.kids) : k.height + 1 ≤ t.height := by
  have := Nd.heights_mem h
  rw [Nd.height_eq t]; omega
theorem Kids.tail {w : World} {B b off : Nat} {x : Nd} {l : List Nd} (h : Kids w B (some ⟨b, off, none⟩) (x :: l)) : Kids w B (some ⟨b, off + 4, none⟩) l := by
  rw [kids_iff] at h ⊢
  intro j hj
  obtain ⟨b', off', a', c', e, hB, h4, hf, hn⟩ := h (j + 1) (by simpa using hj)
  obtain ⟨rfl, rfl⟩ : b = b' ∧ off = off' := by simpa using e
  refine ⟨b, off + 4, a', c', rfl, hB, ?_, by simpa using hf, by simpa using hn⟩
  have e2 : off + 4 + j * 4 = off + (j + 1) * 4 := by omega
  rw [e2]
  simpa using h4
end Go.Proofs.YtfcpblclfgkdjaaGreatDoor
