/-
  ported for this seat out of Zone, CopyA, CopyB, CopyC, CopyD (port.py)
-/
import Derived.Test.YtfcpblclfgkdjaaGreatDoorZA
import Derived.Deep.RegionHeld3
import Derived.Deep.AppendLies
import Derived.Deep.RegionLaw
namespace Go.Proofs.YtfcpblclfgkdjaaGreatDoor
set_option linter.unusedSimpArgs false
set_option linter.unusedVariables false
open Go.RowKit

mutual
def NdZ (w : World) (Z : Nat → Prop) : Nd → Option Addr → Prop
  | .mk _ _ kids _, a => KidsZFrom w Z kids a 0
def KidsZFrom (w : World) (Z : Nat → Prop) : List Nd → Option Addr → Nat → Prop
  | [], _, _ => True
  | t :: ts, a, i => (∃ b off a' c', a = some ⟨b, off, none⟩ ∧ Z b ∧ Four w b (off + i * 4) t a' c' ∧ Fits t c' ∧ NdZ w Z t a') ∧ KidsZFrom w Z ts a (i + 1)
end

/-- The slice that begins at a holds these nodes, all of whose memory lies in blocks of a zone. -/
def KidsZ (w : World) (Z : Nat → Prop) (a : Option Addr) (l : List Nd) : Prop := KidsZFrom w Z l a 0

theorem ndZ_iff (w : World) (Z : Nat → Prop) (t : Nd) (a : Option Addr) : NdZ w Z t a ↔ KidsZ w Z a t.kids := by
  cases t; simp [NdZ, KidsZ]

theorem kidsZFrom_iff (w : World) (Z : Nat → Prop) (a : Option Addr) : ∀ (l : List Nd) (i : Nat), KidsZFrom w Z l a i ↔
    ∀ j (h : j < l.length), ∃ b off a' c', a = some ⟨b, off, none⟩ ∧ Z b ∧ Four w b (off + (i + j) * 4) l[j] a' c' ∧ Fits l[j] c' ∧ KidsZ w Z a' l[j].kids
  | [], i => by simp [KidsZFrom]
  | t :: ts, i => by
    rw [KidsZFrom, kidsZFrom_iff w Z a ts (i + 1)]
    constructor
    · rintro ⟨⟨b, off, a', c', ha, hb, h4, hf, hn⟩, h⟩ j hj
      cases j with
      | zero => exact ⟨b, off, a', c', ha, hb, by simpa using h4, by simpa using hf, by simpa using (ndZ_iff w Z t a').1 hn⟩
      | succ j =>
        obtain ⟨b, off, a', c', ha, hb, h4, hf, hn⟩ := h j (by simpa using hj)
        exact ⟨b, off, a', c', ha, hb, by simpa [Nat.add_assoc, Nat.add_comm 1 j] using h4, by simpa using hf, by simpa using hn⟩
    · intro h
      refine ⟨?_, fun j hj => ?_⟩
      · obtain ⟨b, off, a', c', ha, hb, h4, hf, hn⟩ := h 0 (by simp)
        exact ⟨b, off, a', c', ha, hb, by simpa using h4, by simpa using hf, (ndZ_iff w Z t a').2 (by simpa using hn)⟩
      · obtain ⟨b, off, a', c', ha, hb, h4, hf, hn⟩ := h (j + 1) (by simpa using hj)
        exact ⟨b, off, a', c', ha, hb, by simpa [Nat.add_assoc, Nat.add_comm 1 j] using h4, by simpa using hf, by simpa using hn⟩

theorem kidsZ_iff {w : World} {Z : Nat → Prop} {a : Option Addr} {l : List Nd} : KidsZ w Z a l ↔
    ∀ j (h : j < l.length), ∃ b off a' c', a = some ⟨b, off, none⟩ ∧ Z b ∧ Four w b (off + j * 4) l[j] a' c' ∧ Fits l[j] c' ∧ KidsZ w Z a' l[j].kids := by
  unfold KidsZ
  rw [kidsZFrom_iff]
  simp [KidsZ]

theorem KidsZ.moveAll {w w' : World} {Z Z' : Nat → Prop} (hZ : ∀ b, Z b → Z' b) (hk : ∀ p v, Z p.block → w.cell? p = some v → w'.cell? p = some v) :
    ∀ (t : Nd) (a : Option Addr), KidsZ w Z a t.kids → KidsZ w' Z' a t.kids := by
  refine Nd.ind (fun t ih a h => ?_)
  rw [kidsZ_iff] at h ⊢
  intro j hj
  obtain ⟨b, off, a', c', ha, hb, ⟨h0, h1, h2, h3⟩, hf, hn⟩ := h j hj
  exact ⟨b, off, a', c', ha, hZ b hb, ⟨hk ⟨b, _, none⟩ _ hb h0, hk ⟨b, _, none⟩ _ hb h1, hk ⟨b, _, none⟩ _ hb h2, hk ⟨b, _, none⟩ _ hb h3⟩, hf, ih _ (List.getElem_mem hj) a' hn⟩
theorem KidsZ.move {w w' : World} {Z Z' : Nat → Prop} {a : Option Addr} {l : List Nd} (h : KidsZ w Z a l) (hZ : ∀ b, Z b → Z' b) (hk : ∀ p v, Z p.block → w.cell? p = some v → w'.cell? p = some v) : KidsZ w' Z' a l :=
  KidsZ.moveAll hZ hk (.mk 0 [] l 0) a h
theorem KidsZ.mono {w : World} {Z Z' : Nat → Prop} {a : Option Addr} {l : List Nd} (h : KidsZ w Z a l) (hZ : ∀ b, Z b → Z' b) : KidsZ w Z' a l := h.move hZ (fun _ _ _ hv => hv)

theorem kidsZ_of_kids {w : World} {B : Nat} : ∀ (t : Nd) (a : Option Addr), Kids w B a t.kids → KidsZ w (· < B) a t.kids := by
  refine Nd.ind (fun t ih a h => ?_)
  rw [kids_iff] at h
  rw [kidsZ_iff]
  intro j hj
  obtain ⟨b, off, a', c', ha, hb, h4, hf, hn⟩ := h j hj
  exact ⟨b, off, a', c', ha, hb, h4, hf, ih _ (List.getElem_mem hj) a' hn⟩
theorem kids_of_kidsZ {w : World} {B : Nat} : ∀ (t : Nd) (a : Option Addr), KidsZ w (· < B) a t.kids → Kids w B a t.kids := by
  refine Nd.ind (fun t ih a h => ?_)
  rw [kidsZ_iff] at h
  rw [kids_iff]
  intro j hj
  obtain ⟨b, off, a', c', ha, hb, h4, hf, hn⟩ := h j hj
  exact ⟨b, off, a', c', ha, hb, h4, hf, ih _ (List.getElem_mem hj) a' hn⟩
theorem Kids.toZ {w : World} {B : Nat} {a : Option Addr} {l : List Nd} (h : Kids w B a l) : KidsZ w (· < B) a l := kidsZ_of_kids (.mk 0 [] l 0) a h
theorem KidsZ.toKids {w : World} {B : Nat} {a : Option Addr} {l : List Nd} (h : KidsZ w (· < B) a l) : Kids w B a l := kids_of_kidsZ (.mk 0 [] l 0) a h
theorem KidsZ.kids {w : World} {Z : Nat → Prop} {B : Nat} {a : Option Addr} {l : List Nd} (h : KidsZ w Z a l) (hZ : ∀ b, Z b → b < B) : Kids w B a l := (h.mono hZ).toKids
theorem KidsZ.nil (w : World) (Z : Nat → Prop) (a : Option Addr) : KidsZ w Z a [] := by simp [KidsZ, KidsZFrom]

/-- A block of cells made behind n, that may be written. -/
def Fresh (n : Nat) (w : World) (b : Nat) : Prop := n ≤ b ∧ ∃ cs ty, w.heap[b]? = some (.cells cs ty (0, 0))
theorem Fresh.lo {n b : Nat} {w : World} (h : Fresh n w b) : n ≤ b := h.1
theorem Fresh.hi {n b : Nat} {w : World} (h : Fresh n w b) : b < w.heap.size := by
  obtain ⟨_, cs, ty, h⟩ := h
  exact (Array.getElem?_eq_some_iff.1 h).1
theorem Fresh.fr {n b : Nat} {w : World} (h : Fresh n w b) (o : Nat) : w.frozen? ⟨b, o, none⟩ = false := by
  obtain ⟨_, cs, ty, h⟩ := h
  simp [World.frozen?, h]
theorem Fresh.low {n n' b : Nat} {w : World} (h : Fresh n w b) (hn : n' ≤ b) : Fresh n' w b := ⟨hn, h.2⟩
theorem Fresh.keep {n b : Nat} {w w' : World} (h : Fresh n w b) (hk : w'.heap[b]? = w.heap[b]?) : Fresh n w' b := by
  obtain ⟨h1, cs, ty, h⟩ := h
  exact ⟨h1, cs, ty, hk.trans h⟩
theorem Fresh.on {n b : Nat} {w w' : World} (h : Fresh n w b) (hb : Below w.heap.size w w') : Fresh n w' b := h.keep (hb.block b h.hi)
theorem Fresh.set {n b : Nat} {w : World} (h : Fresh n w b) (p : Addr) (u : Value) : Fresh n (w.setCell p u) b := by
  obtain ⟨h1, cs, ty, h⟩ := h
  refine ⟨h1, ?_⟩
  by_cases e : p.block = b
  · refine ⟨if p.spot.isSome then cs else cs.setIfInBounds p.off u, ty, ?_⟩
    unfold World.setCell
    simp only [Array.getElem?_modify, e, if_true, h, Option.map_some]
  · refine ⟨cs, ty, ?_⟩
    unfold World.setCell
    simp only [Array.getElem?_modify, e, if_false, h]
theorem Fresh.al {n b : Nat} {w : World} (h : Fresh n w b) (o : Obj) : Fresh n (w.alloc o) b := h.on (below_alloc w o)

/-- A copy, with some nodes replaced, to a depth. -/
def copyL (f : Nd → Option Nd) : Nat → Nd → Nd
  | 0, t => t
  | d + 1, t => match f t with
    | some by_ => by_
    | none => .mk t.kind t.text (t.kids.map (copyL f d)) t.pos
theorem copyL_none : ∀ (d : Nat) (t : Nd), copyL (fun _ => none) d t = t
  | 0, t => rfl
  | d + 1, t => by
    have e : copyL (fun _ => none) d = id := funext (fun k => copyL_none d k)
    rw [copyL, e, List.map_id, Nd.eta]
end Go.Proofs.YtfcpblclfgkdjaaGreatDoor

namespace Go.Proofs.YtfcpblclfgkdjaaGreatDoor
set_option linter.unusedSimpArgs false
set_option linter.unusedVariables false
open Go.RowKit

/-- What at answers: a node to put in the place, or none; it turns nothing that lay. -/
def AtSays (g : Nat) (lb : Array Value) (f : Nd → Option Nd) (Zo : Nat → Prop) (w : World) : Prop :=
  ∀ W x a c, Below w.heap.size w W → Kids W W.heap.size a x.kids → Fits x c → Calls Tryz.prog g (#[.agg #[.int .i64 x.kind, .string ⟨x.text.toArray⟩, .slice a x.kids.length c, .int .i64 x.pos]] ++ lb) W fun e W' => Below W.heap.size W W' ∧
    ∃ y a' c' , e = .returned (.tuple #[.agg #[.int .i64 y.kind, .string ⟨y.text.toArray⟩, .slice a' y.kids.length c', .int .i64 y.pos], .bool (f x).isSome]) ∧ (f x = some y ∨ f x = none) ∧ Fits y c' ∧ (f x = none ∨ KidsZ W' (fun b => Zo b ∨ Fresh W.heap.size W' b) a' y.kids)
theorem AtSays.on {g : Nat} {lb : Array Value} {f : Nd → Option Nd} {Zo : Nat → Prop} {w w' : World} (h : AtSays g lb f Zo w) (hb : Below w.heap.size w w') : AtSays g lb f Zo w' :=
  fun W x a c hW => h W x a c (bext hb hW)

set_option maxHeartbeats 400000 in
theorem copy1_any (t : Nd) (a : Option Addr) (c : Nat) (w : World) :
    Calls Tryz.prog 40 #[.agg #[.int .i64 t.kind, .string ⟨t.text.toArray⟩, .slice a t.kids.length c, .int .i64 t.pos]] w fun e w' => e = .returned (.tuple #[.agg #[.int .i64 t.kind, .string ⟨t.text.toArray⟩, .slice a t.kids.length c, .int .i64 t.pos], .bool false]) ∧ Below w.heap.size w w' := by
  go_enter Tryz.func40, Tryz.ntmps40
  go_wp2_with fail
  refine bodyPost_ret (v := .tuple #[.agg #[.int .i64 t.kind, .string ⟨t.text.toArray⟩, .slice a t.kids.length c, .int .i64 t.pos], .bool false]) (by simp [results, Tryz.results40, go_sem]) rfl ⟨rfl, ?_⟩
  exact ((Below.refl _ _).alloc (Nat.le_refl _) _).alloc (by simp) _

/-- What copied hands back of a node. -/
def Copied (Zo : Nat → Prop) (t : Nd) (w : World) (e : Ending) (w' : World) : Prop :=
  Below w.heap.size w w' ∧ ∃ a' c', e = .returned (.agg #[.int .i64 t.kind, .string ⟨t.text.toArray⟩, .slice a' t.kids.length c', .int .i64 t.pos]) ∧ Fits t c' ∧ KidsZ w' (fun b => Zo b ∨ Fresh w.heap.size w' b) a' t.kids

set_option maxHeartbeats 400000 in
theorem copied_zero (t : Nd) (a : Option Addr) (c g : Nat) (lb : Array Value) (Zo : Nat → Prop) (w : World) (hk : KidsZ w Zo a t.kids) (hZ : ∀ b, Zo b → b < w.heap.size) (hf : Fits t c) :
    Calls Tryz.prog 39 #[.agg #[.int .i64 t.kind, .string ⟨t.text.toArray⟩, .slice a t.kids.length c, .int .i64 t.pos], .int .i64 0, .func (.func g) #[] lb] w (Copied Zo t w) := by
  have HK := Lib.hid hk
  have HF := Lib.hid hf
  have HZ := Lib.hid hZ
  clear hk hf hZ
  go_enter Tryz.func39, Tryz.ntmps39
  go_wp2_with fail
  have hb : Below w.heap.size w ((w.alloc (.cells #[.int .i64 t.kind, .string ⟨t.text.toArray⟩, .slice a t.kids.length c, .int .i64 t.pos] 25)).alloc (.cells #[.int .i64 t.kind, .string ⟨t.text.toArray⟩, .slice a t.kids.length c, .int .i64 t.pos] 25)) := ((Below.refl _ _).alloc (Nat.le_refl _) _).alloc (by simp) _
  refine bodyPost_ret (v := .agg #[.int .i64 t.kind, .string ⟨t.text.toArray⟩, .slice a t.kids.length c, .int .i64 t.pos]) (by simp [results, Tryz.results39, go_sem]) rfl ⟨hb, a, c, rfl, HF.out, HK.out.move (fun b h => .inl h) (fun p v hp hv => (hb.cell (HZ.out _ hp)).trans hv)⟩

theorem cell_far_set {w : World} {b o : Nat} {u : Value} {p : Addr} (h : p.block ≠ b) : (w.setCell ⟨b, o, none⟩ u).cell? p = w.cell? p :=
  World.cell?_of_block (w := w) (Below.heap_setCell w ⟨b, o, none⟩ u p.block h)

set_option maxHeartbeats 1000000 in
theorem copied_some (d : Nat) (hd : d ≤ 100) (t y : Nd) (a : Option Addr) (c g : Nat) (lb : Array Value) (f : Nd → Option Nd) (Zo : Nat → Prop) (w : World) (hen : Enters Tryz.prog g) (hat : AtSays g lb f Zo w) (hy : f t = some y)
    (hk : Kids w w.heap.size a t.kids) (hZ : ∀ b, Zo b → b < w.heap.size) (hf : Fits t c) :
    Calls Tryz.prog 39 #[.agg #[.int .i64 t.kind, .string ⟨t.text.toArray⟩, .slice a t.kids.length c, .int .i64 t.pos], .int .i64 ((d : Int) + 1), .func (.func g) #[] lb] w (Copied Zo y w) := by
  obtain ⟨wa, hwa⟩ : ∃ wa, (w.alloc (.cells #[.int .i64 t.kind, .string ⟨t.text.toArray⟩, .slice a t.kids.length c, .int .i64 t.pos] 25)).alloc (.cells #[.int .i64 0, .string ⟨#[]⟩, .slice none 0 0, .int .i64 0] 25) = wa := ⟨_, rfl⟩
  have hba : Below w.heap.size w wa := by rw [← hwa]; exact ((Below.refl _ _).alloc (Nat.le_refl _) _).alloc (by simp) _
  have hsz : wa.heap.size = w.heap.size + 2 := by rw [← hwa]; simp
  have hcall := hat wa t a c hba (hk.on hba) hf
  have h0 : ((d : Int) + 1 == 0) = false := by simp; omega
  have HB := Lib.hid hba
  have r0 : wa.cell? ⟨w.heap.size + 1, 0, none⟩ = some (.int .i64 0) := by rw [← hwa]; simp [go_sem]
  have r1 : wa.cell? ⟨w.heap.size + 1, 1, none⟩ = some (.string ⟨#[]⟩) := by rw [← hwa]; simp [go_sem]
  have r2 : wa.cell? ⟨w.heap.size + 1, 2, none⟩ = some (.slice none 0 0) := by rw [← hwa]; simp [go_sem]
  have r3 : wa.cell? ⟨w.heap.size + 1, 3, none⟩ = some (.int .i64 0) := by rw [← hwa]; simp [go_sem]
  have f0 : wa.frozen? ⟨w.heap.size + 1, 0, none⟩ = false := by rw [← hwa]; simp [go_sem]
  have f1 : wa.frozen? ⟨w.heap.size + 1, 1, none⟩ = false := by rw [← hwa]; simp [go_sem]
  have f2 : wa.frozen? ⟨w.heap.size + 1, 2, none⟩ = false := by rw [← hwa]; simp [go_sem]
  have f3 : wa.frozen? ⟨w.heap.size + 1, 3, none⟩ = false := by rw [← hwa]; simp [go_sem]
  have hcall' := hcall.mono (R' := fun e W' => Below wa.heap.size wa W' ∧ ∃ a' c', e = .returned (.tuple #[.agg #[.int .i64 y.kind, .string ⟨y.text.toArray⟩, .slice a' y.kids.length c', .int .i64 y.pos], .bool true]) ∧ Fits y c' ∧ KidsZ W' (fun b => Zo b ∨ Fresh wa.heap.size W' b) a' y.kids)
    (fun e W' h => by
      obtain ⟨hb, y', a', c', he, hfy, hfit, hz⟩ := h
      rw [hy] at he hfy hz
      obtain rfl : y = y' := by simpa using hfy
      exact ⟨hb, a', c', by simpa using he, hfit, by simpa using hz⟩)
  have n0 : wa.cell? ⟨w.heap.size, 0, none⟩ = some (.int .i64 t.kind) := by rw [← hwa]; simp [go_sem]
  have n1 : wa.cell? ⟨w.heap.size, 1, none⟩ = some (.string ⟨t.text.toArray⟩) := by rw [← hwa]; simp [go_sem]
  have n2 : wa.cell? ⟨w.heap.size, 2, none⟩ = some (.slice a t.kids.length c) := by rw [← hwa]; simp [go_sem]
  have n3 : wa.cell? ⟨w.heap.size, 3, none⟩ = some (.int .i64 t.pos) := by rw [← hwa]; simp [go_sem]
  have HC := Lib.hid hcall'
  have HZ := Lib.hid hZ
  have HSZ := Lib.hid hsz
  clear hcall hcall' hat hk hf hba hy hZ hsz
  unfold Enters at hen
  go_enter Tryz.func39, Tryz.ntmps39
  go_wp2_with fail
  refine HC.out.mono ?_
  rintro e w1 ⟨hb1, a', c', rfl, hfit, hz⟩
  obtain ⟨⟨q0, q1, q2, q3⟩, p0, p1, p2, p3⟩ := four_at (b := w.heap.size + 1) hb1 (cell_lt r0) r0 r1 r2 r3 f0 f1 f2 f3
  have hbw := bext HB.out hb1
  have hs1 : w.heap.size + 1 < w1.heap.size := by have := HSZ.out; have := hb1.size; omega
  have hs2 : w.heap.size < w1.heap.size := by omega
  have HF := Lib.hid hfit
  have HKZ := Lib.hid hz
  have HB1 := Lib.hid hb1
  have HBW := Lib.hid hbw
  clear hfit hz hb1 hbw hwa r0 r1 r2 r3 f0 f1 f2 f3
  go_wp2_with fail
  refine bodyPost_ret (v := .agg #[.int .i64 y.kind, .string ⟨y.text.toArray⟩, .slice a' y.kids.length c', .int .i64 y.pos]) (by simp [results, Tryz.results39, go_sem, q0, q1, q2, q3, hs1]) rfl ⟨?_, a', c', rfl, HF.out, HKZ.out.move ?_ ?_⟩
  · refine Below.alloc ?_ (by simp [World.setCell]; omega) _
    exact (((HBW.out.setCell (p := ⟨w.heap.size + 1, 0, none⟩) (by simp) _).setCell (p := ⟨w.heap.size + 1, 1, none⟩) (by simp) _).setCell (p := ⟨w.heap.size + 1, 2, none⟩) (by simp) _).setCell (p := ⟨w.heap.size + 1, 3, none⟩) (by simp) _
  · intro b hb
    have h1 := HSZ.out
    rcases hb with hb | hb
    · exact .inl hb
    · exact .inr ((((((hb.low (by have := hb.lo; omega)).set _ _).set _ _).set _ _).set _ _).al _)
  · intro p v hp hv
    have h1 := HSZ.out
    have h2 : p.block ≠ w.heap.size + 1 := by
      rcases hp with hp | hp
      · have := HZ.out _ hp; omega
      · have := hp.lo; omega
    refine cell_alloc' _ ?_
    rw [cell_far_set h2, cell_far_set h2, cell_far_set h2, cell_far_set h2]
    exact hv
end Go.Proofs.YtfcpblclfgkdjaaGreatDoor

namespace Go.Proofs.YtfcpblclfgkdjaaGreatDoor
set_option linter.unusedSimpArgs false
set_option linter.unusedVariables false
open Go.RowKit

/-- The four cells of a node. -/
def node4 (x : Nd × Option Addr × Nat) : List Value := [.int .i64 x.1.kind, .string ⟨x.1.text.toArray⟩, .slice x.2.1 x.1.kids.length x.2.2, .int .i64 x.1.pos]

/-- The kids that are copied lie in a row of the call's own. -/
def Row (Zo : Nat → Prop) (B : Nat) (l : List Nd) (v : Value) (wr : World) : Prop :=
  ∃ L : List (Nd × Option Addr × Nat), L.map (·.1) = l ∧ wr.ownsRow (B + 2) 25 4 v l.length (L.flatMap node4) ∧
    ∀ x, x ∈ L → Fits x.1 x.2.2 ∧ KidsZ wr (fun b => (Zo b ∨ Fresh (B + 2) wr b) ∧ some b ≠ v.ownBlock) x.2.1 x.1.kids

/-- The boxes of copied: the node whose kids are filled in; the result. -/
def Boxes (t : Nd) (B : Nat) (v : Value) (wr : World) : Prop :=
  (wr.cell? ⟨B, 0, none⟩ = some (.int .i64 t.kind) ∧ wr.cell? ⟨B, 1, none⟩ = some (.string ⟨t.text.toArray⟩) ∧ wr.cell? ⟨B, 2, none⟩ = some v ∧ wr.cell? ⟨B, 3, none⟩ = some (.int .i64 t.pos) ∧ wr.frozen? ⟨B, 2, none⟩ = false) ∧
  (wr.cell? ⟨B + 1, 0, none⟩ = some (.int .i64 0) ∧ wr.cell? ⟨B + 1, 1, none⟩ = some (.string ⟨#[]⟩) ∧ wr.cell? ⟨B + 1, 2, none⟩ = some (.slice none 0 0) ∧ wr.cell? ⟨B + 1, 3, none⟩ = some (.int .i64 0)) ∧
  (wr.frozen? ⟨B + 1, 0, none⟩ = false ∧ wr.frozen? ⟨B + 1, 1, none⟩ = false ∧ wr.frozen? ⟨B + 1, 2, none⟩ = false ∧ wr.frozen? ⟨B + 1, 3, none⟩ = false)


theorem Boxes.lt {t : Nd} {B : Nat} {v : Value} {wr : World} (h : Boxes t B v wr) : B + 1 < wr.heap.size := cell_lt h.2.1.1
theorem Boxes.below {t : Nd} {B n : Nat} {v : Value} {W W' : World} (h : Boxes t B v W) (hb : Below n W W') (hn : B + 1 < n) : Boxes t B v W' := by
  obtain ⟨hc, hfz⟩ := bcell hb
  obtain ⟨⟨q0, q1, q2, q3, q4⟩, ⟨r0, r1, r2, r3⟩, f0, f1, f2, f3⟩ := h
  exact ⟨⟨(hc _ _ (by omega)).trans q0, (hc _ _ (by omega)).trans q1, (hc _ _ (by omega)).trans q2, (hc _ _ (by omega)).trans q3, (hfz _ _ (by omega)).trans q4⟩,
    ⟨(hc _ _ (by omega)).trans r0, (hc _ _ (by omega)).trans r1, (hc _ _ (by omega)).trans r2, (hc _ _ (by omega)).trans r3⟩,
    (hfz _ _ (by omega)).trans f0, (hfz _ _ (by omega)).trans f1, (hfz _ _ (by omega)).trans f2, (hfz _ _ (by omega)).trans f3⟩
theorem Boxes.on {t : Nd} {B : Nat} {v : Value} {W W' : World} (h : Boxes t B v W) (hb : Below W.heap.size W W') : Boxes t B v W' := h.below hb h.lt
theorem Boxes.put {t : Nd} {B : Nat} {v : Value} {W : World} (h : Boxes t B v W) (u : Value) : Boxes t B u (W.setCell ⟨B, 2, none⟩ u) := by
  obtain ⟨⟨q0, q1, q2, q3, q4⟩, ⟨r0, r1, r2, r3⟩, f0, f1, f2, f3⟩ := h
  refine ⟨⟨?_, ?_, ?_, ?_, ?_⟩, ⟨?_, ?_, ?_, ?_⟩, ?_, ?_, ?_, ?_⟩ <;> simp [go_sem, q0, q1, q2, q3, q4, r0, r1, r2, r3, f0, f1, f2, f3]

theorem Row.nil (Zo : Nat → Prop) (B : Nat) (wr : World) : Row Zo B [] (.slice none 0 0) wr := ⟨[], rfl, World.ownsRow_nil _ _ _ _, fun x hx => by cases hx⟩
theorem Row.lt {Zo : Nat → Prop} {B : Nat} {l : List Nd} {v : Value} {wr : World} (h : Row Zo B l v wr) : ∀ g, v.ownBlock = some g → B + 2 ≤ g ∧ g < wr.heap.size := by
  intro g hg
  obtain ⟨L, _, hown, _⟩ := h
  rcases hown.2 with ⟨rfl, _⟩ | ⟨g', cap, cur, rfl, hb, hh, _⟩
  · cases hg
  · obtain rfl : g' = g := by simpa [Value.ownBlock] using hg
    exact ⟨hb, (Array.getElem?_eq_some_iff.1 hh).1⟩
theorem ownsRow_of {w w' : World} {base : Nat} {e : TypeId} {size : Nat} {v : Value} {n : Nat} {xs : List Value} (h : w.ownsRow base e size v n xs) (hk : ∀ g, v.ownBlock = some g → w'.heap[g]? = w.heap[g]?) : w'.ownsRow base e size v n xs := by
  obtain ⟨h1, h2⟩ := h
  refine ⟨h1, ?_⟩
  rcases h2 with h2 | ⟨g, cap, cur, rfl, hb, hh, hr⟩
  · exact .inl h2
  · exact .inr ⟨g, cap, cur, rfl, hb, (hk g rfl).trans hh, hr⟩
/-- Blocks that are turned lie neither in the row nor among what is below it. -/
theorem Row.keep {Zo : Nat → Prop} {B : Nat} {l : List Nd} {v : Value} {W W' : World} (h : Row Zo B l v W) (hZ : ∀ b, Zo b → b < B) (hs : W.heap.size ≤ W'.heap.size)
    (hk : ∀ b, b < W.heap.size → b ≠ B → W'.heap[b]? = W.heap[b]?) (hB : B ≤ W.heap.size) : Row Zo B l v W' := by
  have hl := h.lt
  obtain ⟨L, hL, hown, hx⟩ := h
  refine ⟨L, hL, ownsRow_of hown (fun g hg => hk g (hl g hg).2 (by have := (hl g hg).1; omega)), fun x hxL => ⟨(hx x hxL).1, (hx x hxL).2.move (fun b hb => ⟨?_, hb.2⟩) (fun p u hp hu => ?_)⟩⟩
  · rcases hb.1 with h1 | h1
    · exact .inl h1
    · exact .inr (h1.keep (hk _ h1.hi (by have := h1.lo; omega)))
  · have hlt := cell_lt' hu
    refine (World.cell?_of_block (w := W) (hk p.block hlt ?_)).trans hu
    rcases hp.1 with h1 | h1
    · have := hZ _ h1; omega
    · have := h1.lo; omega
theorem Row.below {Zo : Nat → Prop} {B : Nat} {l : List Nd} {v : Value} {W W' : World} (h : Row Zo B l v W) (hZ : ∀ b, Zo b → b < B) (hb : Below W.heap.size W W') (hB : B ≤ W.heap.size) : Row Zo B l v W' :=
  h.keep hZ hb.size (fun b hb' _ => hb.block b hb') hB
theorem Row.put {Zo : Nat → Prop} {B : Nat} {l : List Nd} {v : Value} {W : World} (h : Row Zo B l v W) (hZ : ∀ b, Zo b → b < B) (hB : B ≤ W.heap.size) (u : Value) : Row Zo B l v (W.setCell ⟨B, 2, none⟩ u) :=
  h.keep hZ (by simp [World.setCell]) (fun b _ hne => Below.heap_setCell W ⟨B, 2, none⟩ u b hne) hB
/-- One more copy, appended. -/
theorem Row.snoc {Zo : Nat → Prop} {B : Nat} {L : List (Nd × Option Addr × Nat)} {v : Value} {W W' : World} {y : Nd} {a' : Option Addr} {c' gg cap : Nat} (hZ : ∀ b, Zo b → b < B) (hB : B ≤ W.heap.size)
    (hx : ∀ x, x ∈ L → Fits x.1 x.2.2 ∧ KidsZ W (fun b => (Zo b ∨ Fresh (B + 2) W b) ∧ some b ≠ v.ownBlock) x.2.1 x.1.kids)
    (hy : Fits y c') (hz : KidsZ W (fun b => (Zo b ∨ Fresh (B + 2) W b) ∧ some b ≠ v.ownBlock) a' y.kids)
    (hown : W'.ownsRow (B + 2) 25 4 (.slice (some ⟨gg, 0, none⟩) (L.length + 1) cap) (L.length + 1) (L.flatMap node4 ++ node4 (y, a', c')))
    (hgrow : W.grownBy W' v.ownBlock) (hgg : v.ownBlock = some gg ∨ gg = W.heap.size) : Row Zo B (L.map (·.1) ++ [y]) (.slice (some ⟨gg, 0, none⟩) (L.length + 1) cap) W' := by
  have hmv : ∀ {aa : Option Addr} {ll : List Nd}, KidsZ W (fun b => (Zo b ∨ Fresh (B + 2) W b) ∧ some b ≠ v.ownBlock) aa ll →
      KidsZ W' (fun b => (Zo b ∨ Fresh (B + 2) W' b) ∧ some b ≠ (Value.slice (some ⟨gg, 0, none⟩) (L.length + 1) cap).ownBlock) aa ll := by
    intro aa ll h
    have hs := hgrow.size
    refine h.move (fun b hb => ⟨?_, ?_⟩) (fun p u hp hu => ?_)
    · rcases hb.1 with h1 | h1
      · exact .inl h1
      · exact .inr (h1.keep (hgrow.block b h1.hi hb.2))
    · intro e
      obtain rfl : b = gg := by simpa [Value.ownBlock] using e
      rcases hgg with h1 | h1
      · exact hb.2 h1.symm
      · rcases hb.1 with h2 | h2
        · have := hZ _ h2; omega
        · have := h2.hi; omega
    · exact (hgrow.cell_far p (cell_lt' hu) hp.2).trans hu
  refine ⟨L ++ [(y, a', c')], by simp, ?_, fun x hxL => ?_⟩
  · rw [List.flatMap_append, List.length_append, List.length_map, List.length_singleton]
    simpa using hown
  · rcases List.mem_append.1 hxL with h | h
    · exact ⟨(hx x h).1, hmv (hx x h).2⟩
    · obtain rfl := List.mem_singleton.1 h
      exact ⟨hy, hmv hz⟩
end Go.Proofs.YtfcpblclfgkdjaaGreatDoor

namespace Go.Proofs.YtfcpblclfgkdjaaGreatDoor
set_option linter.unusedSimpArgs false
set_option linter.unusedVariables false
open Go.RowKit

/-- What copied hands back where it goes through the kids. -/
def CopiedRow (Zo : Nat → Prop) (t : Nd) (l : List Nd) (w : World) (e : Ending) (w' : World) : Prop :=
  Below w.heap.size w w' ∧ ∃ v, e = .returned (.agg #[.int .i64 t.kind, .string ⟨t.text.toArray⟩, v, .int .i64 t.pos]) ∧ Row Zo w.heap.size l v w'

theorem info24 : (Tryz.prog.info? 25).map (fun i => (i.zero, i.size, i.bytes)) = some (some (.agg #[.int .i64 0, .string ⟨#[]⟩, .slice none 0 0, .int .i64 0]), 4, 56) := by kernel_rfl
theorem und22 : Tryz.prog.underlying 22 = some (.slice 25) := by kernel_rfl

theorem Row.shape {Zo : Nat → Prop} {B : Nat} {l : List Nd} {v : Value} {wr : World} (h : Row Zo B l v wr) : ∃ a n c, v = .slice a n c := by
  obtain ⟨L, _, hown, _⟩ := h
  rcases hown.2 with ⟨rfl, _⟩ | ⟨g', cap, cur, rfl, _⟩
  · exact ⟨_, _, _, rfl⟩
  · exact ⟨_, _, _, rfl⟩
theorem Row.put1 {Zo : Nat → Prop} {B : Nat} {l : List Nd} {v : Value} {W : World} (h : Row Zo B l v W) (hZ : ∀ b, Zo b → b < B) (o : Nat) (u : Value) : Row Zo B l v (W.setCell ⟨B + 1, o, none⟩ u) := by
  have hl := h.lt
  obtain ⟨L, hL, hown, hx⟩ := h
  have hk : ∀ b, b ≠ B + 1 → (W.setCell ⟨B + 1, o, none⟩ u).heap[b]? = W.heap[b]? := fun b hb => Below.heap_setCell W ⟨B + 1, o, none⟩ u b hb
  refine ⟨L, hL, ownsRow_of hown (fun g hg => hk g (by have := (hl g hg).1; omega)), fun x hxL => ⟨(hx x hxL).1, (hx x hxL).2.move (fun b hb => ⟨?_, hb.2⟩) (fun p z hp hz => ?_)⟩⟩
  · rcases hb.1 with h1 | h1
    · exact .inl h1
    · exact .inr (h1.set _ _)
  · refine (World.cell?_of_block (w := W) (hk p.block ?_)).trans hz
    rcases hp.1 with h1 | h1
    · have := hZ _ h1; omega
    · have := h1.lo; omega

theorem zoneOn {Zo : Nat → Prop} {B : Nat} {v : Value} {W W' : World} {a : Option Addr} {l : List Nd} (h : KidsZ W (fun b => (Zo b ∨ Fresh (B + 2) W b) ∧ some b ≠ v.ownBlock) a l)
    (hb : Below W.heap.size W W') : KidsZ W' (fun b => (Zo b ∨ Fresh (B + 2) W' b) ∧ some b ≠ v.ownBlock) a l := by
  have hs := hb.size
  refine h.move (fun b hb' => ⟨?_, hb'.2⟩) (fun p u hp hu => (hb.cell (cell_lt' hu)).trans hu)
  rcases hb'.1 with h1 | h1
  · exact .inl h1
  · exact .inr (h1.on hb)

theorem row_round {Zo : Nat → Prop} {t : Nd} {d k : Nat} {f : Nd → Option Nd} {v : Value} {L : List (Nd × Option Addr × Nat)} {w wr w3 w4 : World} {a3 : Option Addr} {c3 gg cap : Nat} {o : Obj} (hlt : k < t.kids.length) (hZ : ∀ b, Zo b → b < w.heap.size)
    (hbx : Boxes t w.heap.size v wr) (hL : L.map (·.1) = (t.kids.take k).map (copyL f d))
    (hLX : ∀ x, x ∈ L → Fits x.1 x.2.2 ∧ KidsZ wr (fun b => (Zo b ∨ Fresh (w.heap.size + 2) wr b) ∧ some b ≠ v.ownBlock) x.2.1 x.1.kids)
    (hrl : ∀ g, v.ownBlock = some g → w.heap.size + 2 ≤ g ∧ g < wr.heap.size)
    (hr3 : Below wr.heap.size wr w3 ∧ Fits (copyL f d t.kids[k]) c3 ∧ KidsZ w3 (fun b => Zo b ∨ Fresh wr.heap.size w3 b) a3 (copyL f d t.kids[k]).kids)
    (hown4 : w4.ownsRow (w.heap.size + 2) 25 4 (.slice (some ⟨gg, 0, none⟩) (k + 1) cap) (k + 1) (L.flatMap node4 ++ node4 (copyL f d t.kids[k], a3, c3)))
    (hgrow : (w3.alloc o).grownBy w4 v.ownBlock) (hat : v.ownBlock = some gg ∨ gg = w3.heap.size + 1) (hbw : Below w.heap.size w wr) :
    Boxes t w.heap.size (.slice (some ⟨gg, 0, none⟩) (k + 1) cap) (w4.setCell ⟨w.heap.size, 2, none⟩ (.slice (some ⟨gg, 0, none⟩) (k + 1) cap)) ∧
    Row Zo w.heap.size ((t.kids.take (k + 1)).map (copyL f d)) (.slice (some ⟨gg, 0, none⟩) (k + 1) cap) (w4.setCell ⟨w.heap.size, 2, none⟩ (.slice (some ⟨gg, 0, none⟩) (k + 1) cap)) ∧
    Below w.heap.size w (w4.setCell ⟨w.heap.size, 2, none⟩ (.slice (some ⟨gg, 0, none⟩) (k + 1) cap)) := by
  obtain ⟨hb3, hfit, hz⟩ := hr3
  have hs0 := hbw.size
  have hs3 := hb3.size
  have hlt2 := hbx.lt
  have hba : Below wr.heap.size wr (w3.alloc o) := hb3.alloc hb3.size o
  have hsa : (w3.alloc o).heap.size = w3.heap.size + 1 := by simp
  have hrow : ∀ j, v.ownBlock = some j → w.heap.size + 2 ≤ j := fun j e => (hrl j e).1
  have hb4 : Below (w.heap.size + 2) (w3.alloc o) w4 := (Below.refl _ _).grown hgrow (by omega) hrow
  have hLlen : L.length = k := by
    have := congrArg List.length hL
    simp at this; omega
  refine ⟨Boxes.put (((hbx.on hb3).on (below_alloc w3 o)).below hb4 (by omega)) _, Row.put ?_ hZ (by have := hb4.size; omega) _, ?_⟩
  · have hsn := Row.snoc (Zo := Zo) (B := w.heap.size) (L := L) (v := v) (W := w3.alloc o) (W' := w4) (y := copyL f d t.kids[k]) (a' := a3) (c' := c3) (gg := gg) (cap := cap) hZ (by omega) (fun x hx => ⟨(hLX x hx).1, zoneOn (hLX x hx).2 hba⟩) hfit
      (hz.move (fun b hb => ?_) (fun p u _ hu => cell_alloc' o hu)) (by rw [hLlen]; exact hown4) hgrow (by rw [hsa]; exact hat)
    · rw [hLlen, hL] at hsn
      rw [List.take_succ_eq_append_getElem hlt, List.map_append, List.map_singleton]
      exact hsn
    · refine ⟨?_, fun e => ?_⟩
      · rcases hb with h1 | h1
        · exact .inl h1
        · exact .inr ((h1.low (by have := h1.lo; omega)).al _)
      · obtain ⟨e1, e2⟩ := hrl b e.symm
        rcases hb with h1 | h1
        · have := hZ _ h1; omega
        · have := h1.lo; omega
  · refine Below.setCell ?_ (p := ⟨w.heap.size, 2, none⟩) (Nat.le_refl _) _
    exact ((bext hbw hb3).alloc (by omega) o).trans (hb4.mono (by omega))

set_option maxHeartbeats 4000000 in
theorem copied_none (d : Nat) (hd : d ≤ 100) (t : Nd) (a : Option Addr) (c g : Nat) (lb : Array Value) (f : Nd → Option Nd) (Zo : Nat → Prop) (w : World) (hen : Enters Tryz.prog g) (hat : AtSays g lb f Zo w) (hy : f t = none)
    (Zk : Nat → Prop) (hkz : KidsZ w Zk a t.kids) (hZk : ∀ b, Zk b → b < w.heap.size) (hZ : ∀ b, Zo b → b < w.heap.size) (hf : Fits t c)
    (ih : ∀ k, k ∈ t.kids → ∀ a' c' W, Below w.heap.size w W → KidsZ W Zk a' k.kids → Fits k c' → Calls Tryz.prog 39 #[.agg #[.int .i64 k.kind, .string ⟨k.text.toArray⟩, .slice a' k.kids.length c', .int .i64 k.pos], .int .i64 d, .func (.func g) #[] lb] W (Copied Zo (copyL f d k) W)) :
    Calls Tryz.prog 39 #[.agg #[.int .i64 t.kind, .string ⟨t.text.toArray⟩, .slice a t.kids.length c, .int .i64 t.pos], .int .i64 ((d : Int) + 1), .func (.func g) #[] lb] w (CopiedRow Zo t (t.kids.map (copyL f d)) w) := by
  have hk : Kids w w.heap.size a t.kids := hkz.kids hZk
  obtain ⟨wa, hwa⟩ : ∃ wa, (w.alloc (.cells #[.int .i64 t.kind, .string ⟨t.text.toArray⟩, .slice a t.kids.length c, .int .i64 t.pos] 25)).alloc (.cells #[.int .i64 0, .string ⟨#[]⟩, .slice none 0 0, .int .i64 0] 25) = wa := ⟨_, rfl⟩
  have hba : Below w.heap.size w wa := by rw [← hwa]; exact ((Below.refl _ _).alloc (Nat.le_refl _) _).alloc (by simp) _
  have hsz : wa.heap.size = w.heap.size + 2 := by rw [← hwa]; simp
  have hcall := hat wa t a c hba (hk.on hba) hf
  have h0 : ((d : Int) + 1 == 0) = false := by simp; omega
  have HB := Lib.hid hba
  have n0 : wa.cell? ⟨w.heap.size, 0, none⟩ = some (.int .i64 t.kind) := by rw [← hwa]; simp [go_sem]
  have n1 : wa.cell? ⟨w.heap.size, 1, none⟩ = some (.string ⟨t.text.toArray⟩) := by rw [← hwa]; simp [go_sem]
  have n2 : wa.cell? ⟨w.heap.size, 2, none⟩ = some (.slice a t.kids.length c) := by rw [← hwa]; simp [go_sem]
  have n3 : wa.cell? ⟨w.heap.size, 3, none⟩ = some (.int .i64 t.pos) := by rw [← hwa]; simp [go_sem]
  have hB0 : Boxes t w.heap.size (.slice a t.kids.length c) wa := by
    rw [← hwa]
    refine ⟨⟨?_, ?_, ?_, ?_, ?_⟩, ⟨?_, ?_, ?_, ?_⟩, ?_, ?_, ?_, ?_⟩ <;> simp [go_sem]
  have hcall' := hcall.mono (R' := fun e W' => Below wa.heap.size wa W' ∧ ∃ (y : Nd) (a' : Option Addr) (c' : Nat), e = .returned (.tuple #[.agg #[.int .i64 y.kind, .string ⟨y.text.toArray⟩, .slice a' y.kids.length c', .int .i64 y.pos], .bool false]))
    (fun e W' h => by
      obtain ⟨hb, y', a', c', he, -, -, -⟩ := h
      rw [hy] at he
      exact ⟨hb, y', a', c', by simpa using he⟩)
  have HC := Lib.hid hcall'
  have HZ := Lib.hid hZ
  have HSZ := Lib.hid hsz
  have HB0 := Lib.hid hB0
  have HK := Lib.hid hkz
  have HZK := Lib.hid hZk
  have HF := Lib.hid hf
  have HI := Lib.hid ih
  have HY := Lib.hid hy
  have hl63 : t.kids.length ≤ 9223372036854775807 := by have := hf.2.2.2.2.2.1; have := hf.2.2.2.2.2.2.1; omega
  clear hcall hcall' hat hk hkz hZk hf hba hy hZ hsz hB0 ih
  unfold Enters at hen
  go_enter Tryz.func39, Tryz.ntmps39
  go_wp2_with fail
  refine HC.out.mono ?_
  rintro e w1 ⟨hb1, y, a', c', rfl⟩
  have hbx1 : Boxes t w.heap.size (.slice a t.kids.length c) w1 := HB0.out.on hb1
  have hs1 : w.heap.size + 1 < w1.heap.size := by have := HSZ.out; have := hb1.size; omega
  have hs2 : w.heap.size < w1.heap.size := by omega
  have HBX := Lib.hid hbx1
  have HB1 := Lib.hid hb1
  obtain ⟨⟨q0, q1, q2, q3, q4⟩, -⟩ := hbx1
  clear hb1 n0 n1 n2 n3
  go_wp2_with fail
  have hb2 : Below w.heap.size w ((w1.setCell ⟨w.heap.size, 2, none⟩ (.slice none 0 0)).alloc (.cells #[.int .i64 y.kind, .string ⟨y.text.toArray⟩, .slice a' y.kids.length c', .int .i64 y.pos] 25)) :=
    ((bext HB.out HB1.out).setCell (p := ⟨w.heap.size, 2, none⟩) (Nat.le_refl _) _).alloc (by simp [World.setCell]; omega) _
  have hx2 : Boxes t w.heap.size (.slice none 0 0) ((w1.setCell ⟨w.heap.size, 2, none⟩ (.slice none 0 0)).alloc (.cells #[.int .i64 y.kind, .string ⟨y.text.toArray⟩, .slice a' y.kids.length c', .int .i64 y.pos] 25)) := (HBX.out.put _).on (below_alloc _ _)
  have HB2 := Lib.hid hb2
  have HX2 := Lib.hid hx2
  clear hb2 hx2 q0 q1 q2 q3 q4 hs1 hs2
  go_loopw [28] (fun i wr => ∃ k : Nat, k ≤ t.kids.length ∧ i = .int .i64 k ∧ ∃ v, Boxes t w.heap.size v wr ∧ Row Zo w.heap.size ((t.kids.take k).map (copyL f d)) v wr ∧ Below w.heap.size w wr) (fun i _ => t.kids.length - (intOf i).toNat)
  case atStart => exact ⟨0, by omega, rfl, _, HX2.out, Row.nil _ _ _, HB2.out⟩
  case round =>
    clear HB2 HX2
    obtain ⟨k, hk1, rfl, v, hbx, hrow, hb⟩ := hrel
    have HBX2 := Lib.hid hbx
    have HROW := Lib.hid hrow
    have HBW := Lib.hid hb
    have hs1 : w.heap.size + 1 < wr.heap.size := hbx.lt
    have hs2 : w.heap.size < wr.heap.size := by omega
    obtain ⟨⟨q0, q1, q2, q3, q4⟩, -⟩ := hbx
    clear hrow hb
    by_cases hlt : k < t.kids.length
    · obtain ⟨b, off, a'', c'', ha, hbZ, ⟨h0', h1', h2', h3'⟩, hf', hn'⟩ := kidsZ_iff.1 (HK.out.move (fun _ h => h) (fun p _ hp hv => (HBW.out.cell (HZK.out _ hp)).trans hv)) k hlt
      have hbB : b < wr.heap.size := by have := HZK.out _ hbZ; omega
      subst ha
      have HF' := Lib.hid hf'
      have HN' := Lib.hid hn'
      have hcap : t.kids.length ≤ c := HF.out.2.2.2.2.2.1
      obtain ⟨hc63, hc57⟩ := HF.out.2.2.2.2.2.2
      have hlb : b < wr.heap.size := hbB
      clear hf' hn' hbZ
      obtain ⟨wb, hwb⟩ : ∃ wb, (wr.alloc (.cells #[.int .i64 t.kids[k].kind, .string ⟨t.kids[k].text.toArray⟩, .slice a'' t.kids[k].kids.length c'', .int .i64 t.kids[k].pos] 25)).drew = wb := ⟨_, rfl⟩
      have hbb : Below wr.heap.size wr wb := by rw [← hwb]; exact ((Below.refl _ _).alloc (Nat.le_refl _) _).drew
      have hsb : wb.heap.size = wr.heap.size + 1 := by rw [← hwb]; simp
      have m0 : wb.cell? ⟨wr.heap.size, 0, none⟩ = some (.int .i64 t.kids[k].kind) := by rw [← hwb]; simp [go_sem]
      have m1 : wb.cell? ⟨wr.heap.size, 1, none⟩ = some (.string ⟨t.kids[k].text.toArray⟩) := by rw [← hwb]; simp [go_sem]
      have m2 : wb.cell? ⟨wr.heap.size, 2, none⟩ = some (.slice a'' t.kids[k].kids.length c'') := by rw [← hwb]; simp [go_sem]
      have m3 : wb.cell? ⟨wr.heap.size, 3, none⟩ = some (.int .i64 t.kids[k].pos) := by rw [← hwb]; simp [go_sem]
      have hmem : t.kids[k] ∈ t.kids := List.getElem_mem hlt
      have hcl := (HI.out _ hmem a'' c'' wb (bext HBW.out hbb) (HN'.out.move (fun _ h => h) (fun p _ hp hv => (hbb.cell (by have := HZK.out _ hp; omega)).trans hv)) HF'.out).mono (R' := fun e w3 => ∃ a3 c3, e = .returned (.agg #[.int .i64 (copyL f d t.kids[k]).kind, .string ⟨(copyL f d t.kids[k]).text.toArray⟩, .slice a3 (copyL f d t.kids[k]).kids.length c3, .int .i64 (copyL f d t.kids[k]).pos]) ∧
          (w3.cell? ⟨w.heap.size, 2, none⟩ = some v ∧ w3.cell? ⟨wr.heap.size, 0, none⟩ = some (.int .i64 t.kids[k].kind) ∧ w3.cell? ⟨wr.heap.size, 1, none⟩ = some (.string ⟨t.kids[k].text.toArray⟩) ∧
            w3.cell? ⟨wr.heap.size, 2, none⟩ = some (.slice a'' t.kids[k].kids.length c'') ∧ w3.cell? ⟨wr.heap.size, 3, none⟩ = some (.int .i64 t.kids[k].pos) ∧ w3.frozen? ⟨w.heap.size, 2, none⟩ = false) ∧
          wr.heap.size + 1 ≤ w3.heap.size ∧ w.heap.size < w3.heap.size ∧ (∀ o, (w3.alloc o).frozen? ⟨w.heap.size, 2, none⟩ = false) ∧ (∀ o, (w3.alloc o).cell? ⟨w.heap.size, 2, none⟩ = some v) ∧ (∀ o, w.heap.size < (w3.alloc o).heap.size) ∧ Hid (Below wr.heap.size wr w3 ∧ Fits (copyL f d t.kids[k]) c3 ∧ KidsZ w3 (fun b => Zo b ∨ Fresh wr.heap.size w3 b) a3 (copyL f d t.kids[k]).kids))
        (fun e w3 h => by
          obtain ⟨hb3, a3, c3, he, hfit, hz⟩ := h
          obtain ⟨hc3, hz3⟩ := bcell hb3
          have hsz3 := hb3.size
          refine ⟨a3, c3, he, ⟨?_, ?_, ?_, ?_, ?_, ?_⟩, by omega, by omega, fun o => (((below_alloc w3 o).frozen (p := ⟨w.heap.size, 2, none⟩) (by show w.heap.size < w3.heap.size; omega)).trans ((hz3 _ _ (by omega)).trans ((hbb.frozen (p := ⟨w.heap.size, 2, none⟩) hs2).trans q4))), fun o => cell_alloc' o ((hc3 _ _ (by omega)).trans ((hbb.cell (p := ⟨w.heap.size, 2, none⟩) hs2).trans q2)), fun o => by simp; omega, Lib.hid ⟨bext hbb hb3, hfit, hz.mono (fun b hb => ?_)⟩⟩
          · exact ((hc3 _ _ (by omega)).trans ((hbb.cell (p := ⟨w.heap.size, 2, none⟩) hs2).trans q2))
          · exact (hc3 _ _ (by omega)).trans m0
          · exact (hc3 _ _ (by omega)).trans m1
          · exact (hc3 _ _ (by omega)).trans m2
          · exact (hc3 _ _ (by omega)).trans m3
          · exact ((hz3 _ _ (by omega)).trans ((hbb.frozen (p := ⟨w.heap.size, 2, none⟩) hs2).trans q4))
          · rcases hb with h1 | h1
            · exact .inl h1
            · exact .inr (h1.low (by have := h1.lo; omega)))
      have z0 : wb.frozen? ⟨w.heap.size, 2, none⟩ = false := (hbb.frozen (p := ⟨w.heap.size, 2, none⟩) hs2).trans q4
      rw [← hwb] at hcl z0
      have HCL := Lib.hid hcl
      have hrl := HROW.out.lt
      obtain ⟨L, hL, hown, hLx⟩ := HROW.out
      have hk0 : ((t.kids.take k).map (copyL f d)).length = k := by simp; omega
      rw [hk0] at hown
      have hownA : ∀ W, Below wr.heap.size wr W → W.ownsRow (w.heap.size + 2) 25 4 v k (L.flatMap node4) := fun W hW => ownsRow_of hown (fun g hg => hW.block g (hrl g hg).2)
      have HOA := Lib.hid hownA
      have HLX := Lib.hid hLx
      have HLL := Lib.hid hL
      have HRL := Lib.hid hrl
      have ag : v.ownBlock ≠ some w.heap.size := fun e => by have := (hrl _ e).1; omega
      have ak : v.ownBlock ≠ some wr.heap.size := fun e => by have := (hrl _ e).2; omega
      clear hown hLx hL hrl hownA hk0
      have hn1 : k + 1 ≤ maxLen := by simp only [maxLen]; omega
      have hb1 : (k + 1) * 56 ≤ 140737488355328 := by omega
      obtain ⟨i0, hi0, hz0, hz1, hz2⟩ := info_parts info24
      have hwd : IntKind.i64.wrap (d : Int) = d := by rw [IntKind.wrap_i64]; omega
      clear hwb hbb hsb m0 m1 m2 m3 hmem hcl
      go_wp2_with fail
      go_region_law
        (first
          | (go_simp
             go_at_call 39
             refine HCL.out.mono ?_
             rintro e w3 ⟨a3, c3, rfl, ⟨x0, x1, x2, x3, x4, x5⟩, hs3, hs4, hs5, hs6, hs7, hr3⟩)
          | ((refine step_append_lies _ (by rfl) _ _ _ (by rfl) (w.heap.size + 2) 25 i0 _ 4 56 und22 hi0 hz0 hz1 hz2 rfl (by omega) v k (L.flatMap node4) (by rfl) (HOA.out _ (hr3.out.1.alloc hr3.out.1.size _)) ⟨w3.heap.size, 0, none⟩ 1 1 (node4 (copyL f d t.kids[k], a3, c3)) (by rfl) (by rfl) (World.news_of_block (cs := #[.int .i64 (copyL f d t.kids[k]).kind, .string ⟨(copyL f d t.kids[k]).text.toArray⟩, .slice a3 (copyL f d t.kids[k]).kids.length c3, .int .i64 (copyL f d t.kids[k]).pos]) (t := 25) (fr := (0, 0)) (heap_alloc_new w3 _)) (by simp [node4, Value.oneCell']) (by omega) hn1 hb1 (by simp; omega) (w3.heap.size + 1) (by simp) ?_; intro gg cap w4 hown4 hgrow hat hlt4; have y0 := (hgrow.cell_far ⟨w.heap.size, 2, none⟩ (hs7 _) (Ne.symm ag)).trans (hs6 _); have y1 := (hgrow.frozen_far ⟨w.heap.size, 2, none⟩ (hs7 _) (Ne.symm ag)).trans (hs5 _); have HG4 := Lib.hid hgrow; have HO4 := Lib.hid hown4; have HA4 := Lib.hid hat; clear hgrow hown4 hat hs5 hs6 hs7)))
      all_goals
        go_wp2_with fail
        go_roundw
        case rel =>
          obtain ⟨e1, e2, e3⟩ := row_round hlt HZ.out HBX2.out HLL.out HLX.out HRL.out hr3.out HO4.out HG4.out HA4.out HBW.out
          exact ⟨k + 1, by omega, by go_num, _, e1, e2, e3⟩
        case measure => simp [intOf]; omega
    · obtain rfl : k = t.kids.length := by omega
      obtain ⟨a9, n9, c9, rfl⟩ := HROW.out.shape
      obtain ⟨-, ⟨r0, r1, r2, r3⟩, f0, f1, f2, f3⟩ := HBX2.out
      go_wp2_with fail
      refine bodyPost_ret (v := .agg #[.int .i64 t.kind, .string ⟨t.text.toArray⟩, .slice a9 n9 c9, .int .i64 t.pos]) (by simp [results, Tryz.results39, go_sem, r0, r1, r2, r3, hs1]) rfl ⟨?_, _, rfl, ?_⟩
      · exact (((HBW.out.setCell (p := ⟨w.heap.size + 1, 0, none⟩) (by simp) _).setCell (p := ⟨w.heap.size + 1, 1, none⟩) (by simp) _).setCell (p := ⟨w.heap.size + 1, 2, none⟩) (by simp) _).setCell (p := ⟨w.heap.size + 1, 3, none⟩) (by simp) _
      · have := HROW.out
        rw [List.take_length] at this
        exact (((this.put1 HZ.out 0 _).put1 HZ.out 1 _).put1 HZ.out 2 _).put1 HZ.out 3 _
end Go.Proofs.YtfcpblclfgkdjaaGreatDoor

namespace Go.Proofs.YtfcpblclfgkdjaaGreatDoor
set_option linter.unusedSimpArgs false
set_option linter.unusedVariables false
open Go.RowKit

theorem node4_len (x : Nd × Option Addr × Nat) : (node4 x).length = 4 := rfl
theorem cells_len : ∀ (L : List (Nd × Option Addr × Nat)), (L.flatMap node4).length = L.length * 4
  | [] => rfl
  | x :: L => by rw [List.flatMap_cons, List.length_append, node4_len, cells_len L, List.length_cons]; omega
theorem cells_get : ∀ (L : List (Nd × Option Addr × Nat)) (j i : Nat) (hj : j < L.length) (hi : i < 4), (L.flatMap node4)[j * 4 + i]? = (node4 L[j])[i]?
  | [], _, _, h, _ => by simp at h
  | x :: L, 0, i, _, hi => by
    rw [List.flatMap_cons, List.getElem?_append_left (by rw [node4_len]; omega)]
    simp
  | x :: L, j + 1, i, hj, hi => by
    rw [List.flatMap_cons, List.getElem?_append_right (by rw [node4_len]; omega), node4_len]
    have e : (j + 1) * 4 + i - 4 = j * 4 + i := by omega
    rw [e, cells_get L j i (by simpa using hj) hi]
    simp

theorem Row.cells {Zo : Nat → Prop} {B : Nat} {l : List Nd} {v : Value} {w : World} (h : Row Zo B l v w) : ∀ g, v.ownBlock = some g → ∃ cs ty, w.heap[g]? = some (.cells cs ty (0, 0)) := by
  intro g hg
  obtain ⟨L, _, hown, _⟩ := h
  rcases hown.2 with ⟨rfl, _⟩ | ⟨g', cap, cur, rfl, _, hh, _⟩
  · cases hg
  · obtain rfl : g' = g := by simpa [Value.ownBlock] using hg
    exact ⟨_, _, hh⟩

/-- The row as kids: the four cells of each, its own kids in a zone without the row's block. -/
theorem Row.four {Zo : Nat → Prop} {B : Nat} {l : List Nd} {v : Value} {w : World} (h : Row Zo B l v w) (hne : l ≠ []) :
    ∃ g cap, v = .slice (some ⟨g, 0, none⟩) l.length cap ∧ B + 2 ≤ g ∧ g < w.heap.size ∧ l.length ≤ cap ∧ cap ≤ 9223372036854775807 ∧ (∀ o, w.frozen? ⟨g, o, none⟩ = false) ∧
      ∀ j (hj : j < l.length), ∃ a' c', Four w g (j * 4) l[j] a' c' ∧ Fits l[j] c' ∧ KidsZ w (fun b => (Zo b ∨ Fresh (B + 2) w b) ∧ b ≠ g) a' l[j].kids := by
  obtain ⟨L, hL, hown, hx⟩ := h
  have hLl : L.length = l.length := by rw [← hL]; simp
  rcases hown.2 with ⟨_, h0⟩ | ⟨g, cap, cur, hv, hb, hg, hcap, hmax, hcs, htk⟩
  · exact absurd (List.eq_nil_of_length_eq_zero h0) hne
  · refine ⟨g, cap, hv, hb, (Array.getElem?_eq_some_iff.1 hg).1, hcap, by simpa [maxLen] using hmax, fun o => by simp [World.frozen?, hg], fun j hj => ?_⟩
    have hjL : j < L.length := by omega
    have hlj : l[j] = L[j].1 := by simp [← hL]
    have hcell : ∀ i, i < 4 → w.cell? ⟨g, j * 4 + i, none⟩ = (node4 L[j])[i]? := by
      intro i hi
      rw [cell_of_row w g (j * 4 + i) cur _ (0, 0) hg, ← cells_get L j i hjL hi, ← htk, List.getElem?_take, if_pos (by omega)]
      simp
    have hm := hx _ (List.getElem_mem hjL)
    refine ⟨L[j].2.1, L[j].2.2, ⟨?_, ?_, ?_, ?_⟩, by rw [hlj]; exact hm.1, ?_⟩
    · have := hcell 0 (by omega); rw [hlj]; first | (exact this) | (simp [node4] at this ⊢; done) | (simp [node4] at this ⊢; exact this)
    · have := hcell 1 (by omega); rw [hlj]; first | (exact this) | (simp [node4] at this ⊢; done) | (simp [node4] at this ⊢; exact this)
    · have := hcell 2 (by omega); rw [hlj]; first | (exact this) | (simp [node4] at this ⊢; done) | (simp [node4] at this ⊢; exact this)
    · have := hcell 3 (by omega); rw [hlj]; first | (exact this) | (simp [node4] at this ⊢; done) | (simp [node4] at this ⊢; exact this)
    · rw [hlj]
      refine hm.2.mono (fun b hb => ⟨hb.1, fun e => hb.2 ?_⟩)
      rw [hv, e]; rfl

theorem copied_of_row {Zo : Nat → Prop} {t : Nd} {l : List Nd} {w : World} {e : Ending} {w' : World} {c : Nat} (hf : Fits t c) (hl : l.length = t.kids.length) (h : CopiedRow Zo t l w e w') : Copied Zo (.mk t.kind t.text l t.pos) w e w' := by
  obtain ⟨hb, v, he, hrow⟩ := h
  obtain ⟨f1, f2, f3, f4, f5, f6, f7, f8⟩ := hf
  cases l with
  | nil =>
    obtain ⟨L, hL, hown, hx⟩ := hrow
    rcases hown.2 with ⟨rfl, _⟩ | ⟨g, cap, cur, rfl, _, _, _, hmax, _⟩
    · exact ⟨hb, none, 0, he, ⟨f1, f2, f3, f4, f5, by simp, by omega, by simp⟩, KidsZ.nil _ _ _⟩
    · exact ⟨hb, _, cap, he, ⟨f1, f2, f3, f4, f5, by simp, by simpa [maxLen] using hmax, by simp⟩, KidsZ.nil _ _ _⟩
  | cons x l =>
    have hcl := hrow.cells
    obtain ⟨g, cap, rfl, hg1, hg2, hcap, hmax, -, h4⟩ := hrow.four (by simp)
    obtain ⟨cs, ty, hgc⟩ := hcl g rfl
    refine ⟨hb, _, cap, he, ⟨f1, f2, f3, f4, f5, hcap, hmax, by simp only [Nd.kids_mk]; omega⟩, ?_⟩
    rw [kidsZ_iff]
    intro j hj
    obtain ⟨a', c', h5, h6, h7⟩ := h4 j hj
    refine ⟨g, 0, a', c', rfl, .inr ⟨by omega, cs, ty, hgc⟩, by rw [Nat.zero_add]; exact h5, h6, h7.mono (fun b hb' => ?_)⟩
    rcases hb'.1 with h1 | h1
    · exact .inl h1
    · exact .inr (h1.low (by have := h1.lo; omega))

/-- copied, of whatever node: to a depth, what at gives put in. -/
theorem copied_any (f : Nd → Option Nd) (g : Nat) (lb : Array Value) (Zo : Nat → Prop) (hen : Enters Tryz.prog g) :
    ∀ (d : Nat), d ≤ 101 → ∀ (t : Nd) (a : Option Addr) (c : Nat) (w : World), AtSays g lb f Zo w → (KidsZ w Zo a t.kids ∨ t.height ≤ d ∧ ∀ x, f x = none) → (∀ b, Zo b → b < w.heap.size) → Kids w w.heap.size a t.kids → Fits t c →
      Calls Tryz.prog 39 #[.agg #[.int .i64 t.kind, .string ⟨t.text.toArray⟩, .slice a t.kids.length c, .int .i64 t.pos], .int .i64 d, .func (.func g) #[] lb] w (Copied Zo (copyL f d t) w)
  | 0, _, t, a, c, w, _, hz, hZ, _, hf => by
    rcases hz with hz | ⟨h, _⟩
    · exact copied_zero t a c g lb Zo w hz hZ hf
    · have := Nd.height_eq t; omega
  | d + 1, hd, t, a, c, w, hat, hz, hZ, hk, hf => by
    cases hy : f t with
    | some y =>
      have h := copied_some d (by omega) t y a c g lb f Zo w hen hat hy hk hZ hf
      have e : copyL f (d + 1) t = y := by rw [copyL, hy]
      rw [e]
      exact h
    | none =>
      have e : copyL f (d + 1) t = .mk t.kind t.text (t.kids.map (copyL f d)) t.pos := by rw [copyL, hy]
      have hdone : ∀ Zk : Nat → Prop, KidsZ w Zk a t.kids → (∀ b, Zk b → b < w.heap.size) → (∀ k, k ∈ t.kids → ∀ a' W, KidsZ W Zk a' k.kids → (KidsZ W Zo a' k.kids ∨ k.height ≤ d ∧ ∀ x, f x = none)) →
          Calls Tryz.prog 39 #[.agg #[.int .i64 t.kind, .string ⟨t.text.toArray⟩, .slice a t.kids.length c, .int .i64 t.pos], .int .i64 ((d : Int) + 1), .func (.func g) #[] lb] w (CopiedRow Zo t (t.kids.map (copyL f d)) w) := fun Zk hkz hZk hko =>
        copied_none d (by omega) t a c g lb f Zo w hen hat hy Zk hkz hZk hZ hf (fun k hkm a' c' W hW hk' hf' =>
          copied_any f g lb Zo hen d (by omega) k a' c' W (hat.on hW) (hko k hkm a' W hk') (fun b hb => Nat.lt_of_lt_of_le (hZ b hb) hW.size) (hk'.kids (fun b hb => Nat.lt_of_lt_of_le (hZk b hb) hW.size)) hf')
      rw [e]
      rcases hz with hz | ⟨hh, hfn⟩
      · exact (hdone Zo hz hZ (fun k _ a' W h => .inl h)).mono (fun e w' hr => copied_of_row hf (by simp) hr)
      · exact (hdone (· < w.heap.size) hk.toZ (fun b h => h) (fun k hkm a' W _ => .inr ⟨by have := Nd.height_kid hkm; omega, hfn⟩)).mono (fun e w' hr => copied_of_row hf (by simp) hr)
end Go.Proofs.YtfcpblclfgkdjaaGreatDoor

namespace Go.Proofs.YtfcpblclfgkdjaaGreatDoor
set_option linter.unusedSimpArgs false
set_option linter.unusedVariables false
open Go.RowKit

theorem copy_at (Zo : Nat → Prop) (w : World) : AtSays 40 #[] (fun _ => none) Zo w := fun W x a c _ _ hf => by
  have h := copy1_any x a c W
  have e : (#[.agg #[.int .i64 x.kind, .string ⟨x.text.toArray⟩, .slice a x.kids.length c, .int .i64 x.pos]] ++ #[] : Array Value) = #[.agg #[.int .i64 x.kind, .string ⟨x.text.toArray⟩, .slice a x.kids.length c, .int .i64 x.pos]] := by simp
  rw [e]
  exact h.mono (fun e W' ⟨he, hb⟩ => ⟨hb, x, a, c, he, .inr rfl, hf, .inl rfl⟩)

/-- Copy: a zone of its own where the node is not too deep. -/
theorem copy_call (Zo : Nat → Prop) (t : Nd) (a : Option Addr) (c : Nat) (w : World) (hz : KidsZ w Zo a t.kids ∨ t.height ≤ 100) (hZ : ∀ b, Zo b → b < w.heap.size) (hk : Kids w w.heap.size a t.kids) (hf : Fits t c) :
    Calls Tryz.prog 39 #[.agg #[.int .i64 t.kind, .string ⟨t.text.toArray⟩, .slice a t.kids.length c, .int .i64 t.pos], .int .i64 100, .func (.func 40) #[] #[]] w (Copied Zo t w) := by
  have h := copied_any (fun _ => none) 40 #[] Zo (enters_of Tryz.func40 (by kernel_rfl) rfl) 100 (by omega) t a c w (copy_at Zo w) (hz.imp id (fun h => ⟨h, fun _ => rfl⟩)) hZ hk hf
  rw [copyL_none] at h
  exact h

set_option maxHeartbeats 1000000 in
theorem copy_any (Zo : Nat → Prop) (t : Nd) (a : Option Addr) (c : Nat) (w : World) (hz : KidsZ w Zo a t.kids ∨ t.height ≤ 100) (hZ : ∀ b, Zo b → b < w.heap.size) (hk : Kids w w.heap.size a t.kids) (hf : Fits t c) :
    Calls Tryz.prog 20 #[.agg #[.int .i64 t.kind, .string ⟨t.text.toArray⟩, .slice a t.kids.length c, .int .i64 t.pos]] w (Copied Zo t w) := by
  obtain ⟨wa, hwa⟩ : ∃ wa, (w.alloc (.cells #[.int .i64 t.kind, .string ⟨t.text.toArray⟩, .slice a t.kids.length c, .int .i64 t.pos] 25)).alloc (.cells #[.int .i64 0, .string ⟨#[]⟩, .slice none 0 0, .int .i64 0] 25) = wa := ⟨_, rfl⟩
  have hba : Below w.heap.size w wa := by rw [← hwa]; exact ((Below.refl _ _).alloc (Nat.le_refl _) _).alloc (by simp) _
  have hsz : wa.heap.size = w.heap.size + 2 := by rw [← hwa]; simp
  have hcall := copy_call Zo t a c wa (hz.imp (fun h => h.move (fun _ hb => hb) (fun p _ hp hv => (hba.cell (hZ _ hp)).trans hv)) id) (fun b hb => by have := hZ b hb; omega) (hk.on hba) hf
  have HB := Lib.hid hba
  have n0 : wa.cell? ⟨w.heap.size, 0, none⟩ = some (.int .i64 t.kind) := by rw [← hwa]; simp [go_sem]
  have n1 : wa.cell? ⟨w.heap.size, 1, none⟩ = some (.string ⟨t.text.toArray⟩) := by rw [← hwa]; simp [go_sem]
  have n2 : wa.cell? ⟨w.heap.size, 2, none⟩ = some (.slice a t.kids.length c) := by rw [← hwa]; simp [go_sem]
  have n3 : wa.cell? ⟨w.heap.size, 3, none⟩ = some (.int .i64 t.pos) := by rw [← hwa]; simp [go_sem]
  have hB0 : Boxes t w.heap.size (.slice a t.kids.length c) wa := by
    rw [← hwa]
    refine ⟨⟨?_, ?_, ?_, ?_, ?_⟩, ⟨?_, ?_, ?_, ?_⟩, ?_, ?_, ?_, ?_⟩ <;> simp [go_sem]
  have HC := Lib.hid hcall
  have HZ := Lib.hid hZ
  have HSZ := Lib.hid hsz
  have HX := Lib.hid hB0
  clear hcall hba hk hf hZ hsz hB0 hz
  go_enter Tryz.func20, Tryz.ntmps20
  go_wp2_with fail
  refine HC.out.mono ?_
  rintro e w1 ⟨hb1, a', c', rfl, hfit, hkz⟩
  obtain ⟨-, ⟨r0, r1, r2, r3⟩, f0, f1, f2, f3⟩ := HX.out.on hb1
  have hs1 : w.heap.size + 1 < w1.heap.size := by have := HSZ.out; have := hb1.size; omega
  have HB1 := Lib.hid hb1
  have HF := Lib.hid hfit
  have HKZ := Lib.hid hkz
  clear hb1 hfit hkz hwa n0 n1 n2 n3
  go_wp2_with fail
  refine bodyPost_ret (v := .agg #[.int .i64 t.kind, .string ⟨t.text.toArray⟩, .slice a' t.kids.length c', .int .i64 t.pos]) (by simp [results, Tryz.results20, go_sem, r0, r1, r2, r3, hs1]) rfl ⟨?_, a', c', rfl, HF.out, HKZ.out.move ?_ ?_⟩
  · exact ((((bext HB.out HB1.out).setCell (p := ⟨w.heap.size + 1, 0, none⟩) (by simp) _).setCell (p := ⟨w.heap.size + 1, 1, none⟩) (by simp) _).setCell (p := ⟨w.heap.size + 1, 2, none⟩) (by simp) _).setCell (p := ⟨w.heap.size + 1, 3, none⟩) (by simp) _
  · intro b hb
    have h1 := HSZ.out
    rcases hb with hb | hb
    · exact .inl hb
    · exact .inr (((((hb.low (by have := hb.lo; omega)).set _ _).set _ _).set _ _).set _ _)
  · intro p v hp hv
    have h1 := HSZ.out
    have h2 : p.block ≠ w.heap.size + 1 := by
      rcases hp with hp | hp
      · have := HZ.out _ hp; omega
      · have := hp.lo; omega
    rw [cell_far_set h2, cell_far_set h2, cell_far_set h2, cell_far_set h2]
    exact hv
end Go.Proofs.YtfcpblclfgkdjaaGreatDoor

