/-
  Ok: a function computes a Bool of nodes; tree.of at 0 to 4 functions.
-/
import Derived.Test.YtnmebgiiajnnjaaNodeC
namespace Go.Proofs.Ytnmebgiiajnnjaa
set_option linter.unusedSimpArgs false
set_option linter.unusedVariables false
open Go.RowKit

/-- Function K computes f of every node of at most so many within one another. -/
def Ok (K : Nat) (f : Nd → Bool) (n : Nat) : Prop :=
  ∀ (t : Nd) (a : Option Addr) (c : Nat) (w : World), t.height ≤ n → Glob w → Kids w w.heap.size a t.kids → Fits t c →
    Calls Try.prog K #[.agg #[.int .i64 t.kind, .string ⟨t.text.toArray⟩, .slice a t.kids.length c, .int .i64 t.pos]] w fun e w' => e = .returned (.bool (f t)) ∧ Below w.heap.size w w'
theorem Ok.says {K : Nat} {f : Nd → Bool} {n : Nat} (h : Ok K f n) {t : Nd} (ht : t.height ≤ n) {w : World} (hg : Glob w) : SaysNd Try.prog K #[] t (f t) w :=
  fun W a c hW hk hf => by simpa using h t a c W ht (hg.on hW) hk hf
theorem Ok.kids {K : Nat} {f : Nd → Bool} {n : Nat} (h : Ok K f n) {t : Nd} (ht : t.height ≤ n + 1) {w : World} (hg : Glob w) : ∀ k, k ∈ t.kids → SaysNd Try.prog K #[] k (f k) w :=
  fun k hk => h.says (by have := Nd.height_kid hk; omega) hg

def kids0 : List Nd → Bool | [] => true | _ => false
def kids1 (f : Nd → Bool) : List Nd → Bool | [a] => f a | _ => false
def kids2 (f g : Nd → Bool) : List Nd → Bool | [a, b] => f a && g b | _ => false
def kids3 (f g h : Nd → Bool) : List Nd → Bool | [a, b, c] => f a && (g b && h c) | _ => false
def kids4 (f g h i : Nd → Bool) : List Nd → Bool | [a, b, c, d] => f a && (g b && (h c && i d)) | _ => false

/-- What tree.of tells: a node of a kind, without a text, whose kids are so. -/
def ofB (kind : Int) (ks : List Nd → Bool) (t : Nd) : Bool := t.kind == kind && (t.text.isEmpty && ks t.kids)

section
variable (t : Nd) (a : Option Addr) (c : Nat) (kind : Int) (w : World)
theorem of0 (hk : Kids w w.heap.size a t.kids) (hf : Fits t c) :
    Calls Try.prog 42 #[.agg #[.int .i64 t.kind, .string ⟨t.text.toArray⟩, .slice a t.kids.length c, .int .i64 t.pos], .int .i64 kind, .slice none 0 0] w fun e w' => e = .returned (.bool (ofB kind kids0 t)) ∧ Below w.heap.size w w' := by
  refine (of_any t a c kind none [] 0 (fun _ => true) w (fun i h => absurd h (by simp)) (fun i h => absurd h (by simp)) hk hf (by simp) (fun i h => absurd h (by simp))).mono ?_
  rintro e w' ⟨rfl, hb⟩
  refine ⟨ret_bool ?_, hb⟩
  unfold ofB
  cases t.kids <;> simp [kids0]
theorem of1 {b off cc g1 : Nat} {lb1 : Array Value} {f1 : Nd → Bool} (hb : b < w.heap.size) (c1 : w.cell? ⟨b, off, none⟩ = some (.func (.func g1) #[] lb1)) (e1 : Enters Try.prog g1)
    (s1 : ∀ k, k ∈ t.kids → SaysNd Try.prog g1 lb1 k (f1 k) w) (hk : Kids w w.heap.size a t.kids) (hf : Fits t c) :
    Calls Try.prog 42 #[.agg #[.int .i64 t.kind, .string ⟨t.text.toArray⟩, .slice a t.kids.length c, .int .i64 t.pos], .int .i64 kind, .slice (some ⟨b, off, none⟩) 1 cc] w fun e w' => e = .returned (.bool (ofB kind (kids1 f1) t)) ∧ Below w.heap.size w w' := by
  refine (of_any t a c kind (some ⟨b, off, none⟩) [(g1, lb1)] cc (fun i => f1 (t.kids.getD i default)) w ?_ ?_ hk hf (by simp) ?_).mono ?_
  · intro i h
    simp at h; subst h
    exact ⟨b, off, rfl, hb, c1⟩
  · intro i h
    simp at h; subst h
    exact e1
  · intro i h h'
    simp at h; subst h
    simpa [List.getD_eq_getElem?_getD, h'] using s1 _ (List.getElem_mem h')
  · rintro e w' ⟨rfl, hb⟩
    refine ⟨ret_bool ?_, hb⟩
    unfold ofB
    rcases t.kids with _ | ⟨x, _ | ⟨y, r⟩⟩ <;> simp [kids1]
theorem of2 {b off cc g1 g2 : Nat} {lb1 lb2 : Array Value} {f1 f2 : Nd → Bool} (hb : b < w.heap.size)
    (c1 : w.cell? ⟨b, off, none⟩ = some (.func (.func g1) #[] lb1)) (e1 : Enters Try.prog g1) (s1 : ∀ k, k ∈ t.kids → SaysNd Try.prog g1 lb1 k (f1 k) w)
    (c2 : w.cell? ⟨b, off + 1, none⟩ = some (.func (.func g2) #[] lb2)) (e2 : Enters Try.prog g2) (s2 : ∀ k, k ∈ t.kids → SaysNd Try.prog g2 lb2 k (f2 k) w)
    (hk : Kids w w.heap.size a t.kids) (hf : Fits t c) :
    Calls Try.prog 42 #[.agg #[.int .i64 t.kind, .string ⟨t.text.toArray⟩, .slice a t.kids.length c, .int .i64 t.pos], .int .i64 kind, .slice (some ⟨b, off, none⟩) 2 cc] w fun e w' => e = .returned (.bool (ofB kind (kids2 f1 f2) t)) ∧ Below w.heap.size w w' := by
  refine (of_any t a c kind (some ⟨b, off, none⟩) [(g1, lb1), (g2, lb2)] cc (fun i => match i with | 0 => f1 (t.kids.getD 0 default) | _ => f2 (t.kids.getD 1 default)) w ?_ ?_ hk hf (by simp) ?_).mono ?_
  · intro i h
    refine ⟨b, off, rfl, hb, ?_⟩
    rcases i with _ | _ | i
    · exact c1
    · exact c2
    · simp at h; omega
  · intro i h
    rcases i with _ | _ | i
    · exact e1
    · exact e2
    · simp at h; omega
  · intro i h h'
    rcases i with _ | _ | i
    · simpa [List.getD_eq_getElem?_getD, h'] using s1 _ (List.getElem_mem h')
    · simpa [List.getD_eq_getElem?_getD, h'] using s2 _ (List.getElem_mem h')
    · simp at h; omega
  · rintro e w' ⟨rfl, hb⟩
    refine ⟨ret_bool ?_, hb⟩
    unfold ofB
    rcases t.kids with _ | ⟨x0, _ | ⟨x1, _ | ⟨y, r⟩⟩⟩ <;> simp [kids2, List.range_succ, Bool.and_assoc]
theorem of3 {b off cc g1 g2 g3 : Nat} {lb1 lb2 lb3 : Array Value} {f1 f2 f3 : Nd → Bool} (hb : b < w.heap.size)
    (c1 : w.cell? ⟨b, off, none⟩ = some (.func (.func g1) #[] lb1)) (e1 : Enters Try.prog g1) (s1 : ∀ k, k ∈ t.kids → SaysNd Try.prog g1 lb1 k (f1 k) w)
    (c2 : w.cell? ⟨b, off + 1, none⟩ = some (.func (.func g2) #[] lb2)) (e2 : Enters Try.prog g2) (s2 : ∀ k, k ∈ t.kids → SaysNd Try.prog g2 lb2 k (f2 k) w)
    (c3 : w.cell? ⟨b, off + 2, none⟩ = some (.func (.func g3) #[] lb3)) (e3 : Enters Try.prog g3) (s3 : ∀ k, k ∈ t.kids → SaysNd Try.prog g3 lb3 k (f3 k) w)
    (hk : Kids w w.heap.size a t.kids) (hf : Fits t c) :
    Calls Try.prog 42 #[.agg #[.int .i64 t.kind, .string ⟨t.text.toArray⟩, .slice a t.kids.length c, .int .i64 t.pos], .int .i64 kind, .slice (some ⟨b, off, none⟩) 3 cc] w fun e w' => e = .returned (.bool (ofB kind (kids3 f1 f2 f3) t)) ∧ Below w.heap.size w w' := by
  refine (of_any t a c kind (some ⟨b, off, none⟩) [(g1, lb1), (g2, lb2), (g3, lb3)] cc (fun i => match i with | 0 => f1 (t.kids.getD 0 default) | 1 => f2 (t.kids.getD 1 default) | _ => f3 (t.kids.getD 2 default)) w ?_ ?_ hk hf (by simp) ?_).mono ?_
  · intro i h
    refine ⟨b, off, rfl, hb, ?_⟩
    rcases i with _ | _ | _ | i
    · exact c1
    · exact c2
    · exact c3
    · simp at h; omega
  · intro i h
    rcases i with _ | _ | _ | i
    · exact e1
    · exact e2
    · exact e3
    · simp at h; omega
  · intro i h h'
    rcases i with _ | _ | _ | i
    · simpa [List.getD_eq_getElem?_getD, h'] using s1 _ (List.getElem_mem h')
    · simpa [List.getD_eq_getElem?_getD, h'] using s2 _ (List.getElem_mem h')
    · simpa [List.getD_eq_getElem?_getD, h'] using s3 _ (List.getElem_mem h')
    · simp at h; omega
  · rintro e w' ⟨rfl, hb⟩
    refine ⟨ret_bool ?_, hb⟩
    unfold ofB
    rcases t.kids with _ | ⟨x0, _ | ⟨x1, _ | ⟨x2, _ | ⟨y, r⟩⟩⟩⟩ <;> simp [kids3, List.range_succ, Bool.and_assoc]
theorem of4 {b off cc g1 g2 g3 g4 : Nat} {lb1 lb2 lb3 lb4 : Array Value} {f1 f2 f3 f4 : Nd → Bool} (hb : b < w.heap.size)
    (c1 : w.cell? ⟨b, off, none⟩ = some (.func (.func g1) #[] lb1)) (e1 : Enters Try.prog g1) (s1 : ∀ k, k ∈ t.kids → SaysNd Try.prog g1 lb1 k (f1 k) w)
    (c2 : w.cell? ⟨b, off + 1, none⟩ = some (.func (.func g2) #[] lb2)) (e2 : Enters Try.prog g2) (s2 : ∀ k, k ∈ t.kids → SaysNd Try.prog g2 lb2 k (f2 k) w)
    (c3 : w.cell? ⟨b, off + 2, none⟩ = some (.func (.func g3) #[] lb3)) (e3 : Enters Try.prog g3) (s3 : ∀ k, k ∈ t.kids → SaysNd Try.prog g3 lb3 k (f3 k) w)
    (c4 : w.cell? ⟨b, off + 3, none⟩ = some (.func (.func g4) #[] lb4)) (e4 : Enters Try.prog g4) (s4 : ∀ k, k ∈ t.kids → SaysNd Try.prog g4 lb4 k (f4 k) w)
    (hk : Kids w w.heap.size a t.kids) (hf : Fits t c) :
    Calls Try.prog 42 #[.agg #[.int .i64 t.kind, .string ⟨t.text.toArray⟩, .slice a t.kids.length c, .int .i64 t.pos], .int .i64 kind, .slice (some ⟨b, off, none⟩) 4 cc] w fun e w' => e = .returned (.bool (ofB kind (kids4 f1 f2 f3 f4) t)) ∧ Below w.heap.size w w' := by
  refine (of_any t a c kind (some ⟨b, off, none⟩) [(g1, lb1), (g2, lb2), (g3, lb3), (g4, lb4)] cc (fun i => match i with | 0 => f1 (t.kids.getD 0 default) | 1 => f2 (t.kids.getD 1 default) | 2 => f3 (t.kids.getD 2 default) | _ => f4 (t.kids.getD 3 default)) w ?_ ?_ hk hf (by simp) ?_).mono ?_
  · intro i h
    refine ⟨b, off, rfl, hb, ?_⟩
    rcases i with _ | _ | _ | _ | i
    · exact c1
    · exact c2
    · exact c3
    · exact c4
    · simp at h; omega
  · intro i h
    rcases i with _ | _ | _ | _ | i
    · exact e1
    · exact e2
    · exact e3
    · exact e4
    · simp at h; omega
  · intro i h h'
    rcases i with _ | _ | _ | _ | i
    · simpa [List.getD_eq_getElem?_getD, h'] using s1 _ (List.getElem_mem h')
    · simpa [List.getD_eq_getElem?_getD, h'] using s2 _ (List.getElem_mem h')
    · simpa [List.getD_eq_getElem?_getD, h'] using s3 _ (List.getElem_mem h')
    · simpa [List.getD_eq_getElem?_getD, h'] using s4 _ (List.getElem_mem h')
    · simp at h; omega
  · rintro e w' ⟨rfl, hb⟩
    refine ⟨ret_bool ?_, hb⟩
    unfold ofB
    rcases t.kids with _ | ⟨x0, _ | ⟨x1, _ | ⟨x2, _ | ⟨x3, _ | ⟨y, r⟩⟩⟩⟩⟩ <;> simp [kids4, List.range_succ, Bool.and_assoc]
end
end Go.Proofs.Ytnmebgiiajnnjaa
