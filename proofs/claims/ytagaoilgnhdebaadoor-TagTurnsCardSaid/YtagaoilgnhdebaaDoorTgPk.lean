/-
  tag: what a law's walk carries from call to call: cells, known constraints, known rows of texts.
-/
import Derived.Test.YtagaoilgnhdebaaDoorTgZ
import Derived.Test.YtagaoilgnhdebaaDoorTgPc
import Derived.Test.YtagaoilgnhdebaaDoorTgR
namespace Go.Proofs.YtagaoilgnhdebaaDoor
set_option linter.unusedSimpArgs false
set_option linter.unusedVariables false
open Go.RowKit

def Keep (B : World → Prop) : Prop := ∀ W W', Below W.heap.size W W' → B W → B W'
/-- Behind w0: cells, known constraints, known rows of texts. -/
structure Pk (w0 : World) (B : World → Prop) (K : List (Xp × Option Addr × Nat)) (L : List (List (List UInt8) × Option Addr)) (W : World) : Prop where
  below : Below w0.heap.size w0 W
  env : Env W
  cells : B W
  known : ∀ y, y ∈ K → Xids W Any y.2.1 y.1.kids ∧ Fitx y.1 y.2.2
  strs : ∀ y, y ∈ L → Strs W y.2 y.1
section
variable {w0 : World} {B : World → Prop} {K : List (Xp × Option Addr × Nat)} {L : List (List (List UInt8) × Option Addr)} {W W' : World}
theorem Pk.on (h : Pk w0 B K L W) (hB : Keep B) (hb : Below W.heap.size W W') : Pk w0 B K L W' :=
  ⟨bext h.below hb, h.env.on hb, hB W W' hb h.cells, fun y hy => ⟨(h.known y hy).1.on hb, (h.known y hy).2⟩, fun y hy => (h.strs y hy).on hb⟩
theorem Pk.cons (h : Pk w0 B K L W) {t : Xp} {a : Option Addr} {c : Nat} (hk : Xids W Any a t.kids) (hf : Fitx t c) : Pk w0 B ((t, a, c) :: K) L W :=
  ⟨h.below, h.env, h.cells, fun y hy => (List.mem_cons.1 hy).elim (fun e => by subst e; exact ⟨hk, hf⟩) (h.known y), h.strs⟩
theorem Pk.row (h : Pk w0 B K L W) {l : List (List UInt8)} {a : Option Addr} (hs : Strs W a l) : Pk w0 B K ((l, a) :: L) W :=
  ⟨h.below, h.env, h.cells, h.known, fun y hy => (List.mem_cons.1 hy).elim (fun e => by subst e; exact hs) (h.strs y)⟩
theorem Pk.box (h : Pk w0 B K L W) {B' : World → Prop} (hB : B' W) : Pk w0 B' K L W := ⟨h.below, h.env, hB, h.known, h.strs⟩
abbrev PkPost (w0 : World) (B : World → Prop) (K : List (Xp × Option Addr × Nat)) (L : List (List (List UInt8) × Option Addr)) (v : Value) (e : Ending) (w' : World) : Prop := e = .returned v ∧ B w' ∧ Hid (Pk w0 B K L w')
theorem pk_post (h : Pk w0 B K L W) (hB : Keep B) {f : Nat} {args : Array Value} {v : Value} (hc : Calls Tryd.prog f args W fun e w' => e = .returned v ∧ Below W.heap.size W w') : Calls Tryd.prog f args W (PkPost w0 B K L v) :=
  hc.mono fun e w' ⟨he, hb⟩ => have h' := h.on hB hb; ⟨he, h'.cells, Lib.hid h'⟩
theorem pk_holds (h : Pk w0 B K L W) (hB : Keep B) (t : Xp) (a : Option Addr) (c : Nat) (hm : (t, a, c) ∈ K) (tags : List (List UInt8)) (at_ : Option Addr) (ct : Nat) (hm2 : (tags, at_) ∈ L) (ht : tags.length ≤ 9223372036854775807) :
    Calls Tryd.prog 14 #[.agg #[.string ⟨t.op.toArray⟩, .string ⟨t.tag.toArray⟩, .slice a t.kids.length c], .slice at_ tags.length ct] W (PkPost w0 B K L (.bool (holdsR tags t))) :=
  pk_post h hB (Holds_any tags ht t a at_ c ct W h.env (h.known _ hm).1 (h.known _ hm).2 (h.strs _ hm2))
theorem pk_least (h : Pk w0 B K L W) (hB : Keep B) (t : Xp) (a : Option Addr) (c : Nat) (hm : (t, a, c) ∈ K) :
    Calls Tryd.prog 15 #[.agg #[.string ⟨t.op.toArray⟩, .string ⟨t.tag.toArray⟩, .slice a t.kids.length c]] W (PkPost w0 B K L (.int .i64 (leastR t))) :=
  pk_post h hB (Least_any t a c W h.env (h.known _ hm).1 (h.known _ hm).2)
theorem pk_write (h : Pk w0 B K L W) (hB : Keep B) (t : Xp) (a : Option Addr) (c : Nat) (hm : (t, a, c) ∈ K) (hl : (writeR t).length ≤ 140737488351232) :
    Calls Tryd.prog 16 #[.agg #[.string ⟨t.op.toArray⟩, .string ⟨t.tag.toArray⟩, .slice a t.kids.length c]] W (PkPost w0 B K L (.string ⟨(writeR t).toArray⟩)) :=
  pk_post h hB (Write_any t a c W (h.known _ hm).1 (h.known _ hm).2 hl)
theorem pk_right (h : Pk w0 B K L W) (hB : Keep B) (t : Xp) (a : Option Addr) (c : Nat) (hm : (t, a, c) ∈ K) :
    Calls Tryd.prog 13 #[.agg #[.string ⟨t.op.toArray⟩, .string ⟨t.tag.toArray⟩, .slice a t.kids.length c]] W (PkPost w0 B K L (.bool (rightX 100 t))) :=
  pk_post h hB (Right_any t a c W (h.known _ hm).1 (h.known _ hm).2)
theorem pk_awake (h : Pk w0 B K L W) (hB : Keep B) : Calls Tryd.prog 17 #[] W (PkPost w0 B K L (.bool true)) :=
  pk_post h hB (awake_any W h.env)
theorem pk_size (h : Pk w0 B K L W) (hB : Keep B) (t : Xp) (a : Option Addr) (c : Nat) (hm : (t, a, c) ∈ K) :
    Calls Tryd.prog 10 #[.agg #[.string ⟨t.op.toArray⟩, .string ⟨t.tag.toArray⟩, .slice a t.kids.length c]] W (PkPost w0 B K L (.int .i64 (wrap64 (sizeX t)))) :=
  pk_post h hB (size_any t a c W (h.known _ hm).1 (h.known _ hm).2)
theorem pk_denies (h : Pk w0 B K L W) (hB : Keep B) (t : Xp) (a : Option Addr) (c : Nat) (hm : (t, a, c) ∈ K) :
    Calls Tryd.prog 23 #[.agg #[.string ⟨t.op.toArray⟩, .string ⟨t.tag.toArray⟩, .slice a t.kids.length c]] W (PkPost w0 B K L (.bool (deniesX t))) :=
  pk_post h hB (denies_any t a c W (h.known _ hm).1 (h.known _ hm).2)
theorem pk_same (h : Pk w0 B K L W) (hB : Keep B) (t : Xp) (a a2 : Option Addr) (c c2 : Nat) (hm : (t, a, c) ∈ K) (hm2 : (t, a2, c2) ∈ K) :
    Calls Tryd.prog 22 #[.agg #[.string ⟨t.op.toArray⟩, .string ⟨t.tag.toArray⟩, .slice a t.kids.length c], .agg #[.string ⟨t.op.toArray⟩, .string ⟨t.tag.toArray⟩, .slice a2 t.kids.length c2]] W (PkPost w0 B K L (.bool true)) :=
  pk_post h hB (same_any t a a2 c c2 W (h.known _ hm).1 (h.known _ hm).2 (h.known _ hm2).1 (h.known _ hm2).2)
theorem pk_of (h : Pk w0 B K L W) (hB : Keep B) (t : Xp) (a : Option Addr) (c : Nat) (hm : (t, a, c) ∈ K) :
    Calls Tryd.prog 11 #[.agg #[.string ⟨t.op.toArray⟩, .string ⟨t.tag.toArray⟩, .slice a t.kids.length c]] W fun e w' => ∃ a' c', e = .returned (.agg #[.string ⟨t.op.toArray⟩, .string ⟨t.tag.toArray⟩, .slice a' t.kids.length c']) ∧ B w' ∧ Hid (Pk w0 B ((t, a', c') :: K) L w') :=
  (of_any t a c W (h.known _ hm).1 (h.known _ hm).2).mono fun e w' ⟨hb, a', c', he, hf, hk⟩ => have h' := (h.on hB hb).cons hk.any hf; ⟨a', c', he, h'.cells, Lib.hid h'⟩
end
end Go.Proofs.YtagaoilgnhdebaaDoor
