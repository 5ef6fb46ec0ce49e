/-
  So many nodes lie in memory, boxed. Printed by gen_boxes.py.
-/
import Derived.Test.YtnmebgiiajnnjaaAwake
namespace Go.Proofs.Ytnmebgiiajnnjaa
set_option linter.unusedSimpArgs false
set_option linter.unusedVariables false
open Go.RowKit

structure Bx1 (t1 : Nd) (a1 : Option Addr) (c1 B1 : Nat) (W : World) : Prop where
  glob : Glob W
  k1 : Kids W W.heap.size a1 t1.kids
  f1 : Fits t1 c1
  b1 : (W.cell? ⟨B1, 0, none⟩ = some (.int .i64 t1.kind) ∧ W.cell? ⟨B1, 1, none⟩ = some (.string ⟨t1.text.toArray⟩) ∧ W.cell? ⟨B1, 2, none⟩ = some (.slice (a1) t1.kids.length c1) ∧ W.cell? ⟨B1, 3, none⟩ = some (.int .i64 t1.pos))
section
variable {t1 : Nd} {a1 : Option Addr} {c1 B1 : Nat} {W W' : World}
theorem Bx1.on (h : Bx1 t1 a1 c1 B1 W) (hb : Below W.heap.size W W') : Bx1 t1 a1 c1 B1 W' :=
  ⟨h.glob.on hb, h.k1.on hb, h.f1, cells_on hb h.b1.1 h.b1.2.1 h.b1.2.2.1 h.b1.2.2.2⟩
abbrev Bx1Post (t1 : Nd) (a1 : Option Addr) (c1 B1 : Nat) (v : Value) (W : World) (e : Ending) (w' : World) : Prop :=
  e = .returned v ∧ ((w'.cell? ⟨B1, 0, none⟩ = some (.int .i64 t1.kind) ∧ w'.cell? ⟨B1, 1, none⟩ = some (.string ⟨t1.text.toArray⟩) ∧ w'.cell? ⟨B1, 2, none⟩ = some (.slice (a1) t1.kids.length c1) ∧ w'.cell? ⟨B1, 3, none⟩ = some (.int .i64 t1.pos))) ∧ Hid (Bx1 t1 a1 c1 B1 w' ∧ Below W.heap.size W w')
theorem bx1_post (h : Bx1 t1 a1 c1 B1 W) {f : Nat} {args : Array Value} {v : Value} (hc : Calls Try.prog f args W fun e w' => e = .returned v ∧ Below W.heap.size W w') : Calls Try.prog f args W (Bx1Post t1 a1 c1 B1 v W) :=
  hc.mono (fun e w' ⟨he, hb⟩ => ⟨he, (h.on hb).b1, Lib.hid ⟨h.on hb, hb⟩⟩)
end

structure Bx2 (t1 t2 : Nd) (a1 a2 : Option Addr) (c1 c2 B1 B2 : Nat) (W : World) : Prop where
  glob : Glob W
  k1 : Kids W W.heap.size a1 t1.kids
  f1 : Fits t1 c1
  b1 : (W.cell? ⟨B1, 0, none⟩ = some (.int .i64 t1.kind) ∧ W.cell? ⟨B1, 1, none⟩ = some (.string ⟨t1.text.toArray⟩) ∧ W.cell? ⟨B1, 2, none⟩ = some (.slice (a1) t1.kids.length c1) ∧ W.cell? ⟨B1, 3, none⟩ = some (.int .i64 t1.pos))
  k2 : Kids W W.heap.size a2 t2.kids
  f2 : Fits t2 c2
  b2 : (W.cell? ⟨B2, 0, none⟩ = some (.int .i64 t2.kind) ∧ W.cell? ⟨B2, 1, none⟩ = some (.string ⟨t2.text.toArray⟩) ∧ W.cell? ⟨B2, 2, none⟩ = some (.slice (a2) t2.kids.length c2) ∧ W.cell? ⟨B2, 3, none⟩ = some (.int .i64 t2.pos))
section
variable {t1 t2 : Nd} {a1 a2 : Option Addr} {c1 c2 B1 B2 : Nat} {W W' : World}
theorem Bx2.on (h : Bx2 t1 t2 a1 a2 c1 c2 B1 B2 W) (hb : Below W.heap.size W W') : Bx2 t1 t2 a1 a2 c1 c2 B1 B2 W' :=
  ⟨h.glob.on hb, h.k1.on hb, h.f1, cells_on hb h.b1.1 h.b1.2.1 h.b1.2.2.1 h.b1.2.2.2, h.k2.on hb, h.f2, cells_on hb h.b2.1 h.b2.2.1 h.b2.2.2.1 h.b2.2.2.2⟩
abbrev Bx2Post (t1 t2 : Nd) (a1 a2 : Option Addr) (c1 c2 B1 B2 : Nat) (v : Value) (W : World) (e : Ending) (w' : World) : Prop :=
  e = .returned v ∧ ((w'.cell? ⟨B1, 0, none⟩ = some (.int .i64 t1.kind) ∧ w'.cell? ⟨B1, 1, none⟩ = some (.string ⟨t1.text.toArray⟩) ∧ w'.cell? ⟨B1, 2, none⟩ = some (.slice (a1) t1.kids.length c1) ∧ w'.cell? ⟨B1, 3, none⟩ = some (.int .i64 t1.pos)) ∧ (w'.cell? ⟨B2, 0, none⟩ = some (.int .i64 t2.kind) ∧ w'.cell? ⟨B2, 1, none⟩ = some (.string ⟨t2.text.toArray⟩) ∧ w'.cell? ⟨B2, 2, none⟩ = some (.slice (a2) t2.kids.length c2) ∧ w'.cell? ⟨B2, 3, none⟩ = some (.int .i64 t2.pos))) ∧ Hid (Bx2 t1 t2 a1 a2 c1 c2 B1 B2 w' ∧ Below W.heap.size W w')
theorem bx2_post (h : Bx2 t1 t2 a1 a2 c1 c2 B1 B2 W) {f : Nat} {args : Array Value} {v : Value} (hc : Calls Try.prog f args W fun e w' => e = .returned v ∧ Below W.heap.size W w') : Calls Try.prog f args W (Bx2Post t1 t2 a1 a2 c1 c2 B1 B2 v W) :=
  hc.mono (fun e w' ⟨he, hb⟩ => ⟨he, ⟨(h.on hb).b1, (h.on hb).b2⟩, Lib.hid ⟨h.on hb, hb⟩⟩)
end

structure Bx3 (t1 t2 t3 : Nd) (a1 a2 a3 : Option Addr) (c1 c2 c3 B1 B2 B3 : Nat) (W : World) : Prop where
  glob : Glob W
  k1 : Kids W W.heap.size a1 t1.kids
  f1 : Fits t1 c1
  b1 : (W.cell? ⟨B1, 0, none⟩ = some (.int .i64 t1.kind) ∧ W.cell? ⟨B1, 1, none⟩ = some (.string ⟨t1.text.toArray⟩) ∧ W.cell? ⟨B1, 2, none⟩ = some (.slice (a1) t1.kids.length c1) ∧ W.cell? ⟨B1, 3, none⟩ = some (.int .i64 t1.pos))
  k2 : Kids W W.heap.size a2 t2.kids
  f2 : Fits t2 c2
  b2 : (W.cell? ⟨B2, 0, none⟩ = some (.int .i64 t2.kind) ∧ W.cell? ⟨B2, 1, none⟩ = some (.string ⟨t2.text.toArray⟩) ∧ W.cell? ⟨B2, 2, none⟩ = some (.slice (a2) t2.kids.length c2) ∧ W.cell? ⟨B2, 3, none⟩ = some (.int .i64 t2.pos))
  k3 : Kids W W.heap.size a3 t3.kids
  f3 : Fits t3 c3
  b3 : (W.cell? ⟨B3, 0, none⟩ = some (.int .i64 t3.kind) ∧ W.cell? ⟨B3, 1, none⟩ = some (.string ⟨t3.text.toArray⟩) ∧ W.cell? ⟨B3, 2, none⟩ = some (.slice (a3) t3.kids.length c3) ∧ W.cell? ⟨B3, 3, none⟩ = some (.int .i64 t3.pos))
section
variable {t1 t2 t3 : Nd} {a1 a2 a3 : Option Addr} {c1 c2 c3 B1 B2 B3 : Nat} {W W' : World}
theorem Bx3.on (h : Bx3 t1 t2 t3 a1 a2 a3 c1 c2 c3 B1 B2 B3 W) (hb : Below W.heap.size W W') : Bx3 t1 t2 t3 a1 a2 a3 c1 c2 c3 B1 B2 B3 W' :=
  ⟨h.glob.on hb, h.k1.on hb, h.f1, cells_on hb h.b1.1 h.b1.2.1 h.b1.2.2.1 h.b1.2.2.2, h.k2.on hb, h.f2, cells_on hb h.b2.1 h.b2.2.1 h.b2.2.2.1 h.b2.2.2.2, h.k3.on hb, h.f3, cells_on hb h.b3.1 h.b3.2.1 h.b3.2.2.1 h.b3.2.2.2⟩
abbrev Bx3Post (t1 t2 t3 : Nd) (a1 a2 a3 : Option Addr) (c1 c2 c3 B1 B2 B3 : Nat) (v : Value) (W : World) (e : Ending) (w' : World) : Prop :=
  e = .returned v ∧ ((w'.cell? ⟨B1, 0, none⟩ = some (.int .i64 t1.kind) ∧ w'.cell? ⟨B1, 1, none⟩ = some (.string ⟨t1.text.toArray⟩) ∧ w'.cell? ⟨B1, 2, none⟩ = some (.slice (a1) t1.kids.length c1) ∧ w'.cell? ⟨B1, 3, none⟩ = some (.int .i64 t1.pos)) ∧ (w'.cell? ⟨B2, 0, none⟩ = some (.int .i64 t2.kind) ∧ w'.cell? ⟨B2, 1, none⟩ = some (.string ⟨t2.text.toArray⟩) ∧ w'.cell? ⟨B2, 2, none⟩ = some (.slice (a2) t2.kids.length c2) ∧ w'.cell? ⟨B2, 3, none⟩ = some (.int .i64 t2.pos)) ∧ (w'.cell? ⟨B3, 0, none⟩ = some (.int .i64 t3.kind) ∧ w'.cell? ⟨B3, 1, none⟩ = some (.string ⟨t3.text.toArray⟩) ∧ w'.cell? ⟨B3, 2, none⟩ = some (.slice (a3) t3.kids.length c3) ∧ w'.cell? ⟨B3, 3, none⟩ = some (.int .i64 t3.pos))) ∧ Hid (Bx3 t1 t2 t3 a1 a2 a3 c1 c2 c3 B1 B2 B3 w' ∧ Below W.heap.size W w')
theorem bx3_post (h : Bx3 t1 t2 t3 a1 a2 a3 c1 c2 c3 B1 B2 B3 W) {f : Nat} {args : Array Value} {v : Value} (hc : Calls Try.prog f args W fun e w' => e = .returned v ∧ Below W.heap.size W w') : Calls Try.prog f args W (Bx3Post t1 t2 t3 a1 a2 a3 c1 c2 c3 B1 B2 B3 v W) :=
  hc.mono (fun e w' ⟨he, hb⟩ => ⟨he, ⟨(h.on hb).b1, (h.on hb).b2, (h.on hb).b3⟩, Lib.hid ⟨h.on hb, hb⟩⟩)
end

structure Bx4 (t1 t2 t3 t4 : Nd) (a1 a2 a3 a4 : Option Addr) (c1 c2 c3 c4 B1 B2 B3 B4 : Nat) (W : World) : Prop where
  glob : Glob W
  k1 : Kids W W.heap.size a1 t1.kids
  f1 : Fits t1 c1
  b1 : (W.cell? ⟨B1, 0, none⟩ = some (.int .i64 t1.kind) ∧ W.cell? ⟨B1, 1, none⟩ = some (.string ⟨t1.text.toArray⟩) ∧ W.cell? ⟨B1, 2, none⟩ = some (.slice (a1) t1.kids.length c1) ∧ W.cell? ⟨B1, 3, none⟩ = some (.int .i64 t1.pos))
  k2 : Kids W W.heap.size a2 t2.kids
  f2 : Fits t2 c2
  b2 : (W.cell? ⟨B2, 0, none⟩ = some (.int .i64 t2.kind) ∧ W.cell? ⟨B2, 1, none⟩ = some (.string ⟨t2.text.toArray⟩) ∧ W.cell? ⟨B2, 2, none⟩ = some (.slice (a2) t2.kids.length c2) ∧ W.cell? ⟨B2, 3, none⟩ = some (.int .i64 t2.pos))
  k3 : Kids W W.heap.size a3 t3.kids
  f3 : Fits t3 c3
  b3 : (W.cell? ⟨B3, 0, none⟩ = some (.int .i64 t3.kind) ∧ W.cell? ⟨B3, 1, none⟩ = some (.string ⟨t3.text.toArray⟩) ∧ W.cell? ⟨B3, 2, none⟩ = some (.slice (a3) t3.kids.length c3) ∧ W.cell? ⟨B3, 3, none⟩ = some (.int .i64 t3.pos))
  k4 : Kids W W.heap.size a4 t4.kids
  f4 : Fits t4 c4
  b4 : (W.cell? ⟨B4, 0, none⟩ = some (.int .i64 t4.kind) ∧ W.cell? ⟨B4, 1, none⟩ = some (.string ⟨t4.text.toArray⟩) ∧ W.cell? ⟨B4, 2, none⟩ = some (.slice (a4) t4.kids.length c4) ∧ W.cell? ⟨B4, 3, none⟩ = some (.int .i64 t4.pos))
section
variable {t1 t2 t3 t4 : Nd} {a1 a2 a3 a4 : Option Addr} {c1 c2 c3 c4 B1 B2 B3 B4 : Nat} {W W' : World}
theorem Bx4.on (h : Bx4 t1 t2 t3 t4 a1 a2 a3 a4 c1 c2 c3 c4 B1 B2 B3 B4 W) (hb : Below W.heap.size W W') : Bx4 t1 t2 t3 t4 a1 a2 a3 a4 c1 c2 c3 c4 B1 B2 B3 B4 W' :=
  ⟨h.glob.on hb, h.k1.on hb, h.f1, cells_on hb h.b1.1 h.b1.2.1 h.b1.2.2.1 h.b1.2.2.2, h.k2.on hb, h.f2, cells_on hb h.b2.1 h.b2.2.1 h.b2.2.2.1 h.b2.2.2.2, h.k3.on hb, h.f3, cells_on hb h.b3.1 h.b3.2.1 h.b3.2.2.1 h.b3.2.2.2, h.k4.on hb, h.f4, cells_on hb h.b4.1 h.b4.2.1 h.b4.2.2.1 h.b4.2.2.2⟩
abbrev Bx4Post (t1 t2 t3 t4 : Nd) (a1 a2 a3 a4 : Option Addr) (c1 c2 c3 c4 B1 B2 B3 B4 : Nat) (v : Value) (W : World) (e : Ending) (w' : World) : Prop :=
  e = .returned v ∧ ((w'.cell? ⟨B1, 0, none⟩ = some (.int .i64 t1.kind) ∧ w'.cell? ⟨B1, 1, none⟩ = some (.string ⟨t1.text.toArray⟩) ∧ w'.cell? ⟨B1, 2, none⟩ = some (.slice (a1) t1.kids.length c1) ∧ w'.cell? ⟨B1, 3, none⟩ = some (.int .i64 t1.pos)) ∧ (w'.cell? ⟨B2, 0, none⟩ = some (.int .i64 t2.kind) ∧ w'.cell? ⟨B2, 1, none⟩ = some (.string ⟨t2.text.toArray⟩) ∧ w'.cell? ⟨B2, 2, none⟩ = some (.slice (a2) t2.kids.length c2) ∧ w'.cell? ⟨B2, 3, none⟩ = some (.int .i64 t2.pos)) ∧ (w'.cell? ⟨B3, 0, none⟩ = some (.int .i64 t3.kind) ∧ w'.cell? ⟨B3, 1, none⟩ = some (.string ⟨t3.text.toArray⟩) ∧ w'.cell? ⟨B3, 2, none⟩ = some (.slice (a3) t3.kids.length c3) ∧ w'.cell? ⟨B3, 3, none⟩ = some (.int .i64 t3.pos)) ∧ (w'.cell? ⟨B4, 0, none⟩ = some (.int .i64 t4.kind) ∧ w'.cell? ⟨B4, 1, none⟩ = some (.string ⟨t4.text.toArray⟩) ∧ w'.cell? ⟨B4, 2, none⟩ = some (.slice (a4) t4.kids.length c4) ∧ w'.cell? ⟨B4, 3, none⟩ = some (.int .i64 t4.pos))) ∧ Hid (Bx4 t1 t2 t3 t4 a1 a2 a3 a4 c1 c2 c3 c4 B1 B2 B3 B4 w' ∧ Below W.heap.size W w')
theorem bx4_post (h : Bx4 t1 t2 t3 t4 a1 a2 a3 a4 c1 c2 c3 c4 B1 B2 B3 B4 W) {f : Nat} {args : Array Value} {v : Value} (hc : Calls Try.prog f args W fun e w' => e = .returned v ∧ Below W.heap.size W w') : Calls Try.prog f args W (Bx4Post t1 t2 t3 t4 a1 a2 a3 a4 c1 c2 c3 c4 B1 B2 B3 B4 v W) :=
  hc.mono (fun e w' ⟨he, hb⟩ => ⟨he, ⟨(h.on hb).b1, (h.on hb).b2, (h.on hb).b3, (h.on hb).b4⟩, Lib.hid ⟨h.on hb, hb⟩⟩)
end

section
variable {t1 : Nd} {a1 : Option Addr} {c1 B1 : Nat} {W W' : World}
theorem Bx1.box {r : Nd} {ar : Option Addr} {cr : Nat} (h : Bx1 t1 a1 c1 B1 W) (hf : Fits r cr) (hk : Kids W W.heap.size ar r.kids) : Bx2 t1 r a1 ar c1 cr B1 W.heap.size (W.alloc (.cells #[.int .i64 r.kind, .string ⟨r.text.toArray⟩, .slice ar r.kids.length cr, .int .i64 r.pos] 24)) := by
  have hb := below_alloc W (.cells #[.int .i64 r.kind, .string ⟨r.text.toArray⟩, .slice ar r.kids.length cr, .int .i64 r.pos] 24)
  refine ⟨(h.on hb).glob, (h.on hb).k1, h.f1, (h.on hb).b1, hk.on hb, hf, ⟨?_, ?_, ?_, ?_⟩⟩ <;> simp [go_sem]
end

section
variable {t1 t2 : Nd} {a1 a2 : Option Addr} {c1 c2 B1 B2 : Nat} {W W' : World}
theorem Bx2.box {r : Nd} {ar : Option Addr} {cr : Nat} (h : Bx2 t1 t2 a1 a2 c1 c2 B1 B2 W) (hf : Fits r cr) (hk : Kids W W.heap.size ar r.kids) : Bx3 t1 t2 r a1 a2 ar c1 c2 cr B1 B2 W.heap.size (W.alloc (.cells #[.int .i64 r.kind, .string ⟨r.text.toArray⟩, .slice ar r.kids.length cr, .int .i64 r.pos] 24)) := by
  have hb := below_alloc W (.cells #[.int .i64 r.kind, .string ⟨r.text.toArray⟩, .slice ar r.kids.length cr, .int .i64 r.pos] 24)
  refine ⟨(h.on hb).glob, (h.on hb).k1, h.f1, (h.on hb).b1, (h.on hb).k2, h.f2, (h.on hb).b2, hk.on hb, hf, ⟨?_, ?_, ?_, ?_⟩⟩ <;> simp [go_sem]
end

section
variable {t1 t2 t3 : Nd} {a1 a2 a3 : Option Addr} {c1 c2 c3 B1 B2 B3 : Nat} {W W' : World}
theorem Bx3.box {r : Nd} {ar : Option Addr} {cr : Nat} (h : Bx3 t1 t2 t3 a1 a2 a3 c1 c2 c3 B1 B2 B3 W) (hf : Fits r cr) (hk : Kids W W.heap.size ar r.kids) : Bx4 t1 t2 t3 r a1 a2 a3 ar c1 c2 c3 cr B1 B2 B3 W.heap.size (W.alloc (.cells #[.int .i64 r.kind, .string ⟨r.text.toArray⟩, .slice ar r.kids.length cr, .int .i64 r.pos] 24)) := by
  have hb := below_alloc W (.cells #[.int .i64 r.kind, .string ⟨r.text.toArray⟩, .slice ar r.kids.length cr, .int .i64 r.pos] 24)
  refine ⟨(h.on hb).glob, (h.on hb).k1, h.f1, (h.on hb).b1, (h.on hb).k2, h.f2, (h.on hb).b2, (h.on hb).k3, h.f3, (h.on hb).b3, hk.on hb, hf, ⟨?_, ?_, ?_, ?_⟩⟩ <;> simp [go_sem]
end

end Go.Proofs.Ytnmebgiiajnnjaa
