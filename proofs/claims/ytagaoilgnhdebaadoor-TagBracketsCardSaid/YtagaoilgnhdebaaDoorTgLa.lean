/-
  the law TagBrackets, walked.
-/
import Derived.Test.YtagaoilgnhdebaaDoorTgZ
import Derived.Test.YtagaoilgnhdebaaDoorTgPc
namespace Go.Proofs.YtagaoilgnhdebaaDoor
set_option linter.unusedSimpArgs false
set_option linter.unusedVariables false
open Go.RowKit

/-- Two blocks that hold the same constraint, behind w0. -/
structure Pk2 (w0 : World) (x : Xp) (a1 a2 : Option Addr) (c1 c2 p q : Nat) (W : World) : Prop where
  below : Below w0.heap.size w0 W
  env : Env W
  k1 : Xids W Any a1 x.kids
  k2 : Xids W Any a2 x.kids
  f1 : Fitx x c1
  f2 : Fitx x c2
  b1 : (W.cell? ⟨p, 0, none⟩ = some (.string ⟨x.op.toArray⟩) ∧ W.cell? ⟨p, 1, none⟩ = some (.string ⟨x.tag.toArray⟩) ∧ W.cell? ⟨p, 2, none⟩ = some (.slice a1 x.kids.length c1))
  b2 : (W.cell? ⟨q, 0, none⟩ = some (.string ⟨x.op.toArray⟩) ∧ W.cell? ⟨q, 1, none⟩ = some (.string ⟨x.tag.toArray⟩) ∧ W.cell? ⟨q, 2, none⟩ = some (.slice a2 x.kids.length c2))
section
variable {w0 : World} {x : Xp} {a1 a2 : Option Addr} {c1 c2 p q : Nat} {W W' : World}
theorem Pk2.on (h : Pk2 w0 x a1 a2 c1 c2 p q W) (hb : Below W.heap.size W W') : Pk2 w0 x a1 a2 c1 c2 p q W' :=
  ⟨bext h.below hb, h.env.on hb, h.k1.on hb, h.k2.on hb, h.f1, h.f2, three_on' hb h.b1.1 h.b1.2.1 h.b1.2.2, three_on' hb h.b2.1 h.b2.2.1 h.b2.2.2⟩
abbrev Pk2Post (w0 : World) (x : Xp) (a1 a2 : Option Addr) (c1 c2 p q : Nat) (v : Value) (e : Ending) (w' : World) : Prop :=
  e = .returned v ∧ ((w'.cell? ⟨p, 0, none⟩ = some (.string ⟨x.op.toArray⟩) ∧ w'.cell? ⟨p, 1, none⟩ = some (.string ⟨x.tag.toArray⟩) ∧ w'.cell? ⟨p, 2, none⟩ = some (.slice a1 x.kids.length c1)) ∧ (w'.cell? ⟨q, 0, none⟩ = some (.string ⟨x.op.toArray⟩) ∧ w'.cell? ⟨q, 1, none⟩ = some (.string ⟨x.tag.toArray⟩) ∧ w'.cell? ⟨q, 2, none⟩ = some (.slice a2 x.kids.length c2))) ∧ Hid (Pk2 w0 x a1 a2 c1 c2 p q w')
theorem pk2_post (h : Pk2 w0 x a1 a2 c1 c2 p q W) {f : Nat} {args : Array Value} {v : Value} (hc : Calls Tryd.prog f args W fun e w' => e = .returned v ∧ Below W.heap.size W w') : Calls Tryd.prog f args W (Pk2Post w0 x a1 a2 c1 c2 p q v) :=
  hc.mono fun e w' ⟨he, hb⟩ => have h' := h.on hb; ⟨he, ⟨h'.b1, h'.b2⟩, Lib.hid h'⟩
theorem pk2_write (h : Pk2 w0 x a1 a2 c1 c2 p q W) (hl : (writeR x).length ≤ 140737488351232) (a : Option Addr) (c : Nat) (hk : Xids W Any a x.kids ∧ Fitx x c) : Calls Tryd.prog 16 #[.agg #[.string ⟨x.op.toArray⟩, .string ⟨x.tag.toArray⟩, .slice a x.kids.length c]] W (Pk2Post w0 x a1 a2 c1 c2 p q (.string ⟨(writeR x).toArray⟩)) :=
  pk2_post h (Write_any x a c W hk.1 hk.2 hl)
theorem pk2_least (h : Pk2 w0 x a1 a2 c1 c2 p q W) (a : Option Addr) (c : Nat) (hk : Xids W Any a x.kids ∧ Fitx x c) : Calls Tryd.prog 15 #[.agg #[.string ⟨x.op.toArray⟩, .string ⟨x.tag.toArray⟩, .slice a x.kids.length c]] W (Pk2Post w0 x a1 a2 c1 c2 p q (.int .i64 (leastR x))) :=
  pk2_post h (Least_any x a c W h.env hk.1 hk.2)
theorem pk2_awake (h : Pk2 w0 x a1 a2 c1 c2 p q W) : Calls Tryd.prog 17 #[] W (Pk2Post w0 x a1 a2 c1 c2 p q (.bool true)) :=
  pk2_post h (awake_any W h.env)
end

theorem read_no {s : List UInt8} {w : World} {n : Int} (h : (readT s).2 = n) (hs : s.length ≤ 140737488351232) : ∃ x, Calls Tryd.prog 21 #[.string ⟨s.toArray⟩] w (ReadPost (x, n) w) :=
  ⟨(readT s).1, by have := read_any s w hs; rw [← h]; exact this⟩
theorem cat_in (s : List UInt8) : (⟨#[32, 40, 9]⟩ : ByteArray) ++ ⟨s.toArray⟩ ++ ⟨#[32, 41, 32]⟩ = ⟨(inB s).toArray⟩ := by
  rw [inB, tailB, ← cat_two, ← cat_two]

set_option maxRecDepth 100000 in
set_option maxHeartbeats 16000000 in
theorem brackets_any (s : List UInt8) (w : World) (hE : Env w) (hs : s.length ≤ 9223372036854775807) : Calls Tryd.prog 6 #[.string ⟨s.toArray⟩] w (Good w) := by
  have HE := Lib.hid hE
  by_cases hl : s.length > 490
  · have h5 : (490 : Int) < s.length := by omega
    clear hE
    go_enter Tryd.func6, Tryd.ntmps6
    go_wp2_with fail
    go_ret
    exact ⟨rfl, Below.refl _ _⟩
  have h5 : ¬ (490 : Int) < s.length := by omega
  by_cases hn : (readT s).2 = 0
  · have hb := brackets_read (by omega) hn
    have hbk := read_bulk s hn
    have hwl := writeR_len (readT s).1
    have HA := read_any s w (by omega)
    have HB := fun W => read_any (inB s) W (by simp [inB, tailB]; omega)
    obtain ⟨x, hx⟩ : ∃ x, (readT s).1 = x := ⟨_, rfl⟩
    have hx2 : readT s = (x, 0) := by rw [← hx, ← hn]
    rw [hb] at HB
    rw [hx] at HB hbk hwl
    rw [hx2] at HA
    have HWL := Lib.hid (show (writeR x).length ≤ 140737488351232 by omega)
    have HC := cat_in s
    obtain ⟨T, hT⟩ : ∃ T, inB s = T := ⟨_, rfl⟩
    rw [hT] at HB HC
    have HA' := Lib.hid HA
    have HB' := Lib.hid HB
    have hcl : s.length + 3 ≤ 9223372036854775807 := by omega
    clear hE hn hb hbk hwl HA HB hx hx2 hT
    go_enter Tryd.func6, Tryd.ntmps6
    go_wp2_with fail
    refine HA'.out.mono ?_
    rintro e w1 ⟨hb1, a, c, rfl, hf, hxk⟩
    obtain ⟨w2, hw2, hb2, c0, c1, c2, hs2⟩ := laid3 w1 x a c
    have HF := Lib.hid hf
    have HX := Lib.hid (hxk.any.on hb2)
    have HB2 := Lib.hid (bext hb1 hb2)
    have HBB := Lib.hid (HB'.out w2)
    clear hf hxk hb1 hb2
    go_wp2_with fail
    refine HBB.out.mono ?_
    rintro e w3 ⟨hb3, a', c', rfl, hf3, hxk3⟩
    obtain ⟨c0, c1, c2⟩ := three_on' hb3 c0 c1 c2
    obtain ⟨w4, hw4, hb4, d0, d1, d2, hs4⟩ := laid3 w3 x a' c'
    obtain ⟨c0, c1, c2⟩ := three_on' hb4 c0 c1 c2
    have hp : Pk2 w x a a' c c' w1.heap.size w3.heap.size w4.drew :=
      ⟨bext (bext (bext HB2.out hb3) hb4) (Below.refl _ _).drew, ((HE.out.on HB2.out).on (bext hb3 hb4)).on (Below.refl _ _).drew, ((HX.out.on hb3).on hb4).on (Below.refl _ _).drew, (hxk3.any.on hb4).on (Below.refl _ _).drew, HF.out, hf3, ⟨c0, c1, c2⟩, d0, d1, d2⟩
    have hp1 : w1.heap.size < w4.heap.size := cell_lt1 c0
    have hq1 : w3.heap.size < w4.heap.size := cell_lt1 d0
    have HP := Lib.hid hp
    clear hf3 hxk3 hb3 hb4 HX HBB HB2 hp hs2 hs4
    go_wp2_with fail
    go_region_held3 (fun w' => (w'.cell? ⟨w1.heap.size, 0, none⟩ = some (.string ⟨x.op.toArray⟩) ∧ w'.cell? ⟨w1.heap.size, 1, none⟩ = some (.string ⟨x.tag.toArray⟩) ∧ w'.cell? ⟨w1.heap.size, 2, none⟩ = some (.slice a x.kids.length c)) ∧ (w'.cell? ⟨w3.heap.size, 0, none⟩ = some (.string ⟨x.op.toArray⟩) ∧ w'.cell? ⟨w3.heap.size, 1, none⟩ = some (.string ⟨x.tag.toArray⟩) ∧ w'.cell? ⟨w3.heap.size, 2, none⟩ = some (.slice a' x.kids.length c'))) (go_keep)
      (first
        | (go_at_call 16
           refine (pk2_write HP.out HWL.out _ _ ?_).mono ?_
           focus (first | exact ⟨HP.out.k1, HP.out.f1⟩ | exact ⟨HP.out.k2, HP.out.f2⟩)
           rintro e w5 ⟨rfl, ⟨⟨c0, c1, c2⟩, d0, d1, d2⟩, HP⟩)
        | (go_at_call 15
           refine (pk2_least HP.out _ _ ?_).mono ?_
           focus (first | exact ⟨HP.out.k1, HP.out.f1⟩ | exact ⟨HP.out.k2, HP.out.f2⟩)
           rintro e w5 ⟨rfl, ⟨⟨c0, c1, c2⟩, d0, d1, d2⟩, HP⟩)
        | (go_at_call 17
           refine (pk2_awake HP.out).mono ?_
           rintro e w5 ⟨rfl, ⟨⟨c0, c1, c2⟩, d0, d1, d2⟩, HP⟩))
    all_goals
      go_wp2_with fail
      go_ret
      exact ⟨rfl, HP.out.below⟩
  · obtain ⟨n, hnn⟩ : ∃ n, (readT s).2 = n := ⟨_, rfl⟩
    rw [hnn] at hn
    obtain ⟨x, HA⟩ := read_no (w := w) hnn (by omega)
    have e1 : (n != 0) = true := by simpa using hn
    have HA' := Lib.hid HA
    clear hE hn HA hnn
    go_enter Tryd.func6, Tryd.ntmps6
    go_wp2_with fail
    refine HA'.out.mono ?_
    rintro e w1 ⟨hb1, a, c, rfl, hf, hxk⟩
    obtain ⟨w2, hw2, hb2, c0, c1, c2, hs2⟩ := laid3 w1 x a c
    have HB2 := Lib.hid (bext hb1 hb2)
    have HW := Lib.hid (awake_any w2 (HE.out.on HB2.out))
    clear hf hxk hb1 hb2
    go_wp2_with fail
    refine HW.out.mono ?_
    rintro e w3 ⟨rfl, hb3⟩
    have HB3 := Lib.hid (bext HB2.out hb3)
    clear hb3
    go_wp2_with fail
    refine bodyPost_ret (v := .bool true) (by simp [results, Tryd.results6, go_sem]) rfl ⟨rfl, HB3.out⟩
end Go.Proofs.YtagaoilgnhdebaaDoor
