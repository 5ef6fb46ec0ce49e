/-
  the law TagTurns, walked. (printed by gen_tagturns.py)
-/
import Derived.Deep.CutBlock
import Derived.Deep.CutRange
import Derived.Test.YtagaoilgnhdebaaDoorTgTb
namespace Go.Proofs.YtagaoilgnhdebaaDoor
set_option linter.unusedSimpArgs false
set_option linter.unusedVariables false
open Go.RowKit

theorem tt_box {w0 : World} {x : Xp} {a0 : Option Addr} {c0 : Nat} {y : Xp} {b0 : Option Addr} {d0 : Nat} {l : List Nat} {K : List (Xp × Option Addr × Nat)} {W W' : World} (h : Tt w0 x a0 c0 y b0 d0 l K W)
    (hW : (∃ p t a c, W' = put3 W p t a c ∧ w0.heap.size + 1 < p) ∨ (∃ p t a c q u b d, W' = put3 (put3 W p t a c) q u b d ∧ w0.heap.size + 1 < p ∧ w0.heap.size + 1 < q)) : (W'.cell? ⟨w0.heap.size, 0, none⟩ = some (.string ⟨x.op.toArray⟩) ∧ W'.cell? ⟨w0.heap.size, 1, none⟩ = some (.string ⟨x.tag.toArray⟩) ∧ W'.cell? ⟨w0.heap.size, 2, none⟩ = some (.slice a0 x.kids.length c0)) ∧ (W'.cell? ⟨w0.heap.size + 1, 0, none⟩ = some (.string ⟨y.op.toArray⟩) ∧ W'.cell? ⟨w0.heap.size + 1, 1, none⟩ = some (.string ⟨y.tag.toArray⟩) ∧ W'.cell? ⟨w0.heap.size + 1, 2, none⟩ = some (.slice b0 y.kids.length d0)) := by
  have far : ∀ (r : Addr), r.block ≤ w0.heap.size + 1 → W'.cell? r = W.cell? r := fun r hr => by
    rcases hW with ⟨p, t, a, c, rfl, hp⟩ | ⟨p, t, a, c, q, u, b, d, rfl, hp, hq⟩
    · exact put3_far _ _ _ (by omega)
    · rw [put3_far _ _ _ (by omega), put3_far _ _ _ (by omega)]
  obtain ⟨x0, x1, x2⟩ := h.box1
  obtain ⟨y0, y1, y2⟩ := h.box2
  exact ⟨⟨(far _ (by show w0.heap.size ≤ _; omega)).trans x0, (far _ (by show w0.heap.size ≤ _; omega)).trans x1, (far _ (by show w0.heap.size ≤ _; omega)).trans x2⟩, (far _ (Nat.le_refl _)).trans y0, (far _ (Nat.le_refl _)).trans y1, (far _ (Nat.le_refl _)).trans y2⟩

/-- The cells of the five blocks. -/
def turnB (P Q Z : Nat) (x y : Xp) (a1 : Option Addr) (c1 : Nat) (a2 : Option Addr) (c2 : Nat) (W : World) : Prop :=
  (W.cell? ⟨P, 0, none⟩ = some (.string ⟨x.op.toArray⟩) ∧ W.cell? ⟨P, 1, none⟩ = some (.string ⟨x.tag.toArray⟩) ∧ W.cell? ⟨P, 2, none⟩ = some (.slice a1 x.kids.length c1)) ∧ (W.cell? ⟨Q, 0, none⟩ = some (.string ⟨y.op.toArray⟩) ∧ W.cell? ⟨Q, 1, none⟩ = some (.string ⟨y.tag.toArray⟩) ∧ W.cell? ⟨Q, 2, none⟩ = some (.slice a2 y.kids.length c2)) ∧ (W.cell? ⟨Z + 1, 0, none⟩ = some (.string ⟨#[33]⟩) ∧ W.cell? ⟨Z + 1, 1, none⟩ = some (.string ⟨#[]⟩) ∧ W.cell? ⟨Z + 1, 2, none⟩ = some (.slice (some ⟨Z, 0, none⟩) 1 1)) ∧ (W.cell? ⟨Z + 1 + 1 + 1, 0, none⟩ = some (.string ⟨#[38, 38]⟩) ∧ W.cell? ⟨Z + 1 + 1 + 1, 1, none⟩ = some (.string ⟨#[]⟩) ∧ W.cell? ⟨Z + 1 + 1 + 1, 2, none⟩ = some (.slice (some ⟨Z + 1 + 1, 0, none⟩) 2 2)) ∧ (W.cell? ⟨Z + 1 + 1 + 1 + 1 + 1, 0, none⟩ = some (.string ⟨#[124, 124]⟩) ∧ W.cell? ⟨Z + 1 + 1 + 1 + 1 + 1, 1, none⟩ = some (.string ⟨#[]⟩) ∧ W.cell? ⟨Z + 1 + 1 + 1 + 1 + 1, 2, none⟩ = some (.slice (some ⟨Z + 1 + 1 + 1 + 1, 0, none⟩) 2 2))
theorem keep_turn (P Q Z : Nat) (x y : Xp) (a1 : Option Addr) (c1 : Nat) (a2 : Option Addr) (c2 : Nat) : Keep (turnB P Q Z x y a1 c1 a2 c2) := fun W W' hb ⟨h1, h2, h3, h4, h5⟩ =>
  ⟨three_on' hb h1.1 h1.2.1 h1.2.2, three_on' hb h2.1 h2.2.1 h2.2.2, three_on' hb h3.1 h3.2.1 h3.2.2, three_on' hb h4.1 h4.2.1 h4.2.2, three_on' hb h5.1 h5.2.1 h5.2.2⟩

section
variable {w0 : World} {B : World → Prop} {K : List (Xp × Option Addr × Nat)} {W : World} {tags : List (List UInt8)} {at_ : Option Addr}
/-- What Holds, Least answer of these values. -/
def TabH (P : Program) (S : World → Prop) (at_ : Option Addr) (n : Nat) (tab : List (Value × Bool)) : Prop := ∀ v r, (v, r) ∈ tab → ∀ W ct, S W → Calls P 14 #[v, .slice at_ n ct] W fun e w' => e = .returned (.bool r) ∧ Hid (S w')
def TabL (P : Program) (S : World → Prop) (tab : List (Value × Int)) : Prop := ∀ v r, (v, r) ∈ tab → ∀ W, S W → Calls P 15 #[v] W fun e w' => e = .returned (.int .i64 r) ∧ Hid (S w')
theorem turn_holds {P : Program} {S : World → Prop} {n : Nat} {tab : List (Value × Bool)} (hS : S W) (h : TabH P S at_ n tab) (_ : n ≤ 100) (v : Value) (r : Bool) (hm : (v, r) ∈ tab) {ct : Nat} : Calls P 14 #[v, .slice at_ n ct] W fun e w' => e = .returned (.bool r) ∧ Hid (S w') := h v r hm W ct hS
theorem turn_least {P : Program} {S : World → Prop} {tab : List (Value × Int)} (hS : S W) (h : TabL P S tab) (v : Value) (r : Int) (hm : (v, r) ∈ tab) : Calls P 15 #[v] W fun e w' => e = .returned (.int .i64 r) ∧ Hid (S w') := h v r hm W hS
end

theorem tab_h {w0 : World} {B : World → Prop} {K : List (Xp × Option Addr × Nat)} {L : List (List (List UInt8) × Option Addr)} {W : World} {tags : List (List UInt8)} {at_ : Option Addr} (h : Pk w0 B K L W) (hB : Keep B) (t : Xp) (a : Option Addr) (c : Nat) (hm : (t, a, c) ∈ K) (hm2 : (tags, at_) ∈ L) (ht : tags.length ≤ 9223372036854775807) (r : Bool) (hr : holdsR tags t = r) (ct : Nat) :
    Calls Tryd.prog 14 #[.agg #[.string ⟨t.op.toArray⟩, .string ⟨t.tag.toArray⟩, .slice a t.kids.length c], .slice at_ tags.length ct] W fun e w' => e = .returned (.bool r) ∧ Hid (Pk w0 B K L w') := by
  rw [← hr]
  exact (pk_holds h hB t a c hm tags at_ ct hm2 ht).mono fun e w' ⟨he, _, hp⟩ => ⟨he, hp⟩
theorem tab_l {w0 : World} {B : World → Prop} {K : List (Xp × Option Addr × Nat)} {L : List (List (List UInt8) × Option Addr)} {W : World} (h : Pk w0 B K L W) (hB : Keep B) (t : Xp) (a : Option Addr) (c : Nat) (hm : (t, a, c) ∈ K) (r : Int) (hr : leastR t = r) :
    Calls Tryd.prog 15 #[.agg #[.string ⟨t.op.toArray⟩, .string ⟨t.tag.toArray⟩, .slice a t.kids.length c]] W fun e w' => e = .returned (.int .i64 r) ∧ Hid (Pk w0 B K L w') := by
  rw [← hr]
  exact (pk_least h hB t a c hm).mono fun e w' ⟨he, _, hp⟩ => ⟨he, hp⟩

/-- The three constraints over the two, laid. -/
theorem turn_laid (wc : World) (x y : Xp) (a1 : Option Addr) (c1 : Nat) (a2 : Option Addr) (c2 : Nat) (hx : Xids wc Any a1 x.kids ∧ Fitx x c1) (hy : Xids wc Any a2 y.kids ∧ Fitx y c2) :
    ∃ wz, ((((((wc.alloc (.cells #[.string ⟨x.op.toArray⟩, .string ⟨x.tag.toArray⟩, .slice a1 x.kids.length c1] 29)).alloc (.cells #[.string ⟨#[33]⟩, .string ⟨#[]⟩, .slice (some ⟨wc.heap.size, 0, none⟩) 1 1] 29)).alloc (.cells #[.string ⟨x.op.toArray⟩, .string ⟨x.tag.toArray⟩, .slice a1 x.kids.length c1, .string ⟨y.op.toArray⟩, .string ⟨y.tag.toArray⟩, .slice a2 y.kids.length c2] 29)).alloc (.cells #[.string ⟨#[38, 38]⟩, .string ⟨#[]⟩, .slice (some ⟨wc.heap.size + 1 + 1, 0, none⟩) 2 2] 29)).alloc (.cells #[.string ⟨x.op.toArray⟩, .string ⟨x.tag.toArray⟩, .slice a1 x.kids.length c1, .string ⟨y.op.toArray⟩, .string ⟨y.tag.toArray⟩, .slice a2 y.kids.length c2] 29)).alloc (.cells #[.string ⟨#[124, 124]⟩, .string ⟨#[]⟩, .slice (some ⟨wc.heap.size + 1 + 1 + 1 + 1, 0, none⟩) 2 2] 29)) = wz ∧
      Below wc.heap.size wc wz ∧ (wz.cell? ⟨wc.heap.size + 1, 0, none⟩ = some (.string ⟨#[33]⟩) ∧ wz.cell? ⟨wc.heap.size + 1, 1, none⟩ = some (.string ⟨#[]⟩) ∧ wz.cell? ⟨wc.heap.size + 1, 2, none⟩ = some (.slice (some ⟨wc.heap.size, 0, none⟩) 1 1)) ∧ (wz.cell? ⟨wc.heap.size + 1 + 1 + 1, 0, none⟩ = some (.string ⟨#[38, 38]⟩) ∧ wz.cell? ⟨wc.heap.size + 1 + 1 + 1, 1, none⟩ = some (.string ⟨#[]⟩) ∧ wz.cell? ⟨wc.heap.size + 1 + 1 + 1, 2, none⟩ = some (.slice (some ⟨wc.heap.size + 1 + 1, 0, none⟩) 2 2)) ∧ (wz.cell? ⟨wc.heap.size + 1 + 1 + 1 + 1 + 1, 0, none⟩ = some (.string ⟨#[124, 124]⟩) ∧ wz.cell? ⟨wc.heap.size + 1 + 1 + 1 + 1 + 1, 1, none⟩ = some (.string ⟨#[]⟩) ∧ wz.cell? ⟨wc.heap.size + 1 + 1 + 1 + 1 + 1, 2, none⟩ = some (.slice (some ⟨wc.heap.size + 1 + 1 + 1 + 1, 0, none⟩) 2 2)) ∧
      Xids wz Any (some ⟨wc.heap.size, 0, none⟩) [x] ∧ Xids wz Any (some ⟨wc.heap.size + 1 + 1, 0, none⟩) [x, y] ∧ Xids wz Any (some ⟨wc.heap.size + 1 + 1 + 1 + 1, 0, none⟩) [x, y] := by
  refine ⟨_, rfl, ((((((Below.refl _ _).alloc (Nat.le_refl _) _).alloc (by simp) _).alloc (by simp; omega) _).alloc (by simp; omega) _).alloc (by simp; omega) _).alloc (by simp; omega) _, ⟨?_, ?_, ?_⟩, ⟨?_, ?_, ?_⟩, ⟨?_, ?_, ?_⟩, ?_, ?_, ?_⟩
  iterate 9 (simp [go_sem])
  all_goals
    have hb : Below wc.heap.size wc _ := ((((((Below.refl _ _).alloc (Nat.le_refl _) (.cells #[.string ⟨x.op.toArray⟩, .string ⟨x.tag.toArray⟩, .slice a1 x.kids.length c1] 29)).alloc (by simp) (.cells #[.string ⟨#[33]⟩, .string ⟨#[]⟩, .slice (some ⟨wc.heap.size, 0, none⟩) 1 1] 29)).alloc (by simp; omega) (.cells #[.string ⟨x.op.toArray⟩, .string ⟨x.tag.toArray⟩, .slice a1 x.kids.length c1, .string ⟨y.op.toArray⟩, .string ⟨y.tag.toArray⟩, .slice a2 y.kids.length c2] 29)).alloc (by simp; omega) (.cells #[.string ⟨#[38, 38]⟩, .string ⟨#[]⟩, .slice (some ⟨wc.heap.size + 1 + 1, 0, none⟩) 2 2] 29)).alloc (by simp; omega) (.cells #[.string ⟨x.op.toArray⟩, .string ⟨x.tag.toArray⟩, .slice a1 x.kids.length c1, .string ⟨y.op.toArray⟩, .string ⟨y.tag.toArray⟩, .slice a2 y.kids.length c2] 29)).alloc (by simp; omega) (.cells #[.string ⟨#[124, 124]⟩, .string ⟨#[]⟩, .slice (some ⟨wc.heap.size + 1 + 1 + 1 + 1, 0, none⟩) 2 2] 29)
    rw [xids_iff]
    intro j hj
  · match j, hj with
    | 0, _ => exact ⟨_, 0, a1, c1, rfl, trivial, ⟨by simp [go_sem], by simp [go_sem], by simp [go_sem]⟩, hx.2, hx.1.on hb⟩
  · match j, hj with
    | 0, _ => exact ⟨_, 0, a1, c1, rfl, trivial, ⟨by simp [go_sem], by simp [go_sem], by simp [go_sem]⟩, hx.2, hx.1.on hb⟩
    | 1, _ => exact ⟨_, 0, a2, c2, rfl, trivial, ⟨by simp [go_sem], by simp [go_sem], by simp [go_sem]⟩, hy.2, hy.1.on hb⟩
  · match j, hj with
    | 0, _ => exact ⟨_, 0, a1, c1, rfl, trivial, ⟨by simp [go_sem], by simp [go_sem], by simp [go_sem]⟩, hx.2, hx.1.on hb⟩
    | 1, _ => exact ⟨_, 0, a2, c2, rfl, trivial, ⟨by simp [go_sem], by simp [go_sem], by simp [go_sem]⟩, hy.2, hy.1.on hb⟩

theorem below_twice (W : World) (o1 o2 : Obj) : Below W.heap.size W ((W.alloc o1).alloc o2) := ((Below.refl _ _).alloc (Nat.le_refl _) _).alloc (by simp) _
theorem fit_rows (op : List UInt8) (l : List Xp) (ho : op.length ≤ 2) (hl : l.length ≤ 2) : Fitx (.mk op [] l) l.length := ⟨by simp only [Xp.op_mk]; omega, by simp, by simp, by omega, by simp only [Xp.kids_mk]; omega⟩

set_option maxRecDepth 100000 in
set_option maxHeartbeats 32000000 in
theorem turns_any (x y : Xp) (a0 b0 : Option Addr) (c0 d0 : Nat) (tags : List (List UInt8)) (at_ : Option Addr) (ct : Nat) (w : World) (hE : Env w) (hk : Xids w Any a0 x.kids) (hf : Fitx x c0) (hk2 : Xids w Any b0 y.kids) (hf2 : Fitx y d0) (hs : Strs w at_ tags) (ht : tags.length ≤ 9223372036854775807) :
    Calls Tryd.prog 5 #[.agg #[.string ⟨x.op.toArray⟩, .string ⟨x.tag.toArray⟩, .slice a0 x.kids.length c0], .agg #[.string ⟨y.op.toArray⟩, .string ⟨y.tag.toArray⟩, .slice b0 y.kids.length d0], .slice at_ tags.length ct] w (Good w) := by
  have HE := Lib.hid hE
  have HST := Lib.hid hs
  have HK := Lib.hid (And.intro hk hf)
  have HK2 := Lib.hid (And.intro hk2 hf2)
  have hba := below_twice w (.cells #[.string ⟨x.op.toArray⟩, .string ⟨x.tag.toArray⟩, .slice a0 x.kids.length c0] 24) (.cells #[.string ⟨y.op.toArray⟩, .string ⟨y.tag.toArray⟩, .slice b0 y.kids.length d0] 24)
  obtain ⟨wa, hwa⟩ : ∃ wa, (w.alloc (.cells #[.string ⟨x.op.toArray⟩, .string ⟨x.tag.toArray⟩, .slice a0 x.kids.length c0] 24)).alloc (.cells #[.string ⟨y.op.toArray⟩, .string ⟨y.tag.toArray⟩, .slice b0 y.kids.length d0] 24) = wa := ⟨_, rfl⟩
  have p0 : wa.cell? ⟨w.heap.size, 0, none⟩ = some (.string ⟨x.op.toArray⟩) := by rw [← hwa]; simp [go_sem]
  have p1 : wa.cell? ⟨w.heap.size, 1, none⟩ = some (.string ⟨x.tag.toArray⟩) := by rw [← hwa]; simp [go_sem]
  have p2 : wa.cell? ⟨w.heap.size, 2, none⟩ = some (.slice a0 x.kids.length c0) := by rw [← hwa]; simp [go_sem]
  have r0 : wa.cell? ⟨w.heap.size + 1, 0, none⟩ = some (.string ⟨y.op.toArray⟩) := by rw [← hwa]; simp [go_sem]
  have r1 : wa.cell? ⟨w.heap.size + 1, 1, none⟩ = some (.string ⟨y.tag.toArray⟩) := by rw [← hwa]; simp [go_sem]
  have r2 : wa.cell? ⟨w.heap.size + 1, 2, none⟩ = some (.slice b0 y.kids.length d0) := by rw [← hwa]; simp [go_sem]
  rw [hwa] at hba
  have HBA := Lib.hid hba
  obtain ⟨NX, hNX⟩ : ∃ N, wrap64 (sizeX x) = N := ⟨_, rfl⟩
  obtain ⟨NY, hNY⟩ : ∃ N, wrap64 (sizeX y) = N := ⟨_, rfl⟩
  have hsz := size_any x a0 c0 wa (hk.on hba) hf
  rw [hNX] at hsz
  have HSX := Lib.hid hsz
  have HSY := Lib.hid fun (W : World) (h : Below w.heap.size w W) => (show Calls Tryd.prog 10 #[.agg #[.string ⟨y.op.toArray⟩, .string ⟨y.tag.toArray⟩, .slice b0 y.kids.length d0]] W (fun e w' => e = .returned (.int .i64 NY) ∧ Below W.heap.size W w') by
    have := size_any y b0 d0 W (hk2.on h) hf2
    rw [hNY] at this
    exact this)
  clear hE hs hk hf hk2 hf2 hba hsz hNX hNY
  by_cases hn : 100 < NX
  · go_enter Tryd.func5, Tryd.ntmps5
    go_wp2_with fail
    refine HSX.out.mono ?_
    rintro e w1 ⟨rfl, hb1⟩
    have HB1 := Lib.hid (bext HBA.out hb1)
    clear hb1
    go_wp2_with fail
    refine bodyPost_ret (v := .bool true) (by simp [results, Tryd.results5, go_sem]) rfl ⟨rfl, HB1.out⟩
  by_cases hn2 : 100 < NY
  · go_enter Tryd.func5, Tryd.ntmps5
    go_wp2_with fail
    refine HSX.out.mono ?_
    rintro e w1 ⟨rfl, hb1⟩
    obtain ⟨r0, r1, r2⟩ := three_on' hb1 r0 r1 r2
    have HB1 := Lib.hid (bext HBA.out hb1)
    have H2 := Lib.hid (HSY.out w1 HB1.out)
    clear hb1
    go_wp2_with fail
    refine H2.out.mono ?_
    rintro e w2 ⟨rfl, hb2⟩
    have HB2 := Lib.hid (bext HB1.out hb2)
    clear hb2
    go_wp2_with fail
    refine bodyPost_ret (v := .bool true) (by simp [results, Tryd.results5, go_sem]) rfl ⟨rfl, HB2.out⟩
  by_cases hl : (20 : Int) < tags.length
  · go_enter Tryd.func5, Tryd.ntmps5
    go_wp2_with fail
    refine HSX.out.mono ?_
    rintro e w1 ⟨rfl, hb1⟩
    obtain ⟨r0, r1, r2⟩ := three_on' hb1 r0 r1 r2
    have HB1 := Lib.hid (bext HBA.out hb1)
    have H2 := Lib.hid (HSY.out w1 HB1.out)
    clear hb1
    go_wp2_with fail
    refine H2.out.mono ?_
    rintro e w2 ⟨rfl, hb2⟩
    have HB2 := Lib.hid (bext HB1.out hb2)
    clear hb2
    go_wp2_with fail
    refine bodyPost_ret (v := .bool true) (by simp [results, Tryd.results5, go_sem]) rfl ⟨rfl, HB2.out⟩
  have HTL := Lib.hid (show tags.length ≤ 100 by omega)
  go_enter Tryd.func5, Tryd.ntmps5
  go_wp2_with fail
  refine HSX.out.mono ?_
  rintro e w1 ⟨rfl, hb1⟩
  obtain ⟨p0, p1, p2⟩ := three_on' hb1 p0 p1 p2
  obtain ⟨r0, r1, r2⟩ := three_on' hb1 r0 r1 r2
  have HB1 := Lib.hid (bext HBA.out hb1)
  have H2 := Lib.hid (HSY.out w1 HB1.out)
  clear hb1
  go_wp2_with fail
  refine H2.out.mono ?_
  rintro e w2 ⟨rfl, hb2⟩
  obtain ⟨p0, p1, p2⟩ := three_on' hb2 p0 p1 p2
  obtain ⟨r0, r1, r2⟩ := three_on' hb2 r0 r1 r2
  have HB2 := Lib.hid (bext HB1.out hb2)
  have HT0 := Lib.hid (show Tt w x a0 c0 y b0 d0 [] [] w2.drew from ⟨bext HB2.out (Below.refl _ _).drew, HK.out, HK2.out, ⟨p0, p1, p2⟩, ⟨r0, r1, r2⟩, (fun p hp => by cases hp), (fun k hk => by cases hk)⟩)
  clear hb2 hwa HSX HSY H2
  go_upto_region 3 with fail
  go_cut [7, 8] from 7 to 30 (fun p q wc => ∃ (P Q : Nat) (a1 : Option Addr) (c1 : Nat) (a2 : Option Addr) (c2 : Nat), p = .pointer (some ⟨P, 0, none⟩) ∧ q = .pointer (some ⟨Q, 0, none⟩) ∧ P ≠ Q ∧ Hid (TtEnd w x y P Q a1 c1 a2 c2 wc))
  case first =>
    go_wp2_with fail
    refine wp_region_held_drew (S := fun W => ((W.cell? ⟨w.heap.size, 0, none⟩ = some (.string ⟨x.op.toArray⟩) ∧ W.cell? ⟨w.heap.size, 1, none⟩ = some (.string ⟨x.tag.toArray⟩) ∧ W.cell? ⟨w.heap.size, 2, none⟩ = some (.slice a0 x.kids.length c0)) ∧ (W.cell? ⟨w.heap.size + 1, 0, none⟩ = some (.string ⟨y.op.toArray⟩) ∧ W.cell? ⟨w.heap.size + 1, 1, none⟩ = some (.string ⟨y.tag.toArray⟩) ∧ W.cell? ⟨w.heap.size + 1, 2, none⟩ = some (.slice b0 y.kids.length d0)))) (by kernel_rfl) ⟨⟨p0, p1, p2⟩, r0, r1, r2⟩ (fun hHeld => ?_)
    revert hHeld HT0
    generalize w2.drew = W0
    intro HT0 hHeld
    (refine wpAnyH_take (i := 0) (v := ?_) rfl (by decide +kernel) (by decide +kernel) (by decide +kernel) (fun _ _ _ h => h) (Or.inl ⟨?_, ?_⟩) hHeld ?_; rotate_left 1; (focus rfl); (focus (intro w9 hSw; have l0 := hSw.1.1; have l1 := hSw.1.2.1; have l2 := hSw.1.2.2; have l3 := hSw.2.1; have l4 := hSw.2.2.1; have l5 := hSw.2.2.2; go_simp; (try with_reducible rfl); done)); (try simp only [Act.put, List.setIfInBounds_toArray, List.set_cons_zero, List.set_cons_succ, List.getElem_toArray, List.getElem_cons_zero, List.getElem_cons_succ]))
    (refine wpAnyH_take (i := 2) (v := ?_) rfl (by decide +kernel) (by decide +kernel) (by decide +kernel) (fun _ _ _ h => h) (Or.inl ⟨?_, ?_⟩) hHeld ?_; rotate_left 1; (focus rfl); (focus (intro w9 hSw; have l0 := hSw.1.1; have l1 := hSw.1.2.1; have l2 := hSw.1.2.2; have l3 := hSw.2.1; have l4 := hSw.2.2.1; have l5 := hSw.2.2.2; go_simp; (try with_reducible rfl); done)); (try simp only [Act.put, List.setIfInBounds_toArray, List.set_cons_zero, List.set_cons_succ, List.getElem_toArray, List.getElem_cons_zero, List.getElem_cons_succ]))
    refine wpAnyH_ready (rs := [1, 4, 5]) (by decide +kernel) (by simp) ?_
    refine AllReadyH.cons rfl (fun K hK => ?_) (AllReadyH.cons rfl (fun K hK => ?_) (AllReadyH.cons rfl (fun K hK => ?_) AllReadyH.nil))
    · rw [if_pos (by rfl)]
      go_simp
      refine (HT0.out.of1 x a0 c0 (.inl rfl)).mono ?_
      rintro e W1 ⟨a1, c1, rfl, hbx, HQ⟩
      have HT1 := Lib.hid HQ.out.1
      have hsz1 := HQ.out.2
      clear HQ
      refine hK.out _ _ hbx (fun hHeld => ?_)
      clear hK K
      (try simp only [Act.put, List.setIfInBounds_toArray, List.set_cons_zero, List.set_cons_succ, List.getElem_toArray, List.getElem_cons_zero, List.getElem_cons_succ])
      refine wpAnyH_ready (rs := [3, 4, 5]) (by decide +kernel) (by simp) ?_
      refine AllReadyH.cons rfl (fun K hK => ?_) (AllReadyH.cons rfl (fun K hK => ?_) (AllReadyH.cons rfl (fun K hK => ?_) AllReadyH.nil))
      · rw [if_pos (by rfl)]
        go_simp
        refine (HT1.out.of1 y b0 d0 (.inr rfl)).mono ?_
        rintro e W2 ⟨a2, c2, rfl, hbx, HQ⟩
        have HT2 := Lib.hid HQ.out.1
        have hsz2 := HQ.out.2
        clear HQ
        refine hK.out _ _ hbx (fun hHeld => ?_)
        clear hK K
        (try simp only [Act.put, List.setIfInBounds_toArray, List.set_cons_zero, List.set_cons_succ, List.getElem_toArray, List.getElem_cons_zero, List.getElem_cons_succ])
        refine wpAnyH_ready (rs := [4, 5]) (by decide +kernel) (by simp) ?_
        refine AllReadyH.cons rfl (fun K hK => ?_) (AllReadyH.cons rfl (fun K hK => ?_) AllReadyH.nil)
        · rw [if_pos (by rfl)]
          go_simp
          have HT3 := Lib.hid HT2.out.alloc
          refine hK.out _ _ ⟨HT3.out.box1, HT3.out.box2⟩ (fun hHeld => ?_)
          clear hK K
          (try simp only [Act.put, List.setIfInBounds_toArray, List.set_cons_zero, List.set_cons_succ, List.getElem_toArray, List.getElem_cons_zero, List.getElem_cons_succ])
          revert hHeld HT3
          generalize W2.alloc (.cells #[.string ⟨#[]⟩, .string ⟨#[]⟩, .slice none 0 0] 29) = W3
          intro HT3 hHeld
          refine wpAnyH_ready (rs := [5]) (by decide +kernel) (by simp) ?_
          refine AllReadyH.cons rfl (fun K hK => ?_) AllReadyH.nil
          rw [if_pos (by rfl)]
          go_simp
          have hlt0 : W2.heap.size < W3.heap.size := (HT3.out.slots W2.heap.size (by simp)).1.lt
          have HT4 := Lib.hid HT3.out.alloc
          refine hK.out _ _ ⟨HT4.out.box1, HT4.out.box2⟩ (fun hHeld => ?_)
          clear hK K
          (try simp only [Act.put, List.setIfInBounds_toArray, List.set_cons_zero, List.set_cons_succ, List.getElem_toArray, List.getElem_cons_zero, List.getElem_cons_succ])
          revert hHeld HT4
          generalize W3.alloc (.cells #[.string ⟨#[]⟩, .string ⟨#[]⟩, .slice none 0 0] 29) = W4
          intro HT4 hHeld
          have hPQ : W2.heap.size ≠ W3.heap.size := (Nat.ne_of_lt hlt0)
          have sP := (HT4.out.slots W2.heap.size (by simp)).1.out
          have sQ := (HT4.out.slots W3.heap.size (by simp)).1.out
          obtain ⟨⟨u1, v1, z1, e1, e2, e3⟩, f0, f1, f2, hl1⟩ := sP
          obtain ⟨⟨u2, v2, z2, e4, e5, e6⟩, g0, g1, g2, hl2⟩ := sQ
          have hPQ' := Ne.symm hPQ
          clear hlt0
          refine wpAnyH_ready (rs := [6]) (by decide +kernel) (by simp) ?_
          refine AllReadyH.cons rfl (fun K hK => ?_) AllReadyH.nil
          rw [if_pos (by rfl)]
          go_simp
          refine hK.out _ _ (tt_box HT4.out (.inl ⟨_, _, _, _, rfl, by have := HT4.out.slots W2.heap.size (by simp); omega⟩)) (fun hHeld => ?_)
          clear hK K
          (try simp only [Act.put, List.setIfInBounds_toArray, List.set_cons_zero, List.set_cons_succ, List.getElem_toArray, List.getElem_cons_zero, List.getElem_cons_succ])
          refine wpAnyH_ready (rs := [7]) (by decide +kernel) (by simp) ?_
          refine AllReadyH.cons rfl (fun K hK => ?_) AllReadyH.nil
          rw [if_pos (by rfl)]
          go_simp
          refine hK.out _ _ (tt_box HT4.out (.inr ⟨_, _, _, _, _, _, _, _, rfl, by have := HT4.out.slots W2.heap.size (by simp); omega, by have := HT4.out.slots W3.heap.size (by simp); omega⟩)) (fun hHeld => ?_)
          clear hK K
          (try simp only [Act.put, List.setIfInBounds_toArray, List.set_cons_zero, List.set_cons_succ, List.getElem_toArray, List.getElem_cons_zero, List.getElem_cons_succ])
          refine wpAnyH_done (by decide +kernel) ?_ _
          go_wp2_with fail
          go_meet
          exact ⟨W2.heap.size, W3.heap.size, a1, c1, a2, c2, rfl, rfl, hPQ, Lib.hid (HT4.out.fin (by simp) (by simp) hPQ (by simp) (by simp) _ (.inl rfl))⟩
        · rw [if_pos (by rfl)]
          go_simp
          have HT3 := Lib.hid HT2.out.alloc
          refine hK.out _ _ ⟨HT3.out.box1, HT3.out.box2⟩ (fun hHeld => ?_)
          clear hK K
          (try simp only [Act.put, List.setIfInBounds_toArray, List.set_cons_zero, List.set_cons_succ, List.getElem_toArray, List.getElem_cons_zero, List.getElem_cons_succ])
          revert hHeld HT3
          generalize W2.alloc (.cells #[.string ⟨#[]⟩, .string ⟨#[]⟩, .slice none 0 0] 29) = W3
          intro HT3 hHeld
          refine wpAnyH_ready (rs := [4]) (by decide +kernel) (by simp) ?_
          refine AllReadyH.cons rfl (fun K hK => ?_) AllReadyH.nil
          rw [if_pos (by rfl)]
          go_simp
          have hlt0 : W2.heap.size < W3.heap.size := (HT3.out.slots W2.heap.size (by simp)).1.lt
          have HT4 := Lib.hid HT3.out.alloc
          refine hK.out _ _ ⟨HT4.out.box1, HT4.out.box2⟩ (fun hHeld => ?_)
          clear hK K
          (try simp only [Act.put, List.setIfInBounds_toArray, List.set_cons_zero, List.set_cons_succ, List.getElem_toArray, List.getElem_cons_zero, List.getElem_cons_succ])
          revert hHeld HT4
          generalize W3.alloc (.cells #[.string ⟨#[]⟩, .string ⟨#[]⟩, .slice none 0 0] 29) = W4
          intro HT4 hHeld
          have hPQ : W3.heap.size ≠ W2.heap.size := (Nat.ne_of_gt hlt0)
          have sP := (HT4.out.slots W3.heap.size (by simp)).1.out
          have sQ := (HT4.out.slots W2.heap.size (by simp)).1.out
          obtain ⟨⟨u1, v1, z1, e1, e2, e3⟩, f0, f1, f2, hl1⟩ := sP
          obtain ⟨⟨u2, v2, z2, e4, e5, e6⟩, g0, g1, g2, hl2⟩ := sQ
          have hPQ' := Ne.symm hPQ
          clear hlt0
          refine wpAnyH_ready (rs := [6]) (by decide +kernel) (by simp) ?_
          refine AllReadyH.cons rfl (fun K hK => ?_) AllReadyH.nil
          rw [if_pos (by rfl)]
          go_simp
          refine hK.out _ _ (tt_box HT4.out (.inl ⟨_, _, _, _, rfl, by have := HT4.out.slots W3.heap.size (by simp); omega⟩)) (fun hHeld => ?_)
          clear hK K
          (try simp only [Act.put, List.setIfInBounds_toArray, List.set_cons_zero, List.set_cons_succ, List.getElem_toArray, List.getElem_cons_zero, List.getElem_cons_succ])
          refine wpAnyH_ready (rs := [7]) (by decide +kernel) (by simp) ?_
          refine AllReadyH.cons rfl (fun K hK => ?_) AllReadyH.nil
          rw [if_pos (by rfl)]
          go_simp
          refine hK.out _ _ (tt_box HT4.out (.inr ⟨_, _, _, _, _, _, _, _, rfl, by have := HT4.out.slots W3.heap.size (by simp); omega, by have := HT4.out.slots W2.heap.size (by simp); omega⟩)) (fun hHeld => ?_)
          clear hK K
          (try simp only [Act.put, List.setIfInBounds_toArray, List.set_cons_zero, List.set_cons_succ, List.getElem_toArray, List.getElem_cons_zero, List.getElem_cons_succ])
          refine wpAnyH_done (by decide +kernel) ?_ _
          go_wp2_with fail
          go_meet
          exact ⟨W3.heap.size, W2.heap.size, a1, c1, a2, c2, rfl, rfl, hPQ, Lib.hid (HT4.out.fin (by simp) (by simp) hPQ (by simp) (by simp) _ (.inl rfl))⟩
      · rw [if_pos (by rfl)]
        go_simp
        have HT2 := Lib.hid HT1.out.alloc
        refine hK.out _ _ ⟨HT2.out.box1, HT2.out.box2⟩ (fun hHeld => ?_)
        clear hK K
        (try simp only [Act.put, List.setIfInBounds_toArray, List.set_cons_zero, List.set_cons_succ, List.getElem_toArray, List.getElem_cons_zero, List.getElem_cons_succ])
        revert hHeld HT2
        generalize W1.alloc (.cells #[.string ⟨#[]⟩, .string ⟨#[]⟩, .slice none 0 0] 29) = W2
        intro HT2 hHeld
        refine wpAnyH_ready (rs := [3, 5]) (by decide +kernel) (by simp) ?_
        refine AllReadyH.cons rfl (fun K hK => ?_) (AllReadyH.cons rfl (fun K hK => ?_) AllReadyH.nil)
        · rw [if_pos (by rfl)]
          go_simp
          refine (HT2.out.of1 y b0 d0 (.inr rfl)).mono ?_
          rintro e W3 ⟨a2, c2, rfl, hbx, HQ⟩
          have HT3 := Lib.hid HQ.out.1
          have hsz3 := HQ.out.2
          clear HQ
          refine hK.out _ _ hbx (fun hHeld => ?_)
          clear hK K
          (try simp only [Act.put, List.setIfInBounds_toArray, List.set_cons_zero, List.set_cons_succ, List.getElem_toArray, List.getElem_cons_zero, List.getElem_cons_succ])
          refine wpAnyH_ready (rs := [5]) (by decide +kernel) (by simp) ?_
          refine AllReadyH.cons rfl (fun K hK => ?_) AllReadyH.nil
          rw [if_pos (by rfl)]
          go_simp
          have hlt0 : W1.heap.size < W3.heap.size := (HT3.out.slots W1.heap.size (by simp)).1.lt
          have HT4 := Lib.hid HT3.out.alloc
          refine hK.out _ _ ⟨HT4.out.box1, HT4.out.box2⟩ (fun hHeld => ?_)
          clear hK K
          (try simp only [Act.put, List.setIfInBounds_toArray, List.set_cons_zero, List.set_cons_succ, List.getElem_toArray, List.getElem_cons_zero, List.getElem_cons_succ])
          revert hHeld HT4
          generalize W3.alloc (.cells #[.string ⟨#[]⟩, .string ⟨#[]⟩, .slice none 0 0] 29) = W4
          intro HT4 hHeld
          have hPQ : W1.heap.size ≠ W3.heap.size := (Nat.ne_of_lt hlt0)
          have sP := (HT4.out.slots W1.heap.size (by simp)).1.out
          have sQ := (HT4.out.slots W3.heap.size (by simp)).1.out
          obtain ⟨⟨u1, v1, z1, e1, e2, e3⟩, f0, f1, f2, hl1⟩ := sP
          obtain ⟨⟨u2, v2, z2, e4, e5, e6⟩, g0, g1, g2, hl2⟩ := sQ
          have hPQ' := Ne.symm hPQ
          clear hlt0
          refine wpAnyH_ready (rs := [6]) (by decide +kernel) (by simp) ?_
          refine AllReadyH.cons rfl (fun K hK => ?_) AllReadyH.nil
          rw [if_pos (by rfl)]
          go_simp
          refine hK.out _ _ (tt_box HT4.out (.inl ⟨_, _, _, _, rfl, by have := HT4.out.slots W1.heap.size (by simp); omega⟩)) (fun hHeld => ?_)
          clear hK K
          (try simp only [Act.put, List.setIfInBounds_toArray, List.set_cons_zero, List.set_cons_succ, List.getElem_toArray, List.getElem_cons_zero, List.getElem_cons_succ])
          refine wpAnyH_ready (rs := [7]) (by decide +kernel) (by simp) ?_
          refine AllReadyH.cons rfl (fun K hK => ?_) AllReadyH.nil
          rw [if_pos (by rfl)]
          go_simp
          refine hK.out _ _ (tt_box HT4.out (.inr ⟨_, _, _, _, _, _, _, _, rfl, by have := HT4.out.slots W1.heap.size (by simp); omega, by have := HT4.out.slots W3.heap.size (by simp); omega⟩)) (fun hHeld => ?_)
          clear hK K
          (try simp only [Act.put, List.setIfInBounds_toArray, List.set_cons_zero, List.set_cons_succ, List.getElem_toArray, List.getElem_cons_zero, List.getElem_cons_succ])
          refine wpAnyH_done (by decide +kernel) ?_ _
          go_wp2_with fail
          go_meet
          exact ⟨W1.heap.size, W3.heap.size, a1, c1, a2, c2, rfl, rfl, hPQ, Lib.hid (HT4.out.fin (by simp) (by simp) hPQ (by simp) (by simp) _ (.inl rfl))⟩
        · rw [if_pos (by rfl)]
          go_simp
          have hlt0 : W1.heap.size < W2.heap.size := (HT2.out.slots W1.heap.size (by simp)).1.lt
          have HT3 := Lib.hid HT2.out.alloc
          refine hK.out _ _ ⟨HT3.out.box1, HT3.out.box2⟩ (fun hHeld => ?_)
          clear hK K
          (try simp only [Act.put, List.setIfInBounds_toArray, List.set_cons_zero, List.set_cons_succ, List.getElem_toArray, List.getElem_cons_zero, List.getElem_cons_succ])
          revert hHeld HT3
          generalize W2.alloc (.cells #[.string ⟨#[]⟩, .string ⟨#[]⟩, .slice none 0 0] 29) = W3
          intro HT3 hHeld
          refine wpAnyH_ready (rs := [3]) (by decide +kernel) (by simp) ?_
          refine AllReadyH.cons rfl (fun K hK => ?_) AllReadyH.nil
          rw [if_pos (by rfl)]
          go_simp
          refine (HT3.out.of1 y b0 d0 (.inr rfl)).mono ?_
          rintro e W4 ⟨a2, c2, rfl, hbx, HQ⟩
          have HT4 := Lib.hid HQ.out.1
          have hsz4 := HQ.out.2
          clear HQ
          refine hK.out _ _ hbx (fun hHeld => ?_)
          clear hK K
          (try simp only [Act.put, List.setIfInBounds_toArray, List.set_cons_zero, List.set_cons_succ, List.getElem_toArray, List.getElem_cons_zero, List.getElem_cons_succ])
          have hPQ : W1.heap.size ≠ W2.heap.size := (Nat.ne_of_lt hlt0)
          have sP := (HT4.out.slots W1.heap.size (by simp)).1.out
          have sQ := (HT4.out.slots W2.heap.size (by simp)).1.out
          obtain ⟨⟨u1, v1, z1, e1, e2, e3⟩, f0, f1, f2, hl1⟩ := sP
          obtain ⟨⟨u2, v2, z2, e4, e5, e6⟩, g0, g1, g2, hl2⟩ := sQ
          have hPQ' := Ne.symm hPQ
          clear hlt0
          refine wpAnyH_ready (rs := [6]) (by decide +kernel) (by simp) ?_
          refine AllReadyH.cons rfl (fun K hK => ?_) AllReadyH.nil
          rw [if_pos (by rfl)]
          go_simp
          refine hK.out _ _ (tt_box HT4.out (.inl ⟨_, _, _, _, rfl, by have := HT4.out.slots W1.heap.size (by simp); omega⟩)) (fun hHeld => ?_)
          clear hK K
          (try simp only [Act.put, List.setIfInBounds_toArray, List.set_cons_zero, List.set_cons_succ, List.getElem_toArray, List.getElem_cons_zero, List.getElem_cons_succ])
          refine wpAnyH_ready (rs := [7]) (by decide +kernel) (by simp) ?_
          refine AllReadyH.cons rfl (fun K hK => ?_) AllReadyH.nil
          rw [if_pos (by rfl)]
          go_simp
          refine hK.out _ _ (tt_box HT4.out (.inr ⟨_, _, _, _, _, _, _, _, rfl, by have := HT4.out.slots W1.heap.size (by simp); omega, by have := HT4.out.slots W2.heap.size (by simp); omega⟩)) (fun hHeld => ?_)
          clear hK K
          (try simp only [Act.put, List.setIfInBounds_toArray, List.set_cons_zero, List.set_cons_succ, List.getElem_toArray, List.getElem_cons_zero, List.getElem_cons_succ])
          refine wpAnyH_done (by decide +kernel) ?_ _
          go_wp2_with fail
          go_meet
          exact ⟨W1.heap.size, W2.heap.size, a1, c1, a2, c2, rfl, rfl, hPQ, Lib.hid (HT4.out.fin (by simp) (by simp) hPQ (by simp) (by simp) _ (.inl rfl))⟩
      · rw [if_pos (by rfl)]
        go_simp
        have HT2 := Lib.hid HT1.out.alloc
        refine hK.out _ _ ⟨HT2.out.box1, HT2.out.box2⟩ (fun hHeld => ?_)
        clear hK K
        (try simp only [Act.put, List.setIfInBounds_toArray, List.set_cons_zero, List.set_cons_succ, List.getElem_toArray, List.getElem_cons_zero, List.getElem_cons_succ])
        revert hHeld HT2
        generalize W1.alloc (.cells #[.string ⟨#[]⟩, .string ⟨#[]⟩, .slice none 0 0] 29) = W2
        intro HT2 hHeld
        refine wpAnyH_ready (rs := [3, 4]) (by decide +kernel) (by simp) ?_
        refine AllReadyH.cons rfl (fun K hK => ?_) (AllReadyH.cons rfl (fun K hK => ?_) AllReadyH.nil)
        · rw [if_pos (by rfl)]
          go_simp
          refine (HT2.out.of1 y b0 d0 (.inr rfl)).mono ?_
          rintro e W3 ⟨a2, c2, rfl, hbx, HQ⟩
          have HT3 := Lib.hid HQ.out.1
          have hsz3 := HQ.out.2
          clear HQ
          refine hK.out _ _ hbx (fun hHeld => ?_)
          clear hK K
          (try simp only [Act.put, List.setIfInBounds_toArray, List.set_cons_zero, List.set_cons_succ, List.getElem_toArray, List.getElem_cons_zero, List.getElem_cons_succ])
          refine wpAnyH_ready (rs := [4]) (by decide +kernel) (by simp) ?_
          refine AllReadyH.cons rfl (fun K hK => ?_) AllReadyH.nil
          rw [if_pos (by rfl)]
          go_simp
          have hlt0 : W1.heap.size < W3.heap.size := (HT3.out.slots W1.heap.size (by simp)).1.lt
          have HT4 := Lib.hid HT3.out.alloc
          refine hK.out _ _ ⟨HT4.out.box1, HT4.out.box2⟩ (fun hHeld => ?_)
          clear hK K
          (try simp only [Act.put, List.setIfInBounds_toArray, List.set_cons_zero, List.set_cons_succ, List.getElem_toArray, List.getElem_cons_zero, List.getElem_cons_succ])
          revert hHeld HT4
          generalize W3.alloc (.cells #[.string ⟨#[]⟩, .string ⟨#[]⟩, .slice none 0 0] 29) = W4
          intro HT4 hHeld
          have hPQ : W3.heap.size ≠ W1.heap.size := (Nat.ne_of_gt hlt0)
          have sP := (HT4.out.slots W3.heap.size (by simp)).1.out
          have sQ := (HT4.out.slots W1.heap.size (by simp)).1.out
          obtain ⟨⟨u1, v1, z1, e1, e2, e3⟩, f0, f1, f2, hl1⟩ := sP
          obtain ⟨⟨u2, v2, z2, e4, e5, e6⟩, g0, g1, g2, hl2⟩ := sQ
          have hPQ' := Ne.symm hPQ
          clear hlt0
          refine wpAnyH_ready (rs := [6]) (by decide +kernel) (by simp) ?_
          refine AllReadyH.cons rfl (fun K hK => ?_) AllReadyH.nil
          rw [if_pos (by rfl)]
          go_simp
          refine hK.out _ _ (tt_box HT4.out (.inl ⟨_, _, _, _, rfl, by have := HT4.out.slots W3.heap.size (by simp); omega⟩)) (fun hHeld => ?_)
          clear hK K
          (try simp only [Act.put, List.setIfInBounds_toArray, List.set_cons_zero, List.set_cons_succ, List.getElem_toArray, List.getElem_cons_zero, List.getElem_cons_succ])
          refine wpAnyH_ready (rs := [7]) (by decide +kernel) (by simp) ?_
          refine AllReadyH.cons rfl (fun K hK => ?_) AllReadyH.nil
          rw [if_pos (by rfl)]
          go_simp
          refine hK.out _ _ (tt_box HT4.out (.inr ⟨_, _, _, _, _, _, _, _, rfl, by have := HT4.out.slots W3.heap.size (by simp); omega, by have := HT4.out.slots W1.heap.size (by simp); omega⟩)) (fun hHeld => ?_)
          clear hK K
          (try simp only [Act.put, List.setIfInBounds_toArray, List.set_cons_zero, List.set_cons_succ, List.getElem_toArray, List.getElem_cons_zero, List.getElem_cons_succ])
          refine wpAnyH_done (by decide +kernel) ?_ _
          go_wp2_with fail
          go_meet
          exact ⟨W3.heap.size, W1.heap.size, a1, c1, a2, c2, rfl, rfl, hPQ, Lib.hid (HT4.out.fin (by simp) (by simp) hPQ (by simp) (by simp) _ (.inl rfl))⟩
        · rw [if_pos (by rfl)]
          go_simp
          have hlt0 : W1.heap.size < W2.heap.size := (HT2.out.slots W1.heap.size (by simp)).1.lt
          have HT3 := Lib.hid HT2.out.alloc
          refine hK.out _ _ ⟨HT3.out.box1, HT3.out.box2⟩ (fun hHeld => ?_)
          clear hK K
          (try simp only [Act.put, List.setIfInBounds_toArray, List.set_cons_zero, List.set_cons_succ, List.getElem_toArray, List.getElem_cons_zero, List.getElem_cons_succ])
          revert hHeld HT3
          generalize W2.alloc (.cells #[.string ⟨#[]⟩, .string ⟨#[]⟩, .slice none 0 0] 29) = W3
          intro HT3 hHeld
          refine wpAnyH_ready (rs := [3]) (by decide +kernel) (by simp) ?_
          refine AllReadyH.cons rfl (fun K hK => ?_) AllReadyH.nil
          rw [if_pos (by rfl)]
          go_simp
          refine (HT3.out.of1 y b0 d0 (.inr rfl)).mono ?_
          rintro e W4 ⟨a2, c2, rfl, hbx, HQ⟩
          have HT4 := Lib.hid HQ.out.1
          have hsz4 := HQ.out.2
          clear HQ
          refine hK.out _ _ hbx (fun hHeld => ?_)
          clear hK K
          (try simp only [Act.put, List.setIfInBounds_toArray, List.set_cons_zero, List.set_cons_succ, List.getElem_toArray, List.getElem_cons_zero, List.getElem_cons_succ])
          have hPQ : W2.heap.size ≠ W1.heap.size := (Nat.ne_of_gt hlt0)
          have sP := (HT4.out.slots W2.heap.size (by simp)).1.out
          have sQ := (HT4.out.slots W1.heap.size (by simp)).1.out
          obtain ⟨⟨u1, v1, z1, e1, e2, e3⟩, f0, f1, f2, hl1⟩ := sP
          obtain ⟨⟨u2, v2, z2, e4, e5, e6⟩, g0, g1, g2, hl2⟩ := sQ
          have hPQ' := Ne.symm hPQ
          clear hlt0
          refine wpAnyH_ready (rs := [6]) (by decide +kernel) (by simp) ?_
          refine AllReadyH.cons rfl (fun K hK => ?_) AllReadyH.nil
          rw [if_pos (by rfl)]
          go_simp
          refine hK.out _ _ (tt_box HT4.out (.inl ⟨_, _, _, _, rfl, by have := HT4.out.slots W2.heap.size (by simp); omega⟩)) (fun hHeld => ?_)
          clear hK K
          (try simp only [Act.put, List.setIfInBounds_toArray, List.set_cons_zero, List.set_cons_succ, List.getElem_toArray, List.getElem_cons_zero, List.getElem_cons_succ])
          refine wpAnyH_ready (rs := [7]) (by decide +kernel) (by simp) ?_
          refine AllReadyH.cons rfl (fun K hK => ?_) AllReadyH.nil
          rw [if_pos (by rfl)]
          go_simp
          refine hK.out _ _ (tt_box HT4.out (.inr ⟨_, _, _, _, _, _, _, _, rfl, by have := HT4.out.slots W2.heap.size (by simp); omega, by have := HT4.out.slots W1.heap.size (by simp); omega⟩)) (fun hHeld => ?_)
          clear hK K
          (try simp only [Act.put, List.setIfInBounds_toArray, List.set_cons_zero, List.set_cons_succ, List.getElem_toArray, List.getElem_cons_zero, List.getElem_cons_succ])
          refine wpAnyH_done (by decide +kernel) ?_ _
          go_wp2_with fail
          go_meet
          exact ⟨W2.heap.size, W1.heap.size, a1, c1, a2, c2, rfl, rfl, hPQ, Lib.hid (HT4.out.fin (by simp) (by simp) hPQ (by simp) (by simp) _ (.inl rfl))⟩
    · rw [if_pos (by rfl)]
      go_simp
      have HT1 := Lib.hid HT0.out.alloc
      refine hK.out _ _ ⟨HT1.out.box1, HT1.out.box2⟩ (fun hHeld => ?_)
      clear hK K
      (try simp only [Act.put, List.setIfInBounds_toArray, List.set_cons_zero, List.set_cons_succ, List.getElem_toArray, List.getElem_cons_zero, List.getElem_cons_succ])
      revert hHeld HT1
      generalize W0.alloc (.cells #[.string ⟨#[]⟩, .string ⟨#[]⟩, .slice none 0 0] 29) = W1
      intro HT1 hHeld
      refine wpAnyH_ready (rs := [1, 5]) (by decide +kernel) (by simp) ?_
      refine AllReadyH.cons rfl (fun K hK => ?_) (AllReadyH.cons rfl (fun K hK => ?_) AllReadyH.nil)
      · rw [if_pos (by rfl)]
        go_simp
        refine (HT1.out.of1 x a0 c0 (.inl rfl)).mono ?_
        rintro e W2 ⟨a1, c1, rfl, hbx, HQ⟩
        have HT2 := Lib.hid HQ.out.1
        have hsz2 := HQ.out.2
        clear HQ
        refine hK.out _ _ hbx (fun hHeld => ?_)
        clear hK K
        (try simp only [Act.put, List.setIfInBounds_toArray, List.set_cons_zero, List.set_cons_succ, List.getElem_toArray, List.getElem_cons_zero, List.getElem_cons_succ])
        refine wpAnyH_ready (rs := [3, 5]) (by decide +kernel) (by simp) ?_
        refine AllReadyH.cons rfl (fun K hK => ?_) (AllReadyH.cons rfl (fun K hK => ?_) AllReadyH.nil)
        · rw [if_pos (by rfl)]
          go_simp
          refine (HT2.out.of1 y b0 d0 (.inr rfl)).mono ?_
          rintro e W3 ⟨a2, c2, rfl, hbx, HQ⟩
          have HT3 := Lib.hid HQ.out.1
          have hsz3 := HQ.out.2
          clear HQ
          refine hK.out _ _ hbx (fun hHeld => ?_)
          clear hK K
          (try simp only [Act.put, List.setIfInBounds_toArray, List.set_cons_zero, List.set_cons_succ, List.getElem_toArray, List.getElem_cons_zero, List.getElem_cons_succ])
          refine wpAnyH_ready (rs := [5]) (by decide +kernel) (by simp) ?_
          refine AllReadyH.cons rfl (fun K hK => ?_) AllReadyH.nil
          rw [if_pos (by rfl)]
          go_simp
          have hlt0 : W0.heap.size < W3.heap.size := (HT3.out.slots W0.heap.size (by simp)).1.lt
          have HT4 := Lib.hid HT3.out.alloc
          refine hK.out _ _ ⟨HT4.out.box1, HT4.out.box2⟩ (fun hHeld => ?_)
          clear hK K
          (try simp only [Act.put, List.setIfInBounds_toArray, List.set_cons_zero, List.set_cons_succ, List.getElem_toArray, List.getElem_cons_zero, List.getElem_cons_succ])
          revert hHeld HT4
          generalize W3.alloc (.cells #[.string ⟨#[]⟩, .string ⟨#[]⟩, .slice none 0 0] 29) = W4
          intro HT4 hHeld
          have hPQ : W0.heap.size ≠ W3.heap.size := (Nat.ne_of_lt hlt0)
          have sP := (HT4.out.slots W0.heap.size (by simp)).1.out
          have sQ := (HT4.out.slots W3.heap.size (by simp)).1.out
          obtain ⟨⟨u1, v1, z1, e1, e2, e3⟩, f0, f1, f2, hl1⟩ := sP
          obtain ⟨⟨u2, v2, z2, e4, e5, e6⟩, g0, g1, g2, hl2⟩ := sQ
          have hPQ' := Ne.symm hPQ
          clear hlt0
          refine wpAnyH_ready (rs := [6]) (by decide +kernel) (by simp) ?_
          refine AllReadyH.cons rfl (fun K hK => ?_) AllReadyH.nil
          rw [if_pos (by rfl)]
          go_simp
          refine hK.out _ _ (tt_box HT4.out (.inl ⟨_, _, _, _, rfl, by have := HT4.out.slots W0.heap.size (by simp); omega⟩)) (fun hHeld => ?_)
          clear hK K
          (try simp only [Act.put, List.setIfInBounds_toArray, List.set_cons_zero, List.set_cons_succ, List.getElem_toArray, List.getElem_cons_zero, List.getElem_cons_succ])
          refine wpAnyH_ready (rs := [7]) (by decide +kernel) (by simp) ?_
          refine AllReadyH.cons rfl (fun K hK => ?_) AllReadyH.nil
          rw [if_pos (by rfl)]
          go_simp
          refine hK.out _ _ (tt_box HT4.out (.inr ⟨_, _, _, _, _, _, _, _, rfl, by have := HT4.out.slots W0.heap.size (by simp); omega, by have := HT4.out.slots W3.heap.size (by simp); omega⟩)) (fun hHeld => ?_)
          clear hK K
          (try simp only [Act.put, List.setIfInBounds_toArray, List.set_cons_zero, List.set_cons_succ, List.getElem_toArray, List.getElem_cons_zero, List.getElem_cons_succ])
          refine wpAnyH_done (by decide +kernel) ?_ _
          go_wp2_with fail
          go_meet
          exact ⟨W0.heap.size, W3.heap.size, a1, c1, a2, c2, rfl, rfl, hPQ, Lib.hid (HT4.out.fin (by simp) (by simp) hPQ (by simp) (by simp) _ (.inl rfl))⟩
        · rw [if_pos (by rfl)]
          go_simp
          have hlt0 : W0.heap.size < W2.heap.size := (HT2.out.slots W0.heap.size (by simp)).1.lt
          have HT3 := Lib.hid HT2.out.alloc
          refine hK.out _ _ ⟨HT3.out.box1, HT3.out.box2⟩ (fun hHeld => ?_)
          clear hK K
          (try simp only [Act.put, List.setIfInBounds_toArray, List.set_cons_zero, List.set_cons_succ, List.getElem_toArray, List.getElem_cons_zero, List.getElem_cons_succ])
          revert hHeld HT3
          generalize W2.alloc (.cells #[.string ⟨#[]⟩, .string ⟨#[]⟩, .slice none 0 0] 29) = W3
          intro HT3 hHeld
          refine wpAnyH_ready (rs := [3]) (by decide +kernel) (by simp) ?_
          refine AllReadyH.cons rfl (fun K hK => ?_) AllReadyH.nil
          rw [if_pos (by rfl)]
          go_simp
          refine (HT3.out.of1 y b0 d0 (.inr rfl)).mono ?_
          rintro e W4 ⟨a2, c2, rfl, hbx, HQ⟩
          have HT4 := Lib.hid HQ.out.1
          have hsz4 := HQ.out.2
          clear HQ
          refine hK.out _ _ hbx (fun hHeld => ?_)
          clear hK K
          (try simp only [Act.put, List.setIfInBounds_toArray, List.set_cons_zero, List.set_cons_succ, List.getElem_toArray, List.getElem_cons_zero, List.getElem_cons_succ])
          have hPQ : W0.heap.size ≠ W2.heap.size := (Nat.ne_of_lt hlt0)
          have sP := (HT4.out.slots W0.heap.size (by simp)).1.out
          have sQ := (HT4.out.slots W2.heap.size (by simp)).1.out
          obtain ⟨⟨u1, v1, z1, e1, e2, e3⟩, f0, f1, f2, hl1⟩ := sP
          obtain ⟨⟨u2, v2, z2, e4, e5, e6⟩, g0, g1, g2, hl2⟩ := sQ
          have hPQ' := Ne.symm hPQ
          clear hlt0
          refine wpAnyH_ready (rs := [6]) (by decide +kernel) (by simp) ?_
          refine AllReadyH.cons rfl (fun K hK => ?_) AllReadyH.nil
          rw [if_pos (by rfl)]
          go_simp
          refine hK.out _ _ (tt_box HT4.out (.inl ⟨_, _, _, _, rfl, by have := HT4.out.slots W0.heap.size (by simp); omega⟩)) (fun hHeld => ?_)
          clear hK K
          (try simp only [Act.put, List.setIfInBounds_toArray, List.set_cons_zero, List.set_cons_succ, List.getElem_toArray, List.getElem_cons_zero, List.getElem_cons_succ])
          refine wpAnyH_ready (rs := [7]) (by decide +kernel) (by simp) ?_
          refine AllReadyH.cons rfl (fun K hK => ?_) AllReadyH.nil
          rw [if_pos (by rfl)]
          go_simp
          refine hK.out _ _ (tt_box HT4.out (.inr ⟨_, _, _, _, _, _, _, _, rfl, by have := HT4.out.slots W0.heap.size (by simp); omega, by have := HT4.out.slots W2.heap.size (by simp); omega⟩)) (fun hHeld => ?_)
          clear hK K
          (try simp only [Act.put, List.setIfInBounds_toArray, List.set_cons_zero, List.set_cons_succ, List.getElem_toArray, List.getElem_cons_zero, List.getElem_cons_succ])
          refine wpAnyH_done (by decide +kernel) ?_ _
          go_wp2_with fail
          go_meet
          exact ⟨W0.heap.size, W2.heap.size, a1, c1, a2, c2, rfl, rfl, hPQ, Lib.hid (HT4.out.fin (by simp) (by simp) hPQ (by simp) (by simp) _ (.inl rfl))⟩
      · rw [if_pos (by rfl)]
        go_simp
        have hlt0 : W0.heap.size < W1.heap.size := (HT1.out.slots W0.heap.size (by simp)).1.lt
        have HT2 := Lib.hid HT1.out.alloc
        refine hK.out _ _ ⟨HT2.out.box1, HT2.out.box2⟩ (fun hHeld => ?_)
        clear hK K
        (try simp only [Act.put, List.setIfInBounds_toArray, List.set_cons_zero, List.set_cons_succ, List.getElem_toArray, List.getElem_cons_zero, List.getElem_cons_succ])
        revert hHeld HT2
        generalize W1.alloc (.cells #[.string ⟨#[]⟩, .string ⟨#[]⟩, .slice none 0 0] 29) = W2
        intro HT2 hHeld
        refine wpAnyH_ready (rs := [1]) (by decide +kernel) (by simp) ?_
        refine AllReadyH.cons rfl (fun K hK => ?_) AllReadyH.nil
        rw [if_pos (by rfl)]
        go_simp
        refine (HT2.out.of1 x a0 c0 (.inl rfl)).mono ?_
        rintro e W3 ⟨a1, c1, rfl, hbx, HQ⟩
        have HT3 := Lib.hid HQ.out.1
        have hsz3 := HQ.out.2
        clear HQ
        refine hK.out _ _ hbx (fun hHeld => ?_)
        clear hK K
        (try simp only [Act.put, List.setIfInBounds_toArray, List.set_cons_zero, List.set_cons_succ, List.getElem_toArray, List.getElem_cons_zero, List.getElem_cons_succ])
        refine wpAnyH_ready (rs := [3]) (by decide +kernel) (by simp) ?_
        refine AllReadyH.cons rfl (fun K hK => ?_) AllReadyH.nil
        rw [if_pos (by rfl)]
        go_simp
        refine (HT3.out.of1 y b0 d0 (.inr rfl)).mono ?_
        rintro e W4 ⟨a2, c2, rfl, hbx, HQ⟩
        have HT4 := Lib.hid HQ.out.1
        have hsz4 := HQ.out.2
        clear HQ
        refine hK.out _ _ hbx (fun hHeld => ?_)
        clear hK K
        (try simp only [Act.put, List.setIfInBounds_toArray, List.set_cons_zero, List.set_cons_succ, List.getElem_toArray, List.getElem_cons_zero, List.getElem_cons_succ])
        have hPQ : W0.heap.size ≠ W1.heap.size := (Nat.ne_of_lt hlt0)
        have sP := (HT4.out.slots W0.heap.size (by simp)).1.out
        have sQ := (HT4.out.slots W1.heap.size (by simp)).1.out
        obtain ⟨⟨u1, v1, z1, e1, e2, e3⟩, f0, f1, f2, hl1⟩ := sP
        obtain ⟨⟨u2, v2, z2, e4, e5, e6⟩, g0, g1, g2, hl2⟩ := sQ
        have hPQ' := Ne.symm hPQ
        clear hlt0
        refine wpAnyH_ready (rs := [6]) (by decide +kernel) (by simp) ?_
        refine AllReadyH.cons rfl (fun K hK => ?_) AllReadyH.nil
        rw [if_pos (by rfl)]
        go_simp
        refine hK.out _ _ (tt_box HT4.out (.inl ⟨_, _, _, _, rfl, by have := HT4.out.slots W0.heap.size (by simp); omega⟩)) (fun hHeld => ?_)
        clear hK K
        (try simp only [Act.put, List.setIfInBounds_toArray, List.set_cons_zero, List.set_cons_succ, List.getElem_toArray, List.getElem_cons_zero, List.getElem_cons_succ])
        refine wpAnyH_ready (rs := [7]) (by decide +kernel) (by simp) ?_
        refine AllReadyH.cons rfl (fun K hK => ?_) AllReadyH.nil
        rw [if_pos (by rfl)]
        go_simp
        refine hK.out _ _ (tt_box HT4.out (.inr ⟨_, _, _, _, _, _, _, _, rfl, by have := HT4.out.slots W0.heap.size (by simp); omega, by have := HT4.out.slots W1.heap.size (by simp); omega⟩)) (fun hHeld => ?_)
        clear hK K
        (try simp only [Act.put, List.setIfInBounds_toArray, List.set_cons_zero, List.set_cons_succ, List.getElem_toArray, List.getElem_cons_zero, List.getElem_cons_succ])
        refine wpAnyH_done (by decide +kernel) ?_ _
        go_wp2_with fail
        go_meet
        exact ⟨W0.heap.size, W1.heap.size, a1, c1, a2, c2, rfl, rfl, hPQ, Lib.hid (HT4.out.fin (by simp) (by simp) hPQ (by simp) (by simp) _ (.inl rfl))⟩
    · rw [if_pos (by rfl)]
      go_simp
      have HT1 := Lib.hid HT0.out.alloc
      refine hK.out _ _ ⟨HT1.out.box1, HT1.out.box2⟩ (fun hHeld => ?_)
      clear hK K
      (try simp only [Act.put, List.setIfInBounds_toArray, List.set_cons_zero, List.set_cons_succ, List.getElem_toArray, List.getElem_cons_zero, List.getElem_cons_succ])
      revert hHeld HT1
      generalize W0.alloc (.cells #[.string ⟨#[]⟩, .string ⟨#[]⟩, .slice none 0 0] 29) = W1
      intro HT1 hHeld
      refine wpAnyH_ready (rs := [1, 4]) (by decide +kernel) (by simp) ?_
      refine AllReadyH.cons rfl (fun K hK => ?_) (AllReadyH.cons rfl (fun K hK => ?_) AllReadyH.nil)
      · rw [if_pos (by rfl)]
        go_simp
        refine (HT1.out.of1 x a0 c0 (.inl rfl)).mono ?_
        rintro e W2 ⟨a1, c1, rfl, hbx, HQ⟩
        have HT2 := Lib.hid HQ.out.1
        have hsz2 := HQ.out.2
        clear HQ
        refine hK.out _ _ hbx (fun hHeld => ?_)
        clear hK K
        (try simp only [Act.put, List.setIfInBounds_toArray, List.set_cons_zero, List.set_cons_succ, List.getElem_toArray, List.getElem_cons_zero, List.getElem_cons_succ])
        refine wpAnyH_ready (rs := [3, 4]) (by decide +kernel) (by simp) ?_
        refine AllReadyH.cons rfl (fun K hK => ?_) (AllReadyH.cons rfl (fun K hK => ?_) AllReadyH.nil)
        · rw [if_pos (by rfl)]
          go_simp
          refine (HT2.out.of1 y b0 d0 (.inr rfl)).mono ?_
          rintro e W3 ⟨a2, c2, rfl, hbx, HQ⟩
          have HT3 := Lib.hid HQ.out.1
          have hsz3 := HQ.out.2
          clear HQ
          refine hK.out _ _ hbx (fun hHeld => ?_)
          clear hK K
          (try simp only [Act.put, List.setIfInBounds_toArray, List.set_cons_zero, List.set_cons_succ, List.getElem_toArray, List.getElem_cons_zero, List.getElem_cons_succ])
          refine wpAnyH_ready (rs := [4]) (by decide +kernel) (by simp) ?_
          refine AllReadyH.cons rfl (fun K hK => ?_) AllReadyH.nil
          rw [if_pos (by rfl)]
          go_simp
          have hlt0 : W0.heap.size < W3.heap.size := (HT3.out.slots W0.heap.size (by simp)).1.lt
          have HT4 := Lib.hid HT3.out.alloc
          refine hK.out _ _ ⟨HT4.out.box1, HT4.out.box2⟩ (fun hHeld => ?_)
          clear hK K
          (try simp only [Act.put, List.setIfInBounds_toArray, List.set_cons_zero, List.set_cons_succ, List.getElem_toArray, List.getElem_cons_zero, List.getElem_cons_succ])
          revert hHeld HT4
          generalize W3.alloc (.cells #[.string ⟨#[]⟩, .string ⟨#[]⟩, .slice none 0 0] 29) = W4
          intro HT4 hHeld
          have hPQ : W3.heap.size ≠ W0.heap.size := (Nat.ne_of_gt hlt0)
          have sP := (HT4.out.slots W3.heap.size (by simp)).1.out
          have sQ := (HT4.out.slots W0.heap.size (by simp)).1.out
          obtain ⟨⟨u1, v1, z1, e1, e2, e3⟩, f0, f1, f2, hl1⟩ := sP
          obtain ⟨⟨u2, v2, z2, e4, e5, e6⟩, g0, g1, g2, hl2⟩ := sQ
          have hPQ' := Ne.symm hPQ
          clear hlt0
          refine wpAnyH_ready (rs := [6]) (by decide +kernel) (by simp) ?_
          refine AllReadyH.cons rfl (fun K hK => ?_) AllReadyH.nil
          rw [if_pos (by rfl)]
          go_simp
          refine hK.out _ _ (tt_box HT4.out (.inl ⟨_, _, _, _, rfl, by have := HT4.out.slots W3.heap.size (by simp); omega⟩)) (fun hHeld => ?_)
          clear hK K
          (try simp only [Act.put, List.setIfInBounds_toArray, List.set_cons_zero, List.set_cons_succ, List.getElem_toArray, List.getElem_cons_zero, List.getElem_cons_succ])
          refine wpAnyH_ready (rs := [7]) (by decide +kernel) (by simp) ?_
          refine AllReadyH.cons rfl (fun K hK => ?_) AllReadyH.nil
          rw [if_pos (by rfl)]
          go_simp
          refine hK.out _ _ (tt_box HT4.out (.inr ⟨_, _, _, _, _, _, _, _, rfl, by have := HT4.out.slots W3.heap.size (by simp); omega, by have := HT4.out.slots W0.heap.size (by simp); omega⟩)) (fun hHeld => ?_)
          clear hK K
          (try simp only [Act.put, List.setIfInBounds_toArray, List.set_cons_zero, List.set_cons_succ, List.getElem_toArray, List.getElem_cons_zero, List.getElem_cons_succ])
          refine wpAnyH_done (by decide +kernel) ?_ _
          go_wp2_with fail
          go_meet
          exact ⟨W3.heap.size, W0.heap.size, a1, c1, a2, c2, rfl, rfl, hPQ, Lib.hid (HT4.out.fin (by simp) (by simp) hPQ (by simp) (by simp) _ (.inl rfl))⟩
        · rw [if_pos (by rfl)]
          go_simp
          have hlt0 : W0.heap.size < W2.heap.size := (HT2.out.slots W0.heap.size (by simp)).1.lt
          have HT3 := Lib.hid HT2.out.alloc
          refine hK.out _ _ ⟨HT3.out.box1, HT3.out.box2⟩ (fun hHeld => ?_)
          clear hK K
          (try simp only [Act.put, List.setIfInBounds_toArray, List.set_cons_zero, List.set_cons_succ, List.getElem_toArray, List.getElem_cons_zero, List.getElem_cons_succ])
          revert hHeld HT3
          generalize W2.alloc (.cells #[.string ⟨#[]⟩, .string ⟨#[]⟩, .slice none 0 0] 29) = W3
          intro HT3 hHeld
          refine wpAnyH_ready (rs := [3]) (by decide +kernel) (by simp) ?_
          refine AllReadyH.cons rfl (fun K hK => ?_) AllReadyH.nil
          rw [if_pos (by rfl)]
          go_simp
          refine (HT3.out.of1 y b0 d0 (.inr rfl)).mono ?_
          rintro e W4 ⟨a2, c2, rfl, hbx, HQ⟩
          have HT4 := Lib.hid HQ.out.1
          have hsz4 := HQ.out.2
          clear HQ
          refine hK.out _ _ hbx (fun hHeld => ?_)
          clear hK K
          (try simp only [Act.put, List.setIfInBounds_toArray, List.set_cons_zero, List.set_cons_succ, List.getElem_toArray, List.getElem_cons_zero, List.getElem_cons_succ])
          have hPQ : W2.heap.size ≠ W0.heap.size := (Nat.ne_of_gt hlt0)
          have sP := (HT4.out.slots W2.heap.size (by simp)).1.out
          have sQ := (HT4.out.slots W0.heap.size (by simp)).1.out
          obtain ⟨⟨u1, v1, z1, e1, e2, e3⟩, f0, f1, f2, hl1⟩ := sP
          obtain ⟨⟨u2, v2, z2, e4, e5, e6⟩, g0, g1, g2, hl2⟩ := sQ
          have hPQ' := Ne.symm hPQ
          clear hlt0
          refine wpAnyH_ready (rs := [6]) (by decide +kernel) (by simp) ?_
          refine AllReadyH.cons rfl (fun K hK => ?_) AllReadyH.nil
          rw [if_pos (by rfl)]
          go_simp
          refine hK.out _ _ (tt_box HT4.out (.inl ⟨_, _, _, _, rfl, by have := HT4.out.slots W2.heap.size (by simp); omega⟩)) (fun hHeld => ?_)
          clear hK K
          (try simp only [Act.put, List.setIfInBounds_toArray, List.set_cons_zero, List.set_cons_succ, List.getElem_toArray, List.getElem_cons_zero, List.getElem_cons_succ])
          refine wpAnyH_ready (rs := [7]) (by decide +kernel) (by simp) ?_
          refine AllReadyH.cons rfl (fun K hK => ?_) AllReadyH.nil
          rw [if_pos (by rfl)]
          go_simp
          refine hK.out _ _ (tt_box HT4.out (.inr ⟨_, _, _, _, _, _, _, _, rfl, by have := HT4.out.slots W2.heap.size (by simp); omega, by have := HT4.out.slots W0.heap.size (by simp); omega⟩)) (fun hHeld => ?_)
          clear hK K
          (try simp only [Act.put, List.setIfInBounds_toArray, List.set_cons_zero, List.set_cons_succ, List.getElem_toArray, List.getElem_cons_zero, List.getElem_cons_succ])
          refine wpAnyH_done (by decide +kernel) ?_ _
          go_wp2_with fail
          go_meet
          exact ⟨W2.heap.size, W0.heap.size, a1, c1, a2, c2, rfl, rfl, hPQ, Lib.hid (HT4.out.fin (by simp) (by simp) hPQ (by simp) (by simp) _ (.inl rfl))⟩
      · rw [if_pos (by rfl)]
        go_simp
        have hlt0 : W0.heap.size < W1.heap.size := (HT1.out.slots W0.heap.size (by simp)).1.lt
        have HT2 := Lib.hid HT1.out.alloc
        refine hK.out _ _ ⟨HT2.out.box1, HT2.out.box2⟩ (fun hHeld => ?_)
        clear hK K
        (try simp only [Act.put, List.setIfInBounds_toArray, List.set_cons_zero, List.set_cons_succ, List.getElem_toArray, List.getElem_cons_zero, List.getElem_cons_succ])
        revert hHeld HT2
        generalize W1.alloc (.cells #[.string ⟨#[]⟩, .string ⟨#[]⟩, .slice none 0 0] 29) = W2
        intro HT2 hHeld
        refine wpAnyH_ready (rs := [1]) (by decide +kernel) (by simp) ?_
        refine AllReadyH.cons rfl (fun K hK => ?_) AllReadyH.nil
        rw [if_pos (by rfl)]
        go_simp
        refine (HT2.out.of1 x a0 c0 (.inl rfl)).mono ?_
        rintro e W3 ⟨a1, c1, rfl, hbx, HQ⟩
        have HT3 := Lib.hid HQ.out.1
        have hsz3 := HQ.out.2
        clear HQ
        refine hK.out _ _ hbx (fun hHeld => ?_)
        clear hK K
        (try simp only [Act.put, List.setIfInBounds_toArray, List.set_cons_zero, List.set_cons_succ, List.getElem_toArray, List.getElem_cons_zero, List.getElem_cons_succ])
        refine wpAnyH_ready (rs := [3]) (by decide +kernel) (by simp) ?_
        refine AllReadyH.cons rfl (fun K hK => ?_) AllReadyH.nil
        rw [if_pos (by rfl)]
        go_simp
        refine (HT3.out.of1 y b0 d0 (.inr rfl)).mono ?_
        rintro e W4 ⟨a2, c2, rfl, hbx, HQ⟩
        have HT4 := Lib.hid HQ.out.1
        have hsz4 := HQ.out.2
        clear HQ
        refine hK.out _ _ hbx (fun hHeld => ?_)
        clear hK K
        (try simp only [Act.put, List.setIfInBounds_toArray, List.set_cons_zero, List.set_cons_succ, List.getElem_toArray, List.getElem_cons_zero, List.getElem_cons_succ])
        have hPQ : W1.heap.size ≠ W0.heap.size := (Nat.ne_of_gt hlt0)
        have sP := (HT4.out.slots W1.heap.size (by simp)).1.out
        have sQ := (HT4.out.slots W0.heap.size (by simp)).1.out
        obtain ⟨⟨u1, v1, z1, e1, e2, e3⟩, f0, f1, f2, hl1⟩ := sP
        obtain ⟨⟨u2, v2, z2, e4, e5, e6⟩, g0, g1, g2, hl2⟩ := sQ
        have hPQ' := Ne.symm hPQ
        clear hlt0
        refine wpAnyH_ready (rs := [6]) (by decide +kernel) (by simp) ?_
        refine AllReadyH.cons rfl (fun K hK => ?_) AllReadyH.nil
        rw [if_pos (by rfl)]
        go_simp
        refine hK.out _ _ (tt_box HT4.out (.inl ⟨_, _, _, _, rfl, by have := HT4.out.slots W1.heap.size (by simp); omega⟩)) (fun hHeld => ?_)
        clear hK K
        (try simp only [Act.put, List.setIfInBounds_toArray, List.set_cons_zero, List.set_cons_succ, List.getElem_toArray, List.getElem_cons_zero, List.getElem_cons_succ])
        refine wpAnyH_ready (rs := [7]) (by decide +kernel) (by simp) ?_
        refine AllReadyH.cons rfl (fun K hK => ?_) AllReadyH.nil
        rw [if_pos (by rfl)]
        go_simp
        refine hK.out _ _ (tt_box HT4.out (.inr ⟨_, _, _, _, _, _, _, _, rfl, by have := HT4.out.slots W1.heap.size (by simp); omega, by have := HT4.out.slots W0.heap.size (by simp); omega⟩)) (fun hHeld => ?_)
        clear hK K
        (try simp only [Act.put, List.setIfInBounds_toArray, List.set_cons_zero, List.set_cons_succ, List.getElem_toArray, List.getElem_cons_zero, List.getElem_cons_succ])
        refine wpAnyH_done (by decide +kernel) ?_ _
        go_wp2_with fail
        go_meet
        exact ⟨W1.heap.size, W0.heap.size, a1, c1, a2, c2, rfl, rfl, hPQ, Lib.hid (HT4.out.fin (by simp) (by simp) hPQ (by simp) (by simp) _ (.inl rfl))⟩
  case rest =>
    obtain ⟨P, Q, a1, c1, a2, c2, rfl, rfl, hPQ, HEND⟩ := hcut
    obtain ⟨hbl, ⟨q0, q1, q2⟩, ⟨s0, s1, s2⟩, hx, hy⟩ := HEND.out
    obtain ⟨wz, hwz, hbz, hN, hB, hO, kN, kB, kO⟩ := turn_laid wc x y a1 c1 a2 c2 hx hy
    have hpl : P < wc.heap.size := cell_lt1 q0
    have hql : Q < wc.heap.size := cell_lt1 s0
    have hp0 : ¬ P = wc.heap.size := by omega
    have hpb0 : P < wc.heap.size + 1 := by omega
    have hq0 : ¬ Q = wc.heap.size := by omega
    have hqb0 : Q < wc.heap.size + 1 := by omega
    have hp1 : ¬ P = wc.heap.size + 1 := by omega
    have hpb1 : P < wc.heap.size + 1 + 1 := by omega
    have hq1 : ¬ Q = wc.heap.size + 1 := by omega
    have hqb1 : Q < wc.heap.size + 1 + 1 := by omega
    have hp2 : ¬ P = wc.heap.size + 1 + 1 := by omega
    have hpb2 : P < wc.heap.size + 1 + 1 + 1 := by omega
    have hq2 : ¬ Q = wc.heap.size + 1 + 1 := by omega
    have hqb2 : Q < wc.heap.size + 1 + 1 + 1 := by omega
    have hp3 : ¬ P = wc.heap.size + 1 + 1 + 1 := by omega
    have hpb3 : P < wc.heap.size + 1 + 1 + 1 + 1 := by omega
    have hq3 : ¬ Q = wc.heap.size + 1 + 1 + 1 := by omega
    have hqb3 : Q < wc.heap.size + 1 + 1 + 1 + 1 := by omega
    have hp4 : ¬ P = wc.heap.size + 1 + 1 + 1 + 1 := by omega
    have hpb4 : P < wc.heap.size + 1 + 1 + 1 + 1 + 1 := by omega
    have hq4 : ¬ Q = wc.heap.size + 1 + 1 + 1 + 1 := by omega
    have hqb4 : Q < wc.heap.size + 1 + 1 + 1 + 1 + 1 := by omega
    have hp5 : ¬ P = wc.heap.size + 1 + 1 + 1 + 1 + 1 := by omega
    have hpb5 : P < wc.heap.size + 1 + 1 + 1 + 1 + 1 + 1 := by omega
    have hq5 : ¬ Q = wc.heap.size + 1 + 1 + 1 + 1 + 1 := by omega
    have hqb5 : Q < wc.heap.size + 1 + 1 + 1 + 1 + 1 + 1 := by omega
    have HP := Lib.hid (show Pk w (turnB P Q wc.heap.size x y a1 c1 a2 c2) [(notX x, some ⟨wc.heap.size, 0, none⟩, 1), (bothX x y, some ⟨wc.heap.size + 1 + 1, 0, none⟩, 2), (oneX x y, some ⟨wc.heap.size + 1 + 1 + 1 + 1, 0, none⟩, 2), (x, a1, c1), (y, a2, c2)] [(tags, at_)] wz from ⟨bext hbl hbz, HE.out.on (bext hbl hbz), ⟨three_on' hbz q0 q1 q2, three_on' hbz s0 s1 s2, hN, hB, hO⟩, fun z hz => by
        simp only [List.mem_cons, List.not_mem_nil, or_false] at hz
        rcases hz with rfl | rfl | rfl | rfl | rfl
        · exact ⟨kN, fit_rows [33] [x] (by simp) (by simp)⟩
        · exact ⟨kB, fit_rows [38, 38] [x, y] (by simp) (by simp)⟩
        · exact ⟨kO, fit_rows [124, 124] [x, y] (by simp) (by simp)⟩
        · exact ⟨hx.1.on hbz, hx.2⟩
        · exact ⟨hy.1.on hbz, hy.2⟩, fun z hz => by
        rw [List.mem_singleton] at hz; subst hz; exact HST.out.on (bext hbl hbz)⟩)
    have HKB := Lib.hid (keep_turn P Q wc.heap.size x y a1 c1 a2 c2)
    obtain ⟨n0, n1, n2⟩ := hN
    obtain ⟨m0, m1, m2⟩ := hB
    obtain ⟨o0, o1, o2⟩ := hO
    clear hbl hx hy hbz kN kB kO HEND hPQ HT0
    have HRT := Lib.hid fun (W : World) (h : Pk w (turnB P Q wc.heap.size x y a1 c1 a2 c2) [(notX x, some ⟨wc.heap.size, 0, none⟩, 1), (bothX x y, some ⟨wc.heap.size + 1 + 1, 0, none⟩, 2), (oneX x y, some ⟨wc.heap.size + 1 + 1 + 1 + 1, 0, none⟩, 2), (x, a1, c1), (y, a2, c2)] [(tags, at_)] W) => (show Calls Tryd.prog 13 #[.agg #[.string ⟨#[33]⟩, .string ⟨#[]⟩, .slice (some ⟨wc.heap.size, 0, none⟩) 1 1]] W (PkPost w (turnB P Q wc.heap.size x y a1 c1 a2 c2) [(notX x, some ⟨wc.heap.size, 0, none⟩, 1), (bothX x y, some ⟨wc.heap.size + 1 + 1, 0, none⟩, 2), (oneX x y, some ⟨wc.heap.size + 1 + 1 + 1 + 1, 0, none⟩, 2), (x, a1, c1), (y, a2, c2)] [(tags, at_)] (.bool (rightX 100 (notX x)))) from pk_right h HKB.out (notX x) _ 1 (.head _))
    have HRB := Lib.hid fun (W : World) (h : Pk w (turnB P Q wc.heap.size x y a1 c1 a2 c2) [(notX x, some ⟨wc.heap.size, 0, none⟩, 1), (bothX x y, some ⟨wc.heap.size + 1 + 1, 0, none⟩, 2), (oneX x y, some ⟨wc.heap.size + 1 + 1 + 1 + 1, 0, none⟩, 2), (x, a1, c1), (y, a2, c2)] [(tags, at_)] W) => (show Calls Tryd.prog 13 #[.agg #[.string ⟨#[38, 38]⟩, .string ⟨#[]⟩, .slice (some ⟨wc.heap.size + 1 + 1, 0, none⟩) 2 2]] W (PkPost w (turnB P Q wc.heap.size x y a1 c1 a2 c2) [(notX x, some ⟨wc.heap.size, 0, none⟩, 1), (bothX x y, some ⟨wc.heap.size + 1 + 1, 0, none⟩, 2), (oneX x y, some ⟨wc.heap.size + 1 + 1 + 1 + 1, 0, none⟩, 2), (x, a1, c1), (y, a2, c2)] [(tags, at_)] (.bool (rightX 100 (bothX x y)))) from pk_right h HKB.out (bothX x y) _ 2 (.tail _ (.head _)))
    have HRO := Lib.hid fun (W : World) (h : Pk w (turnB P Q wc.heap.size x y a1 c1 a2 c2) [(notX x, some ⟨wc.heap.size, 0, none⟩, 1), (bothX x y, some ⟨wc.heap.size + 1 + 1, 0, none⟩, 2), (oneX x y, some ⟨wc.heap.size + 1 + 1 + 1 + 1, 0, none⟩, 2), (x, a1, c1), (y, a2, c2)] [(tags, at_)] W) => (show Calls Tryd.prog 13 #[.agg #[.string ⟨#[124, 124]⟩, .string ⟨#[]⟩, .slice (some ⟨wc.heap.size + 1 + 1 + 1 + 1, 0, none⟩) 2 2]] W (PkPost w (turnB P Q wc.heap.size x y a1 c1 a2 c2) [(notX x, some ⟨wc.heap.size, 0, none⟩, 1), (bothX x y, some ⟨wc.heap.size + 1 + 1, 0, none⟩, 2), (oneX x y, some ⟨wc.heap.size + 1 + 1 + 1 + 1, 0, none⟩, 2), (x, a1, c1), (y, a2, c2)] [(tags, at_)] (.bool (rightX 100 (oneX x y)))) from pk_right h HKB.out (oneX x y) _ 2 (.tail _ (.tail _ (.head _))))
    have HPT := Lib.hid (@turn_plain x y tags)
    cases hrn : rightX 100 (notX x) with
    | false =>
      rw [hrn] at HRT
      have H1 := Lib.hid (HRT.out wz HP.out)
      clear HRT hrn
      go_wp2_with fail
      refine H1.out.mono ?_
      rintro e W3 ⟨rfl, -, HP⟩
      have HA := Lib.hid (pk_awake HP.out HKB.out)
      go_wp2_with fail
      refine HA.out.mono ?_
      rintro e W7 ⟨rfl, -, HP⟩
      go_wp2_with fail
      refine bodyPost_ret (v := .bool true) (by simp [results, Tryd.results5, go_sem]) rfl ⟨rfl, HP.out.below⟩
    | true =>
      rw [hrn] at HRT
      have H1 := Lib.hid (HRT.out wz HP.out)
      cases hrb : rightX 100 (bothX x y) with
      | false =>
        rw [hrb] at HRB
        clear HRT hrn hrb
        go_wp2_with fail
        refine H1.out.mono ?_
        rintro e W3 ⟨rfl, hcB, HP⟩
        obtain ⟨⟨q0, q1, q2⟩, ⟨s0, s1, s2⟩, ⟨n0, n1, n2⟩, ⟨m0, m1, m2⟩, o0, o1, o2⟩ := hcB
        have H2 := Lib.hid (HRB.out W3 HP.out)
        go_wp2_with fail
        refine H2.out.mono ?_
        rintro e W4 ⟨rfl, -, HP⟩
        have HA := Lib.hid (pk_awake HP.out HKB.out)
        go_wp2_with fail
        refine HA.out.mono ?_
        rintro e W7 ⟨rfl, -, HP⟩
        go_wp2_with fail
        refine bodyPost_ret (v := .bool true) (by simp [results, Tryd.results5, go_sem]) rfl ⟨rfl, HP.out.below⟩
      | true =>
        rw [hrb] at HRB
        cases hro : rightX 100 (oneX x y) with
        | false =>
          rw [hro] at HRO
          clear HRT hrn hrb hro
          go_wp2_with fail
          refine H1.out.mono ?_
          rintro e W3 ⟨rfl, hcB, HP⟩
          obtain ⟨⟨q0, q1, q2⟩, ⟨s0, s1, s2⟩, ⟨n0, n1, n2⟩, ⟨m0, m1, m2⟩, o0, o1, o2⟩ := hcB
          have H2 := Lib.hid (HRB.out W3 HP.out)
          go_wp2_with fail
          refine H2.out.mono ?_
          rintro e W4 ⟨rfl, hcB, HP⟩
          obtain ⟨⟨q0, q1, q2⟩, ⟨s0, s1, s2⟩, ⟨n0, n1, n2⟩, ⟨m0, m1, m2⟩, o0, o1, o2⟩ := hcB
          have H3 := Lib.hid (HRO.out W4 HP.out)
          go_wp2_with fail
          refine H3.out.mono ?_
          rintro e W5 ⟨rfl, -, HP⟩
          have HA := Lib.hid (pk_awake HP.out HKB.out)
          go_wp2_with fail
          refine HA.out.mono ?_
          rintro e W7 ⟨rfl, -, HP⟩
          go_wp2_with fail
          refine bodyPost_ret (v := .bool true) (by simp [results, Tryd.results5, go_sem]) rfl ⟨rfl, HP.out.below⟩
        | true =>
          rw [hro] at HRO
          have HPL := Lib.hid (HPT.out hrn hrb hro)
          obtain ⟨LBV, hLBV⟩ : ∃ v, leastR (bothX x y) = v := ⟨_, rfl⟩
          obtain ⟨LOV, hLOV⟩ : ∃ v, leastR (oneX x y) = v := ⟨_, rfl⟩
          obtain ⟨LX, hLX⟩ : ∃ v, leastR x = v := ⟨_, rfl⟩
          obtain ⟨LY, hLY⟩ : ∃ v, leastR y = v := ⟨_, rfl⟩
          have emax : max LX LY = LBV := by
            have := HPL.out.2.2.2.1
            rw [hLBV, hLX, hLY] at this
            exact this.symm
          have emin : min LX LY = LOV := by
            have := HPL.out.2.2.2.2.1
            rw [hLOV, hLX, hLY] at this
            exact this.symm
          have emax2 : max LY LX = LBV := by omega
          have emin2 : min LY LX = LOV := by omega
          have HRL := Lib.hid (show TabL Tryd.prog (Pk w (turnB P Q wc.heap.size x y a1 c1 a2 c2) [(notX x, some ⟨wc.heap.size, 0, none⟩, 1), (bothX x y, some ⟨wc.heap.size + 1 + 1, 0, none⟩, 2), (oneX x y, some ⟨wc.heap.size + 1 + 1 + 1 + 1, 0, none⟩, 2), (x, a1, c1), (y, a2, c2)] [(tags, at_)]) [(.agg #[.string ⟨#[38, 38]⟩, .string ⟨#[]⟩, .slice (some ⟨wc.heap.size + 1 + 1, 0, none⟩) 2 2], LBV), (.agg #[.string ⟨#[124, 124]⟩, .string ⟨#[]⟩, .slice (some ⟨wc.heap.size + 1 + 1 + 1 + 1, 0, none⟩) 2 2], LOV), (.agg #[.string ⟨x.op.toArray⟩, .string ⟨x.tag.toArray⟩, .slice a1 x.kids.length c1], LX), (.agg #[.string ⟨y.op.toArray⟩, .string ⟨y.tag.toArray⟩, .slice a2 y.kids.length c2], LY), (.agg #[.string ⟨#[33]⟩, .string ⟨#[]⟩, .slice (some ⟨wc.heap.size, 0, none⟩) 1 1], -1)] from by
            intro v r hm W hS
            simp only [List.mem_cons, Prod.mk.injEq, List.not_mem_nil, or_false] at hm
            rcases hm with ⟨rfl, rfl⟩ | ⟨rfl, rfl⟩ | ⟨rfl, rfl⟩ | ⟨rfl, rfl⟩ | ⟨rfl, rfl⟩
            · exact tab_l hS HKB.out (bothX x y) _ 2 (.tail _ (.head _)) _ hLBV
            · exact tab_l hS HKB.out (oneX x y) _ 2 (.tail _ (.tail _ (.head _))) _ hLOV
            · exact tab_l hS HKB.out x _ _ (.tail _ (.tail _ (.tail _ (.head _)))) _ hLX
            · exact tab_l hS HKB.out y _ _ (.tail _ (.tail _ (.tail _ (.tail _ (.head _))))) _ hLY
            · exact tab_l hS HKB.out (notX x) _ 1 (.head _) _ HPL.out.2.2.2.2.2)
          clear HRT hrn hrb hro hLBV hLOV hLX hLY
          obtain ⟨av, hav⟩ : ∃ v, holdsR tags x = v := ⟨_, rfl⟩
          obtain ⟨bv, hbv⟩ : ∃ v, holdsR tags y = v := ⟨_, rfl⟩
          have HAV := Lib.hid hav
          have HBV := Lib.hid hbv
          clear hav hbv
          go_wp2_with fail
          refine H1.out.mono ?_
          rintro e W3 ⟨rfl, hcB, HP⟩
          obtain ⟨⟨q0, q1, q2⟩, ⟨s0, s1, s2⟩, ⟨n0, n1, n2⟩, ⟨m0, m1, m2⟩, o0, o1, o2⟩ := hcB
          have H2 := Lib.hid (HRB.out W3 HP.out)
          go_wp2_with fail
          refine H2.out.mono ?_
          rintro e W4 ⟨rfl, hcB, HP⟩
          obtain ⟨⟨q0, q1, q2⟩, ⟨s0, s1, s2⟩, ⟨n0, n1, n2⟩, ⟨m0, m1, m2⟩, o0, o1, o2⟩ := hcB
          have H3 := Lib.hid (HRO.out W4 HP.out)
          go_wp2_with fail
          refine H3.out.mono ?_
          rintro e W5 ⟨rfl, hcB, HP⟩
          obtain ⟨⟨q0, q1, q2⟩, ⟨s0, s1, s2⟩, ⟨n0, n1, n2⟩, ⟨m0, m1, m2⟩, o0, o1, o2⟩ := hcB
          clear H1 H2 H3 HRB HRO
          cases av with
          | true =>
            have HR := Lib.hid (show TabH Tryd.prog (Pk w (turnB P Q wc.heap.size x y a1 c1 a2 c2) [(notX x, some ⟨wc.heap.size, 0, none⟩, 1), (bothX x y, some ⟨wc.heap.size + 1 + 1, 0, none⟩, 2), (oneX x y, some ⟨wc.heap.size + 1 + 1 + 1 + 1, 0, none⟩, 2), (x, a1, c1), (y, a2, c2)] [(tags, at_)]) at_ tags.length [(.agg #[.string ⟨#[33]⟩, .string ⟨#[]⟩, .slice (some ⟨wc.heap.size, 0, none⟩) 1 1], !true), (.agg #[.string ⟨#[38, 38]⟩, .string ⟨#[]⟩, .slice (some ⟨wc.heap.size + 1 + 1, 0, none⟩) 2 2], true && bv), (.agg #[.string ⟨#[124, 124]⟩, .string ⟨#[]⟩, .slice (some ⟨wc.heap.size + 1 + 1 + 1 + 1, 0, none⟩) 2 2], true || bv), (.agg #[.string ⟨x.op.toArray⟩, .string ⟨x.tag.toArray⟩, .slice a1 x.kids.length c1], true), (.agg #[.string ⟨y.op.toArray⟩, .string ⟨y.tag.toArray⟩, .slice a2 y.kids.length c2], bv)] from by
              intro v r hm W ct hS
              simp only [List.mem_cons, Prod.mk.injEq, List.not_mem_nil, or_false] at hm
              rcases hm with ⟨rfl, rfl⟩ | ⟨rfl, rfl⟩ | ⟨rfl, rfl⟩ | ⟨rfl, rfl⟩ | ⟨rfl, rfl⟩
              · exact tab_h hS HKB.out (notX x) _ 1 (.head _) (.head _) (by have := HTL.out; omega) _ (by rw [HPL.out.1, HAV.out]; try rfl) ct
              · exact tab_h hS HKB.out (bothX x y) _ 2 (.tail _ (.head _)) (.head _) (by have := HTL.out; omega) _ (by rw [HPL.out.2.1, HAV.out, HBV.out]; try rfl) ct
              · exact tab_h hS HKB.out (oneX x y) _ 2 (.tail _ (.tail _ (.head _))) (.head _) (by have := HTL.out; omega) _ (by rw [HPL.out.2.2.1, HAV.out, HBV.out]; try rfl) ct
              · exact tab_h hS HKB.out x _ _ (.tail _ (.tail _ (.tail _ (.head _)))) (.head _) (by have := HTL.out; omega) _ HAV.out ct
              · exact tab_h hS HKB.out y _ _ (.tail _ (.tail _ (.tail _ (.tail _ (.head _))))) (.head _) (by have := HTL.out; omega) _ HBV.out ct)
            go_wp2_with fail
            refine wp_region_held_drew (S := Pk w (turnB P Q wc.heap.size x y a1 c1 a2 c2) [(notX x, some ⟨wc.heap.size, 0, none⟩, 1), (bothX x y, some ⟨wc.heap.size + 1 + 1, 0, none⟩, 2), (oneX x y, some ⟨wc.heap.size + 1 + 1 + 1 + 1, 0, none⟩, 2), (x, a1, c1), (y, a2, c2)] [(tags, at_)]) (by kernel_rfl) (HP.out.on HKB.out (Below.refl _ _).drew) (fun hHeld => ?_)
            (refine wpAnyH_take (i := 0) (v := ?_) rfl (by decide +kernel) (by decide +kernel) (by decide +kernel) (fun _ _ _ h => h) (Or.inl ⟨?_, ?_⟩) hHeld ?_; rotate_left 1; (focus rfl); (focus (intro w9 hSw; obtain ⟨⟨q0, q1, q2⟩, ⟨s0, s1, s2⟩, ⟨n0, n1, n2⟩, ⟨m0, m1, m2⟩, o0, o1, o2⟩ := hSw.cells; go_simp; (try with_reducible rfl); done)); (try simp only [Act.put, List.setIfInBounds_toArray, List.set_cons_zero, List.set_cons_succ, List.getElem_toArray, List.getElem_cons_zero, List.getElem_cons_succ]))
            (refine wpAnyH_take (i := 1) (v := ?_) rfl (by decide +kernel) (by decide +kernel) (by decide +kernel) (fun _ _ _ h => h) (Or.inl ⟨?_, ?_⟩) hHeld ?_; rotate_left 1; (focus rfl); (focus (intro w9 hSw; go_simp; (try with_reducible rfl); done)); (try simp only [Act.put, List.setIfInBounds_toArray, List.set_cons_zero, List.set_cons_succ, List.getElem_toArray, List.getElem_cons_zero, List.getElem_cons_succ]))
            (refine wpAnyH_take (i := 3) (v := ?_) rfl (by decide +kernel) (by decide +kernel) (by decide +kernel) (fun _ _ _ h => h) (Or.inl ⟨?_, ?_⟩) hHeld ?_; rotate_left 1; (focus rfl); (focus (intro w9 hSw; obtain ⟨⟨q0, q1, q2⟩, ⟨s0, s1, s2⟩, ⟨n0, n1, n2⟩, ⟨m0, m1, m2⟩, o0, o1, o2⟩ := hSw.cells; go_simp; (try with_reducible rfl); done)); (try simp only [Act.put, List.setIfInBounds_toArray, List.set_cons_zero, List.set_cons_succ, List.getElem_toArray, List.getElem_cons_zero, List.getElem_cons_succ]))
            (refine wpAnyH_take (i := 4) (v := ?_) rfl (by decide +kernel) (by decide +kernel) (by decide +kernel) (fun _ _ _ h => h) (Or.inl ⟨?_, ?_⟩) hHeld ?_; rotate_left 1; (focus rfl); (focus (intro w9 hSw; go_simp; (try with_reducible rfl); done)); (try simp only [Act.put, List.setIfInBounds_toArray, List.set_cons_zero, List.set_cons_succ, List.getElem_toArray, List.getElem_cons_zero, List.getElem_cons_succ]))
            refine wpAnyH_ready (rs := [2]) (by decide +kernel) (by simp) ?_
            refine AllReadyH.cons rfl (fun K hK => ?_) AllReadyH.nil
            rw [if_pos (by rfl)]
            go_simp
            refine (turn_holds hHeld HR.out HTL.out _ true (.tail _ (.tail _ (.tail _ (.head _))))).mono ?_
            rintro e W5 ⟨rfl, HP⟩
            refine hK.out _ _ HP.out (fun hHeld => ?_)
            clear hK K
            (try simp only [Act.put, List.setIfInBounds_toArray, List.set_cons_zero, List.set_cons_succ, List.getElem_toArray, List.getElem_cons_zero, List.getElem_cons_succ])
            refine wpAnyH_ready (rs := [5]) (by decide +kernel) (by simp) ?_
            refine AllReadyH.cons rfl (fun K hK => ?_) AllReadyH.nil
            rw [if_pos (by rfl)]
            go_simp
            refine (turn_holds hHeld HR.out HTL.out _ bv (.tail _ (.tail _ (.tail _ (.tail _ (.head _)))))).mono ?_
            rintro e W5 ⟨rfl, HP⟩
            refine hK.out _ _ HP.out (fun hHeld => ?_)
            clear hK K
            (try simp only [Act.put, List.setIfInBounds_toArray, List.set_cons_zero, List.set_cons_succ, List.getElem_toArray, List.getElem_cons_zero, List.getElem_cons_succ])
            (refine wpAnyH_take (i := 6) (v := ?_) rfl (by decide +kernel) (by decide +kernel) (by decide +kernel) (fun _ _ _ h => h) (Or.inl ⟨?_, ?_⟩) hHeld ?_; rotate_left 1; (focus rfl); (focus (intro w9 hSw; go_simp; (try with_reducible rfl); done)); (try simp only [Act.put, List.setIfInBounds_toArray, List.set_cons_zero, List.set_cons_succ, List.getElem_toArray, List.getElem_cons_zero, List.getElem_cons_succ]))
            (refine wpAnyH_take (i := 7) (v := ?_) rfl (by decide +kernel) (by decide +kernel) (by decide +kernel) (fun _ _ _ h => h) (Or.inl ⟨?_, ?_⟩) hHeld ?_; rotate_left 1; (focus rfl); (focus (intro w9 hSw; go_simp; (try with_reducible rfl); done)); (try simp only [Act.put, List.setIfInBounds_toArray, List.set_cons_zero, List.set_cons_succ, List.getElem_toArray, List.getElem_cons_zero, List.getElem_cons_succ]))
            refine wpAnyH_done (by decide +kernel) ?_ _
            go_wp2_with fail
            refine wp_region_held_drew (S := Pk w (turnB P Q wc.heap.size x y a1 c1 a2 c2) [(notX x, some ⟨wc.heap.size, 0, none⟩, 1), (bothX x y, some ⟨wc.heap.size + 1 + 1, 0, none⟩, 2), (oneX x y, some ⟨wc.heap.size + 1 + 1 + 1 + 1, 0, none⟩, 2), (x, a1, c1), (y, a2, c2)] [(tags, at_)]) (by kernel_rfl) (hHeld.on HKB.out (Below.refl _ _).drew) (fun hHeld => ?_)
            (refine wpAnyH_take (i := 0) (v := ?_) rfl (by decide +kernel) (by decide +kernel) (by decide +kernel) (fun _ _ _ h => h) (Or.inl ⟨?_, ?_⟩) hHeld ?_; rotate_left 1; (focus rfl); (focus (intro w9 hSw; obtain ⟨⟨q0, q1, q2⟩, ⟨s0, s1, s2⟩, ⟨n0, n1, n2⟩, ⟨m0, m1, m2⟩, o0, o1, o2⟩ := hSw.cells; go_simp; (try with_reducible rfl); done)); (try simp only [Act.put, List.setIfInBounds_toArray, List.set_cons_zero, List.set_cons_succ, List.getElem_toArray, List.getElem_cons_zero, List.getElem_cons_succ]))
            (refine wpAnyH_take (i := 1) (v := ?_) rfl (by decide +kernel) (by decide +kernel) (by decide +kernel) (fun _ _ _ h => h) (Or.inl ⟨?_, ?_⟩) hHeld ?_; rotate_left 1; (focus rfl); (focus (intro w9 hSw; go_simp; (try with_reducible rfl); done)); (try simp only [Act.put, List.setIfInBounds_toArray, List.set_cons_zero, List.set_cons_succ, List.getElem_toArray, List.getElem_cons_zero, List.getElem_cons_succ]))
            (refine wpAnyH_take (i := 3) (v := ?_) rfl (by decide +kernel) (by decide +kernel) (by decide +kernel) (fun _ _ _ h => h) (Or.inl ⟨?_, ?_⟩) hHeld ?_; rotate_left 1; (focus rfl); (focus (intro w9 hSw; go_simp; (try with_reducible rfl); done)); (try simp only [Act.put, List.setIfInBounds_toArray, List.set_cons_zero, List.set_cons_succ, List.getElem_toArray, List.getElem_cons_zero, List.getElem_cons_succ]))
            (refine wpAnyH_take (i := 4) (v := ?_) rfl (by decide +kernel) (by decide +kernel) (by decide +kernel) (fun _ _ _ h => h) (Or.inl ⟨?_, ?_⟩) hHeld ?_; rotate_left 1; (focus rfl); (focus (intro w9 hSw; go_simp; (try with_reducible rfl); done)); (try simp only [Act.put, List.setIfInBounds_toArray, List.set_cons_zero, List.set_cons_succ, List.getElem_toArray, List.getElem_cons_zero, List.getElem_cons_succ]))
            refine wpAnyH_ready (rs := [2]) (by decide +kernel) (by simp) ?_
            refine AllReadyH.cons rfl (fun K hK => ?_) AllReadyH.nil
            rw [if_pos (by rfl)]
            go_simp
            refine (turn_holds hHeld HR.out HTL.out (.agg #[.string ⟨#[33]⟩, .string ⟨#[]⟩, .slice (some ⟨wc.heap.size, 0, none⟩) 1 1]) (!true) (.head _)).mono ?_
            rintro e W5 ⟨rfl, HP⟩
            refine hK.out _ _ HP.out (fun hHeld => ?_)
            clear hK K
            (try simp only [Act.put, List.setIfInBounds_toArray, List.set_cons_zero, List.set_cons_succ, List.getElem_toArray, List.getElem_cons_zero, List.getElem_cons_succ])
            (refine wpAnyH_take (i := 5) (v := ?_) rfl (by decide +kernel) (by decide +kernel) (by decide +kernel) (fun _ _ _ h => h) (Or.inl ⟨?_, ?_⟩) hHeld ?_; rotate_left 1; (focus rfl); (focus (intro w9 hSw; go_simp; (try with_reducible rfl); done)); (try simp only [Act.put, List.setIfInBounds_toArray, List.set_cons_zero, List.set_cons_succ, List.getElem_toArray, List.getElem_cons_zero, List.getElem_cons_succ]))
            (refine wpAnyH_take (i := 6) (v := ?_) rfl (by decide +kernel) (by decide +kernel) (by decide +kernel) (fun _ _ _ h => h) (Or.inl ⟨?_, ?_⟩) hHeld ?_; rotate_left 1; (focus rfl); (focus (intro w9 hSw; go_simp; (try with_reducible rfl); done)); (try simp only [Act.put, List.setIfInBounds_toArray, List.set_cons_zero, List.set_cons_succ, List.getElem_toArray, List.getElem_cons_zero, List.getElem_cons_succ]))
            (refine wpAnyH_take (i := 7) (v := ?_) rfl (by decide +kernel) (by decide +kernel) (by decide +kernel) (fun _ _ _ h => h) (Or.inl ⟨?_, ?_⟩) hHeld ?_; rotate_left 1; (focus rfl); (focus (intro w9 hSw; obtain ⟨⟨q0, q1, q2⟩, ⟨s0, s1, s2⟩, ⟨n0, n1, n2⟩, ⟨m0, m1, m2⟩, o0, o1, o2⟩ := hSw.cells; go_simp; (try with_reducible rfl); done)); (try simp only [Act.put, List.setIfInBounds_toArray, List.set_cons_zero, List.set_cons_succ, List.getElem_toArray, List.getElem_cons_zero, List.getElem_cons_succ]))
            (refine wpAnyH_take (i := 8) (v := ?_) rfl (by decide +kernel) (by decide +kernel) (by decide +kernel) (fun _ _ _ h => h) (Or.inl ⟨?_, ?_⟩) hHeld ?_; rotate_left 1; (focus rfl); (focus (intro w9 hSw; go_simp; (try with_reducible rfl); done)); (try simp only [Act.put, List.setIfInBounds_toArray, List.set_cons_zero, List.set_cons_succ, List.getElem_toArray, List.getElem_cons_zero, List.getElem_cons_succ]))
            (refine wpAnyH_take (i := 10) (v := ?_) rfl (by decide +kernel) (by decide +kernel) (by decide +kernel) (fun _ _ _ h => h) (Or.inl ⟨?_, ?_⟩) hHeld ?_; rotate_left 1; (focus rfl); (focus (intro w9 hSw; go_simp; (try with_reducible rfl); done)); (try simp only [Act.put, List.setIfInBounds_toArray, List.set_cons_zero, List.set_cons_succ, List.getElem_toArray, List.getElem_cons_zero, List.getElem_cons_succ]))
            refine wpAnyH_ready (rs := [9]) (by decide +kernel) (by simp) ?_
            refine AllReadyH.cons rfl (fun K hK => ?_) AllReadyH.nil
            rw [if_pos (by rfl)]
            go_simp
            refine (turn_holds hHeld HR.out HTL.out (.agg #[.string ⟨#[38, 38]⟩, .string ⟨#[]⟩, .slice (some ⟨wc.heap.size + 1 + 1, 0, none⟩) 2 2]) (true && bv) (.tail _ (.head _))).mono ?_
            rintro e W5 ⟨rfl, HP⟩
            refine hK.out _ _ HP.out (fun hHeld => ?_)
            clear hK K
            (try simp only [Act.put, List.setIfInBounds_toArray, List.set_cons_zero, List.set_cons_succ, List.getElem_toArray, List.getElem_cons_zero, List.getElem_cons_succ])
            (refine wpAnyH_take (i := 11) (v := ?_) rfl (by decide +kernel) (by decide +kernel) (by decide +kernel) (fun _ _ _ h => h) (Or.inl ⟨?_, ?_⟩) hHeld ?_; rotate_left 1; (focus rfl); (focus (intro w9 hSw; go_simp; (try with_reducible rfl); done)); (try simp only [Act.put, List.setIfInBounds_toArray, List.set_cons_zero, List.set_cons_succ, List.getElem_toArray, List.getElem_cons_zero, List.getElem_cons_succ]))
            (refine wpAnyH_take (i := 12) (v := ?_) rfl (by decide +kernel) (by decide +kernel) (by decide +kernel) (fun _ _ _ h => h) (Or.inl ⟨?_, ?_⟩) hHeld ?_; rotate_left 1; (focus rfl); (focus (intro w9 hSw; go_simp; (try with_reducible rfl); done)); (try simp only [Act.put, List.setIfInBounds_toArray, List.set_cons_zero, List.set_cons_succ, List.getElem_toArray, List.getElem_cons_zero, List.getElem_cons_succ]))
            (refine wpAnyH_take (i := 13) (v := ?_) rfl (by decide +kernel) (by decide +kernel) (by decide +kernel) (fun _ _ _ h => h) (Or.inl ⟨?_, ?_⟩) hHeld ?_; rotate_left 1; (focus rfl); (focus (intro w9 hSw; go_simp; (try with_reducible rfl); done)); (try simp only [Act.put, List.setIfInBounds_toArray, List.set_cons_zero, List.set_cons_succ, List.getElem_toArray, List.getElem_cons_zero, List.getElem_cons_succ]))
            (refine wpAnyH_take (i := 14) (v := ?_) rfl (by decide +kernel) (by decide +kernel) (by decide +kernel) (fun _ _ _ h => h) (Or.inl ⟨?_, ?_⟩) hHeld ?_; rotate_left 1; (focus rfl); (focus (intro w9 hSw; go_simp; (try with_reducible rfl); done)); (try simp only [Act.put, List.setIfInBounds_toArray, List.set_cons_zero, List.set_cons_succ, List.getElem_toArray, List.getElem_cons_zero, List.getElem_cons_succ]))
            (refine wpAnyH_take (i := 15) (v := ?_) rfl (by decide +kernel) (by decide +kernel) (by decide +kernel) (fun _ _ _ h => h) (Or.inl ⟨?_, ?_⟩) hHeld ?_; rotate_left 1; (focus rfl); (focus (intro w9 hSw; go_simp; (try with_reducible rfl); done)); (try simp only [Act.put, List.setIfInBounds_toArray, List.set_cons_zero, List.set_cons_succ, List.getElem_toArray, List.getElem_cons_zero, List.getElem_cons_succ]))
            (refine wpAnyH_take (i := 16) (v := ?_) rfl (by decide +kernel) (by decide +kernel) (by decide +kernel) (fun _ _ _ h => h) (Or.inl ⟨?_, ?_⟩) hHeld ?_; rotate_left 1; (focus rfl); (focus (intro w9 hSw; go_simp; (try with_reducible rfl); done)); (try simp only [Act.put, List.setIfInBounds_toArray, List.set_cons_zero, List.set_cons_succ, List.getElem_toArray, List.getElem_cons_zero, List.getElem_cons_succ]))
            (refine wpAnyH_take (i := 17) (v := ?_) rfl (by decide +kernel) (by decide +kernel) (by decide +kernel) (fun _ _ _ h => h) (Or.inl ⟨?_, ?_⟩) hHeld ?_; rotate_left 1; (focus rfl); (focus (intro w9 hSw; obtain ⟨⟨q0, q1, q2⟩, ⟨s0, s1, s2⟩, ⟨n0, n1, n2⟩, ⟨m0, m1, m2⟩, o0, o1, o2⟩ := hSw.cells; go_simp; (try with_reducible rfl); done)); (try simp only [Act.put, List.setIfInBounds_toArray, List.set_cons_zero, List.set_cons_succ, List.getElem_toArray, List.getElem_cons_zero, List.getElem_cons_succ]))
            (refine wpAnyH_take (i := 18) (v := ?_) rfl (by decide +kernel) (by decide +kernel) (by decide +kernel) (fun _ _ _ h => h) (Or.inl ⟨?_, ?_⟩) hHeld ?_; rotate_left 1; (focus rfl); (focus (intro w9 hSw; go_simp; (try with_reducible rfl); done)); (try simp only [Act.put, List.setIfInBounds_toArray, List.set_cons_zero, List.set_cons_succ, List.getElem_toArray, List.getElem_cons_zero, List.getElem_cons_succ]))
            (refine wpAnyH_take (i := 20) (v := ?_) rfl (by decide +kernel) (by decide +kernel) (by decide +kernel) (fun _ _ _ h => h) (Or.inl ⟨?_, ?_⟩) hHeld ?_; rotate_left 1; (focus rfl); (focus (intro w9 hSw; go_simp; (try with_reducible rfl); done)); (try simp only [Act.put, List.setIfInBounds_toArray, List.set_cons_zero, List.set_cons_succ, List.getElem_toArray, List.getElem_cons_zero, List.getElem_cons_succ]))
            refine wpAnyH_ready (rs := [19]) (by decide +kernel) (by simp) ?_
            refine AllReadyH.cons rfl (fun K hK => ?_) AllReadyH.nil
            rw [if_pos (by rfl)]
            go_simp
            refine (turn_holds hHeld HR.out HTL.out (.agg #[.string ⟨#[124, 124]⟩, .string ⟨#[]⟩, .slice (some ⟨wc.heap.size + 1 + 1 + 1 + 1, 0, none⟩) 2 2]) (true || bv) (.tail _ (.tail _ (.head _)))).mono ?_
            rintro e W5 ⟨rfl, HP⟩
            refine hK.out _ _ HP.out (fun hHeld => ?_)
            clear hK K
            (try simp only [Act.put, List.setIfInBounds_toArray, List.set_cons_zero, List.set_cons_succ, List.getElem_toArray, List.getElem_cons_zero, List.getElem_cons_succ])
            (refine wpAnyH_take (i := 21) (v := ?_) rfl (by decide +kernel) (by decide +kernel) (by decide +kernel) (fun _ _ _ h => h) (Or.inl ⟨?_, ?_⟩) hHeld ?_; rotate_left 1; (focus rfl); (focus (intro w9 hSw; go_simp; (try with_reducible rfl); done)); (try simp only [Act.put, List.setIfInBounds_toArray, List.set_cons_zero, List.set_cons_succ, List.getElem_toArray, List.getElem_cons_zero, List.getElem_cons_succ]))
            (refine wpAnyH_take (i := 22) (v := undef) rfl (by decide +kernel) (by decide +kernel) (by decide +kernel) (fun _ _ _ h => h) (Or.inr ⟨?_, rfl⟩) hHeld ?_; (focus rfl); (try simp only [Act.put, List.setIfInBounds_toArray, List.set_cons_zero, List.set_cons_succ, List.getElem_toArray, List.getElem_cons_zero, List.getElem_cons_succ]))
            (refine wpAnyH_take (i := 23) (v := ?_) rfl (by decide +kernel) (by decide +kernel) (by decide +kernel) (fun _ _ _ h => h) (Or.inl ⟨?_, ?_⟩) hHeld ?_; rotate_left 1; (focus rfl); (focus (intro w9 hSw; go_simp; (try with_reducible rfl); done)); (try simp only [Act.put, List.setIfInBounds_toArray, List.set_cons_zero, List.set_cons_succ, List.getElem_toArray, List.getElem_cons_zero, List.getElem_cons_succ]))
            (refine wpAnyH_take (i := 24) (v := ?_) rfl (by decide +kernel) (by decide +kernel) (by decide +kernel) (fun _ _ _ h => h) (Or.inl ⟨?_, ?_⟩) hHeld ?_; rotate_left 1; (focus rfl); (focus (intro w9 hSw; go_simp; (try with_reducible rfl); done)); (try simp only [Act.put, List.setIfInBounds_toArray, List.set_cons_zero, List.set_cons_succ, List.getElem_toArray, List.getElem_cons_zero, List.getElem_cons_succ]))
            (refine wpAnyH_take (i := 25) (v := ?_) rfl (by decide +kernel) (by decide +kernel) (by decide +kernel) (fun _ _ _ h => h) (Or.inl ⟨?_, ?_⟩) hHeld ?_; rotate_left 1; (focus rfl); (focus (intro w9 hSw; go_simp; (try with_reducible rfl); done)); (try simp only [Act.put, List.setIfInBounds_toArray, List.set_cons_zero, List.set_cons_succ, List.getElem_toArray, List.getElem_cons_zero, List.getElem_cons_succ]))
            (refine wpAnyH_take (i := 26) (v := ?_) rfl (by decide +kernel) (by decide +kernel) (by decide +kernel) (fun _ _ _ h => h) (Or.inl ⟨?_, ?_⟩) hHeld ?_; rotate_left 1; (focus rfl); (focus (intro w9 hSw; go_simp; (try with_reducible rfl); done)); (try simp only [Act.put, List.setIfInBounds_toArray, List.set_cons_zero, List.set_cons_succ, List.getElem_toArray, List.getElem_cons_zero, List.getElem_cons_succ]))
            (refine wpAnyH_take (i := 27) (v := ?_) rfl (by decide +kernel) (by decide +kernel) (by decide +kernel) (fun _ _ _ h => h) (Or.inl ⟨?_, ?_⟩) hHeld ?_; rotate_left 1; (focus rfl); (focus (intro w9 hSw; obtain ⟨⟨q0, q1, q2⟩, ⟨s0, s1, s2⟩, ⟨n0, n1, n2⟩, ⟨m0, m1, m2⟩, o0, o1, o2⟩ := hSw.cells; go_simp; (try with_reducible rfl); done)); (try simp only [Act.put, List.setIfInBounds_toArray, List.set_cons_zero, List.set_cons_succ, List.getElem_toArray, List.getElem_cons_zero, List.getElem_cons_succ]))
            (refine wpAnyH_take (i := 29) (v := ?_) rfl (by decide +kernel) (by decide +kernel) (by decide +kernel) (fun _ _ _ h => h) (Or.inl ⟨?_, ?_⟩) hHeld ?_; rotate_left 1; (focus rfl); (focus (intro w9 hSw; obtain ⟨⟨q0, q1, q2⟩, ⟨s0, s1, s2⟩, ⟨n0, n1, n2⟩, ⟨m0, m1, m2⟩, o0, o1, o2⟩ := hSw.cells; go_simp; (try with_reducible rfl); done)); (try simp only [Act.put, List.setIfInBounds_toArray, List.set_cons_zero, List.set_cons_succ, List.getElem_toArray, List.getElem_cons_zero, List.getElem_cons_succ]))
            (refine wpAnyH_take (i := 31) (v := ?_) rfl (by decide +kernel) (by decide +kernel) (by decide +kernel) (fun _ _ _ h => h) (Or.inl ⟨?_, ?_⟩) hHeld ?_; rotate_left 1; (focus rfl); (focus (intro w9 hSw; obtain ⟨⟨q0, q1, q2⟩, ⟨s0, s1, s2⟩, ⟨n0, n1, n2⟩, ⟨m0, m1, m2⟩, o0, o1, o2⟩ := hSw.cells; go_simp; (try with_reducible rfl); done)); (try simp only [Act.put, List.setIfInBounds_toArray, List.set_cons_zero, List.set_cons_succ, List.getElem_toArray, List.getElem_cons_zero, List.getElem_cons_succ]))
            refine wpAnyH_ready (rs := [28]) (by decide +kernel) (by simp) ?_
            refine AllReadyH.cons rfl (fun K hK => ?_) AllReadyH.nil
            rw [if_pos (by rfl)]
            go_simp
            refine (turn_least hHeld HRL.out _ LBV (.head _)).mono ?_
            rintro e W5 ⟨rfl, HP⟩
            refine hK.out _ _ HP.out (fun hHeld => ?_)
            clear hK K
            (try simp only [Act.put, List.setIfInBounds_toArray, List.set_cons_zero, List.set_cons_succ, List.getElem_toArray, List.getElem_cons_zero, List.getElem_cons_succ])
            refine wpAnyH_ready (rs := [30]) (by decide +kernel) (by simp) ?_
            refine AllReadyH.cons rfl (fun K hK => ?_) AllReadyH.nil
            rw [if_pos (by rfl)]
            go_simp
            refine (turn_least hHeld HRL.out _ LX (.tail _ (.tail _ (.head _)))).mono ?_
            rintro e W5 ⟨rfl, HP⟩
            refine hK.out _ _ HP.out (fun hHeld => ?_)
            clear hK K
            (try simp only [Act.put, List.setIfInBounds_toArray, List.set_cons_zero, List.set_cons_succ, List.getElem_toArray, List.getElem_cons_zero, List.getElem_cons_succ])
            refine wpAnyH_ready (rs := [32]) (by decide +kernel) (by simp) ?_
            refine AllReadyH.cons rfl (fun K hK => ?_) AllReadyH.nil
            rw [if_pos (by rfl)]
            go_simp
            refine (turn_least hHeld HRL.out _ LY (.tail _ (.tail _ (.tail _ (.head _))))).mono ?_
            rintro e W5 ⟨rfl, HP⟩
            refine hK.out _ _ HP.out (fun hHeld => ?_)
            clear hK K
            (try simp only [Act.put, List.setIfInBounds_toArray, List.set_cons_zero, List.set_cons_succ, List.getElem_toArray, List.getElem_cons_zero, List.getElem_cons_succ])
            (refine wpAnyH_take (i := 33) (v := ?_) rfl (by decide +kernel) (by decide +kernel) (by decide +kernel) (fun _ _ _ h => h) (Or.inl ⟨?_, ?_⟩) hHeld ?_; rotate_left 1; (focus rfl); (focus (intro w9 hSw; go_simp; (try with_reducible rfl); done)); (try simp only [Act.put, List.setIfInBounds_toArray, List.set_cons_zero, List.set_cons_succ, List.getElem_toArray, List.getElem_cons_zero, List.getElem_cons_succ]))
            (refine wpAnyH_take (i := 34) (v := ?_) rfl (by decide +kernel) (by decide +kernel) (by decide +kernel) (fun _ _ _ h => h) (Or.inl ⟨?_, ?_⟩) hHeld ?_; rotate_left 1; (focus rfl); (focus (intro w9 hSw; go_simp; (try with_reducible rfl); done)); (try simp only [Act.put, List.setIfInBounds_toArray, List.set_cons_zero, List.set_cons_succ, List.getElem_toArray, List.getElem_cons_zero, List.getElem_cons_succ]))
            (refine wpAnyH_take (i := 35) (v := ?_) rfl (by decide +kernel) (by decide +kernel) (by decide +kernel) (fun _ _ _ h => h) (Or.inl ⟨?_, ?_⟩) hHeld ?_; rotate_left 1; (focus rfl); (focus (intro w9 hSw; go_simp; (try with_reducible rfl); done)); (try simp only [Act.put, List.setIfInBounds_toArray, List.set_cons_zero, List.set_cons_succ, List.getElem_toArray, List.getElem_cons_zero, List.getElem_cons_succ]))
            (refine wpAnyH_take (i := 36) (v := ?_) rfl (by decide +kernel) (by decide +kernel) (by decide +kernel) (fun _ _ _ h => h) (Or.inl ⟨?_, ?_⟩) hHeld ?_; rotate_left 1; (focus rfl); (focus (intro w9 hSw; go_simp; (try with_reducible rfl); done)); (try simp only [Act.put, List.setIfInBounds_toArray, List.set_cons_zero, List.set_cons_succ, List.getElem_toArray, List.getElem_cons_zero, List.getElem_cons_succ]))
            (refine wpAnyH_take (i := 37) (v := ?_) rfl (by decide +kernel) (by decide +kernel) (by decide +kernel) (fun _ _ _ h => h) (Or.inl ⟨?_, ?_⟩) hHeld ?_; rotate_left 1; (focus rfl); (focus (intro w9 hSw; obtain ⟨⟨q0, q1, q2⟩, ⟨s0, s1, s2⟩, ⟨n0, n1, n2⟩, ⟨m0, m1, m2⟩, o0, o1, o2⟩ := hSw.cells; go_simp; (try with_reducible rfl); done)); (try simp only [Act.put, List.setIfInBounds_toArray, List.set_cons_zero, List.set_cons_succ, List.getElem_toArray, List.getElem_cons_zero, List.getElem_cons_succ]))
            (refine wpAnyH_take (i := 39) (v := ?_) rfl (by decide +kernel) (by decide +kernel) (by decide +kernel) (fun _ _ _ h => h) (Or.inl ⟨?_, ?_⟩) hHeld ?_; rotate_left 1; (focus rfl); (focus (intro w9 hSw; obtain ⟨⟨q0, q1, q2⟩, ⟨s0, s1, s2⟩, ⟨n0, n1, n2⟩, ⟨m0, m1, m2⟩, o0, o1, o2⟩ := hSw.cells; go_simp; (try with_reducible rfl); done)); (try simp only [Act.put, List.setIfInBounds_toArray, List.set_cons_zero, List.set_cons_succ, List.getElem_toArray, List.getElem_cons_zero, List.getElem_cons_succ]))
            (refine wpAnyH_take (i := 41) (v := ?_) rfl (by decide +kernel) (by decide +kernel) (by decide +kernel) (fun _ _ _ h => h) (Or.inl ⟨?_, ?_⟩) hHeld ?_; rotate_left 1; (focus rfl); (focus (intro w9 hSw; obtain ⟨⟨q0, q1, q2⟩, ⟨s0, s1, s2⟩, ⟨n0, n1, n2⟩, ⟨m0, m1, m2⟩, o0, o1, o2⟩ := hSw.cells; go_simp; (try with_reducible rfl); done)); (try simp only [Act.put, List.setIfInBounds_toArray, List.set_cons_zero, List.set_cons_succ, List.getElem_toArray, List.getElem_cons_zero, List.getElem_cons_succ]))
            refine wpAnyH_ready (rs := [38]) (by decide +kernel) (by simp) ?_
            refine AllReadyH.cons rfl (fun K hK => ?_) AllReadyH.nil
            rw [if_pos (by rfl)]
            go_simp
            refine (turn_least hHeld HRL.out _ LOV (.tail _ (.head _))).mono ?_
            rintro e W5 ⟨rfl, HP⟩
            refine hK.out _ _ HP.out (fun hHeld => ?_)
            clear hK K
            (try simp only [Act.put, List.setIfInBounds_toArray, List.set_cons_zero, List.set_cons_succ, List.getElem_toArray, List.getElem_cons_zero, List.getElem_cons_succ])
            refine wpAnyH_ready (rs := [40]) (by decide +kernel) (by simp) ?_
            refine AllReadyH.cons rfl (fun K hK => ?_) AllReadyH.nil
            rw [if_pos (by rfl)]
            go_simp
            refine (turn_least hHeld HRL.out _ LX (.tail _ (.tail _ (.head _)))).mono ?_
            rintro e W5 ⟨rfl, HP⟩
            refine hK.out _ _ HP.out (fun hHeld => ?_)
            clear hK K
            (try simp only [Act.put, List.setIfInBounds_toArray, List.set_cons_zero, List.set_cons_succ, List.getElem_toArray, List.getElem_cons_zero, List.getElem_cons_succ])
            refine wpAnyH_ready (rs := [42]) (by decide +kernel) (by simp) ?_
            refine AllReadyH.cons rfl (fun K hK => ?_) AllReadyH.nil
            rw [if_pos (by rfl)]
            go_simp
            refine (turn_least hHeld HRL.out _ LY (.tail _ (.tail _ (.tail _ (.head _))))).mono ?_
            rintro e W5 ⟨rfl, HP⟩
            refine hK.out _ _ HP.out (fun hHeld => ?_)
            clear hK K
            (try simp only [Act.put, List.setIfInBounds_toArray, List.set_cons_zero, List.set_cons_succ, List.getElem_toArray, List.getElem_cons_zero, List.getElem_cons_succ])
            (refine wpAnyH_take (i := 43) (v := ?_) rfl (by decide +kernel) (by decide +kernel) (by decide +kernel) (fun _ _ _ h => h) (Or.inl ⟨?_, ?_⟩) hHeld ?_; rotate_left 1; (focus rfl); (focus (intro w9 hSw; go_simp; (try with_reducible rfl); done)); (try simp only [Act.put, List.setIfInBounds_toArray, List.set_cons_zero, List.set_cons_succ, List.getElem_toArray, List.getElem_cons_zero, List.getElem_cons_succ]))
            (refine wpAnyH_take (i := 44) (v := ?_) rfl (by decide +kernel) (by decide +kernel) (by decide +kernel) (fun _ _ _ h => h) (Or.inl ⟨?_, ?_⟩) hHeld ?_; rotate_left 1; (focus rfl); (focus (intro w9 hSw; go_simp; (try with_reducible rfl); done)); (try simp only [Act.put, List.setIfInBounds_toArray, List.set_cons_zero, List.set_cons_succ, List.getElem_toArray, List.getElem_cons_zero, List.getElem_cons_succ]))
            (refine wpAnyH_take (i := 45) (v := ?_) rfl (by decide +kernel) (by decide +kernel) (by decide +kernel) (fun _ _ _ h => h) (Or.inl ⟨?_, ?_⟩) hHeld ?_; rotate_left 1; (focus rfl); (focus (intro w9 hSw; go_simp; (try with_reducible rfl); done)); (try simp only [Act.put, List.setIfInBounds_toArray, List.set_cons_zero, List.set_cons_succ, List.getElem_toArray, List.getElem_cons_zero, List.getElem_cons_succ]))
            (refine wpAnyH_take (i := 46) (v := ?_) rfl (by decide +kernel) (by decide +kernel) (by decide +kernel) (fun _ _ _ h => h) (Or.inl ⟨?_, ?_⟩) hHeld ?_; rotate_left 1; (focus rfl); (focus (intro w9 hSw; go_simp; (try with_reducible rfl); done)); (try simp only [Act.put, List.setIfInBounds_toArray, List.set_cons_zero, List.set_cons_succ, List.getElem_toArray, List.getElem_cons_zero, List.getElem_cons_succ]))
            (refine wpAnyH_take (i := 47) (v := ?_) rfl (by decide +kernel) (by decide +kernel) (by decide +kernel) (fun _ _ _ h => h) (Or.inl ⟨?_, ?_⟩) hHeld ?_; rotate_left 1; (focus rfl); (focus (intro w9 hSw; obtain ⟨⟨q0, q1, q2⟩, ⟨s0, s1, s2⟩, ⟨n0, n1, n2⟩, ⟨m0, m1, m2⟩, o0, o1, o2⟩ := hSw.cells; go_simp; (try with_reducible rfl); done)); (try simp only [Act.put, List.setIfInBounds_toArray, List.set_cons_zero, List.set_cons_succ, List.getElem_toArray, List.getElem_cons_zero, List.getElem_cons_succ]))
            refine wpAnyH_ready (rs := [48]) (by decide +kernel) (by simp) ?_
            refine AllReadyH.cons rfl (fun K hK => ?_) AllReadyH.nil
            rw [if_pos (by rfl)]
            go_simp
            refine (turn_least hHeld HRL.out _ _ (.tail _ (.tail _ (.tail _ (.tail _ (.head _)))))).mono ?_
            rintro e W5 ⟨rfl, HP⟩
            refine hK.out _ _ HP.out (fun hHeld => ?_)
            clear hK K
            (try simp only [Act.put, List.setIfInBounds_toArray, List.set_cons_zero, List.set_cons_succ, List.getElem_toArray, List.getElem_cons_zero, List.getElem_cons_succ])
            (refine wpAnyH_take (i := 49) (v := ?_) rfl (by decide +kernel) (by decide +kernel) (by decide +kernel) (fun _ _ _ h => h) (Or.inl ⟨?_, ?_⟩) hHeld ?_; rotate_left 1; (focus rfl); (focus (intro w9 hSw; go_simp; (try with_reducible rfl); done)); (try simp only [Act.put, List.setIfInBounds_toArray, List.set_cons_zero, List.set_cons_succ, List.getElem_toArray, List.getElem_cons_zero, List.getElem_cons_succ]))
            (refine wpAnyH_take (i := 50) (v := ?_) rfl (by decide +kernel) (by decide +kernel) (by decide +kernel) (fun _ _ _ h => h) (Or.inl ⟨?_, ?_⟩) hHeld ?_; rotate_left 1; (focus rfl); (focus (intro w9 hSw; go_simp; (try with_reducible rfl); done)); (try simp only [Act.put, List.setIfInBounds_toArray, List.set_cons_zero, List.set_cons_succ, List.getElem_toArray, List.getElem_cons_zero, List.getElem_cons_succ]))
            (refine wpAnyH_take (i := 51) (v := ?_) rfl (by decide +kernel) (by decide +kernel) (by decide +kernel) (fun _ _ _ h => h) (Or.inl ⟨?_, ?_⟩) hHeld ?_; rotate_left 1; (focus rfl); (focus (intro w9 hSw; go_simp; (try with_reducible rfl); done)); (try simp only [Act.put, List.setIfInBounds_toArray, List.set_cons_zero, List.set_cons_succ, List.getElem_toArray, List.getElem_cons_zero, List.getElem_cons_succ]))
            refine wpAnyH_ready (rs := [52]) (by decide +kernel) (by simp) ?_
            refine AllReadyH.cons rfl (fun K hK => ?_) AllReadyH.nil
            rw [if_pos (by rfl)]
            go_simp
            refine (pk_awake hHeld HKB.out).mono ?_
            rintro e W5 ⟨rfl, -, HP⟩
            refine hK.out _ _ HP.out (fun hHeld => ?_)
            clear hK K
            (try simp only [Act.put, List.setIfInBounds_toArray, List.set_cons_zero, List.set_cons_succ, List.getElem_toArray, List.getElem_cons_zero, List.getElem_cons_succ])
            (refine wpAnyH_take (i := 53) (v := ?_) rfl (by decide +kernel) (by decide +kernel) (by decide +kernel) (fun _ _ _ h => h) (Or.inl ⟨?_, ?_⟩) hHeld ?_; rotate_left 1; (focus rfl); (focus (intro w9 hSw; go_simp; (try with_reducible rfl); done)); (try simp only [Act.put, List.setIfInBounds_toArray, List.set_cons_zero, List.set_cons_succ, List.getElem_toArray, List.getElem_cons_zero, List.getElem_cons_succ]))
            (refine wpAnyH_take (i := 54) (v := ?_) rfl (by decide +kernel) (by decide +kernel) (by decide +kernel) (fun _ _ _ h => h) (Or.inl ⟨?_, ?_⟩) hHeld ?_; rotate_left 1; (focus rfl); (focus (intro w9 hSw; go_simp; (try with_reducible rfl); done)); (try simp only [Act.put, List.setIfInBounds_toArray, List.set_cons_zero, List.set_cons_succ, List.getElem_toArray, List.getElem_cons_zero, List.getElem_cons_succ]))
            refine wpAnyH_done (by decide +kernel) ?_ _
            go_wp2_with fail
            go_ret
            exact ⟨rfl, HP.out.below⟩
          | false =>
            have HR := Lib.hid (show TabH Tryd.prog (Pk w (turnB P Q wc.heap.size x y a1 c1 a2 c2) [(notX x, some ⟨wc.heap.size, 0, none⟩, 1), (bothX x y, some ⟨wc.heap.size + 1 + 1, 0, none⟩, 2), (oneX x y, some ⟨wc.heap.size + 1 + 1 + 1 + 1, 0, none⟩, 2), (x, a1, c1), (y, a2, c2)] [(tags, at_)]) at_ tags.length [(.agg #[.string ⟨#[33]⟩, .string ⟨#[]⟩, .slice (some ⟨wc.heap.size, 0, none⟩) 1 1], !false), (.agg #[.string ⟨#[38, 38]⟩, .string ⟨#[]⟩, .slice (some ⟨wc.heap.size + 1 + 1, 0, none⟩) 2 2], false && bv), (.agg #[.string ⟨#[124, 124]⟩, .string ⟨#[]⟩, .slice (some ⟨wc.heap.size + 1 + 1 + 1 + 1, 0, none⟩) 2 2], false || bv), (.agg #[.string ⟨x.op.toArray⟩, .string ⟨x.tag.toArray⟩, .slice a1 x.kids.length c1], false), (.agg #[.string ⟨y.op.toArray⟩, .string ⟨y.tag.toArray⟩, .slice a2 y.kids.length c2], bv)] from by
              intro v r hm W ct hS
              simp only [List.mem_cons, Prod.mk.injEq, List.not_mem_nil, or_false] at hm
              rcases hm with ⟨rfl, rfl⟩ | ⟨rfl, rfl⟩ | ⟨rfl, rfl⟩ | ⟨rfl, rfl⟩ | ⟨rfl, rfl⟩
              · exact tab_h hS HKB.out (notX x) _ 1 (.head _) (.head _) (by have := HTL.out; omega) _ (by rw [HPL.out.1, HAV.out]; try rfl) ct
              · exact tab_h hS HKB.out (bothX x y) _ 2 (.tail _ (.head _)) (.head _) (by have := HTL.out; omega) _ (by rw [HPL.out.2.1, HAV.out, HBV.out]; try rfl) ct
              · exact tab_h hS HKB.out (oneX x y) _ 2 (.tail _ (.tail _ (.head _))) (.head _) (by have := HTL.out; omega) _ (by rw [HPL.out.2.2.1, HAV.out, HBV.out]; try rfl) ct
              · exact tab_h hS HKB.out x _ _ (.tail _ (.tail _ (.tail _ (.head _)))) (.head _) (by have := HTL.out; omega) _ HAV.out ct
              · exact tab_h hS HKB.out y _ _ (.tail _ (.tail _ (.tail _ (.tail _ (.head _))))) (.head _) (by have := HTL.out; omega) _ HBV.out ct)
            go_wp2_with fail
            refine wp_region_held_drew (S := Pk w (turnB P Q wc.heap.size x y a1 c1 a2 c2) [(notX x, some ⟨wc.heap.size, 0, none⟩, 1), (bothX x y, some ⟨wc.heap.size + 1 + 1, 0, none⟩, 2), (oneX x y, some ⟨wc.heap.size + 1 + 1 + 1 + 1, 0, none⟩, 2), (x, a1, c1), (y, a2, c2)] [(tags, at_)]) (by kernel_rfl) (HP.out.on HKB.out (Below.refl _ _).drew) (fun hHeld => ?_)
            (refine wpAnyH_take (i := 0) (v := ?_) rfl (by decide +kernel) (by decide +kernel) (by decide +kernel) (fun _ _ _ h => h) (Or.inl ⟨?_, ?_⟩) hHeld ?_; rotate_left 1; (focus rfl); (focus (intro w9 hSw; obtain ⟨⟨q0, q1, q2⟩, ⟨s0, s1, s2⟩, ⟨n0, n1, n2⟩, ⟨m0, m1, m2⟩, o0, o1, o2⟩ := hSw.cells; go_simp; (try with_reducible rfl); done)); (try simp only [Act.put, List.setIfInBounds_toArray, List.set_cons_zero, List.set_cons_succ, List.getElem_toArray, List.getElem_cons_zero, List.getElem_cons_succ]))
            (refine wpAnyH_take (i := 1) (v := ?_) rfl (by decide +kernel) (by decide +kernel) (by decide +kernel) (fun _ _ _ h => h) (Or.inl ⟨?_, ?_⟩) hHeld ?_; rotate_left 1; (focus rfl); (focus (intro w9 hSw; go_simp; (try with_reducible rfl); done)); (try simp only [Act.put, List.setIfInBounds_toArray, List.set_cons_zero, List.set_cons_succ, List.getElem_toArray, List.getElem_cons_zero, List.getElem_cons_succ]))
            (refine wpAnyH_take (i := 3) (v := ?_) rfl (by decide +kernel) (by decide +kernel) (by decide +kernel) (fun _ _ _ h => h) (Or.inl ⟨?_, ?_⟩) hHeld ?_; rotate_left 1; (focus rfl); (focus (intro w9 hSw; obtain ⟨⟨q0, q1, q2⟩, ⟨s0, s1, s2⟩, ⟨n0, n1, n2⟩, ⟨m0, m1, m2⟩, o0, o1, o2⟩ := hSw.cells; go_simp; (try with_reducible rfl); done)); (try simp only [Act.put, List.setIfInBounds_toArray, List.set_cons_zero, List.set_cons_succ, List.getElem_toArray, List.getElem_cons_zero, List.getElem_cons_succ]))
            (refine wpAnyH_take (i := 4) (v := ?_) rfl (by decide +kernel) (by decide +kernel) (by decide +kernel) (fun _ _ _ h => h) (Or.inl ⟨?_, ?_⟩) hHeld ?_; rotate_left 1; (focus rfl); (focus (intro w9 hSw; go_simp; (try with_reducible rfl); done)); (try simp only [Act.put, List.setIfInBounds_toArray, List.set_cons_zero, List.set_cons_succ, List.getElem_toArray, List.getElem_cons_zero, List.getElem_cons_succ]))
            refine wpAnyH_ready (rs := [2]) (by decide +kernel) (by simp) ?_
            refine AllReadyH.cons rfl (fun K hK => ?_) AllReadyH.nil
            rw [if_pos (by rfl)]
            go_simp
            refine (turn_holds hHeld HR.out HTL.out _ false (.tail _ (.tail _ (.tail _ (.head _))))).mono ?_
            rintro e W5 ⟨rfl, HP⟩
            refine hK.out _ _ HP.out (fun hHeld => ?_)
            clear hK K
            (try simp only [Act.put, List.setIfInBounds_toArray, List.set_cons_zero, List.set_cons_succ, List.getElem_toArray, List.getElem_cons_zero, List.getElem_cons_succ])
            refine wpAnyH_ready (rs := [5]) (by decide +kernel) (by simp) ?_
            refine AllReadyH.cons rfl (fun K hK => ?_) AllReadyH.nil
            rw [if_pos (by rfl)]
            go_simp
            refine (turn_holds hHeld HR.out HTL.out _ bv (.tail _ (.tail _ (.tail _ (.tail _ (.head _)))))).mono ?_
            rintro e W5 ⟨rfl, HP⟩
            refine hK.out _ _ HP.out (fun hHeld => ?_)
            clear hK K
            (try simp only [Act.put, List.setIfInBounds_toArray, List.set_cons_zero, List.set_cons_succ, List.getElem_toArray, List.getElem_cons_zero, List.getElem_cons_succ])
            (refine wpAnyH_take (i := 6) (v := ?_) rfl (by decide +kernel) (by decide +kernel) (by decide +kernel) (fun _ _ _ h => h) (Or.inl ⟨?_, ?_⟩) hHeld ?_; rotate_left 1; (focus rfl); (focus (intro w9 hSw; go_simp; (try with_reducible rfl); done)); (try simp only [Act.put, List.setIfInBounds_toArray, List.set_cons_zero, List.set_cons_succ, List.getElem_toArray, List.getElem_cons_zero, List.getElem_cons_succ]))
            (refine wpAnyH_take (i := 7) (v := ?_) rfl (by decide +kernel) (by decide +kernel) (by decide +kernel) (fun _ _ _ h => h) (Or.inl ⟨?_, ?_⟩) hHeld ?_; rotate_left 1; (focus rfl); (focus (intro w9 hSw; go_simp; (try with_reducible rfl); done)); (try simp only [Act.put, List.setIfInBounds_toArray, List.set_cons_zero, List.set_cons_succ, List.getElem_toArray, List.getElem_cons_zero, List.getElem_cons_succ]))
            refine wpAnyH_done (by decide +kernel) ?_ _
            go_wp2_with fail
            refine wp_region_held_drew (S := Pk w (turnB P Q wc.heap.size x y a1 c1 a2 c2) [(notX x, some ⟨wc.heap.size, 0, none⟩, 1), (bothX x y, some ⟨wc.heap.size + 1 + 1, 0, none⟩, 2), (oneX x y, some ⟨wc.heap.size + 1 + 1 + 1 + 1, 0, none⟩, 2), (x, a1, c1), (y, a2, c2)] [(tags, at_)]) (by kernel_rfl) (hHeld.on HKB.out (Below.refl _ _).drew) (fun hHeld => ?_)
            (refine wpAnyH_take (i := 0) (v := ?_) rfl (by decide +kernel) (by decide +kernel) (by decide +kernel) (fun _ _ _ h => h) (Or.inl ⟨?_, ?_⟩) hHeld ?_; rotate_left 1; (focus rfl); (focus (intro w9 hSw; obtain ⟨⟨q0, q1, q2⟩, ⟨s0, s1, s2⟩, ⟨n0, n1, n2⟩, ⟨m0, m1, m2⟩, o0, o1, o2⟩ := hSw.cells; go_simp; (try with_reducible rfl); done)); (try simp only [Act.put, List.setIfInBounds_toArray, List.set_cons_zero, List.set_cons_succ, List.getElem_toArray, List.getElem_cons_zero, List.getElem_cons_succ]))
            (refine wpAnyH_take (i := 1) (v := ?_) rfl (by decide +kernel) (by decide +kernel) (by decide +kernel) (fun _ _ _ h => h) (Or.inl ⟨?_, ?_⟩) hHeld ?_; rotate_left 1; (focus rfl); (focus (intro w9 hSw; go_simp; (try with_reducible rfl); done)); (try simp only [Act.put, List.setIfInBounds_toArray, List.set_cons_zero, List.set_cons_succ, List.getElem_toArray, List.getElem_cons_zero, List.getElem_cons_succ]))
            (refine wpAnyH_take (i := 3) (v := ?_) rfl (by decide +kernel) (by decide +kernel) (by decide +kernel) (fun _ _ _ h => h) (Or.inl ⟨?_, ?_⟩) hHeld ?_; rotate_left 1; (focus rfl); (focus (intro w9 hSw; go_simp; (try with_reducible rfl); done)); (try simp only [Act.put, List.setIfInBounds_toArray, List.set_cons_zero, List.set_cons_succ, List.getElem_toArray, List.getElem_cons_zero, List.getElem_cons_succ]))
            (refine wpAnyH_take (i := 4) (v := ?_) rfl (by decide +kernel) (by decide +kernel) (by decide +kernel) (fun _ _ _ h => h) (Or.inl ⟨?_, ?_⟩) hHeld ?_; rotate_left 1; (focus rfl); (focus (intro w9 hSw; go_simp; (try with_reducible rfl); done)); (try simp only [Act.put, List.setIfInBounds_toArray, List.set_cons_zero, List.set_cons_succ, List.getElem_toArray, List.getElem_cons_zero, List.getElem_cons_succ]))
            refine wpAnyH_ready (rs := [2]) (by decide +kernel) (by simp) ?_
            refine AllReadyH.cons rfl (fun K hK => ?_) AllReadyH.nil
            rw [if_pos (by rfl)]
            go_simp
            refine (turn_holds hHeld HR.out HTL.out (.agg #[.string ⟨#[33]⟩, .string ⟨#[]⟩, .slice (some ⟨wc.heap.size, 0, none⟩) 1 1]) (!false) (.head _)).mono ?_
            rintro e W5 ⟨rfl, HP⟩
            refine hK.out _ _ HP.out (fun hHeld => ?_)
            clear hK K
            (try simp only [Act.put, List.setIfInBounds_toArray, List.set_cons_zero, List.set_cons_succ, List.getElem_toArray, List.getElem_cons_zero, List.getElem_cons_succ])
            (refine wpAnyH_take (i := 5) (v := ?_) rfl (by decide +kernel) (by decide +kernel) (by decide +kernel) (fun _ _ _ h => h) (Or.inl ⟨?_, ?_⟩) hHeld ?_; rotate_left 1; (focus rfl); (focus (intro w9 hSw; go_simp; (try with_reducible rfl); done)); (try simp only [Act.put, List.setIfInBounds_toArray, List.set_cons_zero, List.set_cons_succ, List.getElem_toArray, List.getElem_cons_zero, List.getElem_cons_succ]))
            (refine wpAnyH_take (i := 6) (v := ?_) rfl (by decide +kernel) (by decide +kernel) (by decide +kernel) (fun _ _ _ h => h) (Or.inl ⟨?_, ?_⟩) hHeld ?_; rotate_left 1; (focus rfl); (focus (intro w9 hSw; go_simp; (try with_reducible rfl); done)); (try simp only [Act.put, List.setIfInBounds_toArray, List.set_cons_zero, List.set_cons_succ, List.getElem_toArray, List.getElem_cons_zero, List.getElem_cons_succ]))
            (refine wpAnyH_take (i := 7) (v := ?_) rfl (by decide +kernel) (by decide +kernel) (by decide +kernel) (fun _ _ _ h => h) (Or.inl ⟨?_, ?_⟩) hHeld ?_; rotate_left 1; (focus rfl); (focus (intro w9 hSw; obtain ⟨⟨q0, q1, q2⟩, ⟨s0, s1, s2⟩, ⟨n0, n1, n2⟩, ⟨m0, m1, m2⟩, o0, o1, o2⟩ := hSw.cells; go_simp; (try with_reducible rfl); done)); (try simp only [Act.put, List.setIfInBounds_toArray, List.set_cons_zero, List.set_cons_succ, List.getElem_toArray, List.getElem_cons_zero, List.getElem_cons_succ]))
            (refine wpAnyH_take (i := 8) (v := ?_) rfl (by decide +kernel) (by decide +kernel) (by decide +kernel) (fun _ _ _ h => h) (Or.inl ⟨?_, ?_⟩) hHeld ?_; rotate_left 1; (focus rfl); (focus (intro w9 hSw; go_simp; (try with_reducible rfl); done)); (try simp only [Act.put, List.setIfInBounds_toArray, List.set_cons_zero, List.set_cons_succ, List.getElem_toArray, List.getElem_cons_zero, List.getElem_cons_succ]))
            (refine wpAnyH_take (i := 10) (v := ?_) rfl (by decide +kernel) (by decide +kernel) (by decide +kernel) (fun _ _ _ h => h) (Or.inl ⟨?_, ?_⟩) hHeld ?_; rotate_left 1; (focus rfl); (focus (intro w9 hSw; go_simp; (try with_reducible rfl); done)); (try simp only [Act.put, List.setIfInBounds_toArray, List.set_cons_zero, List.set_cons_succ, List.getElem_toArray, List.getElem_cons_zero, List.getElem_cons_succ]))
            refine wpAnyH_ready (rs := [9]) (by decide +kernel) (by simp) ?_
            refine AllReadyH.cons rfl (fun K hK => ?_) AllReadyH.nil
            rw [if_pos (by rfl)]
            go_simp
            refine (turn_holds hHeld HR.out HTL.out (.agg #[.string ⟨#[38, 38]⟩, .string ⟨#[]⟩, .slice (some ⟨wc.heap.size + 1 + 1, 0, none⟩) 2 2]) (false && bv) (.tail _ (.head _))).mono ?_
            rintro e W5 ⟨rfl, HP⟩
            refine hK.out _ _ HP.out (fun hHeld => ?_)
            clear hK K
            (try simp only [Act.put, List.setIfInBounds_toArray, List.set_cons_zero, List.set_cons_succ, List.getElem_toArray, List.getElem_cons_zero, List.getElem_cons_succ])
            (refine wpAnyH_take (i := 11) (v := ?_) rfl (by decide +kernel) (by decide +kernel) (by decide +kernel) (fun _ _ _ h => h) (Or.inl ⟨?_, ?_⟩) hHeld ?_; rotate_left 1; (focus rfl); (focus (intro w9 hSw; go_simp; (try with_reducible rfl); done)); (try simp only [Act.put, List.setIfInBounds_toArray, List.set_cons_zero, List.set_cons_succ, List.getElem_toArray, List.getElem_cons_zero, List.getElem_cons_succ]))
            (refine wpAnyH_take (i := 12) (v := undef) rfl (by decide +kernel) (by decide +kernel) (by decide +kernel) (fun _ _ _ h => h) (Or.inr ⟨?_, rfl⟩) hHeld ?_; (focus rfl); (try simp only [Act.put, List.setIfInBounds_toArray, List.set_cons_zero, List.set_cons_succ, List.getElem_toArray, List.getElem_cons_zero, List.getElem_cons_succ]))
            (refine wpAnyH_take (i := 13) (v := ?_) rfl (by decide +kernel) (by decide +kernel) (by decide +kernel) (fun _ _ _ h => h) (Or.inl ⟨?_, ?_⟩) hHeld ?_; rotate_left 1; (focus rfl); (focus (intro w9 hSw; go_simp; (try with_reducible rfl); done)); (try simp only [Act.put, List.setIfInBounds_toArray, List.set_cons_zero, List.set_cons_succ, List.getElem_toArray, List.getElem_cons_zero, List.getElem_cons_succ]))
            (refine wpAnyH_take (i := 14) (v := ?_) rfl (by decide +kernel) (by decide +kernel) (by decide +kernel) (fun _ _ _ h => h) (Or.inl ⟨?_, ?_⟩) hHeld ?_; rotate_left 1; (focus rfl); (focus (intro w9 hSw; go_simp; (try with_reducible rfl); done)); (try simp only [Act.put, List.setIfInBounds_toArray, List.set_cons_zero, List.set_cons_succ, List.getElem_toArray, List.getElem_cons_zero, List.getElem_cons_succ]))
            (refine wpAnyH_take (i := 15) (v := ?_) rfl (by decide +kernel) (by decide +kernel) (by decide +kernel) (fun _ _ _ h => h) (Or.inl ⟨?_, ?_⟩) hHeld ?_; rotate_left 1; (focus rfl); (focus (intro w9 hSw; go_simp; (try with_reducible rfl); done)); (try simp only [Act.put, List.setIfInBounds_toArray, List.set_cons_zero, List.set_cons_succ, List.getElem_toArray, List.getElem_cons_zero, List.getElem_cons_succ]))
            (refine wpAnyH_take (i := 16) (v := ?_) rfl (by decide +kernel) (by decide +kernel) (by decide +kernel) (fun _ _ _ h => h) (Or.inl ⟨?_, ?_⟩) hHeld ?_; rotate_left 1; (focus rfl); (focus (intro w9 hSw; go_simp; (try with_reducible rfl); done)); (try simp only [Act.put, List.setIfInBounds_toArray, List.set_cons_zero, List.set_cons_succ, List.getElem_toArray, List.getElem_cons_zero, List.getElem_cons_succ]))
            (refine wpAnyH_take (i := 17) (v := ?_) rfl (by decide +kernel) (by decide +kernel) (by decide +kernel) (fun _ _ _ h => h) (Or.inl ⟨?_, ?_⟩) hHeld ?_; rotate_left 1; (focus rfl); (focus (intro w9 hSw; obtain ⟨⟨q0, q1, q2⟩, ⟨s0, s1, s2⟩, ⟨n0, n1, n2⟩, ⟨m0, m1, m2⟩, o0, o1, o2⟩ := hSw.cells; go_simp; (try with_reducible rfl); done)); (try simp only [Act.put, List.setIfInBounds_toArray, List.set_cons_zero, List.set_cons_succ, List.getElem_toArray, List.getElem_cons_zero, List.getElem_cons_succ]))
            (refine wpAnyH_take (i := 18) (v := ?_) rfl (by decide +kernel) (by decide +kernel) (by decide +kernel) (fun _ _ _ h => h) (Or.inl ⟨?_, ?_⟩) hHeld ?_; rotate_left 1; (focus rfl); (focus (intro w9 hSw; go_simp; (try with_reducible rfl); done)); (try simp only [Act.put, List.setIfInBounds_toArray, List.set_cons_zero, List.set_cons_succ, List.getElem_toArray, List.getElem_cons_zero, List.getElem_cons_succ]))
            (refine wpAnyH_take (i := 20) (v := ?_) rfl (by decide +kernel) (by decide +kernel) (by decide +kernel) (fun _ _ _ h => h) (Or.inl ⟨?_, ?_⟩) hHeld ?_; rotate_left 1; (focus rfl); (focus (intro w9 hSw; go_simp; (try with_reducible rfl); done)); (try simp only [Act.put, List.setIfInBounds_toArray, List.set_cons_zero, List.set_cons_succ, List.getElem_toArray, List.getElem_cons_zero, List.getElem_cons_succ]))
            refine wpAnyH_ready (rs := [19]) (by decide +kernel) (by simp) ?_
            refine AllReadyH.cons rfl (fun K hK => ?_) AllReadyH.nil
            rw [if_pos (by rfl)]
            go_simp
            refine (turn_holds hHeld HR.out HTL.out (.agg #[.string ⟨#[124, 124]⟩, .string ⟨#[]⟩, .slice (some ⟨wc.heap.size + 1 + 1 + 1 + 1, 0, none⟩) 2 2]) (false || bv) (.tail _ (.tail _ (.head _)))).mono ?_
            rintro e W5 ⟨rfl, HP⟩
            refine hK.out _ _ HP.out (fun hHeld => ?_)
            clear hK K
            (try simp only [Act.put, List.setIfInBounds_toArray, List.set_cons_zero, List.set_cons_succ, List.getElem_toArray, List.getElem_cons_zero, List.getElem_cons_succ])
            (refine wpAnyH_take (i := 21) (v := ?_) rfl (by decide +kernel) (by decide +kernel) (by decide +kernel) (fun _ _ _ h => h) (Or.inl ⟨?_, ?_⟩) hHeld ?_; rotate_left 1; (focus rfl); (focus (intro w9 hSw; go_simp; (try with_reducible rfl); done)); (try simp only [Act.put, List.setIfInBounds_toArray, List.set_cons_zero, List.set_cons_succ, List.getElem_toArray, List.getElem_cons_zero, List.getElem_cons_succ]))
            (refine wpAnyH_take (i := 22) (v := ?_) rfl (by decide +kernel) (by decide +kernel) (by decide +kernel) (fun _ _ _ h => h) (Or.inl ⟨?_, ?_⟩) hHeld ?_; rotate_left 1; (focus rfl); (focus (intro w9 hSw; go_simp; (try with_reducible rfl); done)); (try simp only [Act.put, List.setIfInBounds_toArray, List.set_cons_zero, List.set_cons_succ, List.getElem_toArray, List.getElem_cons_zero, List.getElem_cons_succ]))
            (refine wpAnyH_take (i := 23) (v := ?_) rfl (by decide +kernel) (by decide +kernel) (by decide +kernel) (fun _ _ _ h => h) (Or.inl ⟨?_, ?_⟩) hHeld ?_; rotate_left 1; (focus rfl); (focus (intro w9 hSw; go_simp; (try with_reducible rfl); done)); (try simp only [Act.put, List.setIfInBounds_toArray, List.set_cons_zero, List.set_cons_succ, List.getElem_toArray, List.getElem_cons_zero, List.getElem_cons_succ]))
            (refine wpAnyH_take (i := 24) (v := ?_) rfl (by decide +kernel) (by decide +kernel) (by decide +kernel) (fun _ _ _ h => h) (Or.inl ⟨?_, ?_⟩) hHeld ?_; rotate_left 1; (focus rfl); (focus (intro w9 hSw; go_simp; (try with_reducible rfl); done)); (try simp only [Act.put, List.setIfInBounds_toArray, List.set_cons_zero, List.set_cons_succ, List.getElem_toArray, List.getElem_cons_zero, List.getElem_cons_succ]))
            (refine wpAnyH_take (i := 25) (v := ?_) rfl (by decide +kernel) (by decide +kernel) (by decide +kernel) (fun _ _ _ h => h) (Or.inl ⟨?_, ?_⟩) hHeld ?_; rotate_left 1; (focus rfl); (focus (intro w9 hSw; go_simp; (try with_reducible rfl); done)); (try simp only [Act.put, List.setIfInBounds_toArray, List.set_cons_zero, List.set_cons_succ, List.getElem_toArray, List.getElem_cons_zero, List.getElem_cons_succ]))
            (refine wpAnyH_take (i := 26) (v := ?_) rfl (by decide +kernel) (by decide +kernel) (by decide +kernel) (fun _ _ _ h => h) (Or.inl ⟨?_, ?_⟩) hHeld ?_; rotate_left 1; (focus rfl); (focus (intro w9 hSw; go_simp; (try with_reducible rfl); done)); (try simp only [Act.put, List.setIfInBounds_toArray, List.set_cons_zero, List.set_cons_succ, List.getElem_toArray, List.getElem_cons_zero, List.getElem_cons_succ]))
            (refine wpAnyH_take (i := 27) (v := ?_) rfl (by decide +kernel) (by decide +kernel) (by decide +kernel) (fun _ _ _ h => h) (Or.inl ⟨?_, ?_⟩) hHeld ?_; rotate_left 1; (focus rfl); (focus (intro w9 hSw; obtain ⟨⟨q0, q1, q2⟩, ⟨s0, s1, s2⟩, ⟨n0, n1, n2⟩, ⟨m0, m1, m2⟩, o0, o1, o2⟩ := hSw.cells; go_simp; (try with_reducible rfl); done)); (try simp only [Act.put, List.setIfInBounds_toArray, List.set_cons_zero, List.set_cons_succ, List.getElem_toArray, List.getElem_cons_zero, List.getElem_cons_succ]))
            (refine wpAnyH_take (i := 29) (v := ?_) rfl (by decide +kernel) (by decide +kernel) (by decide +kernel) (fun _ _ _ h => h) (Or.inl ⟨?_, ?_⟩) hHeld ?_; rotate_left 1; (focus rfl); (focus (intro w9 hSw; obtain ⟨⟨q0, q1, q2⟩, ⟨s0, s1, s2⟩, ⟨n0, n1, n2⟩, ⟨m0, m1, m2⟩, o0, o1, o2⟩ := hSw.cells; go_simp; (try with_reducible rfl); done)); (try simp only [Act.put, List.setIfInBounds_toArray, List.set_cons_zero, List.set_cons_succ, List.getElem_toArray, List.getElem_cons_zero, List.getElem_cons_succ]))
            (refine wpAnyH_take (i := 31) (v := ?_) rfl (by decide +kernel) (by decide +kernel) (by decide +kernel) (fun _ _ _ h => h) (Or.inl ⟨?_, ?_⟩) hHeld ?_; rotate_left 1; (focus rfl); (focus (intro w9 hSw; obtain ⟨⟨q0, q1, q2⟩, ⟨s0, s1, s2⟩, ⟨n0, n1, n2⟩, ⟨m0, m1, m2⟩, o0, o1, o2⟩ := hSw.cells; go_simp; (try with_reducible rfl); done)); (try simp only [Act.put, List.setIfInBounds_toArray, List.set_cons_zero, List.set_cons_succ, List.getElem_toArray, List.getElem_cons_zero, List.getElem_cons_succ]))
            refine wpAnyH_ready (rs := [28]) (by decide +kernel) (by simp) ?_
            refine AllReadyH.cons rfl (fun K hK => ?_) AllReadyH.nil
            rw [if_pos (by rfl)]
            go_simp
            refine (turn_least hHeld HRL.out _ LBV (.head _)).mono ?_
            rintro e W5 ⟨rfl, HP⟩
            refine hK.out _ _ HP.out (fun hHeld => ?_)
            clear hK K
            (try simp only [Act.put, List.setIfInBounds_toArray, List.set_cons_zero, List.set_cons_succ, List.getElem_toArray, List.getElem_cons_zero, List.getElem_cons_succ])
            refine wpAnyH_ready (rs := [30]) (by decide +kernel) (by simp) ?_
            refine AllReadyH.cons rfl (fun K hK => ?_) AllReadyH.nil
            rw [if_pos (by rfl)]
            go_simp
            refine (turn_least hHeld HRL.out _ LX (.tail _ (.tail _ (.head _)))).mono ?_
            rintro e W5 ⟨rfl, HP⟩
            refine hK.out _ _ HP.out (fun hHeld => ?_)
            clear hK K
            (try simp only [Act.put, List.setIfInBounds_toArray, List.set_cons_zero, List.set_cons_succ, List.getElem_toArray, List.getElem_cons_zero, List.getElem_cons_succ])
            refine wpAnyH_ready (rs := [32]) (by decide +kernel) (by simp) ?_
            refine AllReadyH.cons rfl (fun K hK => ?_) AllReadyH.nil
            rw [if_pos (by rfl)]
            go_simp
            refine (turn_least hHeld HRL.out _ LY (.tail _ (.tail _ (.tail _ (.head _))))).mono ?_
            rintro e W5 ⟨rfl, HP⟩
            refine hK.out _ _ HP.out (fun hHeld => ?_)
            clear hK K
            (try simp only [Act.put, List.setIfInBounds_toArray, List.set_cons_zero, List.set_cons_succ, List.getElem_toArray, List.getElem_cons_zero, List.getElem_cons_succ])
            (refine wpAnyH_take (i := 33) (v := ?_) rfl (by decide +kernel) (by decide +kernel) (by decide +kernel) (fun _ _ _ h => h) (Or.inl ⟨?_, ?_⟩) hHeld ?_; rotate_left 1; (focus rfl); (focus (intro w9 hSw; go_simp; (try with_reducible rfl); done)); (try simp only [Act.put, List.setIfInBounds_toArray, List.set_cons_zero, List.set_cons_succ, List.getElem_toArray, List.getElem_cons_zero, List.getElem_cons_succ]))
            (refine wpAnyH_take (i := 34) (v := ?_) rfl (by decide +kernel) (by decide +kernel) (by decide +kernel) (fun _ _ _ h => h) (Or.inl ⟨?_, ?_⟩) hHeld ?_; rotate_left 1; (focus rfl); (focus (intro w9 hSw; go_simp; (try with_reducible rfl); done)); (try simp only [Act.put, List.setIfInBounds_toArray, List.set_cons_zero, List.set_cons_succ, List.getElem_toArray, List.getElem_cons_zero, List.getElem_cons_succ]))
            (refine wpAnyH_take (i := 35) (v := ?_) rfl (by decide +kernel) (by decide +kernel) (by decide +kernel) (fun _ _ _ h => h) (Or.inl ⟨?_, ?_⟩) hHeld ?_; rotate_left 1; (focus rfl); (focus (intro w9 hSw; go_simp; (try with_reducible rfl); done)); (try simp only [Act.put, List.setIfInBounds_toArray, List.set_cons_zero, List.set_cons_succ, List.getElem_toArray, List.getElem_cons_zero, List.getElem_cons_succ]))
            (refine wpAnyH_take (i := 36) (v := ?_) rfl (by decide +kernel) (by decide +kernel) (by decide +kernel) (fun _ _ _ h => h) (Or.inl ⟨?_, ?_⟩) hHeld ?_; rotate_left 1; (focus rfl); (focus (intro w9 hSw; go_simp; (try with_reducible rfl); done)); (try simp only [Act.put, List.setIfInBounds_toArray, List.set_cons_zero, List.set_cons_succ, List.getElem_toArray, List.getElem_cons_zero, List.getElem_cons_succ]))
            (refine wpAnyH_take (i := 37) (v := ?_) rfl (by decide +kernel) (by decide +kernel) (by decide +kernel) (fun _ _ _ h => h) (Or.inl ⟨?_, ?_⟩) hHeld ?_; rotate_left 1; (focus rfl); (focus (intro w9 hSw; obtain ⟨⟨q0, q1, q2⟩, ⟨s0, s1, s2⟩, ⟨n0, n1, n2⟩, ⟨m0, m1, m2⟩, o0, o1, o2⟩ := hSw.cells; go_simp; (try with_reducible rfl); done)); (try simp only [Act.put, List.setIfInBounds_toArray, List.set_cons_zero, List.set_cons_succ, List.getElem_toArray, List.getElem_cons_zero, List.getElem_cons_succ]))
            (refine wpAnyH_take (i := 39) (v := ?_) rfl (by decide +kernel) (by decide +kernel) (by decide +kernel) (fun _ _ _ h => h) (Or.inl ⟨?_, ?_⟩) hHeld ?_; rotate_left 1; (focus rfl); (focus (intro w9 hSw; obtain ⟨⟨q0, q1, q2⟩, ⟨s0, s1, s2⟩, ⟨n0, n1, n2⟩, ⟨m0, m1, m2⟩, o0, o1, o2⟩ := hSw.cells; go_simp; (try with_reducible rfl); done)); (try simp only [Act.put, List.setIfInBounds_toArray, List.set_cons_zero, List.set_cons_succ, List.getElem_toArray, List.getElem_cons_zero, List.getElem_cons_succ]))
            (refine wpAnyH_take (i := 41) (v := ?_) rfl (by decide +kernel) (by decide +kernel) (by decide +kernel) (fun _ _ _ h => h) (Or.inl ⟨?_, ?_⟩) hHeld ?_; rotate_left 1; (focus rfl); (focus (intro w9 hSw; obtain ⟨⟨q0, q1, q2⟩, ⟨s0, s1, s2⟩, ⟨n0, n1, n2⟩, ⟨m0, m1, m2⟩, o0, o1, o2⟩ := hSw.cells; go_simp; (try with_reducible rfl); done)); (try simp only [Act.put, List.setIfInBounds_toArray, List.set_cons_zero, List.set_cons_succ, List.getElem_toArray, List.getElem_cons_zero, List.getElem_cons_succ]))
            refine wpAnyH_ready (rs := [38]) (by decide +kernel) (by simp) ?_
            refine AllReadyH.cons rfl (fun K hK => ?_) AllReadyH.nil
            rw [if_pos (by rfl)]
            go_simp
            refine (turn_least hHeld HRL.out _ LOV (.tail _ (.head _))).mono ?_
            rintro e W5 ⟨rfl, HP⟩
            refine hK.out _ _ HP.out (fun hHeld => ?_)
            clear hK K
            (try simp only [Act.put, List.setIfInBounds_toArray, List.set_cons_zero, List.set_cons_succ, List.getElem_toArray, List.getElem_cons_zero, List.getElem_cons_succ])
            refine wpAnyH_ready (rs := [40]) (by decide +kernel) (by simp) ?_
            refine AllReadyH.cons rfl (fun K hK => ?_) AllReadyH.nil
            rw [if_pos (by rfl)]
            go_simp
            refine (turn_least hHeld HRL.out _ LX (.tail _ (.tail _ (.head _)))).mono ?_
            rintro e W5 ⟨rfl, HP⟩
            refine hK.out _ _ HP.out (fun hHeld => ?_)
            clear hK K
            (try simp only [Act.put, List.setIfInBounds_toArray, List.set_cons_zero, List.set_cons_succ, List.getElem_toArray, List.getElem_cons_zero, List.getElem_cons_succ])
            refine wpAnyH_ready (rs := [42]) (by decide +kernel) (by simp) ?_
            refine AllReadyH.cons rfl (fun K hK => ?_) AllReadyH.nil
            rw [if_pos (by rfl)]
            go_simp
            refine (turn_least hHeld HRL.out _ LY (.tail _ (.tail _ (.tail _ (.head _))))).mono ?_
            rintro e W5 ⟨rfl, HP⟩
            refine hK.out _ _ HP.out (fun hHeld => ?_)
            clear hK K
            (try simp only [Act.put, List.setIfInBounds_toArray, List.set_cons_zero, List.set_cons_succ, List.getElem_toArray, List.getElem_cons_zero, List.getElem_cons_succ])
            (refine wpAnyH_take (i := 43) (v := ?_) rfl (by decide +kernel) (by decide +kernel) (by decide +kernel) (fun _ _ _ h => h) (Or.inl ⟨?_, ?_⟩) hHeld ?_; rotate_left 1; (focus rfl); (focus (intro w9 hSw; go_simp; (try with_reducible rfl); done)); (try simp only [Act.put, List.setIfInBounds_toArray, List.set_cons_zero, List.set_cons_succ, List.getElem_toArray, List.getElem_cons_zero, List.getElem_cons_succ]))
            (refine wpAnyH_take (i := 44) (v := ?_) rfl (by decide +kernel) (by decide +kernel) (by decide +kernel) (fun _ _ _ h => h) (Or.inl ⟨?_, ?_⟩) hHeld ?_; rotate_left 1; (focus rfl); (focus (intro w9 hSw; go_simp; (try with_reducible rfl); done)); (try simp only [Act.put, List.setIfInBounds_toArray, List.set_cons_zero, List.set_cons_succ, List.getElem_toArray, List.getElem_cons_zero, List.getElem_cons_succ]))
            (refine wpAnyH_take (i := 45) (v := ?_) rfl (by decide +kernel) (by decide +kernel) (by decide +kernel) (fun _ _ _ h => h) (Or.inl ⟨?_, ?_⟩) hHeld ?_; rotate_left 1; (focus rfl); (focus (intro w9 hSw; go_simp; (try with_reducible rfl); done)); (try simp only [Act.put, List.setIfInBounds_toArray, List.set_cons_zero, List.set_cons_succ, List.getElem_toArray, List.getElem_cons_zero, List.getElem_cons_succ]))
            (refine wpAnyH_take (i := 46) (v := ?_) rfl (by decide +kernel) (by decide +kernel) (by decide +kernel) (fun _ _ _ h => h) (Or.inl ⟨?_, ?_⟩) hHeld ?_; rotate_left 1; (focus rfl); (focus (intro w9 hSw; go_simp; (try with_reducible rfl); done)); (try simp only [Act.put, List.setIfInBounds_toArray, List.set_cons_zero, List.set_cons_succ, List.getElem_toArray, List.getElem_cons_zero, List.getElem_cons_succ]))
            (refine wpAnyH_take (i := 47) (v := ?_) rfl (by decide +kernel) (by decide +kernel) (by decide +kernel) (fun _ _ _ h => h) (Or.inl ⟨?_, ?_⟩) hHeld ?_; rotate_left 1; (focus rfl); (focus (intro w9 hSw; obtain ⟨⟨q0, q1, q2⟩, ⟨s0, s1, s2⟩, ⟨n0, n1, n2⟩, ⟨m0, m1, m2⟩, o0, o1, o2⟩ := hSw.cells; go_simp; (try with_reducible rfl); done)); (try simp only [Act.put, List.setIfInBounds_toArray, List.set_cons_zero, List.set_cons_succ, List.getElem_toArray, List.getElem_cons_zero, List.getElem_cons_succ]))
            refine wpAnyH_ready (rs := [48]) (by decide +kernel) (by simp) ?_
            refine AllReadyH.cons rfl (fun K hK => ?_) AllReadyH.nil
            rw [if_pos (by rfl)]
            go_simp
            refine (turn_least hHeld HRL.out _ _ (.tail _ (.tail _ (.tail _ (.tail _ (.head _)))))).mono ?_
            rintro e W5 ⟨rfl, HP⟩
            refine hK.out _ _ HP.out (fun hHeld => ?_)
            clear hK K
            (try simp only [Act.put, List.setIfInBounds_toArray, List.set_cons_zero, List.set_cons_succ, List.getElem_toArray, List.getElem_cons_zero, List.getElem_cons_succ])
            (refine wpAnyH_take (i := 49) (v := ?_) rfl (by decide +kernel) (by decide +kernel) (by decide +kernel) (fun _ _ _ h => h) (Or.inl ⟨?_, ?_⟩) hHeld ?_; rotate_left 1; (focus rfl); (focus (intro w9 hSw; go_simp; (try with_reducible rfl); done)); (try simp only [Act.put, List.setIfInBounds_toArray, List.set_cons_zero, List.set_cons_succ, List.getElem_toArray, List.getElem_cons_zero, List.getElem_cons_succ]))
            (refine wpAnyH_take (i := 50) (v := ?_) rfl (by decide +kernel) (by decide +kernel) (by decide +kernel) (fun _ _ _ h => h) (Or.inl ⟨?_, ?_⟩) hHeld ?_; rotate_left 1; (focus rfl); (focus (intro w9 hSw; go_simp; (try with_reducible rfl); done)); (try simp only [Act.put, List.setIfInBounds_toArray, List.set_cons_zero, List.set_cons_succ, List.getElem_toArray, List.getElem_cons_zero, List.getElem_cons_succ]))
            (refine wpAnyH_take (i := 51) (v := ?_) rfl (by decide +kernel) (by decide +kernel) (by decide +kernel) (fun _ _ _ h => h) (Or.inl ⟨?_, ?_⟩) hHeld ?_; rotate_left 1; (focus rfl); (focus (intro w9 hSw; go_simp; (try with_reducible rfl); done)); (try simp only [Act.put, List.setIfInBounds_toArray, List.set_cons_zero, List.set_cons_succ, List.getElem_toArray, List.getElem_cons_zero, List.getElem_cons_succ]))
            refine wpAnyH_ready (rs := [52]) (by decide +kernel) (by simp) ?_
            refine AllReadyH.cons rfl (fun K hK => ?_) AllReadyH.nil
            rw [if_pos (by rfl)]
            go_simp
            refine (pk_awake hHeld HKB.out).mono ?_
            rintro e W5 ⟨rfl, -, HP⟩
            refine hK.out _ _ HP.out (fun hHeld => ?_)
            clear hK K
            (try simp only [Act.put, List.setIfInBounds_toArray, List.set_cons_zero, List.set_cons_succ, List.getElem_toArray, List.getElem_cons_zero, List.getElem_cons_succ])
            (refine wpAnyH_take (i := 53) (v := ?_) rfl (by decide +kernel) (by decide +kernel) (by decide +kernel) (fun _ _ _ h => h) (Or.inl ⟨?_, ?_⟩) hHeld ?_; rotate_left 1; (focus rfl); (focus (intro w9 hSw; go_simp; (try with_reducible rfl); done)); (try simp only [Act.put, List.setIfInBounds_toArray, List.set_cons_zero, List.set_cons_succ, List.getElem_toArray, List.getElem_cons_zero, List.getElem_cons_succ]))
            (refine wpAnyH_take (i := 54) (v := ?_) rfl (by decide +kernel) (by decide +kernel) (by decide +kernel) (fun _ _ _ h => h) (Or.inl ⟨?_, ?_⟩) hHeld ?_; rotate_left 1; (focus rfl); (focus (intro w9 hSw; go_simp; (try with_reducible rfl); done)); (try simp only [Act.put, List.setIfInBounds_toArray, List.set_cons_zero, List.set_cons_succ, List.getElem_toArray, List.getElem_cons_zero, List.getElem_cons_succ]))
            refine wpAnyH_done (by decide +kernel) ?_ _
            go_wp2_with fail
            go_ret
            exact ⟨rfl, HP.out.below⟩
end Go.Proofs.YtagaoilgnhdebaaDoor
