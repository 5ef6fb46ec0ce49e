/-
  tag: the reader's row: what has a sign between, walked over whatever reads a part.
-/
import Derived.Test.YtagaoilgnhdebaaDoorTgF
namespace Go.Proofs.YtagaoilgnhdebaaDoor
set_option linter.unusedSimpArgs false
set_option linter.unusedVariables false
open Go.RowKit

/-- The reader in block R has this text left. -/
def Rd (R : Nat) (s : List UInt8) (w : World) : Prop := w.cell? ⟨R, 0, none⟩ = some (.string ⟨s.toArray⟩) ∧ w.frozen? ⟨R, 0, none⟩ = false
theorem Rd.lt {R : Nat} {s : List UInt8} {w : World} (h : Rd R s w) : R < w.heap.size := cell_lt1 h.1
theorem Rd.on {R : Nat} {s : List UInt8} {w w' : World} (h : Rd R s w) (hb : Below w.heap.size w w') : Rd R s w' := ⟨(hb.cell h.lt).trans h.1, (hb.frozen h.lt).trans h.2⟩
/-- A row that is lengthened, another block. -/
theorem Rd.grown {R : Nat} {s : List UInt8} {w w' : World} {row : Option Nat} (h : Rd R s w) (hg : w.grownBy w' row) (hr : some R ≠ row) : Rd R s w' :=
  ⟨World.grownBy.cell hg h.1 hr, (World.grownBy.frozen_far hg ⟨R, 0, none⟩ h.lt hr).trans h.2⟩
def rdLen (R : Nat) (w : World) : Nat := match w.cell? ⟨R, 0, none⟩ with | some (.string b) => b.size | _ => 0
theorem Rd.len {R : Nat} {s : List UInt8} {w : World} (h : Rd R s w) : rdLen R w = s.length := by rw [rdLen, h.1]; simp [ByteArray.size]

/-- The panic of one who finds no constraint. -/
def wrongs : List PanicEntry := [{ v := .iface 52 (.agg #[]), recovered := false }]
/-- What a part's reader hands back. -/
def PartPost (R : Nat) (o : Option (Xp × List UInt8)) (w : World) (e : Ending) (w' : World) : Prop :=
  But R w w' ∧ match o with
    | none => e = .panicked wrongs
    | some (x, r) => ∃ a c, e = .returned (.agg #[.string ⟨x.op.toArray⟩, .string ⟨x.tag.toArray⟩, .slice a x.kids.length c]) ∧ Fitx x c ∧ Xids w' (fun b => w.heap.size ≤ b) a x.kids ∧ Rd R r w'
/-- Called with these, in whatever later world, with fewer than n bytes left, g reads as q does. -/
def PartSays (R n : Nat) (q : List UInt8 → Option (Xp × List UInt8)) (g : Nat) (args : Array Value) (w0 : World) : Prop :=
  ∀ W s, But R w0 W → s.length < n → Rd R s W → Calls Tryd.prog g args W (PartPost R (q s) W)
theorem PartSays.but {R n : Nat} {q : List UInt8 → Option (Xp × List UInt8)} {g : Nat} {args : Array Value} {w0 w1 : World} (h : PartSays R n q g args w0) (hb : But R w0 w1) : PartSays R n q g args w1 :=
  fun W s hW => h W s (hb.trans hW)
/-- What takes does. -/
def TakesOk : Prop := ∀ (R : Nat) (sign s : List UInt8) (W : World), Rd R s W → s.length ≤ 100000 → sign.length ≤ 100000 →
  Calls Tryd.prog 32 #[.pointer (some ⟨R, 0, none⟩), .string ⟨sign.toArray⟩] W fun e W' => e = .returned (.bool (takesT sign s).1) ∧ But R W W' ∧ Rd R (takesT sign s).2 W'

theorem skipT_len (s : List UInt8) : (skipT s).length ≤ s.length := (List.dropWhile_sublist _).length_le
theorem takesT_le (sign s : List UInt8) : (takesT sign s).2.length ≤ s.length := by
  have := skipT_len s
  unfold takesT
  split <;> simp <;> omega
theorem takesT_lt {sign s : List UInt8} (h : (takesT sign s).1 = true) (hs : sign ≠ []) : (takesT sign s).2.length < s.length := by
  have h1 := skipT_len s
  have h2 : 0 < sign.length := List.length_pos_iff.2 hs
  unfold takesT at h ⊢
  split at h
  · rename_i hp
    rw [if_pos hp]
    have h3 : sign.length ≤ (skipT s).length := (List.isPrefixOf_iff_prefix.1 hp).length_le
    simp; omega
  · cases h

/-- The result's three cells. -/
def Slots (T : Nat) (w : World) : Prop := (∃ x y z, w.cell? ⟨T, 0, none⟩ = some x ∧ w.cell? ⟨T, 1, none⟩ = some y ∧ w.cell? ⟨T, 2, none⟩ = some z) ∧
  w.frozen? ⟨T, 0, none⟩ = false ∧ w.frozen? ⟨T, 1, none⟩ = false ∧ w.frozen? ⟨T, 2, none⟩ = false
theorem Slots.lt {T : Nat} {w : World} (h : Slots T w) : T < w.heap.size := by
  obtain ⟨⟨x, y, z, h0, -⟩, -⟩ := h
  exact cell_lt1 h0
theorem Slots.grown {T : Nat} {w w' : World} {row : Option Nat} (h : Slots T w) (hg : w.grownBy w' row) (hr : some T ≠ row) : Slots T w' := by
  have hl := h.lt
  obtain ⟨⟨x, y, z, h0, h1, h2⟩, f0, f1, f2⟩ := h
  exact ⟨⟨x, y, z, World.grownBy.cell hg h0 hr, World.grownBy.cell hg h1 hr, World.grownBy.cell hg h2 hr⟩, (World.grownBy.frozen_far hg ⟨T, 0, none⟩ hl hr).trans f0, (World.grownBy.frozen_far hg ⟨T, 1, none⟩ hl hr).trans f1, (World.grownBy.frozen_far hg ⟨T, 2, none⟩ hl hr).trans f2⟩
theorem Slots.new (w : World) (T : TypeId) : Slots w.heap.size (w.alloc (.cells #[.string ⟨#[]⟩, .string ⟨#[]⟩, .slice none 0 0] T)) :=
  ⟨⟨.string ⟨#[]⟩, .string ⟨#[]⟩, .slice none 0 0, by simp [go_sem], by simp [go_sem], by simp [go_sem]⟩, by simp [go_sem], by simp [go_sem], by simp [go_sem]⟩

theorem info29 : (Tryd.prog.info? 29).map (fun i => (i.zero, i.size, i.bytes)) = some (some (.agg #[.string ⟨#[]⟩, .string ⟨#[]⟩, .slice none 0 0]), 3, 56) := by kernel_rfl
theorem und27 : Tryd.prog.underlying 27 = some (.slice 29) := by kernel_rfl

/-- A row of one, newly made. -/
theorem Row.one {base : Nat} {W : World} {x : Xp} {a : Option Addr} {c : Nat} (hB : base ≤ W.heap.size) (hf : Fitx x c) (hz : Xids W (fun b => base ≤ b) a x.kids) :
    Row base [x] (.slice (some ⟨W.heap.size, 0, none⟩) 1 1) (W.alloc (.cells #[.string ⟨x.op.toArray⟩, .string ⟨x.tag.toArray⟩, .slice a x.kids.length c] 29)) := by
  have := Row.snoc (base := base) (l := []) (v := .slice none 0 0) (v' := .slice (some ⟨W.heap.size, 0, none⟩) 1 1) (W := W) (W' := W.alloc (.cells #[.string ⟨x.op.toArray⟩, .string ⟨x.tag.toArray⟩, .slice a x.kids.length c] 29)) (L := []) (y := x) (a' := a) (c' := c) hB rfl (fun x hx => by cases hx) hf
    (hz.move (fun b hb => ⟨hb, by simp [Value.ownBlock]⟩) (fun _ _ _ hu => hu)) ⟨rfl, .inr ⟨W.heap.size, 1, #[.string ⟨x.op.toArray⟩, .string ⟨x.tag.toArray⟩, .slice a x.kids.length c], rfl, hB, heap_alloc_new W _, Nat.le_refl _, by simp [maxLen], rfl, rfl⟩⟩ (World.grownBy_alloc _ _ _) (fun g hg => .inr (by simp [Value.ownBlock] at hg; omega))
  exact this

theorem cell_far_set {w : World} {b o : Nat} {u : Value} {p : Addr} (h : p.block ≠ b) : (w.setCell ⟨b, o, none⟩ u).cell? p = w.cell? p :=
  World.cell?_of_block (w := w) (Below.heap_setCell w ⟨b, o, none⟩ u p.block h)
theorem Rd.set3 {R : Nat} {s : List UInt8} {w : World} (h : Rd R s w) {b : Nat} (hb : R ≠ b) (o : Nat) (u : Value) : Rd R s (w.setCell ⟨b, o, none⟩ u) :=
  ⟨(cell_far_set hb).trans h.1, (World.frozen?_of_block (w := w) (a := ⟨R, 0, none⟩) (Below.heap_setCell w ⟨b, o, none⟩ u R hb)).trans h.2⟩

set_option maxRecDepth 100000 in
set_option maxHeartbeats 4000000 in
theorem row_any (hT : TakesOk) (R n : Nat) (hn : n ≤ 100000) (sign : List UInt8) (hs0 : sign ≠ []) (hs1 : sign.length ≤ 100000) (g : Nat) (fa lb : Array Value) (q : List UInt8 → Option (Xp × List UInt8)) (hq : ∀ s x r, q s = some (x, r) → r.length ≤ s.length)
    (hen : Enters Tryd.prog g) (s : List UInt8) (hs : s.length < n) (w : World) (hp : PartSays R n q g (fa ++ lb) w) (hr : Rd R s w) :
    Calls Tryd.prog 44 #[.pointer (some ⟨R, 0, none⟩), .string ⟨sign.toArray⟩, .func (.func g) fa lb] w (PartPost R (rowsT sign q s) w) := by
  have hRl := hr.lt
  obtain ⟨wa, hwa⟩ : ∃ wa, w.alloc (.cells #[.string ⟨#[]⟩, .string ⟨#[]⟩, .slice none 0 0] 29) = wa := ⟨_, rfl⟩
  have hba : But R w wa := by rw [← hwa]; exact World.grownBy_alloc _ _ _
  have hra : Rd R s wa := by rw [← hwa]; exact hr.on (below_alloc _ _)
  have hsla : Slots w.heap.size wa := by rw [← hwa]; exact Slots.new _ _
  have hsza : wa.heap.size = w.heap.size + 1 := by rw [← hwa]; simp
  have H1 := Lib.hid (hp wa s hba hs hra)
  have HP := Lib.hid hp
  have HBA := Lib.hid hba
  have HSL := Lib.hid hsla
  have HT := Lib.hid hT
  unfold Enters at hen
  clear hp hba hra hr hsla hT
  cases h1 : q s with
  | none =>
    have hfin : rowsT sign q s = none := by rw [rowsT, h1]
    rw [hfin]
    rw [h1] at H1
    clear h1 hfin
    go_enter Tryd.func44, Tryd.ntmps44
    go_wp2_with fail
    refine H1.out.mono ?_
    rintro e w1 ⟨hb1, rfl⟩
    exact ⟨rfl, HBA.out.trans hb1, rfl⟩
  | some xr =>
    obtain ⟨x, r⟩ := xr
    have hrs := hq s x r h1
    rw [h1] at H1
    obtain ⟨Q0, hQ0⟩ : ∃ Q0, rowsT sign q s = Q0 := ⟨_, rfl⟩
    have hQ1 : Q0 = (match rowT sign q (r.length + 1) r with | none => none | some (l, r') => some (wrapT sign x l, r')) := by rw [← hQ0, rowsT, h1]; rfl
    have HQ := Lib.hid hQ1
    rw [hQ0]
    clear h1 hQ0 hQ1
    go_enter Tryd.func44, Tryd.ntmps44
    go_wp2_with fail
    refine H1.out.mono ?_
    rintro e w1 ⟨hb1, a, c, rfl, hfx, hxk, hr1⟩
    have hbw1 : But R w w1 := HBA.out.trans hb1
    have hrow : Row (w.heap.size + 1) [x] (.slice (some ⟨w1.heap.size, 0, none⟩) 1 1) (w1.alloc (.cells #[.string ⟨x.op.toArray⟩, .string ⟨x.tag.toArray⟩, .slice a x.kids.length c] 29)) :=
      Row.one (by have := hb1.size; omega) hfx (hxk.move (fun b hb => by omega) (fun _ _ _ hu => hu))
    have hr1' : Rd R r (w1.alloc (.cells #[.string ⟨x.op.toArray⟩, .string ⟨x.tag.toArray⟩, .slice a x.kids.length c] 29)) := hr1.on (below_alloc _ _)
    have hsl1 : Slots w.heap.size (w1.alloc (.cells #[.string ⟨x.op.toArray⟩, .string ⟨x.tag.toArray⟩, .slice a x.kids.length c] 29)) := (HSL.out.grown hb1 (fun e => by cases e; omega)).grown (World.grownBy_alloc _ _ none) (by simp)
    have HROW := Lib.hid hrow
    have HR1 := Lib.hid hr1'
    have HS1 := Lib.hid hsl1
    have HB1 := Lib.hid (hbw1.alloc (.cells #[.string ⟨x.op.toArray⟩, .string ⟨x.tag.toArray⟩, .slice a x.kids.length c] 29))
    clear hb1 hfx hxk hr1 hbw1 hrow hr1' hsl1
    go_wp2_with fail
    go_loopw [7] (fun v wr => ∃ (l : List Xp) (s' : List UInt8) (k : Nat), Row (w.heap.size + 1) (x :: l) v wr ∧ Rd R s' wr ∧ But R w wr ∧ Slots w.heap.size wr ∧ s'.length < k ∧ l.length + s'.length < n ∧
        Hid (Q0 = (match rowT sign q k s' with | none => none | some (l2, r') => some (wrapT sign x (l ++ l2), r')))) (fun _ wr => rdLen R wr)
    case atStart => exact ⟨[], r, r.length + 1, HROW.out, HR1.out, HB1.out, HS1.out, by omega, by simp; omega, Lib.hid HQ.out⟩
    case round =>
      clear HQ HROW HR1 HB1 HS1 H1
      obtain ⟨l, s', k, hrow, hr, hb, hsl, hk, hln, HI⟩ := hrel
      obtain ⟨k, rfl⟩ : ∃ k', k = k' + 1 := ⟨k - 1, by omega⟩
      have H2 := Lib.hid (HT.out R sign s' _ hr (by omega) hs1)
      have hle := takesT_le sign s'
      have HROW := Lib.hid hrow
      have HBW := Lib.hid hb
      have HSW := Lib.hid hsl
      have hrd := hr.len
      clear hrow hb hsl hr
      cases h2 : (takesT sign s').1 with
      | false =>
        have hQ2 : Q0 = some (wrapT sign x l, (takesT sign s').2) := by rw [HI.out, rowT, h2]; simp
        rw [h2] at H2
        obtain ⟨S2, hS2⟩ : ∃ S2, (takesT sign s').2 = S2 := ⟨_, rfl⟩
        rw [hS2] at H2 hle hQ2
        have HQ2 := Lib.hid hQ2
        clear hQ2 HI h2 hS2
        obtain ⟨aa, cc, rfl⟩ := HROW.out.shape
        go_wp2_with fail
        refine H2.out.mono ?_
        rintro e w2 ⟨rfl, hb2, hr2⟩
        have hrow2 := HROW.out.but (by omega) hb2
        have hbw2 : But R w w2 := HBW.out.trans hb2
        have hsl2 := HSW.out.grown hb2 (fun e => by cases e; omega)
        have hTl := hsl2.lt
        obtain ⟨⟨x0, y0, z0, q0, q1, q2⟩, f0, f1, f2⟩ := hsl2
        have HB2 := Lib.hid hbw2
        have HR2 := Lib.hid hr2
        have HROW2 := Lib.hid hrow2
        clear hb2 hr2 hbw2 HBW HSW
        cases l with
        | nil =>
          obtain ⟨g2, cap, hv, hg1, hg2, hcap, hmax, -, h4⟩ := hrow2.get (by simp)
          obtain ⟨a', c', ⟨d0, d1, d2⟩, hfx, hxk⟩ := h4 0 (by simp)
          simp only [List.getElem_cons_zero, Nat.zero_mul] at d0 d1 d2 hfx hxk
          obtain ⟨rfl, rfl⟩ : aa = some ⟨g2, 0, none⟩ ∧ cc = cap := by simpa using hv
          have HF := Lib.hid hfx
          have HX := Lib.hid hxk
          clear hfx hxk h4 hv hrow2
          go_wp2_with fail
          refine bodyPost_ret (v := .agg #[.string ⟨x.op.toArray⟩, .string ⟨x.tag.toArray⟩, .slice a' x.kids.length c']) (by simp [results, Tryd.results44, go_sem, q0, q1, q2, hTl]) rfl ?_
          rw [HQ2.out]
          refine ⟨((HB2.out.setNew (p := ⟨w.heap.size, 0, none⟩) (Nat.le_refl _) _).setNew (p := ⟨w.heap.size, 1, none⟩) (Nat.le_refl _) _).setNew (p := ⟨w.heap.size, 2, none⟩) (Nat.le_refl _) _, a', c', rfl, HF.out, HX.out.move (fun b hb => by omega) (fun p u hp hu => ?_), ((HR2.out.set3 (by omega) _ _).set3 (by omega) _ _).set3 (by omega) _ _⟩
          rw [cell_far_set (by omega), cell_far_set (by omega), cell_far_set (by omega)]
          exact hu
        | cons y l =>
          obtain ⟨a9, c9, hv, hcap, hmax, hxk⟩ := hrow2.xids (by simp at hln ⊢; omega)
          obtain ⟨rfl, rfl⟩ : aa = a9 ∧ cc = c9 := by simpa using hv
          have HX := Lib.hid hxk
          have hl1 : (((x :: y :: l).length : Int) == 1) = false := by simp; omega
          have HCAP := Lib.hid hcap
          have HMAX := Lib.hid hmax
          have HLN := Lib.hid hln
          clear hxk hv hrow2 hcap hmax hln
          obtain ⟨N, hN⟩ : ∃ N, (x :: y :: l).length = N := ⟨_, rfl⟩
          rw [hN] at hl1
          go_wp2_with fail
          refine bodyPost_ret (v := .agg #[.string ⟨sign.toArray⟩, .string ⟨#[]⟩, .slice aa N cc]) (by simp [results, Tryd.results44, go_sem, q0, q1, q2, hTl, hN]) rfl ?_
          rw [HQ2.out]
          refine ⟨((HB2.out.setNew (p := ⟨w.heap.size, 0, none⟩) (Nat.le_refl _) _).setNew (p := ⟨w.heap.size, 1, none⟩) (Nat.le_refl _) _).setNew (p := ⟨w.heap.size, 2, none⟩) (Nat.le_refl _) _, aa, cc, by rw [← hN]; rfl, ?_, HX.out.move (fun b hb => by omega) (fun p u hp hu => ?_), ((HR2.out.set3 (by omega) _ _).set3 (by omega) _ _).set3 (by omega) _ _⟩
          · have h9 := HLN.out
            refine ⟨by show sign.length ≤ _; omega, by show 0 ≤ _; omega, HCAP.out, HMAX.out, ?_⟩
            show (x :: y :: l).length * 56 ≤ _
            simp at h9 ⊢; omega
          · rw [cell_far_set (by omega), cell_far_set (by omega), cell_far_set (by omega)]
            exact hu
      | true =>
        have hlt := takesT_lt h2 hs0
        rw [h2] at H2
        have hQ2 : Q0 = (match q (takesT sign s').2 with
            | none => none
            | some (y, r2) => match rowT sign q k r2 with | none => none | some (l2, r') => some (wrapT sign x (l ++ y :: l2), r')) := by
          rw [HI.out, rowT, h2]
          simp only [if_true]
          cases q (takesT sign s').2 with
          | none => rfl
          | some p =>
            obtain ⟨y, r2⟩ := p
            simp only
            cases rowT sign q k r2 with
            | none => rfl
            | some p2 => rfl
        obtain ⟨S2, hS2⟩ : ∃ S2, (takesT sign s').2 = S2 := ⟨_, rfl⟩
        rw [hS2] at H2 hle hQ2 hlt
        clear HI h2 hS2
        cases h3 : q S2 with
        | none =>
          rw [h3] at hQ2
          have HQ2 := Lib.hid (show Q0 = none from hQ2)
          have h3' := Lib.hid h3
          clear hQ2 h3
          go_wp2_with fail
          refine H2.out.mono ?_
          rintro e w2 ⟨rfl, hb2, hr2⟩
          have hbw2 : But R w w2 := HBW.out.trans hb2
          have H3 := HP.out w2 S2 hbw2 (by omega) hr2
          rw [h3'.out] at H3
          have H3' := Lib.hid H3
          have HB2 := Lib.hid hbw2
          clear hb2 hr2 hbw2 H3
          go_wp2_with fail
          refine H3'.out.mono ?_
          rintro e w3 ⟨hb3, rfl⟩
          refine ⟨rfl, ?_⟩
          rw [HQ2.out]
          exact ⟨HB2.out.trans hb3, rfl⟩
        | some yr =>
          obtain ⟨y, r2⟩ := yr
          have hle2 := hq _ _ _ h3
          rw [h3] at hQ2
          have HQ2 := Lib.hid (show Q0 = (match rowT sign q k r2 with | none => none | some (l2, r') => some (wrapT sign x (l ++ y :: l2), r')) from hQ2)
          have h3' := Lib.hid h3
          clear hQ2 h3
          go_wp2_with fail
          refine H2.out.mono ?_
          rintro e w2 ⟨rfl, hb2, hr2⟩
          have hbw2 : But R w w2 := HBW.out.trans hb2
          have H3 := HP.out w2 S2 hbw2 (by omega) hr2
          rw [h3'.out] at H3
          have H3' := Lib.hid H3
          have HB2 := Lib.hid hbw2
          have HROW2 := Lib.hid (HROW.out.but (by omega) hb2)
          have HS2 := Lib.hid (HSW.out.grown hb2 (fun e => by cases e; omega))
          clear hb2 hr2 hbw2 H3 HROW HBW HSW h3'
          go_wp2_with fail
          refine H3'.out.mono ?_
          rintro e w3 ⟨hb3, a3, c3, rfl, hfy, hyk, hr3⟩
          have hrow3 := HROW2.out.but (by omega) hb3
          have hrl := hrow3.lt
          have hlt2 := HROW2.out.lt
          obtain ⟨L, hL, hown3, hLx⟩ := hrow3
          have hbw3 : But R w w3 := HB2.out.trans hb3
          have hs3 := hbw3.size
          have hs23 := hb3.size
          have hs2 := HS2.out.lt
          have HS3 := Lib.hid (HS2.out.grown hb3 (fun e => by cases e; omega))
          have HB3 := Lib.hid hbw3
          have HR3 := Lib.hid hr3
          have HFY := Lib.hid hfy
          have HYK := Lib.hid hyk
          have HLX := Lib.hid hLx
          have HL := Lib.hid hL
          have HRL := Lib.hid hrl
          have HLT2 := Lib.hid hlt2
          obtain ⟨i0, hi0, hz0, hz1, hz2⟩ := info_parts info29
          have hLn : (x :: l).length = l.length + 1 := rfl
          rw [hLn] at hown3
          clear hb3 hfy hyk hr3 hL hLx hrl hbw3 HROW2 HS2 HB2 hlt2
          go_wp2_with (at_builtin; refine wpList_append_lies _ rfl _ _ 27 rfl (w.heap.size + 1) 29 i0 (.agg #[.string ⟨#[]⟩, .string ⟨#[]⟩, .slice none 0 0]) 3 56 und27 hi0 hz0 hz1 hz2 rfl (by decide) _ _ _ rfl (hown3.alloc _) ⟨w3.heap.size, 0, none⟩ 1 1 (cell3 (y, a3, c3)) rfl rfl (World.news_of_block (cs := #[.string ⟨y.op.toArray⟩, .string ⟨y.tag.toArray⟩, .slice a3 y.kids.length c3]) (t := 29) (fr := (0, 0)) (heap_alloc_new w3 _)) (by simp [cell3, Value.oneCell']) (by omega) (by unfold maxLen; omega) (by omega) (by simp; omega) (w3.heap.size + 1) (by simp) ?_; intro gg cap w4 hown4 hgrow hat hlt4)
          have hown4' : w4.ownsRow (w.heap.size + 1) 29 3 (.slice (some ⟨gg, 0, none⟩) (l.length + 1 + 1) cap) ((x :: l).length + 1) (L.flatMap cell3 ++ cell3 (y, a3, c3)) := hown4
          have hrow4 := Row.snoc (base := w.heap.size + 1) (l := x :: l) (L := L) (W := w3.alloc (.cells #[.string ⟨y.op.toArray⟩, .string ⟨y.tag.toArray⟩, .slice a3 y.kids.length c3] 29)) (W' := w4) (y := y) (a' := a3) (c' := c3) (by simp; omega) HL.out
            (fun z hz => ⟨(HLX.out z hz).1, (HLX.out z hz).2.on (below_alloc _ _)⟩) HFY.out
            ((HYK.out.move (Zo' := fun b => w.heap.size + 1 ≤ b ∧ some b ≠ u7.ownBlock) (fun b hb => ⟨by omega, fun e => by have := (HLT2.out b e.symm).2; omega⟩) (fun _ _ _ hu => hu)).on (below_alloc _ _)) hown4' hgrow
            (fun g0 hg0 => by
              obtain rfl : gg = g0 := by simpa [Value.ownBlock] using hg0
              rcases hat with h | h
              · exact .inl h
              · right; simp; omega)
          have hb4 : But R w w4 := (HB3.out.alloc (.cells #[.string ⟨y.op.toArray⟩, .string ⟨y.tag.toArray⟩, .slice a3 y.kids.length c3] 29)).grown hgrow (fun j e => by have := (HRL.out j e).1; omega)
          have hr4 : Rd R r2 w4 := (HR3.out.on (below_alloc _ _)).grown hgrow (fun e => by have := (HRL.out R e.symm).1; omega)
          have hs4 : Slots w.heap.size w4 := (HS3.out.grown (World.grownBy_alloc _ _ none) (by simp)).grown hgrow (fun e => by have := (HRL.out _ e.symm).1; omega)
          have HROW4 := Lib.hid hrow4
          have HB4 := Lib.hid hb4
          have HR4 := Lib.hid hr4
          have HS4 := Lib.hid hs4
          clear hown3 hown4 hown4' hgrow hat hrow4 hb4 hr4 hs4 HYK HLX HB3 HR3 HS3
          go_wp2_with fail
          go_roundw
          case rel =>
            refine ⟨l ++ [y], r2, k, HROW4.out, HR4.out, HB4.out, HS4.out, by omega, by simp; omega, Lib.hid ?_⟩
            rw [HQ2.out]
            simp
          case measure => rw [HR4.out.len, hrd]; omega
end Go.Proofs.YtagaoilgnhdebaaDoor
