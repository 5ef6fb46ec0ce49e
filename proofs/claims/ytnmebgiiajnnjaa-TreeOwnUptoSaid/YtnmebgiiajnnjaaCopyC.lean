/-
  tree.copied through the kids, walked
-/
import Derived.Test.YtnmebgiiajnnjaaCopyB
import Derived.Deep.RegionLaw
namespace Go.Proofs.Ytnmebgiiajnnjaa
set_option linter.unusedSimpArgs false
set_option linter.unusedVariables false
open Go.RowKit

/-- What copied hands back where it goes through the kids. -/
def CopiedRow (Zo : Nat → Prop) (t : Nd) (l : List Nd) (w : World) (e : Ending) (w' : World) : Prop :=
  Below w.heap.size w w' ∧ ∃ v, e = .returned (.agg #[.int .i64 t.kind, .string ⟨t.text.toArray⟩, v, .int .i64 t.pos]) ∧ Row Zo w.heap.size l v w'

theorem info24 : (Try.prog.info? 24).map (fun i => (i.zero, i.size, i.bytes)) = some (some (.agg #[.int .i64 0, .string ⟨#[]⟩, .slice none 0 0, .int .i64 0]), 4, 56) := by kernel_rfl
theorem und22 : Try.prog.underlying 22 = some (.slice 24) := by kernel_rfl

theorem Row.shape {Zo : Nat → Prop} {B : Nat} {l : List Nd} {v : Value} {wr : World} (h : Row Zo B l v wr) : ∃ a n c, v = .slice a n c := by
  obtain ⟨L, _, hown, _⟩ := h
  rcases hown.2 with ⟨rfl, _⟩ | ⟨g', cap, cur, rfl, _⟩
  · exact ⟨_, _, _, rfl⟩
  · exact ⟨_, _, _, rfl⟩
theorem Row.put1 {Zo : Nat → Prop} {B : Nat} {l : List Nd} {v : Value} {W : World} (h : Row Zo B l v W) (hZ : ∀ b, Zo b → b < B) (o : Nat) (u : Value) : Row Zo B l v (W.setCell ⟨B + 1, o, none⟩ u) := by
  have hl := h.lt
  obtain ⟨L, hL, hown, hx⟩ := h
  have hk : ∀ b, b ≠ B + 1 → (W.setCell ⟨B + 1, o, none⟩ u).heap[b]? = W.heap[b]? := fun b hb => Below.heap_setCell W ⟨B + 1, o, none⟩ u b hb
  refine ⟨L, hL, ownsRow_of hown (fun g hg => hk g (by have := (hl g hg).1; omega)), fun x hxL => ⟨(hx x hxL).1, (hx x hxL).2.move (fun b hb => ⟨?_, hb.2⟩) (fun p z hp hz => ?_)⟩⟩
  · rcases hb.1 with h1 | h1
    · exact .inl h1
    · exact .inr (h1.set _ _)
  · refine (World.cell?_of_block (w := W) (hk p.block ?_)).trans hz
    rcases hp.1 with h1 | h1
    · have := hZ _ h1; omega
    · have := h1.lo; omega

theorem zoneOn {Zo : Nat → Prop} {B : Nat} {v : Value} {W W' : World} {a : Option Addr} {l : List Nd} (h : KidsZ W (fun b => (Zo b ∨ Fresh (B + 2) W b) ∧ some b ≠ v.ownBlock) a l)
    (hb : Below W.heap.size W W') : KidsZ W' (fun b => (Zo b ∨ Fresh (B + 2) W' b) ∧ some b ≠ v.ownBlock) a l := by
  have hs := hb.size
  refine h.move (fun b hb' => ⟨?_, hb'.2⟩) (fun p u hp hu => (hb.cell (cell_lt' hu)).trans hu)
  rcases hb'.1 with h1 | h1
  · exact .inl h1
  · exact .inr (h1.on hb)

theorem row_round {Zo : Nat → Prop} {t : Nd} {d k : Nat} {f : Nd → Option Nd} {v : Value} {L : List (Nd × Option Addr × Nat)} {w wr w3 w4 : World} {a3 : Option Addr} {c3 gg cap : Nat} {o : Obj} (hlt : k < t.kids.length) (hZ : ∀ b, Zo b → b < w.heap.size)
    (hbx : Boxes t w.heap.size v wr) (hL : L.map (·.1) = (t.kids.take k).map (copyL f d))
    (hLX : ∀ x, x ∈ L → Fits x.1 x.2.2 ∧ KidsZ wr (fun b => (Zo b ∨ Fresh (w.heap.size + 2) wr b) ∧ some b ≠ v.ownBlock) x.2.1 x.1.kids)
    (hrl : ∀ g, v.ownBlock = some g → w.heap.size + 2 ≤ g ∧ g < wr.heap.size)
    (hr3 : Below wr.heap.size wr w3 ∧ Fits (copyL f d t.kids[k]) c3 ∧ KidsZ w3 (fun b => Zo b ∨ Fresh wr.heap.size w3 b) a3 (copyL f d t.kids[k]).kids)
    (hown4 : w4.ownsRow (w.heap.size + 2) 24 4 (.slice (some ⟨gg, 0, none⟩) (k + 1) cap) (k + 1) (L.flatMap node4 ++ node4 (copyL f d t.kids[k], a3, c3)))
    (hgrow : (w3.alloc o).grownBy w4 v.ownBlock) (hat : v.ownBlock = some gg ∨ gg = w3.heap.size + 1) (hbw : Below w.heap.size w wr) :
    Boxes t w.heap.size (.slice (some ⟨gg, 0, none⟩) (k + 1) cap) (w4.setCell ⟨w.heap.size, 2, none⟩ (.slice (some ⟨gg, 0, none⟩) (k + 1) cap)) ∧
    Row Zo w.heap.size ((t.kids.take (k + 1)).map (copyL f d)) (.slice (some ⟨gg, 0, none⟩) (k + 1) cap) (w4.setCell ⟨w.heap.size, 2, none⟩ (.slice (some ⟨gg, 0, none⟩) (k + 1) cap)) ∧
    Below w.heap.size w (w4.setCell ⟨w.heap.size, 2, none⟩ (.slice (some ⟨gg, 0, none⟩) (k + 1) cap)) := by
  obtain ⟨hb3, hfit, hz⟩ := hr3
  have hs0 := hbw.size
  have hs3 := hb3.size
  have hlt2 := hbx.lt
  have hba : Below wr.heap.size wr (w3.alloc o) := hb3.alloc hb3.size o
  have hsa : (w3.alloc o).heap.size = w3.heap.size + 1 := by simp
  have hrow : ∀ j, v.ownBlock = some j → w.heap.size + 2 ≤ j := fun j e => (hrl j e).1
  have hb4 : Below (w.heap.size + 2) (w3.alloc o) w4 := (Below.refl _ _).grown hgrow (by omega) hrow
  have hLlen : L.length = k := by
    have := congrArg List.length hL
    simp at this; omega
  refine ⟨Boxes.put (((hbx.on hb3).on (below_alloc w3 o)).below hb4 (by omega)) _, Row.put ?_ hZ (by have := hb4.size; omega) _, ?_⟩
  · have hsn := Row.snoc (Zo := Zo) (B := w.heap.size) (L := L) (v := v) (W := w3.alloc o) (W' := w4) (y := copyL f d t.kids[k]) (a' := a3) (c' := c3) (gg := gg) (cap := cap) hZ (by omega) (fun x hx => ⟨(hLX x hx).1, zoneOn (hLX x hx).2 hba⟩) hfit
      (hz.move (fun b hb => ?_) (fun p u _ hu => cell_alloc' o hu)) (by rw [hLlen]; exact hown4) hgrow (by rw [hsa]; exact hat)
    · rw [hLlen, hL] at hsn
      rw [List.take_succ_eq_append_getElem hlt, List.map_append, List.map_singleton]
      exact hsn
    · refine ⟨?_, fun e => ?_⟩
      · rcases hb with h1 | h1
        · exact .inl h1
        · exact .inr ((h1.low (by have := h1.lo; omega)).al _)
      · obtain ⟨e1, e2⟩ := hrl b e.symm
        rcases hb with h1 | h1
        · have := hZ _ h1; omega
        · have := h1.lo; omega
  · refine Below.setCell ?_ (p := ⟨w.heap.size, 2, none⟩) (Nat.le_refl _) _
    exact ((bext hbw hb3).alloc (by omega) o).trans (hb4.mono (by omega))

set_option maxHeartbeats 4000000 in
theorem copied_none (d : Nat) (hd : d ≤ 100) (t : Nd) (a : Option Addr) (c g : Nat) (lb : Array Value) (f : Nd → Option Nd) (Zo : Nat → Prop) (w : World) (hen : Enters Try.prog g) (hat : AtSays g lb f Zo w) (hy : f t = none)
    (Zk : Nat → Prop) (hkz : KidsZ w Zk a t.kids) (hZk : ∀ b, Zk b → b < w.heap.size) (hZ : ∀ b, Zo b → b < w.heap.size) (hf : Fits t c)
    (ih : ∀ k, k ∈ t.kids → ∀ a' c' W, Below w.heap.size w W → KidsZ W Zk a' k.kids → Fits k c' → Calls Try.prog 23 #[.agg #[.int .i64 k.kind, .string ⟨k.text.toArray⟩, .slice a' k.kids.length c', .int .i64 k.pos], .int .i64 d, .func (.func g) #[] lb] W (Copied Zo (copyL f d k) W)) :
    Calls Try.prog 23 #[.agg #[.int .i64 t.kind, .string ⟨t.text.toArray⟩, .slice a t.kids.length c, .int .i64 t.pos], .int .i64 ((d : Int) + 1), .func (.func g) #[] lb] w (CopiedRow Zo t (t.kids.map (copyL f d)) w) := by
  have hk : Kids w w.heap.size a t.kids := hkz.kids hZk
  obtain ⟨wa, hwa⟩ : ∃ wa, (w.alloc (.cells #[.int .i64 t.kind, .string ⟨t.text.toArray⟩, .slice a t.kids.length c, .int .i64 t.pos] 24)).alloc (.cells #[.int .i64 0, .string ⟨#[]⟩, .slice none 0 0, .int .i64 0] 24) = wa := ⟨_, rfl⟩
  have hba : Below w.heap.size w wa := by rw [← hwa]; exact ((Below.refl _ _).alloc (Nat.le_refl _) _).alloc (by simp) _
  have hsz : wa.heap.size = w.heap.size + 2 := by rw [← hwa]; simp
  have hcall := hat wa t a c hba (hk.on hba) hf
  have h0 : ((d : Int) + 1 == 0) = false := by simp; omega
  have HB := Lib.hid hba
  have n0 : wa.cell? ⟨w.heap.size, 0, none⟩ = some (.int .i64 t.kind) := by rw [← hwa]; simp [go_sem]
  have n1 : wa.cell? ⟨w.heap.size, 1, none⟩ = some (.string ⟨t.text.toArray⟩) := by rw [← hwa]; simp [go_sem]
  have n2 : wa.cell? ⟨w.heap.size, 2, none⟩ = some (.slice a t.kids.length c) := by rw [← hwa]; simp [go_sem]
  have n3 : wa.cell? ⟨w.heap.size, 3, none⟩ = some (.int .i64 t.pos) := by rw [← hwa]; simp [go_sem]
  have hB0 : Boxes t w.heap.size (.slice a t.kids.length c) wa := by
    rw [← hwa]
    refine ⟨⟨?_, ?_, ?_, ?_, ?_⟩, ⟨?_, ?_, ?_, ?_⟩, ?_, ?_, ?_, ?_⟩ <;> simp [go_sem]
  have hcall' := hcall.mono (R' := fun e W' => Below wa.heap.size wa W' ∧ ∃ (y : Nd) (a' : Option Addr) (c' : Nat), e = .returned (.tuple #[.agg #[.int .i64 y.kind, .string ⟨y.text.toArray⟩, .slice a' y.kids.length c', .int .i64 y.pos], .bool false]))
    (fun e W' h => by
      obtain ⟨hb, y', a', c', he, -, -, -⟩ := h
      rw [hy] at he
      exact ⟨hb, y', a', c', by simpa using he⟩)
  have HC := Lib.hid hcall'
  have HZ := Lib.hid hZ
  have HSZ := Lib.hid hsz
  have HB0 := Lib.hid hB0
  have HK := Lib.hid hkz
  have HZK := Lib.hid hZk
  have HF := Lib.hid hf
  have HI := Lib.hid ih
  have HY := Lib.hid hy
  have hl63 : t.kids.length ≤ 9223372036854775807 := by have := hf.2.2.2.2.2.1; have := hf.2.2.2.2.2.2.1; omega
  clear hcall hcall' hat hk hkz hZk hf hba hy hZ hsz hB0 ih
  unfold Enters at hen
  go_enter Try.func23, Try.ntmps23
  go_wp2_with fail
  refine HC.out.mono ?_
  rintro e w1 ⟨hb1, y, a', c', rfl⟩
  have hbx1 : Boxes t w.heap.size (.slice a t.kids.length c) w1 := HB0.out.on hb1
  have hs1 : w.heap.size + 1 < w1.heap.size := by have := HSZ.out; have := hb1.size; omega
  have hs2 : w.heap.size < w1.heap.size := by omega
  have HBX := Lib.hid hbx1
  have HB1 := Lib.hid hb1
  obtain ⟨⟨q0, q1, q2, q3, q4⟩, -⟩ := hbx1
  clear hb1 n0 n1 n2 n3
  go_wp2_with fail
  have hb2 : Below w.heap.size w ((w1.setCell ⟨w.heap.size, 2, none⟩ (.slice none 0 0)).alloc (.cells #[.int .i64 y.kind, .string ⟨y.text.toArray⟩, .slice a' y.kids.length c', .int .i64 y.pos] 24)) :=
    ((bext HB.out HB1.out).setCell (p := ⟨w.heap.size, 2, none⟩) (Nat.le_refl _) _).alloc (by simp [World.setCell]; omega) _
  have hx2 : Boxes t w.heap.size (.slice none 0 0) ((w1.setCell ⟨w.heap.size, 2, none⟩ (.slice none 0 0)).alloc (.cells #[.int .i64 y.kind, .string ⟨y.text.toArray⟩, .slice a' y.kids.length c', .int .i64 y.pos] 24)) := (HBX.out.put _).on (below_alloc _ _)
  have HB2 := Lib.hid hb2
  have HX2 := Lib.hid hx2
  clear hb2 hx2 q0 q1 q2 q3 q4 hs1 hs2
  go_loopw [28] (fun i wr => ∃ k : Nat, k ≤ t.kids.length ∧ i = .int .i64 k ∧ ∃ v, Boxes t w.heap.size v wr ∧ Row Zo w.heap.size ((t.kids.take k).map (copyL f d)) v wr ∧ Below w.heap.size w wr) (fun i _ => t.kids.length - (intOf i).toNat)
  case atStart => exact ⟨0, by omega, rfl, _, HX2.out, Row.nil _ _ _, HB2.out⟩
  case round =>
    clear HB2 HX2
    obtain ⟨k, hk1, rfl, v, hbx, hrow, hb⟩ := hrel
    have HBX2 := Lib.hid hbx
    have HROW := Lib.hid hrow
    have HBW := Lib.hid hb
    have hs1 : w.heap.size + 1 < wr.heap.size := hbx.lt
    have hs2 : w.heap.size < wr.heap.size := by omega
    obtain ⟨⟨q0, q1, q2, q3, q4⟩, -⟩ := hbx
    clear hrow hb
    by_cases hlt : k < t.kids.length
    · obtain ⟨b, off, a'', c'', ha, hbZ, ⟨h0', h1', h2', h3'⟩, hf', hn'⟩ := kidsZ_iff.1 (HK.out.move (fun _ h => h) (fun p _ hp hv => (HBW.out.cell (HZK.out _ hp)).trans hv)) k hlt
      have hbB : b < wr.heap.size := by have := HZK.out _ hbZ; omega
      subst ha
      have HF' := Lib.hid hf'
      have HN' := Lib.hid hn'
      have hcap : t.kids.length ≤ c := HF.out.2.2.2.2.2.1
      obtain ⟨hc63, hc57⟩ := HF.out.2.2.2.2.2.2
      have hlb : b < wr.heap.size := hbB
      clear hf' hn' hbZ
      obtain ⟨wb, hwb⟩ : ∃ wb, (wr.alloc (.cells #[.int .i64 t.kids[k].kind, .string ⟨t.kids[k].text.toArray⟩, .slice a'' t.kids[k].kids.length c'', .int .i64 t.kids[k].pos] 24)).drew = wb := ⟨_, rfl⟩
      have hbb : Below wr.heap.size wr wb := by rw [← hwb]; exact ((Below.refl _ _).alloc (Nat.le_refl _) _).drew
      have hsb : wb.heap.size = wr.heap.size + 1 := by rw [← hwb]; simp
      have m0 : wb.cell? ⟨wr.heap.size, 0, none⟩ = some (.int .i64 t.kids[k].kind) := by rw [← hwb]; simp [go_sem]
      have m1 : wb.cell? ⟨wr.heap.size, 1, none⟩ = some (.string ⟨t.kids[k].text.toArray⟩) := by rw [← hwb]; simp [go_sem]
      have m2 : wb.cell? ⟨wr.heap.size, 2, none⟩ = some (.slice a'' t.kids[k].kids.length c'') := by rw [← hwb]; simp [go_sem]
      have m3 : wb.cell? ⟨wr.heap.size, 3, none⟩ = some (.int .i64 t.kids[k].pos) := by rw [← hwb]; simp [go_sem]
      have hmem : t.kids[k] ∈ t.kids := List.getElem_mem hlt
      have hcl := (HI.out _ hmem a'' c'' wb (bext HBW.out hbb) (HN'.out.move (fun _ h => h) (fun p _ hp hv => (hbb.cell (by have := HZK.out _ hp; omega)).trans hv)) HF'.out).mono (R' := fun e w3 => ∃ a3 c3, e = .returned (.agg #[.int .i64 (copyL f d t.kids[k]).kind, .string ⟨(copyL f d t.kids[k]).text.toArray⟩, .slice a3 (copyL f d t.kids[k]).kids.length c3, .int .i64 (copyL f d t.kids[k]).pos]) ∧
          (w3.cell? ⟨w.heap.size, 2, none⟩ = some v ∧ w3.cell? ⟨wr.heap.size, 0, none⟩ = some (.int .i64 t.kids[k].kind) ∧ w3.cell? ⟨wr.heap.size, 1, none⟩ = some (.string ⟨t.kids[k].text.toArray⟩) ∧
            w3.cell? ⟨wr.heap.size, 2, none⟩ = some (.slice a'' t.kids[k].kids.length c'') ∧ w3.cell? ⟨wr.heap.size, 3, none⟩ = some (.int .i64 t.kids[k].pos) ∧ w3.frozen? ⟨w.heap.size, 2, none⟩ = false) ∧
          wr.heap.size + 1 ≤ w3.heap.size ∧ w.heap.size < w3.heap.size ∧ (∀ o, (w3.alloc o).frozen? ⟨w.heap.size, 2, none⟩ = false) ∧ (∀ o, (w3.alloc o).cell? ⟨w.heap.size, 2, none⟩ = some v) ∧ (∀ o, w.heap.size < (w3.alloc o).heap.size) ∧ Hid (Below wr.heap.size wr w3 ∧ Fits (copyL f d t.kids[k]) c3 ∧ KidsZ w3 (fun b => Zo b ∨ Fresh wr.heap.size w3 b) a3 (copyL f d t.kids[k]).kids))
        (fun e w3 h => by
          obtain ⟨hb3, a3, c3, he, hfit, hz⟩ := h
          obtain ⟨hc3, hz3⟩ := bcell hb3
          have hsz3 := hb3.size
          refine ⟨a3, c3, he, ⟨?_, ?_, ?_, ?_, ?_, ?_⟩, by omega, by omega, fun o => (((below_alloc w3 o).frozen (p := ⟨w.heap.size, 2, none⟩) (by show w.heap.size < w3.heap.size; omega)).trans ((hz3 _ _ (by omega)).trans ((hbb.frozen (p := ⟨w.heap.size, 2, none⟩) hs2).trans q4))), fun o => cell_alloc' o ((hc3 _ _ (by omega)).trans ((hbb.cell (p := ⟨w.heap.size, 2, none⟩) hs2).trans q2)), fun o => by simp; omega, Lib.hid ⟨bext hbb hb3, hfit, hz.mono (fun b hb => ?_)⟩⟩
          · exact ((hc3 _ _ (by omega)).trans ((hbb.cell (p := ⟨w.heap.size, 2, none⟩) hs2).trans q2))
          · exact (hc3 _ _ (by omega)).trans m0
          · exact (hc3 _ _ (by omega)).trans m1
          · exact (hc3 _ _ (by omega)).trans m2
          · exact (hc3 _ _ (by omega)).trans m3
          · exact ((hz3 _ _ (by omega)).trans ((hbb.frozen (p := ⟨w.heap.size, 2, none⟩) hs2).trans q4))
          · rcases hb with h1 | h1
            · exact .inl h1
            · exact .inr (h1.low (by have := h1.lo; omega)))
      have z0 : wb.frozen? ⟨w.heap.size, 2, none⟩ = false := (hbb.frozen (p := ⟨w.heap.size, 2, none⟩) hs2).trans q4
      rw [← hwb] at hcl z0
      have HCL := Lib.hid hcl
      have hrl := HROW.out.lt
      obtain ⟨L, hL, hown, hLx⟩ := HROW.out
      have hk0 : ((t.kids.take k).map (copyL f d)).length = k := by simp; omega
      rw [hk0] at hown
      have hownA : ∀ W, Below wr.heap.size wr W → W.ownsRow (w.heap.size + 2) 24 4 v k (L.flatMap node4) := fun W hW => ownsRow_of hown (fun g hg => hW.block g (hrl g hg).2)
      have HOA := Lib.hid hownA
      have HLX := Lib.hid hLx
      have HLL := Lib.hid hL
      have HRL := Lib.hid hrl
      have ag : v.ownBlock ≠ some w.heap.size := fun e => by have := (hrl _ e).1; omega
      have ak : v.ownBlock ≠ some wr.heap.size := fun e => by have := (hrl _ e).2; omega
      clear hown hLx hL hrl hownA hk0
      have hn1 : k + 1 ≤ maxLen := by simp only [maxLen]; omega
      have hb1 : (k + 1) * 56 ≤ 140737488355328 := by omega
      obtain ⟨i0, hi0, hz0, hz1, hz2⟩ := info_parts info24
      have hwd : IntKind.i64.wrap (d : Int) = d := by rw [IntKind.wrap_i64]; omega
      clear hwb hbb hsb m0 m1 m2 m3 hmem hcl
      go_wp2_with fail
      go_region_law
        (first
          | (go_simp
             go_at_call 23
             refine HCL.out.mono ?_
             rintro e w3 ⟨a3, c3, rfl, ⟨x0, x1, x2, x3, x4, x5⟩, hs3, hs4, hs5, hs6, hs7, hr3⟩)
          | ((refine step_append_lies _ (by rfl) _ _ _ (by rfl) (w.heap.size + 2) 24 i0 _ 4 56 und22 hi0 hz0 hz1 hz2 rfl (by omega) v k (L.flatMap node4) (by rfl) (HOA.out _ (hr3.out.1.alloc hr3.out.1.size _)) ⟨w3.heap.size, 0, none⟩ 1 1 (node4 (copyL f d t.kids[k], a3, c3)) (by rfl) (by rfl) (World.news_of_block (cs := #[.int .i64 (copyL f d t.kids[k]).kind, .string ⟨(copyL f d t.kids[k]).text.toArray⟩, .slice a3 (copyL f d t.kids[k]).kids.length c3, .int .i64 (copyL f d t.kids[k]).pos]) (t := 24) (fr := (0, 0)) (heap_alloc_new w3 _)) (by simp [node4, Value.oneCell']) (by omega) hn1 hb1 (by simp; omega) (w3.heap.size + 1) (by simp) ?_; intro gg cap w4 hown4 hgrow hat hlt4; have y0 := (hgrow.cell_far ⟨w.heap.size, 2, none⟩ (hs7 _) (Ne.symm ag)).trans (hs6 _); have y1 := (hgrow.frozen_far ⟨w.heap.size, 2, none⟩ (hs7 _) (Ne.symm ag)).trans (hs5 _); have HG4 := Lib.hid hgrow; have HO4 := Lib.hid hown4; have HA4 := Lib.hid hat; clear hgrow hown4 hat hs5 hs6 hs7)))
      all_goals
        go_wp2_with fail
        go_roundw
        case rel =>
          obtain ⟨e1, e2, e3⟩ := row_round hlt HZ.out HBX2.out HLL.out HLX.out HRL.out hr3.out HO4.out HG4.out HA4.out HBW.out
          exact ⟨k + 1, by omega, by go_num, _, e1, e2, e3⟩
        case measure => simp [intOf]; omega
    · obtain rfl : k = t.kids.length := by omega
      obtain ⟨a9, n9, c9, rfl⟩ := HROW.out.shape
      obtain ⟨-, ⟨r0, r1, r2, r3⟩, f0, f1, f2, f3⟩ := HBX2.out
      go_wp2_with fail
      refine bodyPost_ret (v := .agg #[.int .i64 t.kind, .string ⟨t.text.toArray⟩, .slice a9 n9 c9, .int .i64 t.pos]) (by simp [results, Try.results23, go_sem, r0, r1, r2, r3, hs1]) rfl ⟨?_, _, rfl, ?_⟩
      · exact (((HBW.out.setCell (p := ⟨w.heap.size + 1, 0, none⟩) (by simp) _).setCell (p := ⟨w.heap.size + 1, 1, none⟩) (by simp) _).setCell (p := ⟨w.heap.size + 1, 2, none⟩) (by simp) _).setCell (p := ⟨w.heap.size + 1, 3, none⟩) (by simp) _
      · have := HROW.out
        rw [List.take_length] at this
        exact (((this.put1 HZ.out 0 _).put1 HZ.out 1 _).put1 HZ.out 2 _).put1 HZ.out 3 _
end Go.Proofs.Ytnmebgiiajnnjaa
