/-
  tag: holds of a not; holds, Holds whole.
-/
import Derived.Test.YtagaoilgnhdebaaDoorTgU
namespace Go.Proofs.YtagaoilgnhdebaaDoor
set_option linter.unusedSimpArgs false
set_option linter.unusedVariables false
open Go.RowKit

/-- What the call on the part leaves. -/
abbrev NotPost (O : ByteArray) (k : Xp) (a a' at_ : Option Addr) (c c' ct B b o nt : Nat) (r : Bool) (W : World) (e : Ending) (w' : World) : Prop :=
  e = .returned (.bool r) ∧ ((w'.cell? ⟨B, 0, none⟩ = some (.string O) ∧ w'.cell? ⟨B, 1, none⟩ = some (.string ⟨#[]⟩) ∧ w'.cell? ⟨B, 2, none⟩ = some (.slice a 1 c)) ∧
    (w'.cell? ⟨B + 1, 0, none⟩ = some (.slice at_ nt ct) ∧ w'.cell? ⟨B + 1 + 1, 0, none⟩ = some (.func (.func 37) #[] #[.pointer (some ⟨B + 1, 0, none⟩)])) ∧
    (w'.cell? ⟨b, o, none⟩ = some (.string ⟨k.op.toArray⟩) ∧ w'.cell? ⟨b, o + 1, none⟩ = some (.string ⟨k.tag.toArray⟩) ∧ w'.cell? ⟨b, o + 2, none⟩ = some (.slice a' k.kids.length c'))) ∧ Hid (Below W.heap.size W w')
theorem not_post {O : ByteArray} {k : Xp} {a a' at_ : Option Addr} {c c' ct B b o nt : Nat} {r : Bool} {W : World} {f : Nat} {args : Array Value}
    (h0 : W.cell? ⟨B, 0, none⟩ = some (.string O)) (h1 : W.cell? ⟨B, 1, none⟩ = some (.string ⟨#[]⟩)) (h2 : W.cell? ⟨B, 2, none⟩ = some (.slice a 1 c)) (h3 : W.cell? ⟨B + 1, 0, none⟩ = some (.slice at_ nt ct))
    (h4 : W.cell? ⟨B + 1 + 1, 0, none⟩ = some (.func (.func 37) #[] #[.pointer (some ⟨B + 1, 0, none⟩)])) (h5 : Three W b o k a' c')
    (hc : Calls Tryd.prog f args W fun e w' => e = .returned (.bool r) ∧ Below W.heap.size W w') : Calls Tryd.prog f args W (NotPost O k a a' at_ c c' ct B b o nt r W) :=
  hc.mono (fun e w' ⟨he, hb⟩ =>
    have hk : ∀ {p : Addr} {v : Value}, W.cell? p = some v → w'.cell? p = some v := fun h => (hb.cell (cell_lt1 h)).trans h
    ⟨he, ⟨⟨hk h0, hk h1, hk h2⟩, ⟨hk h3, hk h4⟩, ⟨hk h5.1, hk h5.2.1, hk h5.2.2⟩⟩, Lib.hid hb⟩)

set_option maxRecDepth 100000 in
set_option maxHeartbeats 4000000 in
theorem holds_not (tags : List (List UInt8)) (n : Nat) (ih : HoldsOk tags n) (k : Xp) (a at_ : Option Addr) (c ct : Nat) (w : World) (hE : Env w) (hk : Xids w Any a [k]) (hc1 : 1 ≤ c) (hr : rightX n k = true) (hS : Strs w at_ tags) :
    Calls Tryd.prog 26 #[.agg #[.string ⟨#[33]⟩, .string ⟨#[]⟩, .slice a 1 c], .slice at_ tags.length ct] w fun e w' => e = .returned (.bool (!(holdsX tags n k))) ∧ Below w.heap.size w w' := by
  obtain ⟨wa, hwa, hba, c0, c1, c2, c3, c4, hsz⟩ := boxed_three w (.string ⟨#[33]⟩) (.string ⟨#[]⟩) (.slice a 1 c) (.slice at_ tags.length ct) (.func (.func 37) #[] #[.pointer (some ⟨w.heap.size + 1, 0, none⟩)]) 29 25 32
  have HB := Lib.hid hba
  have eg : ∀ args w, (callFunc 37 args).run Tryd.prog w = .ok (.enter 37 args) w := enters_of Tryd.func37 (by kernel_rfl) rfl
  obtain ⟨b, off, a', c', ha, -, h3, hf', hn'⟩ := (hk.on hba).get (j := 0) (by simp)
  simp only [List.getElem_cons_zero, Nat.zero_mul, Nat.add_zero] at h3 hf' hn'
  subst ha
  obtain ⟨p0, p1, p2⟩ := h3
  have hbd : Below wa.heap.size wa wa.drew := (Below.refl _ _).drew
  have hcall := holds1_any tags n ih k a' at_ c' ct (w.heap.size + 1) wa.drew ((hE.on hba).on hbd) hr c3 (hn'.on hbd) hf' ((hS.on hba).on hbd)
  have HC := Lib.hid (not_post (W := wa.drew) (O := ⟨#[33]⟩) (B := w.heap.size) c0 c1 c2 c3 c4 ⟨p0, p1, p2⟩ hcall)
  clear hba ih hk hE hS hn' hf' hbd hcall
  obtain ⟨r, hr0⟩ : ∃ r, holdsX tags n k = r := ⟨_, rfl⟩
  rw [hr0] at HC ⊢
  clear hr0 hr
  obtain ⟨nt, hnt⟩ : ∃ nt, tags.length = nt := ⟨_, rfl⟩
  rw [hnt] at HC hwa c3 ⊢
  clear hnt
  have hblt : b < wa.heap.size := cell_lt1 p0
  go_enter Tryd.func26, Tryd.ntmps26
  go_wp2_with fail
  go_region_held3 (fun w' => (w'.cell? ⟨w.heap.size, 0, none⟩ = some (.string ⟨#[33]⟩) ∧ w'.cell? ⟨w.heap.size, 1, none⟩ = some (.string ⟨#[]⟩) ∧ w'.cell? ⟨w.heap.size, 2, none⟩ = some (.slice (some ⟨b, off, none⟩) 1 c)) ∧
      (w'.cell? ⟨w.heap.size + 1, 0, none⟩ = some (.slice at_ nt ct) ∧ w'.cell? ⟨w.heap.size + 1 + 1, 0, none⟩ = some (.func (.func 37) #[] #[.pointer (some ⟨w.heap.size + 1, 0, none⟩)])) ∧
      (w'.cell? ⟨b, off, none⟩ = some (.string ⟨k.op.toArray⟩) ∧ w'.cell? ⟨b, off + 1, none⟩ = some (.string ⟨k.tag.toArray⟩) ∧ w'.cell? ⟨b, off + 2, none⟩ = some (.slice a' k.kids.length c'))) (go_keep)
    (first
      | (go_at_call 37
         refine HC.out.mono ?_
         rintro e w1 ⟨rfl, ⟨⟨c0, c1, c2⟩, ⟨c3, c4⟩, ⟨p0, p1, p2⟩⟩, hb1⟩))
  all_goals
    go_wp2_with fail
    refine bodyPost_ret (v := .bool (!r)) (by simp [results, Tryd.results26, go_sem]) rfl ⟨rfl, bext HB.out (bext (Below.refl _ _).drew hb1.out)⟩

theorem all_head {p : Xp → Bool} (k : Xp) : [k].headD default = k := rfl
theorem holds_any (tags : List (List UInt8)) (ht : tags.length ≤ 9223372036854775807) : ∀ (n : Nat), HoldsOk tags n
  | 0 => fun t a at_ c ct w hE hR => by cases hR
  | n + 1 => fun t a at_ c ct w hE hR hk hf hS => by
    have ih := holds_any tags ht n
    rcases right_cases hR with ⟨s, rfl, hs⟩ | ⟨k, rfl, hk1⟩ | ⟨l, rfl, hl, hl2⟩ | ⟨l, rfl, hl, hl2⟩
    · rw [holdsX_mk, if_neg (by decide), if_neg (by decide), if_neg (by decide)]
      exact holds_leaf tags s a at_ c ct w hE hf.2.1 ht hS
    · rw [holdsX_mk, if_pos rfl]
      exact holds_not tags n ih k a at_ c ct w hE hk hf.2.2.1 hk1 hS
    · rw [holdsX_mk, if_neg (by decide), if_pos rfl]
      exact holds_many tags n ih true l a at_ c ct w hE hk (by have := hf.2.2.1; have := hf.2.2.2.1; simp at *; omega) hl2 hS
    · rw [holdsX_mk, if_neg (by decide), if_neg (by decide), if_pos rfl]
      exact holds_many tags n ih false l a at_ c ct w hE hk (by have := hf.2.2.1; have := hf.2.2.2.1; simp at *; omega) hl2 hS

/-- Holds. -/
def holdsR (tags : List (List UInt8)) (t : Xp) : Bool := rightX 100 t && holdsX tags 100 t
set_option maxHeartbeats 1000000 in
theorem Holds_any (tags : List (List UInt8)) (ht : tags.length ≤ 9223372036854775807) (t : Xp) (a at_ : Option Addr) (c ct : Nat) (w : World) (hE : Env w) (hk : Xids w Any a t.kids) (hf : Fitx t c) (hS : Strs w at_ tags) :
    Calls Tryd.prog 14 #[.agg #[.string ⟨t.op.toArray⟩, .string ⟨t.tag.toArray⟩, .slice a t.kids.length c], .slice at_ tags.length ct] w fun e w' => e = .returned (.bool (holdsR tags t)) ∧ Below w.heap.size w w' := by
  have hb0 := below_alloc w (.cells #[.string ⟨t.op.toArray⟩, .string ⟨t.tag.toArray⟩, .slice a t.kids.length c] 29)
  have HR := Right_any t a c _ (hk.on hb0) hf
  have HB := Lib.hid hb0
  obtain ⟨wa, hwa⟩ : ∃ wa, w.alloc (.cells #[.string ⟨t.op.toArray⟩, .string ⟨t.tag.toArray⟩, .slice a t.kids.length c] 29) = wa := ⟨_, rfl⟩
  have c0 : wa.cell? ⟨w.heap.size, 0, none⟩ = some (.string ⟨t.op.toArray⟩) := by rw [← hwa]; simp [go_sem]
  have c1 : wa.cell? ⟨w.heap.size, 1, none⟩ = some (.string ⟨t.tag.toArray⟩) := by rw [← hwa]; simp [go_sem]
  have c2 : wa.cell? ⟨w.heap.size, 2, none⟩ = some (.slice a t.kids.length c) := by rw [← hwa]; simp [go_sem]
  rw [hwa] at HR HB
  have HK := Lib.hid (hk.on HB.out)
  have HF := Lib.hid hf
  have HS := Lib.hid (hS.on HB.out)
  have HE := Lib.hid (hE.on HB.out)
  have HH := Lib.hid fun (W : World) (h : rightX 100 t = true) (e : Env W) (k : Xids W Any a t.kids) (s : Strs W at_ tags) => holds_any tags ht 100 t a at_ c ct W e h k hf s
  unfold holdsR
  clear hb0 hk hf hS hE
  cases hR : rightX 100 t with
  | false =>
    rw [hR] at HR
    have HR' := Lib.hid HR
    clear HR
    go_enter Tryd.func14, Tryd.ntmps14
    go_wp2_with fail
    refine HR'.out.mono ?_
    rintro e w1 ⟨rfl, hb1⟩
    have HB1 := Lib.hid (bext HB.out hb1)
    clear hb1
    go_wp2_with fail
    refine bodyPost_ret (v := .bool false) (by simp [results, Tryd.results14, go_sem]) rfl ⟨rfl, HB1.out⟩
  | true =>
    rw [hR] at HR
    have HR' := Lib.hid HR
    have HRX := Lib.hid hR
    clear HR
    go_enter Tryd.func14, Tryd.ntmps14
    go_wp2_with fail
    refine HR'.out.mono ?_
    rintro e w1 ⟨rfl, hb1⟩
    obtain ⟨d0, d1, d2⟩ := three_on' hb1 c0 c1 c2
    have H2 := Lib.hid (HH.out w1 HRX.out (HE.out.on hb1) (HK.out.on hb1) (HS.out.on hb1))
    have HB1 := Lib.hid (bext HB.out hb1)
    clear hb1
    go_wp2_with fail
    refine H2.out.mono ?_
    rintro e w2 ⟨rfl, hb2⟩
    have HB2 := Lib.hid (bext HB1.out hb2)
    clear hb2
    go_wp2_with fail
    refine bodyPost_ret (v := .bool (holdsX tags 100 t)) (by simp [results, Tryd.results14, go_sem]) rfl ⟨rfl, HB2.out⟩
end Go.Proofs.YtagaoilgnhdebaaDoor
