/-
  the law TreeParts, walked (of a node whose count does not wrap)
-/
import Derived.Test.YtnmebgiiajnnjaaBoxes
import Derived.Test.YtnmebgiiajnnjaaPartsB
import Derived.Test.YtnmebgiiajnnjaaFindB
import Derived.Test.YtnmebgiiajnnjaaSmall
namespace Go.Proofs.Ytnmebgiiajnnjaa
set_option linter.unusedSimpArgs false
set_option linter.unusedVariables false
open Go.RowKit

/-- A row as kids. -/
theorem Row.kids {Zo : Nat → Prop} {B : Nat} {l : List Nd} {v : Value} {w : World} (h : Row Zo B l v w) (hZ : ∀ b, Zo b → b < w.heap.size) : ∃ a c, v = .slice a l.length c ∧ Kids w w.heap.size a l ∧ l.length ≤ c ∧ l.length ≤ 9223372036854775807 := by
  cases l with
  | nil =>
    obtain ⟨L, _, hown, _⟩ := h
    rcases hown.2 with ⟨rfl, h0⟩ | ⟨g', cap, cur, rfl, _⟩
    · exact ⟨none, 0, rfl, Kids.nil _ _ _, by simp, by simp⟩
    · exact ⟨_, _, rfl, Kids.nil _ _ _, by simp, by simp⟩
  | cons x l =>
    obtain ⟨g, cap, rfl, hg1, hg2, hcap, hmax, -, h4⟩ := h.four (by simp)
    refine ⟨_, _, rfl, ?_, hcap, by omega⟩
    rw [kids_iff]
    intro j hj
    obtain ⟨a', c', h5, h6, h7⟩ := h4 j hj
    exact ⟨g, 0, a', c', rfl, hg2, by rw [Nat.zero_add]; exact h5, h6, h7.kids (fun b hb => by
      rcases hb.1 with h1 | h1
      · exact hZ _ h1
      · exact h1.2)⟩

theorem right_true {l : List UInt8} {g : Nat} (hs : sortFn l = some g) {k : Nd} (h1 : k.height ≤ 100) (h2 : (walkL 100 k).length ≤ 65536) (h3 : soB g k = true) : rightB l k = true := by
  have h4 : wrap64 ((walkL 100 k).length : Int) = (walkL 100 k).length := by unfold wrap64; omega
  simp only [rightB, hs, h3, h4]
  simp; omega

def smP (m : Int) (t : Nd) : Bool := decide (wrap64 (walkL 1000 t).length ≤ m)
theorem walk_more : ∀ (d : Nat) (t : Nd), (walkL d t).length ≤ (walkL (d + 1) t).length
  | 0, t => by simp [walkL]
  | d + 1, t => by
    rw [walkL, walkL, List.length_cons, List.length_cons]
    have : ∀ l : List Nd, (l.flatMap (walkL d)).length ≤ (l.flatMap (walkL (d + 1))).length := fun l => by
      induction l with
      | nil => simp
      | cons x r ih => rw [List.flatMap_cons, List.flatMap_cons, List.length_append, List.length_append]; have := walk_more d x; omega
    have := this t.kids
    omega
theorem walk_le {d e : Nat} (h : d ≤ e) (t : Nd) : (walkL d t).length ≤ (walkL e t).length := by
  induction h with
  | refl => exact Nat.le_refl _
  | step _ ih => exact Nat.le_trans ih (walk_more _ t)
theorem small_len {t : Nd} (hm : (walkL 1000 t).length ≤ 1048576) (h : smP 500 t = true) : (walkL 100 t).length ≤ 500 := by
  have h1 := walk_le (d := 100) (e := 1000) (by omega) t
  unfold smP at h
  have h2 : wrap64 (walkL 1000 t).length ≤ 500 := by simpa using h
  have h3 : wrap64 ((walkL 1000 t).length : Int) = (walkL 1000 t).length := by unfold wrap64; omega
  omega

/-- The node, boxed, and a list of nodes in memory. -/
structure PW (t : Nd) (a : Option Addr) (c B : Nat) (l : List Nd) (ab : Option Addr) (W : World) : Prop where
  bx : Bx1 t a c B W
  ks : Kids W W.heap.size ab l
theorem PW.on {t : Nd} {a : Option Addr} {c B : Nat} {l : List Nd} {ab : Option Addr} {W W' : World} (h : PW t a c B l ab W) (hb : Below W.heap.size W W') : PW t a c B l ab W' := ⟨h.bx.on hb, h.ks.on hb⟩

section
variable {t1 : Nd} {a1 : Option Addr} {c1 B1 : Nat} {W : World}
theorem pt_small (h : Bx1 t1 a1 c1 B1 W) {b : Bool} (hs : smP 500 t1 = b) : Calls Try.prog 9 #[.agg #[.int .i64 t1.kind, .string ⟨t1.text.toArray⟩, .slice a1 t1.kids.length c1, .int .i64 t1.pos], .int .i64 500] W (Bx1Post t1 a1 c1 B1 (.bool b) W) :=
  bx1_post h (by have := small_any 500 t1 a1 c1 W h.k1 h.f1; unfold smP at hs; rw [hs] at this; exact this)
theorem pt_right (h : Bx1 t1 a1 c1 B1 W) {b : Bool} (hs : rightB sFile t1 = b) : Calls Try.prog 19 #[.agg #[.int .i64 t1.kind, .string ⟨t1.text.toArray⟩, .slice a1 t1.kids.length c1, .int .i64 t1.pos], .string ⟨#[102, 105, 108, 101]⟩] W (Bx1Post t1 a1 c1 B1 (.bool b) W) :=
  bx1_post h (by have := right_any sFile (by decide) t1 a1 c1 W h.glob h.k1 h.f1; rw [hs] at this; exact this)
theorem pt_awake (h : Bx1 t1 a1 c1 B1 W) : Calls Try.prog 12 #[] W (Bx1Post t1 a1 c1 B1 (.bool true) W) := bx1_post h (awake_any W h.glob)
theorem pt_find (kind : Int) (hN : (walkL 100 t1).length ≤ 1048576) (h : Bx1 t1 a1 c1 B1 W) : Calls Try.prog 18 #[.agg #[.int .i64 t1.kind, .string ⟨t1.text.toArray⟩, .slice a1 t1.kids.length c1, .int .i64 t1.pos], .int .i64 kind] W
    (fun e w' => ∃ ab cb, e = .returned (.slice ab (findL kind (nodesL 100 t1)).length cb) ∧ (w'.cell? ⟨B1, 0, none⟩ = some (.int .i64 t1.kind) ∧ w'.cell? ⟨B1, 1, none⟩ = some (.string ⟨t1.text.toArray⟩) ∧ w'.cell? ⟨B1, 2, none⟩ = some (.slice (a1) t1.kids.length c1) ∧ w'.cell? ⟨B1, 3, none⟩ = some (.int .i64 t1.pos)) ∧ (findL kind (nodesL 100 t1)).length ≤ cb ∧ (findL kind (nodesL 100 t1)).length ≤ 9223372036854775807 ∧ Hid (PW t1 a1 c1 B1 (findL kind (nodesL 100 t1)) ab w' ∧ Below W.heap.size W w')) :=
  (find_any t1 a1 c1 kind W hN h.k1 h.f1).mono (fun e w' ⟨hb, v, he, hrow⟩ => by
    obtain ⟨ab, cb, rfl, hks, h1, h2⟩ := hrow.kids (fun b hb' => by have := hb'.1; have := hb.size; omega)
    exact ⟨ab, cb, he, (h.on hb).b1, h1, h2, Lib.hid ⟨⟨h.on hb, hks⟩, hb⟩⟩)
end

/-- Two kids. -/
theorem Kids.two {w : World} {B : Nat} {a : Option Addr} {x y : Nd} (h : Kids w B a [x, y]) : ∃ b off a1 c1 a2 c2, a = some ⟨b, off, none⟩ ∧ Four w b off x a1 c1 ∧ Fits x c1 ∧ Kids w B a1 x.kids ∧ Four w b (off + 4) y a2 c2 ∧ Fits y c2 ∧ Kids w B a2 y.kids := by
  obtain ⟨b, off, a1, c1, e, -, h1, h2, h3⟩ := h.get (j := 0) (by simp)
  obtain ⟨b', off', a2, c2, e', -, h4, h5, h6⟩ := h.get (j := 1) (by simp)
  rw [e] at e'
  injection e' with e'
  injection e' with e1 e2
  subst e1 e2
  exact ⟨b, off, a1, c1, a2, c2, e, by simpa using h1, by simpa using h2, by simpa using h3, by simpa using h4, by simpa using h5, by simpa using h6⟩

/-- Right of a node that lies in memory, of a sort of which it is. -/
theorem right_yes {l : List UInt8} (hl : l.length ≤ maxLen) {k : Nd} {a : Option Addr} {c : Nat} {W : World} (hg : Glob W) (hk : Kids W W.heap.size a k.kids) (hf : Fits k c) (hr : rightB l k = true) :
    Calls Try.prog 19 #[.agg #[.int .i64 k.kind, .string ⟨k.text.toArray⟩, .slice a k.kids.length c, .int .i64 k.pos], .string ⟨l.toArray⟩] W fun e w' => e = .returned (.bool true) ∧ Below W.heap.size W w' := by
  have := right_any l hl k a c W hg hk hf
  rw [hr] at this
  exact this

set_option maxRecDepth 100000 in
set_option maxHeartbeats 16000000 in
theorem parts_law (t : Nd) (a : Option Addr) (c : Nat) (w : World) (hN : (walkL 1000 t).length ≤ 1048576) (hg : Glob w) (hk : Kids w w.heap.size a t.kids) (hf : Fits t c) :
    Calls Try.prog 7 #[.agg #[.int .i64 t.kind, .string ⟨t.text.toArray⟩, .slice a t.kids.length c, .int .i64 t.pos]] w fun e w' => e = .returned (.bool true) ∧ Below w.heap.size w w' := by
  have hba := below_alloc w (.cells #[.int .i64 t.kind, .string ⟨t.text.toArray⟩, .slice a t.kids.length c, .int .i64 t.pos] 24)
  have hd : Bx1 t a c w.heap.size (w.alloc (.cells #[.int .i64 t.kind, .string ⟨t.text.toArray⟩, .slice a t.kids.length c, .int .i64 t.pos] 24)) := by
    refine ⟨hg.on hba, hk.on hba, hf, ⟨?_, ?_, ?_, ?_⟩⟩ <;> simp [go_sem]
  have HB := Lib.hid hba
  have HD := Lib.hid hd
  have hl63 : t.kids.length ≤ 9223372036854775807 := by have := hf.2.2.2.2.2.1; have := hf.2.2.2.2.2.2.1; omega
  have hcap : t.kids.length ≤ c := hf.2.2.2.2.2.1
  have hN1 : (walkL 100 t).length ≤ 1048576 := by have := walk_le (d := 100) (e := 1000) (by omega) t; omega
  clear hba hd hg hk hf
  go_enter Try.func7, Try.ntmps7
  go_wp2_with fail
  cases hs1 : smP 500 t with
  | false =>
    have H1 := Lib.hid hs1
    clear hs1
    refine (pt_small HD.out H1.out).mono ?_
    rintro e w1 ⟨rfl, ⟨x0, x1, x2, x3⟩, hr1⟩
    go_wp2_with fail
    refine (pt_small hr1.out.1 H1.out).mono ?_
    rintro e w2 ⟨rfl, -, hr2⟩
    go_wp2_with fail
    go_ret
    exact ⟨rfl, bext (bext HB.out hr1.out.2) hr2.out.2⟩
  | true =>
    have H1 := Lib.hid hs1
    clear hs1
    refine (pt_small HD.out H1.out).mono ?_
    rintro e w1 ⟨rfl, ⟨x0, x1, x2, x3⟩, hr1⟩
    have HB1 := Lib.hid (bext HB.out hr1.out.2)
    have HD1 := Lib.hid hr1.out.1
    clear HB HD hr1
    go_wp2_with fail
    cases hs2 : rightB sFile t with
    | false =>
      refine (pt_right HD1.out hs2).mono ?_
      clear x0 x1 x2 x3
      rintro e w2 ⟨rfl, ⟨x0, x1, x2, x3⟩, hr2⟩
      go_wp2_with fail
      refine (pt_small hr2.out.1 H1.out).mono ?_
      rintro e w3 ⟨rfl, -, hr3⟩
      go_wp2_with fail
      refine (pt_awake hr3.out.1).mono ?_
      rintro e w4 ⟨rfl, -, hr4⟩
      go_wp2_with fail
      go_ret
      exact ⟨rfl, bext (bext (bext HB1.out hr2.out.2) hr3.out.2) hr4.out.2⟩
    | true =>
      have hfile : fileB (lv 100).dc t = true ∧ t.height ≤ 100 := by
        have : sortFn sFile = some 31 := by decide
        simp only [rightB, this, Bool.and_eq_true, decide_eq_true_eq] at hs2
        exact ⟨by have := hs2.2.2; simpa [soB] using this, hs2.1⟩
      have hsz := small_len hN H1.out
      obtain ⟨hin, hdc⟩ := file_parts hfile.1
      have HDC := Lib.hid (show ∀ k, k ∈ t.kids → rightB sDecl k = true from fun k hkm => by
        obtain ⟨e1, e2⟩ := kid_small hfile.2 hkm
        exact right_true (l := sDecl) (g := 34) (by decide) e1 (by omega) (by simp [soB, hdc k hkm]))
      have HST := Lib.hid (show ∀ x, x ∈ findL 36 (nodesL 100 t) → ∀ k, k ∈ x.kids → rightB sStmt k = true from fun x hx k hkm => by
        obtain ⟨hx1, hx2⟩ := List.mem_filter.1 hx
        obtain ⟨e1, e2⟩ := in_small 100 t x hfile.2 hx1
        obtain ⟨e3, e4⟩ := kid_small (t := x) (by have := hfile.2; omega) hkm
        exact right_true (l := sStmt) (g := 37) (by decide) e3 (by omega) (by simp [soB, (hin 100 x hx1).1 (by simpa using hx2) k hkm]))
      have HEX := Lib.hid (show ∀ x, x ∈ findL 20 (nodesL 100 t) → ∃ k1 k2, x.kids = [k1, k2] ∧ rightB sExpr k1 = true ∧ rightB sExpr k2 = true from fun x hx => by
        obtain ⟨hx1, hx2⟩ := List.mem_filter.1 hx
        obtain ⟨e1, e2⟩ := in_small 100 t x hfile.2 hx1
        obtain ⟨k1, k2, ek, h1, h2⟩ := (hin 100 x hx1).2 (by simpa using hx2)
        obtain ⟨e3, e4⟩ := kid_small (t := x) (k := k1) (by have := hfile.2; omega) (by rw [ek]; simp)
        obtain ⟨e5, e6⟩ := kid_small (t := x) (k := k2) (by have := hfile.2; omega) (by rw [ek]; simp)
        exact ⟨k1, k2, ek, right_true (l := sExpr) (g := 36) (by decide) e3 (by omega) (by simp [soB, h1]), right_true (l := sExpr) (g := 36) (by decide) e5 (by omega) (by simp [soB, h2])⟩)
      clear hfile hsz hin hdc
      refine (pt_right HD1.out hs2).mono ?_
      clear x0 x1 x2 x3 hs2
      rintro e w2 ⟨rfl, ⟨x0, x1, x2, x3⟩, hr2⟩
      have HB2 := Lib.hid (bext HB1.out hr2.out.2)
      have HD2 := Lib.hid hr2.out.1
      clear HB1 HD1 hr2
      go_wp2_with fail
      go_loopw [3] (fun i wr => ∃ k : Nat, k ≤ t.kids.length ∧ i = .int .i64 k ∧ (wr.cell? ⟨w.heap.size, 0, none⟩ = some (.int .i64 t.kind) ∧ wr.cell? ⟨w.heap.size, 1, none⟩ = some (.string ⟨t.text.toArray⟩) ∧ wr.cell? ⟨w.heap.size, 2, none⟩ = some (.slice (a) t.kids.length c) ∧ wr.cell? ⟨w.heap.size, 3, none⟩ = some (.int .i64 t.pos)) ∧ Hid (Bx1 t a c w.heap.size wr ∧ Below w.heap.size w wr)) (fun i _ => t.kids.length - (intOf i).toNat)
      case atStart => exact ⟨0, by omega, rfl, ⟨x0, x1, x2, x3⟩, Lib.hid ⟨HD2.out, HB2.out⟩⟩
      case round =>
        clear x0 x1 x2 x3 HD2 HB2
        obtain ⟨k, hk1, rfl, ⟨x0, x1, x2, x3⟩, HR⟩ := hrel
        by_cases hlt : k < t.kids.length
        · obtain ⟨b, off, a', c', ha, hbB, ⟨h0', h1', h2', h3'⟩, hf', hn'⟩ := HR.out.1.k1.get hlt
          subst ha
          have HC := Lib.hid (right_yes (l := sDecl) (by decide) HR.out.1.glob hn' hf' (HDC.out _ (List.getElem_mem hlt)))
          clear hf' hn'
          go_wp2_with fail
          refine HC.out.mono ?_
          rintro e w3 ⟨rfl, hb3⟩
          have hd3 := HR.out.1.on hb3
          obtain ⟨y0, y1, y2, y3⟩ := hd3.b1
          have HR3 := Lib.hid (⟨hd3, bext HR.out.2 hb3⟩ : Bx1 t _ c w.heap.size w3 ∧ Below w.heap.size w w3)
          clear hd3 hb3 x0 x1 x2 x3 h0' h1' h2' h3'
          go_wp2_with fail
          go_roundw
          case rel =>
            first
              | exact ⟨k + 1, by omega, by go_num, ⟨y0, y1, y2, y3⟩, HR3⟩
              | ((repeat apply Exists.intro); exact ⟨⟨k + 1, by omega, by go_num, ⟨y0, y1, y2, y3⟩, HR3⟩, rfl⟩)
          case measure => simp [intOf]; omega
        · obtain rfl : k = t.kids.length := by omega
          have HD3 := Lib.hid HR.out.1
          have HB3 := Lib.hid HR.out.2
          clear HR HDC hlt
          go_wp2_with fail
          refine (pt_find 36 hN1 HD3.out).mono ?_
          clear x0 x1 x2 x3
          rintro e w4 ⟨ab, cb, rfl, ⟨x0, x1, x2, x3⟩, hlc, hl64, hr4⟩
          have HB4 := Lib.hid (bext HB3.out hr4.out.2)
          have HP4 := Lib.hid hr4.out.1
          clear HB3 HD3 hr4
          obtain ⟨bs, hbs⟩ : ∃ bs, findL 36 (nodesL 100 t) = bs := ⟨_, rfl⟩
          rw [hbs] at HP4 HST hlc hl64 ⊢
          clear hbs
          go_wp2_with fail
          go_loopw [5] (fun i wr => ∃ k : Nat, k ≤ bs.length ∧ i = .int .i64 k ∧ (wr.cell? ⟨w.heap.size, 0, none⟩ = some (.int .i64 t.kind) ∧ wr.cell? ⟨w.heap.size, 1, none⟩ = some (.string ⟨t.text.toArray⟩) ∧ wr.cell? ⟨w.heap.size, 2, none⟩ = some (.slice (a) t.kids.length c) ∧ wr.cell? ⟨w.heap.size, 3, none⟩ = some (.int .i64 t.pos)) ∧ Hid (PW t a c w.heap.size bs ab wr ∧ Below w.heap.size w wr)) (fun i _ => bs.length - (intOf i).toNat)
          case atStart => exact ⟨0, by omega, rfl, ⟨x0, x1, x2, x3⟩, Lib.hid ⟨HP4.out, HB4.out⟩⟩
          case round =>
            clear x0 x1 x2 x3 HP4 HB4
            obtain ⟨k, hk2, rfl, ⟨x0, x1, x2, x3⟩, HR⟩ := hrel
            by_cases hlt : k < bs.length
            · go_wp2_with fail
              go_loopw [6] (fun i wr => ∃ j : Nat, j ≤ (bs[k]).kids.length ∧ i = .int .i64 j ∧ (wr.cell? ⟨w.heap.size, 0, none⟩ = some (.int .i64 t.kind) ∧ wr.cell? ⟨w.heap.size, 1, none⟩ = some (.string ⟨t.text.toArray⟩) ∧ wr.cell? ⟨w.heap.size, 2, none⟩ = some (.slice (a) t.kids.length c) ∧ wr.cell? ⟨w.heap.size, 3, none⟩ = some (.int .i64 t.pos)) ∧ Hid (PW t a c w.heap.size bs ab wr ∧ Below w.heap.size w wr)) (fun i _ => (bs[k]).kids.length - (intOf i).toNat)
              case atStart => exact ⟨0, by omega, rfl, ⟨x0, x1, x2, x3⟩, HR⟩
              case round =>
                clear x0 x1 x2 x3 HR
                obtain ⟨j, hj1, rfl, ⟨x0, x1, x2, x3⟩, HR⟩ := hrel
                obtain ⟨b, off, a', c', ha, hbB, ⟨h0', h1', h2', h3'⟩, hf', hn'⟩ := HR.out.1.ks.get hlt
                subst ha
                have hkl : (bs[k]).kids.length ≤ 9223372036854775807 := by have := hf'.2.2.2.2.2.1; have := hf'.2.2.2.2.2.2.1; omega
                have hkc : (bs[k]).kids.length ≤ c' := hf'.2.2.2.2.2.1
                have HN := Lib.hid hn'
                have HST' := Lib.hid (HST.out _ (List.getElem_mem hlt))
                clear hf' hn'
                by_cases hlj : j < (bs[k]).kids.length
                · obtain ⟨b2, off2, a2, c2, ha2, hbB2, ⟨g0, g1, g2, g3⟩, hf2, hn2⟩ := HN.out.get hlj
                  subst ha2
                  have HC := Lib.hid (right_yes (l := sStmt) (by decide) HR.out.1.bx.glob hn2 hf2 (HST'.out _ (List.getElem_mem hlj)))
                  clear hf2 hn2 HN HST'
                  go_wp2_with fail
                  refine HC.out.mono ?_
                  rintro e w5 ⟨rfl, hb5⟩
                  have hd5 := HR.out.1.on hb5
                  obtain ⟨y0, y1, y2, y3⟩ := hd5.bx.b1
                  have HR5 := Lib.hid (⟨hd5, bext HR.out.2 hb5⟩ : PW t a c w.heap.size bs _ w5 ∧ Below w.heap.size w w5)
                  clear hd5 hb5 x0 x1 x2 x3 h0' h1' h2' h3' g0 g1 g2 g3
                  go_wp2_with fail
                  go_roundw
                  case rel =>
                    first
                      | exact ⟨j + 1, by omega, by go_num, ⟨y0, y1, y2, y3⟩, HR5⟩
                      | ((repeat apply Exists.intro); exact ⟨⟨j + 1, by omega, by go_num, ⟨y0, y1, y2, y3⟩, HR5⟩, rfl⟩)
                  case measure => simp [intOf]; omega
                · clear HN HST'
                  obtain rfl : j = (bs[k]).kids.length := by omega
                  go_wp2_with fail
                  go_roundw
                  case rel =>
                    first
                      | exact ⟨k + 1, by omega, by go_num, ⟨x0, x1, x2, x3⟩, HR⟩
                      | ((repeat apply Exists.intro); exact ⟨⟨k + 1, by omega, by go_num, ⟨x0, x1, x2, x3⟩, HR⟩, rfl⟩)
                  case measure => simp [intOf]; omega
            · obtain rfl : k = bs.length := by omega
              have HD5 := Lib.hid HR.out.1.bx
              have HB5 := Lib.hid HR.out.2
              clear HR HST hlt
              go_wp2_with fail
              refine (pt_find 20 hN1 HD5.out).mono ?_
              clear x0 x1 x2 x3
              rintro e w6 ⟨af, cf, rfl, ⟨x0, x1, x2, x3⟩, hlf, hlf64, hr6⟩
              have HB6 := Lib.hid (bext HB5.out hr6.out.2)
              have HP6 := Lib.hid hr6.out.1
              clear HB5 HD5 hr6
              obtain ⟨es, hes⟩ : ∃ es, findL 20 (nodesL 100 t) = es := ⟨_, rfl⟩
              rw [hes] at HP6 HEX hlf hlf64 ⊢
              clear hes
              go_wp2_with fail
              go_loopw [8] (fun i wr => ∃ k : Nat, k ≤ es.length ∧ i = .int .i64 k ∧ (wr.cell? ⟨w.heap.size, 0, none⟩ = some (.int .i64 t.kind) ∧ wr.cell? ⟨w.heap.size, 1, none⟩ = some (.string ⟨t.text.toArray⟩) ∧ wr.cell? ⟨w.heap.size, 2, none⟩ = some (.slice (a) t.kids.length c) ∧ wr.cell? ⟨w.heap.size, 3, none⟩ = some (.int .i64 t.pos)) ∧ Hid (PW t a c w.heap.size es af wr ∧ Below w.heap.size w wr)) (fun i _ => es.length - (intOf i).toNat)
              case atStart => exact ⟨0, by omega, rfl, ⟨x0, x1, x2, x3⟩, Lib.hid ⟨HP6.out, HB6.out⟩⟩
              case round =>
                clear x0 x1 x2 x3 HP6 HB6
                obtain ⟨k, hk3, rfl, ⟨x0, x1, x2, x3⟩, HR⟩ := hrel
                by_cases hlt : k < es.length
                · obtain ⟨k1, k2, ek, hr1, hr2⟩ := HEX.out _ (List.getElem_mem hlt)
                  obtain ⟨b, off, a', c', ha, hbB, ⟨h0', h1', h2', h3'⟩, hf', hn'⟩ := HR.out.1.ks.get hlt
                  subst ha
                  rw [ek] at hn'
                  have hl2 : (es[k]).kids.length = 2 := by rw [ek]; rfl
                  rw [hl2] at h2'
                  have hkc : 2 ≤ c' := by have := hf'.2.2.2.2.2.1; rw [ek] at this; exact this
                  obtain ⟨b2, off2, a2, c2, a3, c3, ha2, ⟨g0, g1, g2, g3⟩, hf2, hn2, ⟨k0, k1', k2', k3⟩, hf3, hn3⟩ := hn'.two
                  subst ha2
                  have HC := Lib.hid (right_yes (l := sExpr) (by decide) HR.out.1.bx.glob hn2 hf2 hr1)
                  have HRR := Lib.hid hr2
                  have HE := Lib.hid ek
                  have HE2 := Lib.hid hl2
                  clear hf' hn2 hf2 hr1 hr2 ek hn' hn3 hf3 hl2
                  go_wp2_with fail
                  refine HC.out.mono ?_
                  clear h0' h1' h2' h3' g0 g1 g2 g3 k0 k1' k2' k3 x0 x1 x2 x3
                  rintro e w7 ⟨rfl, hb7⟩
                  have hd7 := HR.out.1.on hb7
                  obtain ⟨x0, x1, x2, x3⟩ := hd7.bx.b1
                  obtain ⟨b', off', a', c'', ha, hbB', ⟨h0', h1', h2', h3'⟩, hf', hn'⟩ := hd7.ks.get hlt
                  injection ha with ha
                  injection ha with e1 e2
                  subst e1 e2
                  rw [HE.out] at hn'
                  rw [HE2.out] at h2'
                  have hkc' : 2 ≤ c'' := by have := hf'.2.2.2.2.2.1; rw [HE2.out] at this; exact this
                  obtain ⟨b3, off3, a4, c4, a5, c5, ha3, ⟨g0, g1, g2, g3⟩, hf2, hn2, ⟨k0, k1', k2', k3⟩, hf3, hn3⟩ := hn'.two
                  subst ha3
                  have HC7 := Lib.hid (right_yes (l := sExpr) (by decide) hd7.bx.glob hn3 hf3 HRR.out)
                  have HR7 := Lib.hid (⟨hd7, bext HR.out.2 hb7⟩ : PW t a c w.heap.size es _ w7 ∧ Below w.heap.size w w7)
                  clear HC HR HRR hf' hn2 hf2 hf3 hn3 hn' hd7 hb7
                  go_wp2_with fail
                  refine HC7.out.mono ?_
                  clear h0' h1' h2' h3' g0 g1 g2 g3 k0 k1' k2' k3 x0 x1 x2 x3
                  rintro e w8 ⟨rfl, hb8⟩
                  have hd8 := HR7.out.1.on hb8
                  obtain ⟨y0, y1, y2, y3⟩ := hd8.bx.b1
                  have HR8 := Lib.hid (⟨hd8, bext HR7.out.2 hb8⟩ : PW t a c w.heap.size es _ w8 ∧ Below w.heap.size w w8)
                  clear HC7 HR7 hd8 hb8
                  go_wp2_with fail
                  go_roundw
                  case rel =>
                    first
                      | exact ⟨k + 1, by omega, by go_num, ⟨y0, y1, y2, y3⟩, HR8⟩
                      | ((repeat apply Exists.intro); exact ⟨⟨k + 1, by omega, by go_num, ⟨y0, y1, y2, y3⟩, HR8⟩, rfl⟩)
                  case measure => simp [intOf]; omega
                · obtain rfl : k = es.length := by omega
                  have HD9 := Lib.hid HR.out.1.bx
                  have HB9 := Lib.hid HR.out.2
                  clear HR HEX hlt
                  go_wp2_with fail
                  refine (pt_awake HD9.out).mono ?_
                  rintro e w9 ⟨rfl, -, hr9⟩
                  go_wp2_with fail
                  go_ret
                  exact ⟨rfl, bext HB9.out hr9.out.2⟩
end Go.Proofs.Ytnmebgiiajnnjaa
