/-
  the law NamesLetters, walked (of types of bulk at most 1048576 each).
-/
import Derived.Deep.RegionHeld3
import Derived.Test.YtfcpblclfgkdjaaDoorNmG
import Derived.Test.YtfcpblclfgkdjaaDoorNmH
import Derived.Test.YtfcpblclfgkdjaaDoorNmJ
import Derived.Test.YtfcpblclfgkdjaaDoorNmK
namespace Go.Proofs.YtfcpblclfgkdjaaDoor
set_option linter.unusedSimpArgs false
set_option linter.unusedVariables false
open Go.RowKit

def Keep (B : World → Prop) : Prop := ∀ W W', Below W.heap.size W W' → B W → B W'
/-- Behind w0: cells, known types. -/
structure Pk (w0 : World) (B : World → Prop) (K : List (Ty × Option Addr × Nat)) (W : World) : Prop where
  below : Below w0.heap.size w0 W
  tab : Tab W
  cells : B W
  known : ∀ y, y ∈ K → Tids W Any y.2.1 y.1.args ∧ Fity y.1 y.2.2 ∧ tyLen y.1 ≤ 1000000000000000000
section
variable {w0 : World} {B : World → Prop} {K : List (Ty × Option Addr × Nat)} {W W' : World}
theorem Pk.on (h : Pk w0 B K W) (hB : Keep B) (hb : Below W.heap.size W W') : Pk w0 B K W' :=
  ⟨bext h.below hb, h.tab.on hb, hB W W' hb h.cells, fun y hy => ⟨(h.known y hy).1.on hb, (h.known y hy).2⟩⟩
theorem Pk.cons (h : Pk w0 B K W) {t : Ty} {a : Option Addr} {c : Nat} (hk : Tids W Any a t.args) (hf : Fity t c) (hl : tyLen t ≤ 1000000000000000000) : Pk w0 B ((t, a, c) :: K) W :=
  ⟨h.below, h.tab, h.cells, fun y hy => (List.mem_cons.1 hy).elim (fun e => by subst e; exact ⟨hk, hf, hl⟩) (h.known y)⟩
abbrev PkPost (w0 : World) (B : World → Prop) (K : List (Ty × Option Addr × Nat)) (v : Value) (e : Ending) (w' : World) : Prop := e = .returned v ∧ B w' ∧ Hid (Pk w0 B K w')
theorem pk_post (h : Pk w0 B K W) (hB : Keep B) {f : Nat} {args : Array Value} {v : Value} (hc : Calls Tryd.prog f args W fun e w' => e = .returned v ∧ Below W.heap.size W w') : Calls Tryd.prog f args W (PkPost w0 B K v) :=
  hc.mono fun e w' ⟨he, hb⟩ => have h' := h.on hB hb; ⟨he, h'.cells, Lib.hid h'⟩
theorem pk_typ (h : Pk w0 B K W) (hB : Keep B) (t : Ty) (a : Option Addr) (c : Nat) (hm : (t, a, c) ∈ K) :
    Calls Tryd.prog 10 #[.agg #[.int .i64 t.kind, .string ⟨t.name.toArray⟩, .slice a t.args.length c]] W fun e w' => ∃ a' c', e = .returned (.agg #[.int .i64 t.kind, .string ⟨t.name.toArray⟩, .slice a' t.args.length c']) ∧ B w' ∧ Hid (Pk w0 B ((t, a', c') :: K) w') :=
  (typ_any t a c W (h.known _ hm).1 (h.known _ hm).2.1).mono fun e w' ⟨hb, a', c', he, hf, hk⟩ => have h' := (h.on hB hb).cons hk.any hf (h.known _ hm).2.2; ⟨a', c', he, h'.cells, Lib.hid h'⟩
theorem pk_letters (h : Pk w0 B K W) (hB : Keep B) (t : Ty) (a : Option Addr) (c : Nat) (hm : (t, a, c) ∈ K) :
    Calls Tryd.prog 9 #[.agg #[.int .i64 t.kind, .string ⟨t.name.toArray⟩, .slice a t.args.length c]] W (PkPost w0 B K (.string ⟨(letT t).toArray⟩)) :=
  pk_post h hB (Letters_any t a c W h.tab (h.known _ hm).1 (h.known _ hm).2.1 (h.known _ hm).2.2)
theorem pk_plain (h : Pk w0 B K W) (hB : Keep B) (t u : Ty) (a a2 : Option Addr) (c c2 : Nat) (hm : (t, a, c) ∈ K) (hm2 : (u, a2, c2) ∈ K) :
    Calls Tryd.prog 11 #[.agg #[.int .i64 t.kind, .string ⟨t.name.toArray⟩, .slice a t.args.length c], .agg #[.int .i64 u.kind, .string ⟨u.name.toArray⟩, .slice a2 u.args.length c2]] W (PkPost w0 B K (.bool (plainT t u))) :=
  pk_post h hB (plain_any t u a a2 c c2 W (h.known _ hm).1 (h.known _ hm).2.1 (h.known _ hm2).1 (h.known _ hm2).2.1)
theorem pk_awake (h : Pk w0 B K W) (hB : Keep B) : Calls Tryd.prog 6 #[] W (PkPost w0 B K (.bool true)) :=
  pk_post h hB (awake_any W h.tab)
theorem pk_size (h : Pk w0 B K W) (hB : Keep B) (t : Ty) (a : Option Addr) (c : Nat) (hm : (t, a, c) ∈ K) :
    Calls Tryd.prog 7 #[.agg #[.int .i64 t.kind, .string ⟨t.name.toArray⟩, .slice a t.args.length c]] W (PkPost w0 B K (.int .i64 (wrap64 (sizeT t)))) :=
  pk_post h hB (size_any t a c W (h.known _ hm).1 (h.known _ hm).2.1)
theorem pk_long (h : Pk w0 B K W) (hB : Keep B) (t : Ty) (a : Option Addr) (c : Nat) (hm : (t, a, c) ∈ K) :
    Calls Tryd.prog 8 #[.agg #[.int .i64 t.kind, .string ⟨t.name.toArray⟩, .slice a t.args.length c]] W (PkPost w0 B K (.bool (longT t))) :=
  pk_post h hB (long_any t a c W (h.known _ hm).1 (h.known _ hm).2.1)
end

set_option maxRecDepth 100000 in
set_option maxHeartbeats 16000000 in
theorem letters_law (t u : Ty) (a0 a1 : Option Addr) (c0 c1 : Nat) (w : World) (hT : Tab w) (hk : Tids w Any a0 t.args) (hf : Fity t c0) (hk' : Tids w Any a1 u.args) (hf' : Fity u c1)
    (hbt : bulkT t ≤ 1048576) (hbu : bulkT u ≤ 1048576) :
    Calls Tryd.prog 4 #[.agg #[.int .i64 t.kind, .string ⟨t.name.toArray⟩, .slice a0 t.args.length c0], .agg #[.int .i64 u.kind, .string ⟨u.name.toArray⟩, .slice a1 u.args.length c1]] w (Good w) := by
  have HLT := Lib.hid (show tyLen t ≤ 1000000000000000000 by have := len_bulk t; omega)
  have HLU := Lib.hid (show tyLen u ≤ 1000000000000000000 by have := len_bulk u; omega)
  have HSAME := Lib.hid (letters_same (t := t) (u := u))
  have HK0 := Lib.hid (And.intro hk hf)
  have HK1 := Lib.hid (And.intro hk' hf')
  have HT := Lib.hid hT
  obtain ⟨N0, hN0⟩ : ∃ N, wrap64 (sizeT t) = N := ⟨_, rfl⟩
  obtain ⟨N1, hN1⟩ : ∃ N, wrap64 (sizeT u) = N := ⟨_, rfl⟩
  obtain ⟨l0, hl0⟩ : ∃ l, longT t = l := ⟨_, rfl⟩
  obtain ⟨l1, hl1⟩ : ∃ l, longT u = l := ⟨_, rfl⟩
  have HN0 := Lib.hid hN0
  have HN1 := Lib.hid hN1
  have HL0 := Lib.hid hl0
  have HL1 := Lib.hid hl1
  clear hk hf hk' hf' hbt hbu hT hN0 hN1 hl0 hl1
  go_enter Tryd.func4, Tryd.ntmps4
  go_wp2_with fail
  obtain ⟨W2, hW2, HP, ⟨p0, p1, p2⟩, ⟨q0, q1, q2⟩⟩ : ∃ W2, ((w.alloc (.cells #[.int .i64 t.kind, .string ⟨t.name.toArray⟩, .slice a0 t.args.length c0] 28)).alloc (.cells #[.int .i64 u.kind, .string ⟨u.name.toArray⟩, .slice a1 u.args.length c1] 28)) = W2 ∧
      Hid (Pk w (fun W => (W.cell? ⟨w.heap.size, 0, none⟩ = some (.int .i64 t.kind) ∧ W.cell? ⟨w.heap.size, 1, none⟩ = some (.string ⟨t.name.toArray⟩) ∧ W.cell? ⟨w.heap.size, 2, none⟩ = some (.slice a0 t.args.length c0)) ∧
        (W.cell? ⟨w.heap.size + 1, 0, none⟩ = some (.int .i64 u.kind) ∧ W.cell? ⟨w.heap.size + 1, 1, none⟩ = some (.string ⟨u.name.toArray⟩) ∧ W.cell? ⟨w.heap.size + 1, 2, none⟩ = some (.slice a1 u.args.length c1))) [(t, a0, c0), (u, a1, c1)] W2) ∧
      (W2.cell? ⟨w.heap.size, 0, none⟩ = some (.int .i64 t.kind) ∧ W2.cell? ⟨w.heap.size, 1, none⟩ = some (.string ⟨t.name.toArray⟩) ∧ W2.cell? ⟨w.heap.size, 2, none⟩ = some (.slice a0 t.args.length c0)) ∧
        (W2.cell? ⟨w.heap.size + 1, 0, none⟩ = some (.int .i64 u.kind) ∧ W2.cell? ⟨w.heap.size + 1, 1, none⟩ = some (.string ⟨u.name.toArray⟩) ∧ W2.cell? ⟨w.heap.size + 1, 2, none⟩ = some (.slice a1 u.args.length c1)) := by
    have hb : Below w.heap.size w ((w.alloc (.cells #[.int .i64 t.kind, .string ⟨t.name.toArray⟩, .slice a0 t.args.length c0] 28)).alloc (.cells #[.int .i64 u.kind, .string ⟨u.name.toArray⟩, .slice a1 u.args.length c1] 28)) := ((Below.refl _ _).alloc (Nat.le_refl _) _).alloc (by simp) _
    refine ⟨_, rfl, Lib.hid ⟨hb, HT.out.on hb, ⟨⟨?_, ?_, ?_⟩, ?_, ?_, ?_⟩, fun y hy => ?_⟩, ⟨?_, ?_, ?_⟩, ?_, ?_, ?_⟩
    any_goals simp [go_sem]
    simp only [List.mem_cons, List.not_mem_nil, or_false] at hy
    rcases hy with rfl | rfl
    · exact ⟨HK0.out.1.on hb, HK0.out.2, HLT.out⟩
    · exact ⟨HK1.out.1.on hb, HK1.out.2, HLU.out⟩
  have HKB := Lib.hid (show Keep (fun W => (W.cell? ⟨w.heap.size, 0, none⟩ = some (.int .i64 t.kind) ∧ W.cell? ⟨w.heap.size, 1, none⟩ = some (.string ⟨t.name.toArray⟩) ∧ W.cell? ⟨w.heap.size, 2, none⟩ = some (.slice a0 t.args.length c0)) ∧
        (W.cell? ⟨w.heap.size + 1, 0, none⟩ = some (.int .i64 u.kind) ∧ W.cell? ⟨w.heap.size + 1, 1, none⟩ = some (.string ⟨u.name.toArray⟩) ∧ W.cell? ⟨w.heap.size + 1, 2, none⟩ = some (.slice a1 u.args.length c1))) from
    fun W W' hb h => ⟨three_on hb h.1.1 h.1.2.1 h.1.2.2, three_on hb h.2.1 h.2.2.1 h.2.2.2⟩)
  rw [hW2]
  clear hW2 HK0 HK1
  have h0 := pk_size HP.out HKB.out t a0 c0 (by simp)
  rw [HN0.out] at h0
  refine h0.mono ?_
  clear h0
  rintro e w1 ⟨rfl, ⟨⟨p0, p1, p2⟩, q0, q1, q2⟩, HP⟩
  by_cases h40 : 40 < N0
  · go_wp2_with fail
    go_ret
    exact ⟨rfl, HP.out.below⟩
  go_wp2_with fail
  have h0 := pk_size HP.out HKB.out u a1 c1 (by simp)
  rw [HN1.out] at h0
  refine h0.mono ?_
  clear h0
  rintro e w2 ⟨rfl, ⟨⟨p0, p1, p2⟩, q0, q1, q2⟩, HP⟩
  by_cases h41 : 40 < N1
  · go_wp2_with fail
    go_ret
    exact ⟨rfl, HP.out.below⟩
  go_wp2_with fail
  have h0 := pk_long HP.out HKB.out t a0 c0 (by simp)
  rw [HL0.out] at h0
  refine h0.mono ?_
  clear h0
  rintro e w3 ⟨rfl, ⟨⟨p0, p1, p2⟩, q0, q1, q2⟩, HP⟩
  cases l0 with
  | true =>
    go_wp2_with fail
    go_ret
    exact ⟨rfl, HP.out.below⟩
  | false =>
  go_wp2_with fail
  have h0 := pk_long HP.out HKB.out u a1 c1 (by simp)
  rw [HL1.out] at h0
  refine h0.mono ?_
  clear h0
  rintro e w4 ⟨rfl, ⟨⟨p0, p1, p2⟩, q0, q1, q2⟩, HP⟩
  cases l1 with
  | true =>
    go_wp2_with fail
    go_ret
    exact ⟨rfl, HP.out.below⟩
  | false =>
  have HP := Lib.hid (HP.out.on HKB.out (Below.refl _ _).drew)
  have hpl : w.heap.size + 1 < w4.heap.size := cell_lt1 q0
  have hpl0 : w.heap.size < w4.heap.size := cell_lt1 p0
  clear HN0 HN1 HL0 HL1
  go_wp2_with fail
  go_region_held3 (fun W => (W.cell? ⟨w.heap.size, 0, none⟩ = some (.int .i64 t.kind) ∧ W.cell? ⟨w.heap.size, 1, none⟩ = some (.string ⟨t.name.toArray⟩) ∧ W.cell? ⟨w.heap.size, 2, none⟩ = some (.slice a0 t.args.length c0)) ∧
      (W.cell? ⟨w.heap.size + 1, 0, none⟩ = some (.int .i64 u.kind) ∧ W.cell? ⟨w.heap.size + 1, 1, none⟩ = some (.string ⟨u.name.toArray⟩) ∧ W.cell? ⟨w.heap.size + 1, 2, none⟩ = some (.slice a1 u.args.length c1))) (go_keep)
    (first
      | (go_at_call 10
         refine (pk_typ HP.out HKB.out _ _ _ ?_).mono ?_
         focus (simp)
         rintro e w5 ⟨a', c', rfl, ⟨⟨p0, p1, p2⟩, q0, q1, q2⟩, HP⟩)
      | (go_at_call 9
         refine (pk_letters HP.out HKB.out _ _ _ ?_).mono ?_
         focus (simp)
         rintro e w5 ⟨rfl, ⟨⟨p0, p1, p2⟩, q0, q1, q2⟩, HP⟩))
  all_goals
    obtain ⟨r, hr⟩ : ∃ r, plainT t u = r := ⟨_, rfl⟩
    have HR := Lib.hid (fun W (K : List (Ty × Option Addr × Nat)) (B : World → Prop) (h : Pk w B K W) hB a a2 c c2 hm hm2 => by have := pk_plain h hB t u a a2 c c2 hm hm2; rw [hr] at this; exact this)
    have HSAME2 := Lib.hid (fun (h0 : ¬ letT t = []) (h1 : ¬ letT u = []) => show (letT t == letT u) = r by
      have := HSAME.out h0 h1
      rw [hr] at this
      rw [← this, Bool.eq_iff_iff]; simp)
    have hrr : (r == r) = true := by simp
    clear hr HSAME
    by_cases e0 : letT t = []
    · have n0 : (letT t).isEmpty = true := by rw [e0]; rfl
      clear e0
      go_wp2_with fail
      refine (pk_awake HP.out HKB.out).mono ?_
      rintro e w5 ⟨rfl, -, HP⟩
      go_wp2_with fail
      go_ret
      exact ⟨rfl, HP.out.below⟩
    have n0 : (letT t).isEmpty = false := by simpa using e0
    by_cases e1 : letT u = []
    · have n1 : (letT u).isEmpty = true := by rw [e1]; rfl
      clear e0 e1
      go_wp2_with fail
      refine (pk_awake HP.out HKB.out).mono ?_
      rintro e w5 ⟨rfl, -, HP⟩
      go_wp2_with fail
      go_ret
      exact ⟨rfl, HP.out.below⟩
    have n1 : (letT u).isEmpty = false := by simpa using e1
    have n2 := HSAME2.out e0 e1
    clear e0 e1
    go_wp2_with fail
    refine (HR.out _ _ _ HP.out HKB.out _ _ _ _ ?_ ?_).mono ?_
    focus (simp)
    focus (simp)
    rintro e w5 ⟨rfl, ⟨⟨p0, p1, p2⟩, q0, q1, q2⟩, HP⟩
    go_wp2_with fail
    refine (pk_awake HP.out HKB.out).mono ?_
    rintro e w6 ⟨rfl, -, HP⟩
    go_wp2_with fail
    go_ret
    exact ⟨rfl, HP.out.below⟩
end Go.Proofs.YtfcpblclfgkdjaaDoor
