/-
  tree.sorts$1, walked; the answers of all sorts
-/
import Derived.Test.YtnmebgiiajnnjaaSorts
namespace Go.Proofs.Ytnmebgiiajnnjaa
set_option linter.unusedSimpArgs false
set_option linter.unusedVariables false
open Go.RowKit Go.Maps

def fileB (dc : Nd → Bool) (t : Nd) : Bool := t.kind == 1 && (nameL t.text && t.kids.all dc)

set_option maxHeartbeats 1000000 in
theorem file_ok (dc : Nd → Bool) (n : Nat) (h : Ok 34 dc n) : Ok 31 (fileB dc) (n + 1) := by
  intro t a c w ht hg hk hf
  have HT := Lib.hid h
  have HG := Lib.hid hg
  have HK := Lib.hid hk
  have HF := Lib.hid hf
  have HB0 := Lib.hid (below_alloc w (.cells #[.int .i64 t.kind, .string ⟨t.text.toArray⟩, .slice a t.kids.length c, .int .i64 t.pos] 24))
  have hl : t.text.length ≤ 140737488351232 := hf.2.2.2.2.1
  have hl2 : t.kids.length ≤ 9223372036854775807 := by have := hf.2.2.2.2.2.1; have := hf.2.2.2.2.2.2; omega
  clear h hg hk hf
  go_enter Try.func31, Try.ntmps31
  cases h1 : (t.kind == 1) with
  | true =>
    have eT : fileB dc t = (nameL t.text && t.kids.all dc) := by simp [fileB, h1]
    have ET := Lib.hid eT
    clear eT
    cases hn : nameL t.text with
    | true =>
      have Hn := Lib.hid hn
      have hN := fun W => name_any t.text W (by omega)
      simp only [hn] at hN
      have HN := Lib.hid hN
      clear hn hN
      go_wp2_with fail
      refine (HN.out _).mono ?_
      rintro e w1 ⟨rfl, hb1⟩
      obtain ⟨⟨a0, a1, a2, a3⟩, -⟩ := four_at (b := w.heap.size) hb1 (by simp) (by simp; rfl) (by simp; rfl) (by simp; rfl) (by simp; rfl) (by simp) (by simp) (by simp) (by simp)
      have hB := bext HB0.out hb1
      have HB := Lib.hid hB
      clear hB
      go_wp2_with fail
      refine (all_any t.kids a c 34 #[] dc _ (enters_of Try.func34 (by kernel_rfl) rfl) hl2 (HK.out.on HB.out) (HT.out.kids ht (HG.out.on HB.out))).mono ?_
      rintro e w2 ⟨rfl, hb2⟩
      go_wp2_with fail
      go_ret
      exact ⟨ret_bool (by rw [ET.out, Hn.out]; rfl), bext HB.out hb2⟩
    | false =>
      have Hn := Lib.hid hn
      have hN := fun W => name_any t.text W (by omega)
      simp only [hn] at hN
      have HN := Lib.hid hN
      clear hn hN
      go_wp2_with fail
      refine (HN.out _).mono ?_
      rintro e w1 ⟨rfl, hb1⟩
      go_wp2_with fail
      go_ret
      exact ⟨ret_bool (by rw [ET.out, Hn.out]; rfl), bext HB0.out hb1⟩
  | false =>
    have eT : fileB dc t = false := by simp [fileB, h1]
    have ET := Lib.hid eT
    clear eT
    go_wp2_with fail
    go_ret
    exact ⟨ret_bool ET.out.symm, HB0.out⟩

/-- The answer of a sort's question, of nodes of at most 100 within one another. -/
def soB (g : Nat) (t : Nd) : Bool :=
  if g = 38 then (lv 100).sg t else if g = 37 then (lv 100).st t else if g = 36 then (lv 100).ex t else
  if g = 35 then (lv 100).ty t else if g = 34 then (lv 100).dc t else fileB (lv 100).dc t

theorem Ok.le {K : Nat} {f : Nd → Bool} {n m : Nat} (h : Ok K f n) (hm : m ≤ n) : Ok K f m := fun t a c w ht => h t a c w (by omega)

theorem so_ok (l : List UInt8) (g : Nat) (h : sortFn l = some g) : Ok g (soB g) 100 ∧ Enters Try.prog g := by
  unfold sortFn at h
  have G := good 100
  split at h
  · cases h; exact ⟨G.sg, enters_of Try.func38 (by kernel_rfl) rfl⟩
  split at h
  · cases h; exact ⟨G.st, enters_of Try.func37 (by kernel_rfl) rfl⟩
  split at h
  · cases h; exact ⟨G.ex, enters_of Try.func36 (by kernel_rfl) rfl⟩
  split at h
  · cases h; exact ⟨G.ty, enters_of Try.func35 (by kernel_rfl) rfl⟩
  split at h
  · cases h; exact ⟨G.dc, enters_of Try.func34 (by kernel_rfl) rfl⟩
  split at h
  · cases h; exact ⟨(file_ok _ _ G.dc).le (by omega), enters_of Try.func31 (by kernel_rfl) rfl⟩
  · cases h
end Go.Proofs.Ytnmebgiiajnnjaa
