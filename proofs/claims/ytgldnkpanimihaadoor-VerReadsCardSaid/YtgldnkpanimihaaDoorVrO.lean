/-
  an argument of type []byte.
-/
import Derived.ChangeSlices
import Derived.WideShapes
import Derived.Carry
import Derived.Test.YtgldnkpanimihaaDoorVrY
namespace Go.Proofs.YtgldnkpanimihaaDoor
set_option linter.unusedSimpArgs false
set_option linter.unusedVariables false
open Go.ChangeShapes Go.WideShapes Go.ChangeAt Go.RowKit

theorem laidOutK : laidOutB Tryd.prog = true := by kernel_rfl
section
variable {H : Type} {enc : TypeId × Value → H}
theorem bytes_below {W W' : World} {v : Value} {d : DataW H} {ps : List MemPlace} (h : DataW.Trod enc Tryd.prog W 0 (fun _ => true) true 22 v d ps) (hb : Below W.heap.size W W') :
    DataW.Trod enc Tryd.prog W' 0 (fun b => decide (b < W.heap.size)) true 22 v d ps :=
  Below.trod laidOutK (by kernel_rfl) (of_decide_eq_true (by kernel_rfl)) h hb (by obtain ⟨m, hm⟩ := h; exact DataW.trod_lt m _ _ _ hm)
set_option maxRecDepth 100000 in
theorem open_bytes {W : World} {base : Nat} {v : Value} {d : DataW H} {ps : List MemPlace} (hv : Value.okWide Tryd.prog W .any base 22 v) (h : DataW.Trod enc Tryd.prog W 0 (fun _ => true) true 22 v d ps) :
    ∃ (l : List UInt8) (a : Option Addr) (c : Nat), v = .slice a l.length c ∧ BAt W a l ∧ l.length ≤ 9223372036854775807 := by
  obtain ⟨a, len, cap, rfl⟩ := okWide_slice Tryd.underlying22 hv
  obtain ⟨fuel, hf⟩ := h
  have hf : DataW.trod enc Tryd.prog W 0 (fun _ => true) true fuel 22 [.slice a len cap] = some (d, ps) := hf
  rcases open_ints Tryd.underlying22 Tryd.underlying5 (by kernel_rfl) hf with ⟨hcs, _⟩ | ⟨ad, len', cap', zs, hcs, _, hl, hm, hz, _, hcell, hwz⟩
  · simp only [List.cons.injEq, and_true, Value.slice.injEq] at hcs
    obtain ⟨rfl, rfl, rfl⟩ := hcs
    exact ⟨[], none, 0, rfl, .inl rfl, by simp⟩
  · simp only [List.cons.injEq, and_true, Value.slice.injEq] at hcs
    obtain ⟨rfl, rfl, rfl⟩ := hcs
    rw [if_pos rfl] at hz
    have hm2 : maxLen ≤ 9223372036854775807 := by unfold maxLen; omega
    have hL : ((zs.take len).map fun z => UInt8.ofNat z.toNat).length = len := by simp; omega
    refine ⟨(zs.take len).map fun z => UInt8.ofNat z.toNat, some ad, cap, by rw [hL], ?_, by rw [hL]; omega⟩
    by_cases h0 : len = 0
    · left
      apply List.eq_nil_of_length_eq_zero
      rw [hL, h0]
    · right
      have h1 := hcell 0 (by omega)
      obtain ⟨b, off, spot⟩ := ad
      have h1' : W.cell? ⟨b, off, spot⟩ = some (.int .u8 (zs.getD 0 0)) := by simpa [Addr.add] using h1
      have hs : spot = none := World.cell?_spot h1'
      subst hs
      refine ⟨b, off, rfl, cell_lt0 h1', fun i hi => ?_⟩
      have hi2 : i < len := by rw [hL] at hi; exact hi
      have h2 := hcell i (by omega)
      have hplain : (⟨b, off, none⟩ : Addr).add i = ⟨b, off + i, none⟩ := by unfold Addr.add; split <;> simp_all
      rw [hplain] at h2
      rw [h2]
      have hzi : zs.getD i 0 = zs[i]'(by omega) := by rw [List.getD_eq_getElem?_getD, List.getElem?_eq_getElem (by omega)]; rfl
      have hw := hwz (zs[i]'(by omega)) (List.getElem_mem _)
      have hb : 0 ≤ zs[i]'(by omega) ∧ zs[i]'(by omega) ≤ 255 := by simpa [Lit.wf, IntKind.min, IntKind.max, IntKind.signed, IntKind.bits] using hw
      rw [hzi]
      simp only [List.getElem_map, List.getElem_take]
      congr 2
      have h9 : (UInt8.ofNat (zs[i]'(by omega)).toNat).toNat = (zs[i]'(by omega)).toNat % 256 := UInt8.toNat_ofNat'
      omega
end
end Go.Proofs.YtgldnkpanimihaaDoor
