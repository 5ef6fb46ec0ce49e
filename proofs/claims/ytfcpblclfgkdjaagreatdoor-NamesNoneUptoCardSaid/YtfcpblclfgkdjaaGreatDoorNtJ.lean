/-
  names: Free, walked: which names it tells.
-/
import Derived.Test.YtfcpblclfgkdjaaGreatDoorNtI
import Derived.Test.YtfcpblclfgkdjaaGreatDoorIter
import Derived.Test.YtfcpblclfgkdjaaGreatDoorZB
import Derived.Laws.OwnMore
namespace Go.Proofs.YtfcpblclfgkdjaaGreatDoor
set_option linter.unusedSimpArgs false
set_option linter.unusedVariables false
open Go.RowKit Go.Maps Go.Shelf Go.Sort

theorem own_far {w w' : World} {base base' : Nat} {e : TypeId} {size : Nat} {v : Value} {n : Nat} {xs : List Value} (h : w.ownsRow base e size v n xs) (hb : base' ≤ base) (hk : ∀ g, base ≤ g → g < w.heap.size → w'.heap[g]? = w.heap[g]?) : w'.ownsRow base' e size v n xs := by
  refine ⟨h.1, ?_⟩
  rcases h.2 with h0 | ⟨g, cap, cur, hv, hg, hh, hr⟩
  · exact .inl h0
  · exact .inr ⟨g, cap, cur, hv, by omega, (hk g hg (Array.getElem?_eq_some_iff.1 hh).1).trans hh, hr⟩
theorem put_keys (s : List UInt8) (d : DataW Unit) (es : List (Lit × DataW Unit)) (hk : ∀ p, p ∈ es → ∃ b, p.1 = .string b) :
    ∃ es' : List (Lit × DataW Unit), (DataW.map es).put (.string s) d = .map es' ∧ (es'.map fun p => strOf p.1).Perm (s :: (es.map fun p => strOf p.1).filter (fun x => !(x == s))) ∧ ∀ p, p ∈ es' → ∃ b, p.1 = .string b := by
  refine ⟨DataW.insert (.string s, d) (es.filter fun p => !p.1.sameKey (.string s)), rfl, ?_, fun p hp => ?_⟩
  · refine ((Go.WideShapes.insert_perm _ _).map _).trans ?_
    rw [List.map_cons]
    refine List.Perm.cons _ ?_
    rw [List.filter_map]
    have : ∀ l : List (Lit × DataW Unit), (∀ p, p ∈ l → ∃ b, p.1 = .string b) → (l.filter fun p => !p.1.sameKey (.string s)) = l.filter ((fun x => !(x == s)) ∘ fun p => strOf p.1) := by
      intro l hl
      apply List.filter_congr
      intro p hp
      obtain ⟨b, hb⟩ := hl p hp
      simp [hb, Lit.sameKey, strOf]
    rw [this es hk]
  · rcases List.mem_cons.1 ((Go.WideShapes.insert_perm _ _).mem_iff.1 hp) with rfl | h
    · exact ⟨s, rfl⟩
    · exact hk p (List.mem_filter.1 h).1
theorem bD_keys : ∀ b : List (List UInt8), ∃ es, bD b = .map es ∧ (∀ p, p ∈ es → ∃ k, p.1 = .string k) ∧ ∀ x, x ∈ (es.map fun p => strOf p.1) ↔ x ∈ b
  | [] => ⟨[], rfl, (fun p hp => by cases hp), fun x => by simp⟩
  | s :: b => by
    obtain ⟨es, h1, h2, h3⟩ := bD_keys b
    obtain ⟨es', e1, e2, e3⟩ := put_keys s (.lit (.bool true)) es h2
    refine ⟨es', by rw [bD, h1]; exact e1, e3, fun x => ?_⟩
    rw [e2.mem_iff, List.mem_cons, List.mem_filter, h3, List.mem_cons]
    by_cases e : x = s
    · simp [e]
    · simp [e]
theorem keys_mem {ss b : List (List UInt8)} (h : ss.Perm (strKeys (bD b))) : ∀ x, x ∈ ss.mergeSort (fun x y => decide (x ≤ y)) ↔ x ∈ b := fun x => by
  obtain ⟨es, h1, -, h3⟩ := bD_keys b
  have hk : strKeys (bD b) = es.map fun p => strOf p.1 := by rw [h1]; rfl
  rw [hk] at h
  rw [((List.mergeSort_perm ss (fun x y => decide (x ≤ y))).trans h).mem_iff]
  exact h3 x
/-- A row of texts. -/
theorem strRow_own {w : World} {base n : Nat} {v : Value} {ss : List (List UInt8)} (h : w.ownsRow base 9 1 v n (ss.map encStr)) (hn : n = ss.length) : ∃ a c, v = .slice a ss.length c ∧ StrRow w a ss ∧ ss.length ≤ 9223372036854775807 := by
  subst hn
  rcases h.2 with ⟨rfl, h0⟩ | ⟨g, cap, cur, rfl, hb, hg, hcap, hmax, hcs, htk⟩
  · exact ⟨none, 0, by rw [h0], fun j hj => by omega, by omega⟩
  · refine ⟨_, cap, rfl, fun j hj => ⟨g, 0, rfl, ?_⟩, by unfold maxLen at hmax; omega⟩
    rw [Nat.zero_add, cell_of_row w g j cur _ (0, 0) hg]
    have : (cur.toList.take (ss.length * 1))[j]? = some (encStr ss[j]) := by rw [htk]; simp [hj]
    rw [List.getElem?_take, if_pos (by omega)] at this
    simpa [encStr] using this
theorem StrRow.on {w w' : World} {a : Option Addr} {l : List (List UInt8)} (h : StrRow w a l) (hb : Below w.heap.size w w') : StrRow w' a l := fun j hj => by
  obtain ⟨b, off, ha, hc⟩ := h j hj
  exact ⟨b, off, ha, (hb.cell (cell_lt' hc)).trans hc⟩

/-- What Free tells of these names. -/
def FreePost (l : List (List UInt8)) (w : World) (e : Ending) (w' : World) : Prop :=
  ∃ N a c, e = .returned (.slice a (N : List (List UInt8)).length c) ∧ StrRow w' a N ∧ N.length ≤ 9223372036854775807 ∧ (∀ x, x ∈ N ↔ x ∈ l) ∧ Below w.heap.size w w'

set_option maxRecDepth 100000 in
set_option maxHeartbeats 8000000 in
theorem free_any (ks : List Nd) (a : Option Addr) (c : Nat) (w : World)
    (hh : ∀ k, k ∈ ks → k.height ≤ 100) (hloc : ∀ k, k ∈ ks → InAll Loc k) (hl : (ks.flatMap (walkL 100)).length ≤ 4503599627370) (hk : Kids w w.heap.size a ks) (hc : ks.length ≤ c) (hc2 : c ≤ 9223372036854775807) (h56 : ks.length ≤ 1000) :
    Calls Tryz.prog 10 #[.slice a ks.length c] w (FreePost (blockF (freeP 100) [] ks) w) := by
  obtain ⟨w1, hw1⟩ : ∃ w1, w.alloc (.map #[] 0) = w1 := ⟨_, rfl⟩
  have hb1 : Below w.heap.size w w1 := by rw [← hw1]; exact below_alloc _ _
  have hs1 : w1.heap.size = w.heap.size + 1 := by rw [← hw1]; simp
  have o1 : w1.ownsMap Tryz.prog 9 (plainElem Tryz.prog 4) w.heap.size 0 (bD []) := by
    have h := World.ownsMap_made w Tryz.prog 9 (plainElem Tryz.prog (H := Unit) 4)
    rw [hw1] at h
    exact h
  obtain ⟨w2, hw2⟩ : ∃ w2, w1.alloc (.cells #[.map (some w.heap.size)] 39) = w2 := ⟨_, rfl⟩
  have hb2 : Below w1.heap.size w1 w2 := by rw [← hw2]; exact below_alloc _ _
  have hs2 : w2.heap.size = w.heap.size + 2 := by rw [← hw2]; simp [hs1]
  have c2 : w2.cell? ⟨w.heap.size + 1, 0, none⟩ = some (.map (some w.heap.size)) := by rw [← hw2, ← hs1]; simp [go_sem]
  obtain ⟨w3, hw3⟩ : ∃ w3, w2.alloc (.map #[] 0) = w3 := ⟨_, rfl⟩
  have hb3 : Below w2.heap.size w2 w3 := by rw [← hw3]; exact below_alloc _ _
  have hs3 : w3.heap.size = w.heap.size + 3 := by rw [← hw3]; simp [hs2]
  have o3 : w3.ownsMap Tryz.prog 9 (plainElem Tryz.prog 4) (w.heap.size + 2) 0 (bD []) := by
    have h := World.ownsMap_made w2 Tryz.prog 9 (plainElem Tryz.prog (H := Unit) 4)
    rw [hw3, hs2] at h
    exact h
  obtain ⟨wa, hwa⟩ : ∃ wa, w3.alloc (.cells #[.func (.func 22) #[] #[.pointer (some ⟨w.heap.size + 1, 0, none⟩)], .map (some (w.heap.size + 2))] 41) = wa := ⟨_, rfl⟩
  have hba : Below w3.heap.size w3 wa := by rw [← hwa]; exact below_alloc _ _
  have hsa : wa.heap.size = w.heap.size + 4 := by rw [← hwa]; simp [hs3]
  have s0 : wa.cell? ⟨w.heap.size + 3, 0, none⟩ = some (.func (.func 22) #[] #[.pointer (some ⟨w.heap.size + 1, 0, none⟩)]) := by rw [← hwa, ← hs3]; simp [go_sem]
  have s1 : wa.cell? ⟨w.heap.size + 3, 1, none⟩ = some (.map (some (w.heap.size + 2))) := by rw [← hwa, ← hs3]; simp [go_sem]
  have C := free_free w.heap.size (w.heap.size + 2) (by omega)
  have hq2 : FreeSt w.heap.size [] w2 := ⟨c2, ownsMap_block o1 (hb2.block _ (by omega))⟩
  have hqa : FreeSt w.heap.size [] wa := C.below (C.below hq2 (by omega) hb3) (by omega) hba
  have hwb : Below w.heap.size w wa := bext (bext (bext hb1 hb2) hb3) hba
  have hcall := block_any C 100 (node_any C 100) [] (w.heap.size + 2) [] ks a c wa wa.heap.size hh hloc hqa (by omega) (o3.kept (gb none hba) (by simp)) (by simp) (by simp; omega) (by rw [List.length_nil]; omega) (Nat.le_refl _) (hk.on hwb) hc hc2 (by omega)
  have hfl : (blockF (freeP 100) [] ks).length ≤ 4503599627370 := by
    have := blockF_le (f := freeP 100) (g := walkL 100) (fun b q => freeP_len 100 b q) ks []
    omega
  have HCALL := Lib.hid hcall
  have HB := Lib.hid hwb
  have HFL := Lib.hid hfl
  have HSA := Lib.hid hsa
  have hmm := @run_makeMap Tryz.prog
  have c2a : wa.cell? ⟨w.heap.size + 1, 0, none⟩ = some (.map (some w.heap.size)) := hqa.1
  clear hb1 o1 hb2 c2 hb3 o3 hba C hq2 hqa hwb hcall hfl hh hloc hl hk hsa
  go_enter Tryz.func10, Tryz.ntmps10
  go_wp2_with fail
  refine HCALL.out.mono ?_
  rintro e w5 ⟨v, L, rfl, -, -, hg5, hst5⟩
  have c5 := hst5.1
  have HO := Lib.hid hst5.2
  have hsz := hst5.2.size_le
  have hfl := HFL.out
  have hsa := HSA.out
  rw [List.nil_append] at hsz HO
  have hmax : Maps.size (bD (blockF (freeP 100) [] ks).reverse) ≤ maxLen := by unfold maxLen; omega
  have hbytes : Maps.size (bD (blockF (freeP 100) [] ks).reverse) * 16 ≤ 140737488355328 := by omega
  have HB5 := Lib.hid (below_gb HB.out hg5 (by have := hg5.size; omega) (fun r e => by cases e; exact Nat.le_refl _))
  have l5 := cell_lt c5
  clear hst5 hg5 HCALL hsz hfl hwa c2a s0 s1
  go_wp2_with (first
    | (go_at_call 24; refine (callsIn_wide.1 (Tryz.maps_Keys_24 _ _)).mono ?_; rintro e w' ⟨rfl, rfl⟩)
    | (go_at_call 23; refine (callsIn_wide.1 (Tryz.slices_Sorted_keys_23_24 w.heap.size _ (bD (blockF (freeP 100) [] ks).reverse) _ w5 HO.out hmax hbytes)).mono ?_; rintro e w' ⟨v, ss, rfl, hS, hrow, hnil, hb⟩))
  obtain ⟨aN, cN, rfl, hkN, hlN⟩ := strRow_own hrow (by simp)
  go_ret
  exact ⟨_, aN, cN, rfl, hkN, hlN, fun x => by rw [keys_mem hS, List.mem_reverse], bext (bext HB5.out (below_alloc _ _)) hb⟩
end Go.Proofs.YtfcpblclfgkdjaaGreatDoor
