/-
  names: scope.binding, walked.
-/
import Derived.Test.YtfcpblclfgkdjaaGreatDoorNtA
namespace Go.Proofs.YtfcpblclfgkdjaaGreatDoor
set_option linter.unusedSimpArgs false
set_option linter.unusedVariables false
open Go.RowKit Go.Maps

theorem clone_any {b n : Nat} {D : DataW Unit} {w : World} (h : w.ownsMap Tryz.prog 9 (plainElem Tryz.prog 4) b n D) :
    Calls Tryz.prog 54 #[.map (some b)] w fun e w' => e = .returned (.map (some w.heap.size)) ∧ w'.ownsMap Tryz.prog 9 (plainElem Tryz.prog 4) w.heap.size n D ∧ Below w.heap.size w w' :=
  (Go.Proofs.AnyW.maps_Clone_owns Tryz.clone54 9 (plainElem Tryz.prog 4) b n D w h).mono fun e w' ⟨he, h1, _, hb⟩ => ⟨he, h1, hb⟩
def pushAll (b : List (List UInt8)) (l : List (List UInt8)) : List (List UInt8) := l.foldl (fun b x => x :: b) b
theorem pushAll_len : ∀ (l b : List (List UInt8)), (pushAll b l).length = b.length + l.length
  | [], b => by simp [pushAll]
  | x :: r, b => by
    have e : pushAll b (x :: r) = pushAll (x :: b) r := rfl
    rw [e, pushAll_len r, List.length_cons, List.length_cons]; omega
theorem pushAll_take {l : List (List UInt8)} {k : Nat} (h : k < l.length) (b : List (List UInt8)) : pushAll b (l.take (k + 1)) = l[k] :: pushAll b (l.take k) := by
  rw [List.take_succ_eq_append_getElem h, pushAll, pushAll, List.foldl_append]; rfl

set_option maxRecDepth 100000 in
set_option maxHeartbeats 4000000 in
theorem binding_any (G : Nat) (LB : Array Value) (b : List (List UInt8)) (mb : Nat) (ns : List (List UInt8)) (g c : Nat) (w : World) (hown : w.ownsMap Tryz.prog 9 (plainElem Tryz.prog 4) mb b.length (bD b))
    (hlen : b.length + ns.length < 4611686018427387904) (hns : ∀ j (h : j < ns.length), w.cell? ⟨g, j, none⟩ = some (.string ⟨ns[j].toArray⟩)) (hl : ∀ s, s ∈ ns → s.length ≤ maxLen) (hc : ns.length ≤ c) (hc2 : c ≤ 9223372036854775807) (hgl : ns ≠ [] → g < w.heap.size) :
    Calls Tryz.prog 42 #[.agg #[.func (.func G) #[] LB, .map (some mb)], .slice (some ⟨g, 0, none⟩) ns.length c] w fun e w' =>
      ∃ mb', e = .returned (.agg #[.func (.func G) #[] LB, .map (some mb')]) ∧ w.heap.size ≤ mb' ∧ w'.ownsMap Tryz.prog 9 (plainElem Tryz.prog 4) mb' (pushAll b ns).length (bD (pushAll b ns)) ∧ Below w.heap.size w w' := by
  obtain ⟨wa, hwa⟩ : ∃ wa, (w.alloc (.cells #[.func (.func G) #[] LB, .map (some mb)] 41)).alloc (.cells #[.nilFunc, .map none] 41) = wa := ⟨_, rfl⟩
  have hba : Below w.heap.size w wa := by rw [← hwa]; exact ((Below.refl _ _).alloc (Nat.le_refl _) _).alloc (by simp) _
  have hsz : wa.heap.size = w.heap.size + 2 := by rw [← hwa]; simp
  have s0 : wa.cell? ⟨w.heap.size, 0, none⟩ = some (.func (.func G) #[] LB) := by rw [← hwa]; simp [go_sem]
  have s1 : wa.cell? ⟨w.heap.size, 1, none⟩ = some (.map (some mb)) := by rw [← hwa]; simp [go_sem]
  have r0 : wa.cell? ⟨w.heap.size + 1, 0, none⟩ = some .nilFunc := by rw [← hwa]; simp [go_sem]
  have r1 : wa.cell? ⟨w.heap.size + 1, 1, none⟩ = some (.map none) := by rw [← hwa]; simp [go_sem]
  have z0 : wa.frozen? ⟨w.heap.size + 1, 0, none⟩ = false := by rw [← hwa]; simp [go_sem]
  have z1 : wa.frozen? ⟨w.heap.size + 1, 1, none⟩ = false := by rw [← hwa]; simp [go_sem]
  have hcl := clone_any (hown.kept (gb none hba) (by simp))
  have hlt := hown.lt
  have HB := Lib.hid hba
  have HS := Lib.hid hsz
  have HCL := Lib.hid hcl
  have HNS := Lib.hid hns
  have HL := Lib.hid hl
  have HR := Lib.hid (⟨⟨s0, s1⟩, ⟨r0, r1⟩, z0, z1⟩ : (wa.cell? ⟨w.heap.size, 0, none⟩ = some (.func (.func G) #[] LB) ∧ wa.cell? ⟨w.heap.size, 1, none⟩ = some (.map (some mb))) ∧ (wa.cell? ⟨w.heap.size + 1, 0, none⟩ = some .nilFunc ∧ wa.cell? ⟨w.heap.size + 1, 1, none⟩ = some (.map none)) ∧ wa.frozen? ⟨w.heap.size + 1, 0, none⟩ = false ∧ wa.frozen? ⟨w.heap.size + 1, 1, none⟩ = false)
  have hnl : ns.length ≤ 9223372036854775807 := by omega
  clear hown hba hsz hcl hns hl
  go_enter Tryz.func42, Tryz.ntmps42
  go_wp2_with fail
  refine HCL.out.mono ?_
  rintro e w1 ⟨rfl, ho1, hb1⟩
  obtain ⟨hcc, hfz⟩ := bcell hb1
  have hs1 := HS.out
  have l0 : w.heap.size < wa.heap.size := by omega
  have l1 : w.heap.size + 1 < wa.heap.size := by omega
  have s0 := (hcc w.heap.size 0 l0).trans s0
  have s1 := (hcc w.heap.size 1 l0).trans s1
  have r0 := (hcc (w.heap.size + 1) 0 l1).trans r0
  have r1 := (hcc (w.heap.size + 1) 1 l1).trans r1
  have z0 := (hfz (w.heap.size + 1) 0 l1).trans z0
  have z1 := (hfz (w.heap.size + 1) 1 l1).trans z1
  have HO1 := Lib.hid ho1
  have HB1 := Lib.hid (bext HB.out hb1)
  obtain ⟨A, hA⟩ : ∃ A, wa.heap.size = A := ⟨_, rfl⟩
  rw [hA] at HO1 hs1
  have HA : Hid (A = w.heap.size + 2) := Lib.hid hs1
  simp only [hA]
  clear hcc hfz ho1 hb1 hwa HCL HB HR hs1 hA l0 l1
  go_wp2_with fail
  go_loopw [13] (fun i wr => ∃ k : Nat, k ≤ ns.length ∧ i = .int .i64 k ∧ (wr.cell? ⟨w.heap.size, 0, none⟩ = some (.func (.func G) #[] LB) ∧ wr.cell? ⟨w.heap.size, 1, none⟩ = some (.map (some mb))) ∧
    (wr.cell? ⟨w.heap.size + 1, 0, none⟩ = some .nilFunc ∧ wr.cell? ⟨w.heap.size + 1, 1, none⟩ = some (.map none) ∧ wr.frozen? ⟨w.heap.size + 1, 0, none⟩ = false ∧ wr.frozen? ⟨w.heap.size + 1, 1, none⟩ = false) ∧
    Hid (wr.ownsMap Tryz.prog 9 (plainElem Tryz.prog 4) A (b.length + k) (bD (pushAll b (ns.take k)))) ∧ Hid (Below w.heap.size w wr)) (fun i _ => ns.length - (intOf i).toNat)
  case atStart => exact ⟨0, by omega, rfl, ⟨s0, s1⟩, ⟨r0, r1, z0, z1⟩, by simpa [pushAll] using HO1, HB1⟩
  case round =>
    clear s0 s1 r0 r1 z0 z1 HO1 HB1
    obtain ⟨k, hk1, rfl, ⟨s0, s1⟩, ⟨r0, r1, z0, z1⟩, HO, HBW⟩ := hrel
    by_cases hlt : k < ns.length
    · have hgl' := hgl (by intro e; rw [e] at hlt; cases hlt)
      have hx : wr.cell? ⟨g, k, none⟩ = some (.string ⟨ns[k].toArray⟩) := (HBW.out.cell (p := ⟨g, k, none⟩) hgl').trans (HNS.out k hlt)
      have hkey := key9 ns[k] (HL.out _ (List.getElem_mem hlt))
      have HT := Lib.hid (pushAll_take hlt b)
      obtain ⟨x, hxe⟩ : ∃ x, ns[k] = x := ⟨_, rfl⟩
      rw [hxe] at hx hkey HT
      have hnn : b.length + k < maxLen := by unfold maxLen; omega
      clear hxe
      go_wp2_with (first | (at_mapUpdate; refine wpList_mapUpdate_own _ rfl _ _ _ 39 rfl 9 4 law9 undM _ A (b.length + k) _ rfl HO.out hnn _ _ _ rfl rfl hkey _ [] (plainElem_bool Tryz.underlying4 true) ?_; intro w2 hown2 hgrow2))
      have hA := HA.out
      have s0 := (hgrow2.cell_far ⟨w.heap.size, 0, none⟩ (cell_lt' s0) (fun e => by have e' : w.heap.size = A := Option.some.inj e; omega)).trans s0
      have s1 := (hgrow2.cell_far ⟨w.heap.size, 1, none⟩ (cell_lt' s1) (fun e => by have e' : w.heap.size = A := Option.some.inj e; omega)).trans s1
      have z0 := (hgrow2.frozen_far ⟨w.heap.size + 1, 0, none⟩ (cell_lt' r0) (fun e => by have e' : w.heap.size + 1 = A := Option.some.inj e; omega)).trans z0
      have z1 := (hgrow2.frozen_far ⟨w.heap.size + 1, 1, none⟩ (cell_lt' r1) (fun e => by have e' : w.heap.size + 1 = A := Option.some.inj e; omega)).trans z1
      have r0 := (hgrow2.cell_far ⟨w.heap.size + 1, 0, none⟩ (cell_lt' r0) (fun e => by have e' : w.heap.size + 1 = A := Option.some.inj e; omega)).trans r0
      have r1 := (hgrow2.cell_far ⟨w.heap.size + 1, 1, none⟩ (cell_lt' r1) (fun e => by have e' : w.heap.size + 1 = A := Option.some.inj e; omega)).trans r1
      have HO2 : Hid (w2.ownsMap Tryz.prog 9 (plainElem Tryz.prog 4) A (b.length + (k + 1)) (bD (pushAll b (ns.take (k + 1))))) := Lib.hid (by rw [HT.out]; exact hown2)
      have HB2 := Lib.hid (HBW.out.grown hgrow2 HBW.out.size (fun j e => by cases e; omega))
      clear hown2 hgrow2 HO HBW hA HT
      go_wp2_with fail
      go_roundw
      case rel =>
        first
          | exact ⟨k + 1, by omega, by go_num, ⟨s0, s1⟩, ⟨r0, r1, z0, z1⟩, HO2, HB2⟩
          | ((repeat apply Exists.intro); exact ⟨⟨k + 1, by omega, by go_num, ⟨s0, s1⟩, ⟨r0, r1, z0, z1⟩, HO2, HB2⟩, rfl⟩)
      case measure => simp [intOf]; omega
    · obtain rfl : k = ns.length := by omega
      have HO2 : Hid (wr.ownsMap Tryz.prog 9 (plainElem Tryz.prog 4) A (pushAll b ns).length (bD (pushAll b ns))) := Lib.hid (by have := HO.out; rw [List.take_length] at this; rw [pushAll_len]; exact this)
      have l2 := cell_lt r0
      have hA := HA.out
      have hneA : A ≠ w.heap.size + 1 := by omega
      have hleA : w.heap.size ≤ A := by omega
      have HOS := Lib.hid ((HO2.out.setCell (a := ⟨w.heap.size + 1, 0, none⟩) hneA (.func (.func G) #[] LB)).setCell (a := ⟨w.heap.size + 1, 1, none⟩) hneA (.map (some A)))
      have HBS := Lib.hid ((HBW.out.setCell (p := ⟨w.heap.size + 1, 0, none⟩) (Nat.le_succ _) (.func (.func G) #[] LB)).setCell (p := ⟨w.heap.size + 1, 1, none⟩) (Nat.le_succ _) (.map (some A)))
      clear HO HO2 HBW hA hlt
      go_wp2_with fail
      refine bodyPost_ret (v := .agg #[.func (.func G) #[] LB, .map (some A)]) (by simp [results, Tryz.results42, go_sem, r0, r1, l2]) rfl ⟨A, rfl, hleA, HOS.out, HBS.out⟩
end Go.Proofs.YtfcpblclfgkdjaaGreatDoor
