/-
  names: scope.all, scope.block, walked: what node does with each, in a row of its own.
-/
import Derived.Test.YtfcpblclfgkdjaaGreatDoorNtB
import Derived.Deep.AppendLies
namespace Go.Proofs.YtfcpblclfgkdjaaGreatDoor
set_option linter.unusedSimpArgs false
set_option linter.unusedVariables false
open Go.RowKit Go.Maps

/-- What scope.node does with a node of at most so many within one another. -/
def NodeAt (G : Nat) (LB : Array Value) (f : Nd → Nd) (M : Option Nat) (nS : Nat) (St : List (List UInt8) → World → Prop) (d : Nat) : Prop :=
  ∀ (b : List (List UInt8)) (mb : Nat) (l : List (List UInt8)) (t : Nd) (a : Option Addr) (c : Nat) (W : World) (Bz : Nat), t.height ≤ d → InAll Loc t → St l W → nS ≤ W.heap.size →
    W.ownsMap Tryz.prog 9 (plainElem Tryz.prog 4) mb b.length (bD b) → some mb ≠ M → b.length + d * 3000000000000 ≤ 2305843009213693952 → l.length + (walkL d t).length ≤ 1125899906842624 → Bz ≤ W.heap.size → Kids W Bz a t.kids → Fits t c →
    Calls Tryz.prog 41 #[.agg #[.func (.func G) #[] LB, .map (some mb)], .agg #[.int .i64 t.kind, .string ⟨t.text.toArray⟩, .slice a t.kids.length c, .int .i64 t.pos]] W (NodePost (nodeP f d b t) (l ++ freeP d b t) M St Bz W)

theorem flat_take {α : Type} {f : Nd → List α} {l : List Nd} {k : Nat} (h : k < l.length) : (l.take (k + 1)).flatMap f = (l.take k).flatMap f ++ f l[k] := by
  rw [List.take_succ_eq_append_getElem h, List.flatMap_append]; simp
theorem flat_take_le {α : Type} (f : Nd → List α) (l : List Nd) (k : Nat) : ((l.take k).flatMap f).length ≤ (l.flatMap f).length := by
  conv => rhs; rw [← List.take_append_drop k l, List.flatMap_append, List.length_append]
  omega
theorem InAll.kid {P : Nd → Prop} {t k : Nd} (h : InAll P t) (hk : k ∈ t.kids) : InAll P k := fun d x hx => h (d + 1) x (by rw [nodesL_succ]; exact List.mem_cons_of_mem _ (List.mem_flatMap.2 ⟨k, hk, hx⟩))
theorem InAll.self {P : Nd → Prop} {t : Nd} (h : InAll P t) : P t := h 1 t (by rw [nodesL_succ]; simp)
theorem news_one (w : World) (y : Nd) (a : Option Addr) (c : Nat) : ∀ j u, (node4 (y, a, c))[j]? = some u → (w.alloc (.cells #[.int .i64 y.kind, .string ⟨y.text.toArray⟩, .slice a y.kids.length c, .int .i64 y.pos] 25)).cell? ((⟨w.heap.size, 0, none⟩ : Addr).add j) = some u :=
  World.news_of_block (cs := #[.int .i64 y.kind, .string ⟨y.text.toArray⟩, .slice a y.kids.length c, .int .i64 y.pos]) (t := 25) (fr := (0, 0)) (heap_alloc_new w _)
theorem one4 (y : Nd) (a : Option Addr) (c : Nat) : ∀ u ∈ node4 (y, a, c), u.oneCell' = true := by
  intro u hu
  simp only [node4, List.mem_cons, List.not_mem_nil, or_false] at hu
  rcases hu with rfl | rfl | rfl | rfl <;> rfl

section
variable {G : Nat} {LB : Array Value} {f : Nd → Nd} {M : Option Nat} {nS : Nat} {St : List (List UInt8) → World → Prop}

set_option maxRecDepth 100000 in
set_option maxHeartbeats 8000000 in
theorem all_any (C : FreeC G LB f M nS St) (d : Nat) (ih : NodeAt G LB f M nS St d) (b : List (List UInt8)) (mb : Nat) (l : List (List UInt8)) (ks : List Nd) (a : Option Addr) (c : Nat) (w : World) (Bz : Nat)
    (hh : ∀ k, k ∈ ks → k.height ≤ d) (hloc : ∀ k, k ∈ ks → InAll Loc k) (hst : St l w) (hn : nS ≤ w.heap.size) (hown : w.ownsMap Tryz.prog 9 (plainElem Tryz.prog 4) mb b.length (bD b)) (hmb : some mb ≠ M)
    (hb : b.length + d * 3000000000000 ≤ 2305843009213693952) (hl : l.length + (ks.flatMap (walkL d)).length ≤ 1125899906842624) (hBz : Bz ≤ w.heap.size) (hk : Kids w Bz a ks) (hc : ks.length ≤ c) (hc2 : c ≤ 9223372036854775807) (h56 : ks.length * 56 ≤ 140737488351232) :
    Calls Tryz.prog 53 #[.agg #[.func (.func G) #[] LB, .map (some mb)], .slice a ks.length c] w (RowPost (ks.map (nodeP f d b)) (l ++ ks.flatMap (freeP d b)) M St Bz w) := by
  obtain ⟨wa, hwa⟩ : ∃ wa, w.alloc (.cells #[.func (.func G) #[] LB, .map (some mb)] 41) = wa := ⟨_, rfl⟩
  have hba : Below w.heap.size w wa := by rw [← hwa]; exact below_alloc _ _
  have hsz : wa.heap.size = w.heap.size + 1 := by rw [← hwa]; simp
  have s0 : wa.cell? ⟨w.heap.size, 0, none⟩ = some (.func (.func G) #[] LB) := by rw [← hwa]; simp [go_sem]
  have s1 : wa.cell? ⟨w.heap.size, 1, none⟩ = some (.map (some mb)) := by rw [← hwa]; simp [go_sem]
  have HA0 := Lib.hid (show AllI St M Bz w [] l (.slice none 0 0) wa from ⟨⟨[], rfl, NRz.nil _ _ _⟩, gb M hba, C.below hst hn hba⟩)
  have HS := Lib.hid hsz
  have HC := Lib.hid C
  have HI := Lib.hid ih
  have HH := Lib.hid hh
  have HLO := Lib.hid hloc
  have HO := Lib.hid hown
  have HK := Lib.hid hk
  have HM := Lib.hid hmb
  have HNC := Lib.hid (C.noc hst)
  have HLL := Lib.hid hl
  have HBL := Lib.hid hb
  have hl63 : ks.length ≤ 9223372036854775807 := by omega
  clear hh hloc hst hown hk hba hsz ih C hl hb hmb
  go_enter Tryz.func53, Tryz.ntmps53
  go_wp2_with fail
  go_loopw [5, 10] (fun v i wr => ∃ k : Nat, k ≤ ks.length ∧ i = .int .i64 k ∧ (wr.cell? ⟨w.heap.size, 0, none⟩ = some (.func (.func G) #[] LB) ∧ wr.cell? ⟨w.heap.size, 1, none⟩ = some (.map (some mb))) ∧
    Hid (AllI St M Bz w ((ks.take k).map (nodeP f d b)) (l ++ (ks.take k).flatMap (freeP d b)) v wr)) (fun _ i _ => ks.length - (intOf i).toNat)
  case atStart => exact ⟨0, by omega, rfl, ⟨s0, s1⟩, by simpa using HA0⟩
  case round =>
    clear s0 s1 HA0
    obtain ⟨k, hk1, rfl, ⟨s0, s1⟩, HAI⟩ := hrel
    by_cases hlt : k < ks.length
    · have hgw := HAI.out.2.1
      obtain ⟨bb, off, a', c', ha, hbB, ⟨q0, q1, q2, q3⟩, hf', hn'⟩ := (kids_gb HK.out hgw HNC.out).get hlt
      subst ha
      have hs0 := cell_lt s0
      have hmem := List.getElem_mem hlt
      have hh1 := HH.out _ hmem
      have hlo1 := HLO.out _ hmem
      have e1 := flat_take (f := freeP d b) hlt
      have e2 : (ks.take (k + 1)).map (nodeP f d b) = (ks.take k).map (nodeP f d b) ++ [nodeP f d b ks[k]] := by rw [List.take_succ_eq_append_getElem hlt, List.map_append, List.map_singleton]
      have e3 : l.length + ((ks.take k).flatMap (freeP d b)).length + (walkL d ks[k]).length ≤ 1125899906842624 := by
        have h1 := flat_take_le (walkL d) ks (k + 1)
        rw [flat_take hlt, List.length_append] at h1
        have h2 := flat_le (l := ks.take k) (f := freeP d b) (g := walkL d) (fun q _ => freeP_len d b q)
        have := HLL.out
        omega
      obtain ⟨q, hq⟩ : ∃ q, ks[k] = q := ⟨_, rfl⟩
      rw [hq] at q0 q1 q2 q3 hf' hn' hh1 hlo1 e1 e2 e3
      have hba := below_alloc wr (.cells #[.int .i64 q.kind, .string ⟨q.text.toArray⟩, .slice a' q.kids.length c', .int .i64 q.pos] 25)
      have hc := HI.out b mb (l ++ (ks.take k).flatMap (freeP d b)) q a' c' (wr.alloc (.cells #[.int .i64 q.kind, .string ⟨q.text.toArray⟩, .slice a' q.kids.length c', .int .i64 q.pos] 25)) Bz hh1 hlo1 (HC.out.below HAI.out.2.2 (by have := hgw.size; omega) hba) (by have := hgw.size; simp; omega)
        ((HO.out.kept hgw HM.out).alloc _) HM.out HBL.out (by rw [List.length_append]; exact e3) (by have := hgw.size; simp; omega) (hn'.below (hba.mono (by have := hgw.size; omega)) (Nat.le_refl _)) hf'
      have HCQ := Lib.hid hc
      have HE := Lib.hid (And.intro e1 e2)
      obtain ⟨y, hy⟩ : ∃ y, nodeP f d b q = y := ⟨_, rfl⟩
      rw [hy] at HCQ HE
      have hkm : (ks.take k).length = k := by rw [List.length_take]; omega
      have hky : ((ks.take k).map (nodeP f d b)).length = k := by rw [List.length_map]; exact hkm
      clear hgw hf' hn' hh1 hlo1 e1 e2 e3 hc hq hy hmem hba
      go_wp2_with fail
      refine HCQ.out.mono ?_
      rintro e w3 ⟨a3, c3, rfl, hf3, hz3, hg3, hs3⟩
      have hnoc := HC.out.noc (HC.out.below HAI.out.2.2 (by have := HAI.out.2.1.size; omega) (below_alloc wr (.cells #[.int .i64 q.kind, .string ⟨q.text.toArray⟩, .slice a' q.kids.length c', .int .i64 q.pos] 25)))
      have s0 := cell_kept (cell_alloc' _ s0) hg3 hnoc
      have s1 := cell_kept (cell_alloc' _ s1) hg3 hnoc
      have hstep := AllI.step HC.out HAI.out hn hBz (below_alloc wr (.cells #[.int .i64 q.kind, .string ⟨q.text.toArray⟩, .slice a' q.kids.length c', .int .i64 q.pos] 25)) hs0 hf3 hz3 hg3 hs3 (.cells #[.int .i64 y.kind, .string ⟨y.text.toArray⟩, .slice a3 y.kids.length c3, .int .i64 y.pos] 25)
      rw [hky] at hstep
      obtain ⟨L, hL, hown3, hend⟩ := hstep
      have hbase : w.heap.size + 1 ≤ (w3.alloc (.cells #[.int .i64 y.kind, .string ⟨y.text.toArray⟩, .slice a3 y.kids.length c3, .int .i64 y.pos] 25)).heap.size := by have := hg3.size; simp at this ⊢; omega
      have HEND := Lib.hid hend
      have HOW := Lib.hid hown3
      have HNEW := Lib.hid (news_one w3 y a3 c3)
      have h63 : k + 1 ≤ maxLen := by unfold maxLen; omega
      have hby : (k + 1) * 56 ≤ 140737488355328 := by omega
      obtain ⟨i0, hi0, hz0, hz1, hz2⟩ := info_parts info24
      clear hend hown3 hnoc hf3 hz3 hg3 hs3 HCQ HAI
      go_wp2_with (at_builtin; refine wpList_append_lies _ rfl _ _ 22 rfl (w.heap.size + 1) 25 i0 _ 4 56 und22 hi0 hz0 hz1 hz2 rfl (by decide) _ _ _ rfl HOW.out ⟨w3.heap.size, 0, none⟩ 1 1 (node4 (y, a3, c3)) rfl rfl HNEW.out (one4 y a3 c3) (by decide) h63 hby hbase _ rfl ?_; intro gg cap w4 hown4 hgrow hat hlt4)
      obtain ⟨hai, hcells⟩ := HEND.out gg cap w4 hown4 hgrow hat
      have s0 := (hcells ⟨w.heap.size, 0, none⟩ _ (.inl (Nat.le_refl _)) s0).1
      have s1 := (hcells ⟨w.heap.size, 1, none⟩ _ (.inl (Nat.le_refl _)) s1).1
      have HAI2 : Hid (AllI St M Bz w ((ks.take (k + 1)).map (nodeP f d b)) (l ++ (ks.take (k + 1)).flatMap (freeP d b)) (.slice (some ⟨gg, 0, none⟩) (k + 1) cap) w4) := Lib.hid (by rw [HE.out.1, HE.out.2, ← List.append_assoc]; exact hai)
      clear hai hcells hown4 hgrow hat hlt4 HEND HOW HNEW HE hbase
      go_wp2_with fail
      go_roundw
      case rel =>
        first
          | exact ⟨k + 1, by omega, by go_num, ⟨s0, s1⟩, HAI2⟩
          | exact ⟨_, _, k + 1, by omega, by go_num, ⟨s0, s1⟩, HAI2⟩
          | ((repeat apply Exists.intro); exact ⟨⟨k + 1, by omega, by go_num, ⟨s0, s1⟩, HAI2⟩, rfl⟩)
      case measure => simp [intOf]; omega
    · obtain rfl : k = ks.length := by omega
      go_wp2_with fail
      go_ret
      have h := HAI.out
      rw [List.take_length] at h
      obtain ⟨⟨L, hL, hr⟩, hgw, hst⟩ := h
      exact ⟨_, L, rfl, hL, hr.low (by omega), hgw, hst⟩

set_option maxRecDepth 100000 in
set_option maxHeartbeats 16000000 in
theorem block_any (C : FreeC G LB f M nS St) (d : Nat) (ih : NodeAt G LB f M nS St d) (b : List (List UInt8)) (mb : Nat) (l : List (List UInt8)) (ks : List Nd) (a : Option Addr) (c : Nat) (w : World) (Bz : Nat)
    (hh : ∀ k, k ∈ ks → k.height ≤ d) (hloc : ∀ k, k ∈ ks → InAll Loc k) (hst : St l w) (hn : nS ≤ w.heap.size) (hown : w.ownsMap Tryz.prog 9 (plainElem Tryz.prog 4) mb b.length (bD b)) (hmb : some mb ≠ M)
    (hb : b.length + ks.length + d * 3000000000000 ≤ 2305843009213693952) (hl : l.length + (ks.flatMap (walkL d)).length ≤ 1125899906842624) (hBz : Bz ≤ w.heap.size) (hk : Kids w Bz a ks) (hc : ks.length ≤ c) (hc2 : c ≤ 9223372036854775807) (h56 : ks.length * 56 ≤ 140737488351232) :
    Calls Tryz.prog 21 #[.agg #[.func (.func G) #[] LB, .map (some mb)], .slice a ks.length c] w (RowPost (blockP (nodeP f d) b ks) (l ++ blockF (freeP d) b ks) M St Bz w) := by
  obtain ⟨wa, hwa⟩ : ∃ wa, w.alloc (.cells #[.func (.func G) #[] LB, .map (some mb)] 41) = wa := ⟨_, rfl⟩
  have hba : Below w.heap.size w wa := by rw [← hwa]; exact below_alloc _ _
  have hsz : wa.heap.size = w.heap.size + 1 := by rw [← hwa]; simp
  have s0 : wa.cell? ⟨w.heap.size, 0, none⟩ = some (.func (.func G) #[] LB) := by rw [← hwa]; simp [go_sem]
  have s1 : wa.cell? ⟨w.heap.size, 1, none⟩ = some (.map (some mb)) := by rw [← hwa]; simp [go_sem]
  have z0 : wa.frozen? ⟨w.heap.size, 0, none⟩ = false := by rw [← hwa]; simp [go_sem]
  have z1 : wa.frozen? ⟨w.heap.size, 1, none⟩ = false := by rw [← hwa]; simp [go_sem]
  have HA0 := Lib.hid (show AllI St M Bz w [] l (.slice none 0 0) wa from ⟨⟨[], rfl, NRz.nil _ _ _⟩, gb M hba, C.below hst hn hba⟩)
  have HM0 := Lib.hid (show wa.ownsMap Tryz.prog 9 (plainElem Tryz.prog 4) mb b.length (bD b) ∧ some mb ≠ M from ⟨hown.kept (gb none hba) (by simp), hmb⟩)
  have HML := Lib.hid (C.mine l w hst)
  have HC := Lib.hid C
  have HI := Lib.hid ih
  have HH := Lib.hid hh
  have HLO := Lib.hid hloc
  have HK := Lib.hid hk
  have HNC := Lib.hid (C.noc hst)
  have HLL := Lib.hid hl
  have HBL := Lib.hid hb
  have hl63 : ks.length ≤ 9223372036854775807 := by omega
  clear hh hloc hst hown hk hba hsz ih C hl hb hmb
  go_enter Tryz.func21, Tryz.ntmps21
  go_wp2_with fail
  go_loopw [5, 10] (fun v i wr => ∃ k mbk : Nat, k ≤ ks.length ∧ i = .int .i64 k ∧ (wr.cell? ⟨w.heap.size, 0, none⟩ = some (.func (.func G) #[] LB) ∧ wr.cell? ⟨w.heap.size, 1, none⟩ = some (.map (some mbk)) ∧ wr.frozen? ⟨w.heap.size, 0, none⟩ = false ∧ wr.frozen? ⟨w.heap.size, 1, none⟩ = false) ∧
    Hid (wr.ownsMap Tryz.prog 9 (plainElem Tryz.prog 4) mbk (behindL b (ks.take k)).length (bD (behindL b (ks.take k))) ∧ some mbk ≠ M) ∧
    Hid (AllI St M Bz w (blockP (nodeP f d) b (ks.take k)) (l ++ blockF (freeP d) b (ks.take k)) v wr)) (fun _ i _ => ks.length - (intOf i).toNat)
  case atStart => exact ⟨0, mb, by omega, rfl, ⟨s0, s1, z0, z1⟩, by simpa [behindL] using HM0, by simpa [blockP, blockF] using HA0⟩
  case round =>
    clear s0 s1 z0 z1 HA0 HM0
    obtain ⟨k, mbk, hk1, rfl, ⟨s0, s1, z0, z1⟩, HO, HAI⟩ := hrel
    by_cases hlt : k < ks.length
    · have hgw := HAI.out.2.1
      obtain ⟨bb, off, a', c', ha, hbB, ⟨q0, q1, q2, q3⟩, hf', hn'⟩ := (kids_gb HK.out hgw HNC.out).get hlt
      subst ha
      have hs0 := cell_lt s0
      have hmem := List.getElem_mem hlt
      have hh1 := HH.out _ hmem
      have hlo1 := HLO.out _ hmem
      have e1 := blockF_take (g := freeP d) hlt b
      have e2 := blockP_take (g := nodeP f d) hlt b
      have e4 := behindL_take hlt b
      obtain ⟨bk, hbk⟩ : ∃ bk, behindL b (ks.take k) = bk := ⟨_, rfl⟩
      have hbl : bk.length + d * 3000000000000 ≤ 2305843009213693952 := by
        have h1 := behindL_len (ks.take k) b
        rw [hbk, List.length_take] at h1
        have := HBL.out
        omega
      have e3 : l.length + (blockF (freeP d) b (ks.take k)).length + (walkL d ks[k]).length ≤ 1125899906842624 := by
        have h1 := flat_take_le (walkL d) ks (k + 1)
        rw [flat_take hlt, List.length_append] at h1
        have h2 := blockF_le (f := freeP d) (g := walkL d) (fun b q => freeP_len d b q) (ks.take k) b
        have := HLL.out
        omega
      rw [hbk] at e1 e2 e4 HO
      obtain ⟨q, hq⟩ : ∃ q, ks[k] = q := ⟨_, rfl⟩
      rw [hq] at q0 q1 q2 q3 hf' hn' hh1 hlo1 e1 e2 e3 e4
      have hba := below_alloc wr (.cells #[.int .i64 q.kind, .string ⟨q.text.toArray⟩, .slice a' q.kids.length c', .int .i64 q.pos] 25)
      have hc := HI.out bk mbk (l ++ blockF (freeP d) b (ks.take k)) q a' c' (wr.alloc (.cells #[.int .i64 q.kind, .string ⟨q.text.toArray⟩, .slice a' q.kids.length c', .int .i64 q.pos] 25)) Bz hh1 hlo1 (HC.out.below HAI.out.2.2 (by have := hgw.size; omega) hba) (by have := hgw.size; simp; omega)
        (HO.out.1.alloc _) HO.out.2 hbl (by rw [List.length_append]; exact e3) (by have := hgw.size; simp; omega) (hn'.below (hba.mono (by have := hgw.size; omega)) (Nat.le_refl _)) hf'
      have HCQ := Lib.hid hc
      have HE := Lib.hid (And.intro e1 (And.intro e2 e4))
      have HTX := Lib.hid hf'.2.2.2.2.1
      have HBK := Lib.hid hbl
      obtain ⟨y, hy⟩ : ∃ y, nodeP f d bk q = y := ⟨_, rfl⟩
      rw [hy] at HCQ HE
      have hky : (blockP (nodeP f d) b (ks.take k)).length = k := by rw [blockP_len, List.length_take]; omega
      clear hgw hf' hn' hh1 hlo1 e1 e2 e3 e4 hc hq hy hmem hba hbk hbl
      cases k26 : (q.kind == 26 || q.kind == 5) with
      | false =>
        have k26a : (q.kind == 26) = false := (Bool.or_eq_false_iff.1 k26).1
        have k5a : (q.kind == 5) = false := (Bool.or_eq_false_iff.1 k26).2
        have HK2 := Lib.hid k26
        clear k26
        go_wp2_with fail
        refine HCQ.out.mono ?_
        rintro e w3 ⟨a3, c3, rfl, hf3, hz3, hg3, hs3⟩
        have hnoc := HC.out.noc (HC.out.below HAI.out.2.2 (by have := HAI.out.2.1.size; omega) (below_alloc wr (.cells #[.int .i64 q.kind, .string ⟨q.text.toArray⟩, .slice a' q.kids.length c', .int .i64 q.pos] 25)))
        have zz : ∀ i u, wr.cell? ⟨w.heap.size, i, none⟩ = some u → wr.frozen? ⟨w.heap.size, i, none⟩ = false → w3.frozen? ⟨w.heap.size, i, none⟩ = false := fun i u hu hz =>
          (frozen_kept (cell_alloc' _ hu) hg3 hnoc).trans ((World.frozen?_of_block ((below_alloc wr (.cells #[.int .i64 q.kind, .string ⟨q.text.toArray⟩, .slice a' q.kids.length c', .int .i64 q.pos] 25)).block _ (cell_lt hu))).trans hz)
        have z0 := zz 0 _ s0 z0
        have z1 := zz 1 _ s1 z1
        have s0 := cell_kept (cell_alloc' _ s0) hg3 hnoc
        have s1 := cell_kept (cell_alloc' _ s1) hg3 hnoc
        have n0 : w3.cell? ⟨wr.heap.size, 0, none⟩ = some (.int .i64 q.kind) := cell_kept (by simp [go_sem]) hg3 hnoc
        have n1 : w3.cell? ⟨wr.heap.size, 1, none⟩ = some (.string ⟨q.text.toArray⟩) := cell_kept (by simp [go_sem]) hg3 hnoc
        have hom3 := (HO.out.1.alloc (.cells #[.int .i64 q.kind, .string ⟨q.text.toArray⟩, .slice a' q.kids.length c', .int .i64 q.pos] 25)).kept hg3 HO.out.2
        have hstep := AllI.step HC.out HAI.out hn hBz (below_alloc wr (.cells #[.int .i64 q.kind, .string ⟨q.text.toArray⟩, .slice a' q.kids.length c', .int .i64 q.pos] 25)) hs0 hf3 hz3 hg3 hs3 (.cells #[.int .i64 y.kind, .string ⟨y.text.toArray⟩, .slice a3 y.kids.length c3, .int .i64 y.pos] 25)
        rw [hky] at hstep
        obtain ⟨L, hL, hown3, hend⟩ := hstep
        have hbase : w.heap.size + 1 ≤ (w3.alloc (.cells #[.int .i64 y.kind, .string ⟨y.text.toArray⟩, .slice a3 y.kids.length c3, .int .i64 y.pos] 25)).heap.size := by have := hg3.size; simp at this ⊢; omega
        have HEND := Lib.hid hend
        have HOW := Lib.hid hown3
        have HOM := Lib.hid (hom3.alloc (.cells #[.int .i64 y.kind, .string ⟨y.text.toArray⟩, .slice a3 y.kids.length c3, .int .i64 y.pos] 25))
        have HNEW := Lib.hid (news_one w3 y a3 c3)
        have h63 : k + 1 ≤ maxLen := by unfold maxLen; omega
        have hby : (k + 1) * 56 ≤ 140737488355328 := by omega
        obtain ⟨i0, hi0, hz0, hz1, hz2⟩ := info_parts info24
        clear hend hown3 hnoc hf3 hz3 hg3 hs3 HCQ HAI hom3 zz
        go_wp2_with (at_builtin; refine wpList_append_lies _ rfl _ _ 22 rfl (w.heap.size + 1) 25 i0 _ 4 56 und22 hi0 hz0 hz1 hz2 rfl (by decide) _ _ _ rfl HOW.out ⟨w3.heap.size, 0, none⟩ 1 1 (node4 (y, a3, c3)) rfl rfl HNEW.out (one4 y a3 c3) (by decide) h63 hby hbase _ rfl ?_; intro gg cap w4 hown4 hgrow hat hlt4; (obtain ⟨hai, hcells⟩ := HEND.out gg cap w4 hown4 hgrow hat); (have z0 := (hcells ⟨w.heap.size, 0, none⟩ _ (.inl (Nat.le_refl _)) s0).2.trans z0); (have z1 := (hcells ⟨w.heap.size, 1, none⟩ _ (.inl (Nat.le_refl _)) s1).2.trans z1); (have s0 := (hcells ⟨w.heap.size, 0, none⟩ _ (.inl (Nat.le_refl _)) s0).1); (have s1 := (hcells ⟨w.heap.size, 1, none⟩ _ (.inl (Nat.le_refl _)) s1).1); (have n0 := (hcells ⟨wr.heap.size, 0, none⟩ _ (.inr (Nat.le_refl _)) n0).1); (have n1 := (hcells ⟨wr.heap.size, 1, none⟩ _ (.inr (Nat.le_refl _)) n1).1); (have hom4 := HOM.out.kept hgrow (own_ne HOW.out HOM.out)); (have HAI2 : Hid (AllI St M Bz w (blockP (nodeP f d) b (ks.take (k + 1))) (l ++ blockF (freeP d) b (ks.take (k + 1))) (.slice (some ⟨gg, 0, none⟩) (k + 1) cap) w4) := Lib.hid (by rw [HE.out.1, HE.out.2.1, ← List.append_assoc]; exact hai)); (have HE4 := Lib.hid HE.out.2.2); (have HO4 := Lib.hid hom4); (have HMK := Lib.hid HO.out.2); clear hai hcells hown4 hgrow hat hlt4)
        clear HEND HOW HNEW HE hbase HOM HO
        have HO2 : Hid (w4.ownsMap Tryz.prog 9 (plainElem Tryz.prog 4) mbk (behindL b (ks.take (k + 1))).length (bD (behindL b (ks.take (k + 1)))) ∧ some mbk ≠ M) := Lib.hid (by rw [HE4.out, behind, HK2.out]; exact ⟨HO4.out, HMK.out⟩)
        go_roundw
        case rel =>
          first
            | exact ⟨k + 1, mbk, by omega, by go_num, ⟨s0, s1, z0, z1⟩, HO2, HAI2⟩
            | exact ⟨_, _, k + 1, mbk, by omega, by go_num, ⟨s0, s1, z0, z1⟩, HO2, HAI2⟩
            | ((repeat apply Exists.intro); exact ⟨⟨k + 1, mbk, by omega, by go_num, ⟨s0, s1, z0, z1⟩, HO2, HAI2⟩, rfl⟩)
        case measure => simp [intOf]; omega
      | true =>
        have HK2 := Lib.hid k26
        have hkk : (q.kind == 26) = true ∨ ((q.kind == 26) = false ∧ (q.kind == 5) = true) := by
          cases h : (q.kind == 26) with
          | true => exact .inl rfl
          | false => rw [h] at k26; exact .inr ⟨rfl, by simpa using k26⟩
        clear k26
        rcases hkk with k26 | ⟨k26, k5⟩
        · go_wp2_with fail
          refine HCQ.out.mono ?_
          rintro e w3 ⟨a3, c3, rfl, hf3, hz3, hg3, hs3⟩
          have hnoc := HC.out.noc (HC.out.below HAI.out.2.2 (by have := HAI.out.2.1.size; omega) (below_alloc wr (.cells #[.int .i64 q.kind, .string ⟨q.text.toArray⟩, .slice a' q.kids.length c', .int .i64 q.pos] 25)))
          have zz : ∀ i u, wr.cell? ⟨w.heap.size, i, none⟩ = some u → wr.frozen? ⟨w.heap.size, i, none⟩ = false → w3.frozen? ⟨w.heap.size, i, none⟩ = false := fun i u hu hz =>
            (frozen_kept (cell_alloc' _ hu) hg3 hnoc).trans ((World.frozen?_of_block ((below_alloc wr (.cells #[.int .i64 q.kind, .string ⟨q.text.toArray⟩, .slice a' q.kids.length c', .int .i64 q.pos] 25)).block _ (cell_lt hu))).trans hz)
          have z0 := zz 0 _ s0 z0
          have z1 := zz 1 _ s1 z1
          have s0 := cell_kept (cell_alloc' _ s0) hg3 hnoc
          have s1 := cell_kept (cell_alloc' _ s1) hg3 hnoc
          have n0 : w3.cell? ⟨wr.heap.size, 0, none⟩ = some (.int .i64 q.kind) := cell_kept (by simp [go_sem]) hg3 hnoc
          have n1 : w3.cell? ⟨wr.heap.size, 1, none⟩ = some (.string ⟨q.text.toArray⟩) := cell_kept (by simp [go_sem]) hg3 hnoc
          have hom3 := (HO.out.1.alloc (.cells #[.int .i64 q.kind, .string ⟨q.text.toArray⟩, .slice a' q.kids.length c', .int .i64 q.pos] 25)).kept hg3 HO.out.2
          have hstep := AllI.step HC.out HAI.out hn hBz (below_alloc wr (.cells #[.int .i64 q.kind, .string ⟨q.text.toArray⟩, .slice a' q.kids.length c', .int .i64 q.pos] 25)) hs0 hf3 hz3 hg3 hs3 (.cells #[.int .i64 y.kind, .string ⟨y.text.toArray⟩, .slice a3 y.kids.length c3, .int .i64 y.pos] 25)
          rw [hky] at hstep
          obtain ⟨L, hL, hown3, hend⟩ := hstep
          have hbase : w.heap.size + 1 ≤ (w3.alloc (.cells #[.int .i64 y.kind, .string ⟨y.text.toArray⟩, .slice a3 y.kids.length c3, .int .i64 y.pos] 25)).heap.size := by have := hg3.size; simp at this ⊢; omega
          have HEND := Lib.hid hend
          have HOW := Lib.hid hown3
          have HOM := Lib.hid (hom3.alloc (.cells #[.int .i64 y.kind, .string ⟨y.text.toArray⟩, .slice a3 y.kids.length c3, .int .i64 y.pos] 25))
          have HNEW := Lib.hid (news_one w3 y a3 c3)
          have h63 : k + 1 ≤ maxLen := by unfold maxLen; omega
          have hby : (k + 1) * 56 ≤ 140737488355328 := by omega
          obtain ⟨i0, hi0, hz0, hz1, hz2⟩ := info_parts info24
          clear hend hown3 hnoc hf3 hz3 hg3 hs3 HCQ HAI hom3 zz
          go_wp2_with (at_builtin; refine wpList_append_lies _ rfl _ _ 22 rfl (w.heap.size + 1) 25 i0 _ 4 56 und22 hi0 hz0 hz1 hz2 rfl (by decide) _ _ _ rfl HOW.out ⟨w3.heap.size, 0, none⟩ 1 1 (node4 (y, a3, c3)) rfl rfl HNEW.out (one4 y a3 c3) (by decide) h63 hby hbase _ rfl ?_; intro gg cap w4 hown4 hgrow hat hlt4; (obtain ⟨hai, hcells⟩ := HEND.out gg cap w4 hown4 hgrow hat); (have z0 := (hcells ⟨w.heap.size, 0, none⟩ _ (.inl (Nat.le_refl _)) s0).2.trans z0); (have z1 := (hcells ⟨w.heap.size, 1, none⟩ _ (.inl (Nat.le_refl _)) s1).2.trans z1); (have s0 := (hcells ⟨w.heap.size, 0, none⟩ _ (.inl (Nat.le_refl _)) s0).1); (have s1 := (hcells ⟨w.heap.size, 1, none⟩ _ (.inl (Nat.le_refl _)) s1).1); (have n0 := (hcells ⟨wr.heap.size, 0, none⟩ _ (.inr (Nat.le_refl _)) n0).1); (have n1 := (hcells ⟨wr.heap.size, 1, none⟩ _ (.inr (Nat.le_refl _)) n1).1); (have hom4 := HOM.out.kept hgrow (own_ne HOW.out HOM.out)); (have HAI2 : Hid (AllI St M Bz w (blockP (nodeP f d) b (ks.take (k + 1))) (l ++ blockF (freeP d) b (ks.take (k + 1))) (.slice (some ⟨gg, 0, none⟩) (k + 1) cap) w4) := Lib.hid (by rw [HE.out.1, HE.out.2.1, ← List.append_assoc]; exact hai)); (have HE4 := Lib.hid HE.out.2.2); (have HO4 := Lib.hid hom4); (have HMK := Lib.hid HO.out.2); clear hai hcells hown4 hgrow hat hlt4)
          clear HEND HOW HNEW HE hbase HOM HO
          have hW : Below w4.heap.size w4 (w4.alloc (.cells #[.string ⟨q.text.toArray⟩] 9)) := below_alloc _ _
          have hbd := binding_any G LB bk mbk [q.text] w4.heap.size 1 (w4.alloc (.cells #[.string ⟨q.text.toArray⟩] 9)) (HO4.out.alloc _) (by have := HBK.out; simp; omega)
            (fun j hj => by have : j = 0 := (by simpa using hj); subst this; simp [go_sem]) (fun x hx => by rw [List.mem_singleton] at hx; subst hx; have := HTX.out; unfold maxLen; omega) (Nat.le_refl _) (by omega) (fun _ => by simp)
          have HBD := Lib.hid hbd
          clear hbd hW
          have tail : ∀ (w5 : World) (mb' : Nat), (w4.alloc (.cells #[.string ⟨q.text.toArray⟩] 9)).heap.size ≤ mb' → w5.ownsMap Tryz.prog 9 (plainElem Tryz.prog 4) mb' (pushAll bk [q.text]).length (bD (pushAll bk [q.text])) →
              Below (w4.alloc (.cells #[.string ⟨q.text.toArray⟩] 9)).heap.size (w4.alloc (.cells #[.string ⟨q.text.toArray⟩] 9)) w5 →
              (w5.cell? ⟨w.heap.size, 0, none⟩ = some (.func (.func G) #[] LB) ∧ w5.cell? ⟨w.heap.size, 1, none⟩ = some (.map (some mbk)) ∧ w5.frozen? ⟨w.heap.size, 0, none⟩ = false ∧ w5.frozen? ⟨w.heap.size, 1, none⟩ = false) ∧
              Hid (((w5.setCell ⟨w.heap.size, 0, none⟩ (.func (.func G) #[] LB)).setCell ⟨w.heap.size, 1, none⟩ (.map (some mb'))).ownsMap Tryz.prog 9 (plainElem Tryz.prog 4) mb' (behindL b (ks.take (k + 1))).length (bD (behindL b (ks.take (k + 1)))) ∧ some mb' ≠ M) ∧
              Hid (AllI St M Bz w (blockP (nodeP f d) b (ks.take (k + 1))) (l ++ blockF (freeP d) b (ks.take (k + 1))) (.slice (some ⟨gg, 0, none⟩) (k + 1) cap) ((w5.setCell ⟨w.heap.size, 0, none⟩ (.func (.func G) #[] LB)).setCell ⟨w.heap.size, 1, none⟩ (.map (some mb')))) := by
            intro w5 mb' hmb' ho5 hb5
            have hb45 : Below w4.heap.size w4 w5 := bext (below_alloc w4 _) hb5
            obtain ⟨hcc, hff⟩ := bcell hb45
            have hl4 := cell_lt s0
            have hml : w4.heap.size ≤ mb' := by simp at hmb'; omega
            have hne : mb' ≠ w.heap.size := by omega
            refine ⟨⟨(hcc _ _ hl4).trans s0, (hcc _ _ hl4).trans s1, (hff _ _ hl4).trans z0, (hff _ _ hl4).trans z1⟩, Lib.hid ⟨?_, fun e => ?_⟩, Lib.hid ?_⟩
            · rw [HE4.out, behind, HK2.out]
              exact (ho5.setCell (a := ⟨w.heap.size, 0, none⟩) hne _).setCell (a := ⟨w.heap.size, 1, none⟩) hne _
            · have := (HML.out _ e.symm).1
              have := HAI2.out.2.1.size
              omega
            · exact AllI.setCell HC.out (AllI.setCell HC.out (AllI.below HC.out HAI2.out hn hb45) hn hBz 0 _) hn hBz 1 _
          have TAIL := Lib.hid tail
          clear tail
          refine HBD.out.mono ?_
          rintro e w5 ⟨mb', rfl, hmb', ho5, hb5⟩
          obtain ⟨⟨s0, s1, z0, z1⟩, HO2, HA2⟩ := TAIL.out w5 mb' hmb' ho5 hb5
          clear hmb' ho5 hb5 HBD TAIL
          go_wp2_with fail
          go_roundw
          case rel =>
            have r0 : ((w5.setCell ⟨w.heap.size, 0, none⟩ (.func (.func G) #[] LB)).setCell ⟨w.heap.size, 1, none⟩ (.map (some mb'))).cell? ⟨w.heap.size, 0, none⟩ = some (.func (.func G) #[] LB) := by simp [go_sem, s0, s1]
            have r1 : ((w5.setCell ⟨w.heap.size, 0, none⟩ (.func (.func G) #[] LB)).setCell ⟨w.heap.size, 1, none⟩ (.map (some mb'))).cell? ⟨w.heap.size, 1, none⟩ = some (.map (some mb')) := by simp [go_sem, s0, s1]
            have y0 : ((w5.setCell ⟨w.heap.size, 0, none⟩ (.func (.func G) #[] LB)).setCell ⟨w.heap.size, 1, none⟩ (.map (some mb'))).frozen? ⟨w.heap.size, 0, none⟩ = false := by simp [go_sem, z0]
            have y1 : ((w5.setCell ⟨w.heap.size, 0, none⟩ (.func (.func G) #[] LB)).setCell ⟨w.heap.size, 1, none⟩ (.map (some mb'))).frozen? ⟨w.heap.size, 1, none⟩ = false := by simp [go_sem, z1]
            first
              | exact ⟨k + 1, mb', by omega, by go_num, ⟨r0, r1, y0, y1⟩, HO2, HA2⟩
              | exact ⟨_, _, k + 1, mb', by omega, by go_num, ⟨r0, r1, y0, y1⟩, HO2, HA2⟩
              | ((repeat apply Exists.intro); exact ⟨⟨k + 1, mb', by omega, by go_num, ⟨r0, r1, y0, y1⟩, HO2, HA2⟩, rfl⟩)
          case measure => simp [intOf]; omega
        · go_wp2_with fail
          refine HCQ.out.mono ?_
          rintro e w3 ⟨a3, c3, rfl, hf3, hz3, hg3, hs3⟩
          have hnoc := HC.out.noc (HC.out.below HAI.out.2.2 (by have := HAI.out.2.1.size; omega) (below_alloc wr (.cells #[.int .i64 q.kind, .string ⟨q.text.toArray⟩, .slice a' q.kids.length c', .int .i64 q.pos] 25)))
          have zz : ∀ i u, wr.cell? ⟨w.heap.size, i, none⟩ = some u → wr.frozen? ⟨w.heap.size, i, none⟩ = false → w3.frozen? ⟨w.heap.size, i, none⟩ = false := fun i u hu hz =>
            (frozen_kept (cell_alloc' _ hu) hg3 hnoc).trans ((World.frozen?_of_block ((below_alloc wr (.cells #[.int .i64 q.kind, .string ⟨q.text.toArray⟩, .slice a' q.kids.length c', .int .i64 q.pos] 25)).block _ (cell_lt hu))).trans hz)
          have z0 := zz 0 _ s0 z0
          have z1 := zz 1 _ s1 z1
          have s0 := cell_kept (cell_alloc' _ s0) hg3 hnoc
          have s1 := cell_kept (cell_alloc' _ s1) hg3 hnoc
          have n0 : w3.cell? ⟨wr.heap.size, 0, none⟩ = some (.int .i64 q.kind) := cell_kept (by simp [go_sem]) hg3 hnoc
          have n1 : w3.cell? ⟨wr.heap.size, 1, none⟩ = some (.string ⟨q.text.toArray⟩) := cell_kept (by simp [go_sem]) hg3 hnoc
          have hom3 := (HO.out.1.alloc (.cells #[.int .i64 q.kind, .string ⟨q.text.toArray⟩, .slice a' q.kids.length c', .int .i64 q.pos] 25)).kept hg3 HO.out.2
          have hstep := AllI.step HC.out HAI.out hn hBz (below_alloc wr (.cells #[.int .i64 q.kind, .string ⟨q.text.toArray⟩, .slice a' q.kids.length c', .int .i64 q.pos] 25)) hs0 hf3 hz3 hg3 hs3 (.cells #[.int .i64 y.kind, .string ⟨y.text.toArray⟩, .slice a3 y.kids.length c3, .int .i64 y.pos] 25)
          rw [hky] at hstep
          obtain ⟨L, hL, hown3, hend⟩ := hstep
          have hbase : w.heap.size + 1 ≤ (w3.alloc (.cells #[.int .i64 y.kind, .string ⟨y.text.toArray⟩, .slice a3 y.kids.length c3, .int .i64 y.pos] 25)).heap.size := by have := hg3.size; simp at this ⊢; omega
          have HEND := Lib.hid hend
          have HOW := Lib.hid hown3
          have HOM := Lib.hid (hom3.alloc (.cells #[.int .i64 y.kind, .string ⟨y.text.toArray⟩, .slice a3 y.kids.length c3, .int .i64 y.pos] 25))
          have HNEW := Lib.hid (news_one w3 y a3 c3)
          have h63 : k + 1 ≤ maxLen := by unfold maxLen; omega
          have hby : (k + 1) * 56 ≤ 140737488355328 := by omega
          obtain ⟨i0, hi0, hz0, hz1, hz2⟩ := info_parts info24
          clear hend hown3 hnoc hf3 hz3 hg3 hs3 HCQ HAI hom3 zz
          go_wp2_with (at_builtin; refine wpList_append_lies _ rfl _ _ 22 rfl (w.heap.size + 1) 25 i0 _ 4 56 und22 hi0 hz0 hz1 hz2 rfl (by decide) _ _ _ rfl HOW.out ⟨w3.heap.size, 0, none⟩ 1 1 (node4 (y, a3, c3)) rfl rfl HNEW.out (one4 y a3 c3) (by decide) h63 hby hbase _ rfl ?_; intro gg cap w4 hown4 hgrow hat hlt4; (obtain ⟨hai, hcells⟩ := HEND.out gg cap w4 hown4 hgrow hat); (have z0 := (hcells ⟨w.heap.size, 0, none⟩ _ (.inl (Nat.le_refl _)) s0).2.trans z0); (have z1 := (hcells ⟨w.heap.size, 1, none⟩ _ (.inl (Nat.le_refl _)) s1).2.trans z1); (have s0 := (hcells ⟨w.heap.size, 0, none⟩ _ (.inl (Nat.le_refl _)) s0).1); (have s1 := (hcells ⟨w.heap.size, 1, none⟩ _ (.inl (Nat.le_refl _)) s1).1); (have n0 := (hcells ⟨wr.heap.size, 0, none⟩ _ (.inr (Nat.le_refl _)) n0).1); (have n1 := (hcells ⟨wr.heap.size, 1, none⟩ _ (.inr (Nat.le_refl _)) n1).1); (have hom4 := HOM.out.kept hgrow (own_ne HOW.out HOM.out)); (have HAI2 : Hid (AllI St M Bz w (blockP (nodeP f d) b (ks.take (k + 1))) (l ++ blockF (freeP d) b (ks.take (k + 1))) (.slice (some ⟨gg, 0, none⟩) (k + 1) cap) w4) := Lib.hid (by rw [HE.out.1, HE.out.2.1, ← List.append_assoc]; exact hai)); (have HE4 := Lib.hid HE.out.2.2); (have HO4 := Lib.hid hom4); (have HMK := Lib.hid HO.out.2); clear hai hcells hown4 hgrow hat hlt4)
          clear HEND HOW HNEW HE hbase HOM HO
          have hW : Below w4.heap.size w4 (w4.alloc (.cells #[.string ⟨q.text.toArray⟩] 9)) := below_alloc _ _
          have hbd := binding_any G LB bk mbk [q.text] w4.heap.size 1 (w4.alloc (.cells #[.string ⟨q.text.toArray⟩] 9)) (HO4.out.alloc _) (by have := HBK.out; simp; omega)
            (fun j hj => by have : j = 0 := (by simpa using hj); subst this; simp [go_sem]) (fun x hx => by rw [List.mem_singleton] at hx; subst hx; have := HTX.out; unfold maxLen; omega) (Nat.le_refl _) (by omega) (fun _ => by simp)
          have HBD := Lib.hid hbd
          clear hbd hW
          have tail : ∀ (w5 : World) (mb' : Nat), (w4.alloc (.cells #[.string ⟨q.text.toArray⟩] 9)).heap.size ≤ mb' → w5.ownsMap Tryz.prog 9 (plainElem Tryz.prog 4) mb' (pushAll bk [q.text]).length (bD (pushAll bk [q.text])) →
              Below (w4.alloc (.cells #[.string ⟨q.text.toArray⟩] 9)).heap.size (w4.alloc (.cells #[.string ⟨q.text.toArray⟩] 9)) w5 →
              (w5.cell? ⟨w.heap.size, 0, none⟩ = some (.func (.func G) #[] LB) ∧ w5.cell? ⟨w.heap.size, 1, none⟩ = some (.map (some mbk)) ∧ w5.frozen? ⟨w.heap.size, 0, none⟩ = false ∧ w5.frozen? ⟨w.heap.size, 1, none⟩ = false) ∧
              Hid (((w5.setCell ⟨w.heap.size, 0, none⟩ (.func (.func G) #[] LB)).setCell ⟨w.heap.size, 1, none⟩ (.map (some mb'))).ownsMap Tryz.prog 9 (plainElem Tryz.prog 4) mb' (behindL b (ks.take (k + 1))).length (bD (behindL b (ks.take (k + 1)))) ∧ some mb' ≠ M) ∧
              Hid (AllI St M Bz w (blockP (nodeP f d) b (ks.take (k + 1))) (l ++ blockF (freeP d) b (ks.take (k + 1))) (.slice (some ⟨gg, 0, none⟩) (k + 1) cap) ((w5.setCell ⟨w.heap.size, 0, none⟩ (.func (.func G) #[] LB)).setCell ⟨w.heap.size, 1, none⟩ (.map (some mb')))) := by
            intro w5 mb' hmb' ho5 hb5
            have hb45 : Below w4.heap.size w4 w5 := bext (below_alloc w4 _) hb5
            obtain ⟨hcc, hff⟩ := bcell hb45
            have hl4 := cell_lt s0
            have hml : w4.heap.size ≤ mb' := by simp at hmb'; omega
            have hne : mb' ≠ w.heap.size := by omega
            refine ⟨⟨(hcc _ _ hl4).trans s0, (hcc _ _ hl4).trans s1, (hff _ _ hl4).trans z0, (hff _ _ hl4).trans z1⟩, Lib.hid ⟨?_, fun e => ?_⟩, Lib.hid ?_⟩
            · rw [HE4.out, behind, HK2.out]
              exact (ho5.setCell (a := ⟨w.heap.size, 0, none⟩) hne _).setCell (a := ⟨w.heap.size, 1, none⟩) hne _
            · have := (HML.out _ e.symm).1
              have := HAI2.out.2.1.size
              omega
            · exact AllI.setCell HC.out (AllI.setCell HC.out (AllI.below HC.out HAI2.out hn hb45) hn hBz 0 _) hn hBz 1 _
          have TAIL := Lib.hid tail
          clear tail
          refine HBD.out.mono ?_
          rintro e w5 ⟨mb', rfl, hmb', ho5, hb5⟩
          obtain ⟨⟨s0, s1, z0, z1⟩, HO2, HA2⟩ := TAIL.out w5 mb' hmb' ho5 hb5
          clear hmb' ho5 hb5 HBD TAIL
          go_wp2_with fail
          go_roundw
          case rel =>
            have r0 : ((w5.setCell ⟨w.heap.size, 0, none⟩ (.func (.func G) #[] LB)).setCell ⟨w.heap.size, 1, none⟩ (.map (some mb'))).cell? ⟨w.heap.size, 0, none⟩ = some (.func (.func G) #[] LB) := by simp [go_sem, s0, s1]
            have r1 : ((w5.setCell ⟨w.heap.size, 0, none⟩ (.func (.func G) #[] LB)).setCell ⟨w.heap.size, 1, none⟩ (.map (some mb'))).cell? ⟨w.heap.size, 1, none⟩ = some (.map (some mb')) := by simp [go_sem, s0, s1]
            have y0 : ((w5.setCell ⟨w.heap.size, 0, none⟩ (.func (.func G) #[] LB)).setCell ⟨w.heap.size, 1, none⟩ (.map (some mb'))).frozen? ⟨w.heap.size, 0, none⟩ = false := by simp [go_sem, z0]
            have y1 : ((w5.setCell ⟨w.heap.size, 0, none⟩ (.func (.func G) #[] LB)).setCell ⟨w.heap.size, 1, none⟩ (.map (some mb'))).frozen? ⟨w.heap.size, 1, none⟩ = false := by simp [go_sem, z1]
            first
              | exact ⟨k + 1, mb', by omega, by go_num, ⟨r0, r1, y0, y1⟩, HO2, HA2⟩
              | exact ⟨_, _, k + 1, mb', by omega, by go_num, ⟨r0, r1, y0, y1⟩, HO2, HA2⟩
              | ((repeat apply Exists.intro); exact ⟨⟨k + 1, mb', by omega, by go_num, ⟨r0, r1, y0, y1⟩, HO2, HA2⟩, rfl⟩)
          case measure => simp [intOf]; omega
    · obtain rfl : k = ks.length := by omega
      go_wp2_with fail
      go_ret
      have h := HAI.out
      rw [List.take_length] at h
      obtain ⟨⟨L, hL, hr⟩, hgw, hst⟩ := h
      exact ⟨_, L, rfl, hL, hr.low (by omega), hgw, hst⟩
end
end Go.Proofs.YtfcpblclfgkdjaaGreatDoor
