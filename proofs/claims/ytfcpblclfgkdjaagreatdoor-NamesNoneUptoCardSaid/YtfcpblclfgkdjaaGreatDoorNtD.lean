/-
  names: scope.node, walked, arm by arm. (printed by gen_node.py)
-/
import Derived.Test.YtfcpblclfgkdjaaGreatDoorNtC
namespace Go.Proofs.YtfcpblclfgkdjaaGreatDoor
set_option linter.unusedSimpArgs false
set_option linter.unusedVariables false
open Go.RowKit Go.Maps

set_option maxRecDepth 100000 in
/-- 'm[s]' of the map of bound names. -/
theorem look_bool {b : List (List UInt8)} {mb n : Nat} {W : World} (h : W.ownsMap Tryz.prog 9 (plainElem Tryz.prog 4) mb n (bD b)) (s : List UInt8) (hs : s.length ≤ maxLen) :
    (Instr.lookup 39 (.map (some mb)) (.string ⟨s.toArray⟩) false).run Tryz.prog W = .ok (.bool (b.contains s)) W := by
  obtain ⟨v, ps, hrun, hv⟩ := h.lookup law9 undM (zeroB W) (plainElem_bool Tryz.underlying4 false) (key9 s hs)
  rw [bD_at] at hv
  rw [hrun]
  have : v = .bool (b.contains s) := by
    unfold plainElem at hv
    rw [Tryz.underlying4] at hv
    cases v <;> simp at hv
    rw [hv.1]
    simp
  rw [this]

theorem fuel_step {x d N : Nat} (h : x + (d + 1) * 3000000000000 ≤ N) : x + 3000000000000 + d * 3000000000000 ≤ N := by
  have e : (d + 1) * 3000000000000 = d * 3000000000000 + 3000000000000 := Nat.succ_mul d 3000000000000
  rw [e] at h
  omega
/-- Only the boxes of the call have been turned. -/
def Sets (n : Nat) (w W : World) : Prop := W.os = w.os ∧ W.tape = w.tape ∧ W.output = w.output ∧ W.heap.size = w.heap.size ∧ ∀ k, (k < n ∨ n + 3 ≤ k) → W.heap[k]? = w.heap[k]?
theorem Sets.refl (n : Nat) (w : World) : Sets n w w := ⟨rfl, rfl, rfl, rfl, fun _ _ => rfl⟩
theorem Sets.set {n : Nat} {w W : World} (h : Sets n w W) (p o : Nat) (hp : n ≤ p ∧ p < n + 3) (u : Value) : Sets n w (W.setCell ⟨p, o, none⟩ u) :=
  ⟨h.1, h.2.1, h.2.2.1, by have := h.2.2.2.1; simpa using this, fun k hk => (Below.heap_setCell W ⟨p, o, none⟩ u k (by show k ≠ p; omega)).trans (h.2.2.2.2 k hk)⟩

section
variable {G : Nat} {LB : Array Value} {f : Nd → Nd} {M : Option Nat} {nS : Nat} {St : List (List UInt8) → World → Prop}
theorem node_end (C : FreeC G LB f M nS St) {Bz : Nat} {w w5 W6 : World} {t : Nd} {ys : List Nd} {a5 : Option Addr} {c c5 : Nat} {l5 : List (List UInt8)} (hn : nS ≤ w.heap.size) (hBz : Bz ≤ w.heap.size) (hf : Fits t c) (hg : w.grownBy w5 M) (hs : St l5 w5)
    (hz : KidsZ w5 (Zn Bz (w.heap.size + 3) w5) a5 ys) (h1 : ys.length ≤ c5) (h2 : c5 ≤ 9223372036854775807) (h3 : ys.length * 56 ≤ 140737488351232) (hset : Sets w.heap.size w5 W6) :
    NodePost (t.with ys) l5 M St Bz w (.returned (.agg #[.int .i64 (t.with ys).kind, .string ⟨(t.with ys).text.toArray⟩, .slice a5 (t.with ys).kids.length c5, .int .i64 (t.with ys).pos])) W6 := by
  obtain ⟨e1, e2, e3, e4, e5, e6, e7, e8⟩ := hf
  obtain ⟨o1, o2, o3, o4, o5⟩ := hset
  have hsz := hg.size
  refine ⟨a5, c5, rfl, ⟨e1, e2, e3, e4, e5, h1, h2, h3⟩, hz.move (fun b hb => ?_) (fun p v hp hv => ?_), ⟨o1.trans hg.os, o2.trans hg.tape, o3.trans hg.output, by omega, fun k hk hne => (o5 k (.inl hk)).trans (hg.block k hk hne)⟩, C.on l5 w5 W6 hs (by omega) (by omega) (fun b hb => o5 b (.inl (by omega)))⟩
  · rcases hb with h | h
    · exact .inl h
    · exact .inr ⟨by omega, by omega⟩
  · refine (World.cell?_of_block (o5 p.block ?_)).trans hv
    rcases hp with h | h
    · exact .inl (by omega)
    · exact .inr (by omega)

set_option maxRecDepth 100000 in
set_option maxHeartbeats 16000000 in
theorem node_block (C : FreeC G LB f M nS St) (d : Nat) (ih : NodeAt G LB f M nS St d) (b : List (List UInt8)) (mb : Nat) (l : List (List UInt8)) (t : Nd) (a : Option Addr) (c : Nat) (w : World) (Bz : Nat) (hkind : t.kind = 36)
    (hh : t.height ≤ d + 1) (hloc : InAll Loc t) (hst : St l w) (hn : nS ≤ w.heap.size) (hown : w.ownsMap Tryz.prog 9 (plainElem Tryz.prog 4) mb b.length (bD b)) (hmb : some mb ≠ M)
    (hb : b.length + (d + 1) * 3000000000000 ≤ 2305843009213693952) (hl : l.length + (walkL (d + 1) t).length ≤ 1125899906842624) (hBz : Bz ≤ w.heap.size) (hk : Kids w Bz a t.kids) (hf : Fits t c) :
    Calls Tryz.prog 41 #[.agg #[.func (.func G) #[] LB, .map (some mb)], .agg #[.int .i64 t.kind, .string ⟨t.text.toArray⟩, .slice a t.kids.length c, .int .i64 t.pos]] w (NodePost (nodeP f (d + 1) b t) (l ++ freeP (d + 1) b t) M St Bz w) := by
  obtain ⟨wa, hwa⟩ : ∃ wa, ((w.alloc (.cells #[.func (.func G) #[] LB, .map (some mb)] 41)).alloc (.cells #[.int .i64 t.kind, .string ⟨t.text.toArray⟩, .slice a t.kids.length c, .int .i64 t.pos] 25)).alloc (.cells #[.int .i64 0, .string ⟨#[]⟩, .slice none 0 0, .int .i64 0] 25) = wa := ⟨_, rfl⟩
  have hba : Below w.heap.size w wa := by rw [← hwa]; exact (((Below.refl _ _).alloc (Nat.le_refl _) _).alloc (by simp) _).alloc (by simp; omega) _
  have hsz : wa.heap.size = w.heap.size + 3 := by rw [← hwa]; simp
  have s0 : wa.cell? ⟨w.heap.size, 0, none⟩ = some (.func (.func G) #[] LB) := by rw [← hwa]; simp [go_sem]
  have s1 : wa.cell? ⟨w.heap.size, 1, none⟩ = some (.map (some mb)) := by rw [← hwa]; simp [go_sem]
  have n0 : wa.cell? ⟨w.heap.size + 1, 0, none⟩ = some (.int .i64 t.kind) := by rw [← hwa]; simp [go_sem]
  have n1 : wa.cell? ⟨w.heap.size + 1, 1, none⟩ = some (.string ⟨t.text.toArray⟩) := by rw [← hwa]; simp [go_sem]
  have n2 : wa.cell? ⟨w.heap.size + 1, 2, none⟩ = some (.slice a t.kids.length c) := by rw [← hwa]; simp [go_sem]
  have n3 : wa.cell? ⟨w.heap.size + 1, 3, none⟩ = some (.int .i64 t.pos) := by rw [← hwa]; simp [go_sem]
  have zn : wa.frozen? ⟨w.heap.size + 1, 2, none⟩ = false := by rw [← hwa]; simp [go_sem]
  have r0 : wa.cell? ⟨w.heap.size + 1 + 1, 0, none⟩ = some (.int .i64 0) := by rw [← hwa]; simp [go_sem]
  have r1 : wa.cell? ⟨w.heap.size + 1 + 1, 1, none⟩ = some (.string ⟨#[]⟩) := by rw [← hwa]; simp [go_sem]
  have r2 : wa.cell? ⟨w.heap.size + 1 + 1, 2, none⟩ = some (.slice none 0 0) := by rw [← hwa]; simp [go_sem]
  have r3 : wa.cell? ⟨w.heap.size + 1 + 1, 3, none⟩ = some (.int .i64 0) := by rw [← hwa]; simp [go_sem]
  have z0 : wa.frozen? ⟨w.heap.size + 1 + 1, 0, none⟩ = false := by rw [← hwa]; simp [go_sem]
  have z1 : wa.frozen? ⟨w.heap.size + 1 + 1, 1, none⟩ = false := by rw [← hwa]; simp [go_sem]
  have z2 : wa.frozen? ⟨w.heap.size + 1 + 1, 2, none⟩ = false := by rw [← hwa]; simp [go_sem]
  have z3 : wa.frozen? ⟨w.heap.size + 1 + 1, 3, none⟩ = false := by rw [← hwa]; simp [go_sem]
  have hsta : St l wa := C.below hst hn hba
  have hgwa : w.grownBy wa M := gb M hba
  have howna := hown.kept hgwa hmb
  have hka : Kids wa Bz a t.kids := hk.below (hba.mono hBz) (Nat.le_refl _)
  have hl63 : t.kids.length ≤ 9223372036854775807 := by have := hf.2.2.2.2.2.1; have := hf.2.2.2.2.2.2.1; omega
  have hcap : t.kids.length ≤ c := hf.2.2.2.2.2.1
  have hna : nS ≤ wa.heap.size := by omega
  have hBa : Bz ≤ wa.heap.size := by omega
  have hnoca : NoC M wa := C.noc hsta
  have hwl : l.length + (t.kids.flatMap (walkL d)).length ≤ 1125899906842624 := by rw [walkL, List.length_cons] at hl; omega
  have hbd0 : b.length + d * 3000000000000 ≤ 2305843009213693952 := by have := fuel_step hb; clear hb; omega
  have hbd1 : b.length + t.kids.length + d * 3000000000000 ≤ 2305843009213693952 := by have := hf.2.2.2.2.2.2.2; have := fuel_step hb; clear hb; omega
  have k18 : (t.kind == 18) = false := by rw [hkind]; rfl
  have k36 : (t.kind == 36) = true := by rw [hkind]; rfl
  have hcall := block_any C d ih b mb l t.kids a c wa Bz (fun k hkm => by have := Nd.height_kid hkm; omega) (fun k hkm => hloc.kid hkm) hsta hna howna hmb hbd1 hwl hBa hka hcap hf.2.2.2.2.2.2.1 hf.2.2.2.2.2.2.2
  have hE : nodeP f (d + 1) b t = t.with (blockP (nodeP f d) b t.kids) := by rw [nodeP, if_neg (by rw [hkind]; decide), if_pos hkind]
  have hF : freeP (d + 1) b t = blockF (freeP d) b t.kids := by rw [freeP, if_neg (by rw [hkind]; decide), if_pos hkind]
  have hyl : (blockP (nodeP f d) b t.kids).length = t.kids.length := by rw [blockP_len]
  obtain ⟨ys, hys⟩ : ∃ ys, blockP (nodeP f d) b t.kids = ys := ⟨_, rfl⟩
  obtain ⟨l5, hl5⟩ : ∃ l5, l ++ blockF (freeP d) b t.kids = l5 := ⟨_, rfl⟩
  rw [hys] at hcall hE hyl
  rw [hl5] at hcall
  rw [hE, hF, hl5]
  have HC := Lib.hid C
  have HCALL := Lib.hid hcall
  have HF := Lib.hid hf
  have HG := Lib.hid hgwa
  have HN := Lib.hid hnoca
  have HYL := Lib.hid hyl
  clear hkind hwl hbd0 hbd1 C ih hcall hE hF hyl hys hl5 hf hgwa hnoca hst hown hk hba howna hka hsta hh hloc hl hb hmb
  go_enter Tryz.func41, Tryz.ntmps41
  go_wp2_with fail
  refine HCALL.out.mono ?_
  rintro e w5 ⟨v, L, rfl, hL, hr, hg5, hs5⟩
  obtain ⟨a5, c5, rfl, hz5, hlc5, hmx5⟩ := hr.kids hL
  have zn := (frozen_kept n2 hg5 HN.out).trans zn
  have z0 := (frozen_kept r0 hg5 HN.out).trans z0
  have z1 := (frozen_kept r1 hg5 HN.out).trans z1
  have z2 := (frozen_kept r2 hg5 HN.out).trans z2
  have z3 := (frozen_kept r3 hg5 HN.out).trans z3
  have n0 := cell_kept n0 hg5 HN.out
  have n1 := cell_kept n1 hg5 HN.out
  have n2 := cell_kept n2 hg5 HN.out
  have n3 := cell_kept n3 hg5 HN.out
  have r0 := cell_kept r0 hg5 HN.out
  have r1 := cell_kept r1 hg5 HN.out
  have r2 := cell_kept r2 hg5 HN.out
  have r3 := cell_kept r3 hg5 HN.out
  have lr := cell_lt r0
  have hw5 := hg5.size
  have HP := Lib.hid (show ∀ W6, Sets w.heap.size w5 W6 → NodePost (t.with ys) l5 M St Bz w (.returned (.agg #[.int .i64 (t.with ys).kind, .string ⟨(t.with ys).text.toArray⟩, .slice a5 (t.with ys).kids.length c5, .int .i64 (t.with ys).pos])) W6 from fun W6 hset =>
    node_end HC.out hn hBz HF.out (HG.out.trans hg5) hs5 (hz5.mono (fun b hb => hb.imp id (fun h => ⟨by omega, h.2⟩))) hlc5 hmx5 (by have := HF.out.2.2.2.2.2.2.2; rw [HYL.out]; omega) hset)
  clear hL hr hg5 hs5 hz5 hlc5 hmx5 HCALL hwa
  go_wp2_with fail
  refine bodyPost_ret (v := .agg #[.int .i64 (t.with ys).kind, .string ⟨(t.with ys).text.toArray⟩, .slice a5 (t.with ys).kids.length c5, .int .i64 (t.with ys).pos]) (by simp [results, Tryz.results41, go_sem, r0, r1, r2, r3, lr]) rfl ?_
  exact HP.out _ (by repeat first | (with_reducible exact Sets.refl _ _) | (with_reducible refine Sets.set ?_ _ _ (by omega) _))

set_option maxRecDepth 100000 in
set_option maxHeartbeats 16000000 in
theorem node_other (C : FreeC G LB f M nS St) (d : Nat) (ih : NodeAt G LB f M nS St d) (b : List (List UInt8)) (mb : Nat) (l : List (List UInt8)) (t : Nd) (a : Option Addr) (c : Nat) (w : World) (Bz : Nat) (hk18 : t.kind ≠ 18) (hk36 : t.kind ≠ 36) (hk25 : t.kind ≠ 25) (hk32 : t.kind ≠ 32) (hk31 : t.kind ≠ 31)
    (hh : t.height ≤ d + 1) (hloc : InAll Loc t) (hst : St l w) (hn : nS ≤ w.heap.size) (hown : w.ownsMap Tryz.prog 9 (plainElem Tryz.prog 4) mb b.length (bD b)) (hmb : some mb ≠ M)
    (hb : b.length + (d + 1) * 3000000000000 ≤ 2305843009213693952) (hl : l.length + (walkL (d + 1) t).length ≤ 1125899906842624) (hBz : Bz ≤ w.heap.size) (hk : Kids w Bz a t.kids) (hf : Fits t c) :
    Calls Tryz.prog 41 #[.agg #[.func (.func G) #[] LB, .map (some mb)], .agg #[.int .i64 t.kind, .string ⟨t.text.toArray⟩, .slice a t.kids.length c, .int .i64 t.pos]] w (NodePost (nodeP f (d + 1) b t) (l ++ freeP (d + 1) b t) M St Bz w) := by
  obtain ⟨wa, hwa⟩ : ∃ wa, ((w.alloc (.cells #[.func (.func G) #[] LB, .map (some mb)] 41)).alloc (.cells #[.int .i64 t.kind, .string ⟨t.text.toArray⟩, .slice a t.kids.length c, .int .i64 t.pos] 25)).alloc (.cells #[.int .i64 0, .string ⟨#[]⟩, .slice none 0 0, .int .i64 0] 25) = wa := ⟨_, rfl⟩
  have hba : Below w.heap.size w wa := by rw [← hwa]; exact (((Below.refl _ _).alloc (Nat.le_refl _) _).alloc (by simp) _).alloc (by simp; omega) _
  have hsz : wa.heap.size = w.heap.size + 3 := by rw [← hwa]; simp
  have s0 : wa.cell? ⟨w.heap.size, 0, none⟩ = some (.func (.func G) #[] LB) := by rw [← hwa]; simp [go_sem]
  have s1 : wa.cell? ⟨w.heap.size, 1, none⟩ = some (.map (some mb)) := by rw [← hwa]; simp [go_sem]
  have n0 : wa.cell? ⟨w.heap.size + 1, 0, none⟩ = some (.int .i64 t.kind) := by rw [← hwa]; simp [go_sem]
  have n1 : wa.cell? ⟨w.heap.size + 1, 1, none⟩ = some (.string ⟨t.text.toArray⟩) := by rw [← hwa]; simp [go_sem]
  have n2 : wa.cell? ⟨w.heap.size + 1, 2, none⟩ = some (.slice a t.kids.length c) := by rw [← hwa]; simp [go_sem]
  have n3 : wa.cell? ⟨w.heap.size + 1, 3, none⟩ = some (.int .i64 t.pos) := by rw [← hwa]; simp [go_sem]
  have zn : wa.frozen? ⟨w.heap.size + 1, 2, none⟩ = false := by rw [← hwa]; simp [go_sem]
  have r0 : wa.cell? ⟨w.heap.size + 1 + 1, 0, none⟩ = some (.int .i64 0) := by rw [← hwa]; simp [go_sem]
  have r1 : wa.cell? ⟨w.heap.size + 1 + 1, 1, none⟩ = some (.string ⟨#[]⟩) := by rw [← hwa]; simp [go_sem]
  have r2 : wa.cell? ⟨w.heap.size + 1 + 1, 2, none⟩ = some (.slice none 0 0) := by rw [← hwa]; simp [go_sem]
  have r3 : wa.cell? ⟨w.heap.size + 1 + 1, 3, none⟩ = some (.int .i64 0) := by rw [← hwa]; simp [go_sem]
  have z0 : wa.frozen? ⟨w.heap.size + 1 + 1, 0, none⟩ = false := by rw [← hwa]; simp [go_sem]
  have z1 : wa.frozen? ⟨w.heap.size + 1 + 1, 1, none⟩ = false := by rw [← hwa]; simp [go_sem]
  have z2 : wa.frozen? ⟨w.heap.size + 1 + 1, 2, none⟩ = false := by rw [← hwa]; simp [go_sem]
  have z3 : wa.frozen? ⟨w.heap.size + 1 + 1, 3, none⟩ = false := by rw [← hwa]; simp [go_sem]
  have hsta : St l wa := C.below hst hn hba
  have hgwa : w.grownBy wa M := gb M hba
  have howna := hown.kept hgwa hmb
  have hka : Kids wa Bz a t.kids := hk.below (hba.mono hBz) (Nat.le_refl _)
  have hl63 : t.kids.length ≤ 9223372036854775807 := by have := hf.2.2.2.2.2.1; have := hf.2.2.2.2.2.2.1; omega
  have hcap : t.kids.length ≤ c := hf.2.2.2.2.2.1
  have hna : nS ≤ wa.heap.size := by omega
  have hBa : Bz ≤ wa.heap.size := by omega
  have hnoca : NoC M wa := C.noc hsta
  have hwl : l.length + (t.kids.flatMap (walkL d)).length ≤ 1125899906842624 := by rw [walkL, List.length_cons] at hl; omega
  have hbd0 : b.length + d * 3000000000000 ≤ 2305843009213693952 := by have := fuel_step hb; clear hb; omega
  have hbd1 : b.length + t.kids.length + d * 3000000000000 ≤ 2305843009213693952 := by have := hf.2.2.2.2.2.2.2; have := fuel_step hb; clear hb; omega
  have k18 : (t.kind == 18) = false := by simpa using hk18
  have k36 : (t.kind == 36) = false := by simpa using hk36
  have k25 : (t.kind == 25) = false := by simpa using hk25
  have k32 : (t.kind == 32) = false := by simpa using hk32
  have k31 : (t.kind == 31) = false := by simpa using hk31
  have hcall := all_any C d ih b mb l t.kids a c wa Bz (fun k hkm => by have := Nd.height_kid hkm; omega) (fun k hkm => hloc.kid hkm) hsta hna howna hmb hbd0 hwl hBa hka hcap hf.2.2.2.2.2.2.1 hf.2.2.2.2.2.2.2
  have hE : nodeP f (d + 1) b t = t.with (t.kids.map (nodeP f d b)) := by rw [nodeP, if_neg hk18, if_neg hk36, if_neg hk25, if_neg hk32, if_neg hk31]
  have hF : freeP (d + 1) b t = t.kids.flatMap (freeP d b) := by rw [freeP, if_neg hk18, if_neg hk36, if_neg hk25, if_neg hk32, if_neg hk31]
  have hyl : (t.kids.map (nodeP f d b)).length = t.kids.length := by simp
  obtain ⟨ys, hys⟩ : ∃ ys, t.kids.map (nodeP f d b) = ys := ⟨_, rfl⟩
  obtain ⟨l5, hl5⟩ : ∃ l5, l ++ t.kids.flatMap (freeP d b) = l5 := ⟨_, rfl⟩
  rw [hys] at hcall hE hyl
  rw [hl5] at hcall
  rw [hE, hF, hl5]
  have HC := Lib.hid C
  have HCALL := Lib.hid hcall
  have HF := Lib.hid hf
  have HG := Lib.hid hgwa
  have HN := Lib.hid hnoca
  have HYL := Lib.hid hyl
  clear hk18 hk36 hk25 hk32 hk31 hwl hbd0 hbd1 C ih hcall hE hF hyl hys hl5 hf hgwa hnoca hst hown hk hba howna hka hsta hh hloc hl hb hmb
  go_enter Tryz.func41, Tryz.ntmps41
  go_wp2_with fail
  refine HCALL.out.mono ?_
  rintro e w5 ⟨v, L, rfl, hL, hr, hg5, hs5⟩
  obtain ⟨a5, c5, rfl, hz5, hlc5, hmx5⟩ := hr.kids hL
  have zn := (frozen_kept n2 hg5 HN.out).trans zn
  have z0 := (frozen_kept r0 hg5 HN.out).trans z0
  have z1 := (frozen_kept r1 hg5 HN.out).trans z1
  have z2 := (frozen_kept r2 hg5 HN.out).trans z2
  have z3 := (frozen_kept r3 hg5 HN.out).trans z3
  have n0 := cell_kept n0 hg5 HN.out
  have n1 := cell_kept n1 hg5 HN.out
  have n2 := cell_kept n2 hg5 HN.out
  have n3 := cell_kept n3 hg5 HN.out
  have r0 := cell_kept r0 hg5 HN.out
  have r1 := cell_kept r1 hg5 HN.out
  have r2 := cell_kept r2 hg5 HN.out
  have r3 := cell_kept r3 hg5 HN.out
  have lr := cell_lt r0
  have hw5 := hg5.size
  have HP := Lib.hid (show ∀ W6, Sets w.heap.size w5 W6 → NodePost (t.with ys) l5 M St Bz w (.returned (.agg #[.int .i64 (t.with ys).kind, .string ⟨(t.with ys).text.toArray⟩, .slice a5 (t.with ys).kids.length c5, .int .i64 (t.with ys).pos])) W6 from fun W6 hset =>
    node_end HC.out hn hBz HF.out (HG.out.trans hg5) hs5 (hz5.mono (fun b hb => hb.imp id (fun h => ⟨by omega, h.2⟩))) hlc5 hmx5 (by have := HF.out.2.2.2.2.2.2.2; rw [HYL.out]; omega) hset)
  clear hL hr hg5 hs5 hz5 hlc5 hmx5 HCALL hwa
  go_wp2_with fail
  refine bodyPost_ret (v := .agg #[.int .i64 (t.with ys).kind, .string ⟨(t.with ys).text.toArray⟩, .slice a5 (t.with ys).kids.length c5, .int .i64 (t.with ys).pos]) (by simp [results, Tryz.results41, go_sem, r0, r1, r2, r3, lr]) rfl ?_
  exact HP.out _ (by repeat first | (with_reducible exact Sets.refl _ _) | (with_reducible refine Sets.set ?_ _ _ (by omega) _))

set_option maxRecDepth 100000 in
set_option maxHeartbeats 16000000 in
theorem node_bound (C : FreeC G LB f M nS St) (d : Nat) (b : List (List UInt8)) (mb : Nat) (l : List (List UInt8)) (t : Nd) (a : Option Addr) (c : Nat) (w : World) (Bz : Nat) (hkind : t.kind = 18) (hbd : b.contains t.text = true)
    (hh : t.height ≤ d + 1) (hloc : InAll Loc t) (hst : St l w) (hn : nS ≤ w.heap.size) (hown : w.ownsMap Tryz.prog 9 (plainElem Tryz.prog 4) mb b.length (bD b)) (hmb : some mb ≠ M)
    (hb : b.length + (d + 1) * 3000000000000 ≤ 2305843009213693952) (hl : l.length + (walkL (d + 1) t).length ≤ 1125899906842624) (hBz : Bz ≤ w.heap.size) (hk : Kids w Bz a t.kids) (hf : Fits t c) :
    Calls Tryz.prog 41 #[.agg #[.func (.func G) #[] LB, .map (some mb)], .agg #[.int .i64 t.kind, .string ⟨t.text.toArray⟩, .slice a t.kids.length c, .int .i64 t.pos]] w (NodePost (nodeP f (d + 1) b t) (l ++ freeP (d + 1) b t) M St Bz w) := by
  obtain ⟨wa, hwa⟩ : ∃ wa, ((w.alloc (.cells #[.func (.func G) #[] LB, .map (some mb)] 41)).alloc (.cells #[.int .i64 t.kind, .string ⟨t.text.toArray⟩, .slice a t.kids.length c, .int .i64 t.pos] 25)).alloc (.cells #[.int .i64 0, .string ⟨#[]⟩, .slice none 0 0, .int .i64 0] 25) = wa := ⟨_, rfl⟩
  have hba : Below w.heap.size w wa := by rw [← hwa]; exact (((Below.refl _ _).alloc (Nat.le_refl _) _).alloc (by simp) _).alloc (by simp; omega) _
  have hsz : wa.heap.size = w.heap.size + 3 := by rw [← hwa]; simp
  have s0 : wa.cell? ⟨w.heap.size, 0, none⟩ = some (.func (.func G) #[] LB) := by rw [← hwa]; simp [go_sem]
  have s1 : wa.cell? ⟨w.heap.size, 1, none⟩ = some (.map (some mb)) := by rw [← hwa]; simp [go_sem]
  have n0 : wa.cell? ⟨w.heap.size + 1, 0, none⟩ = some (.int .i64 t.kind) := by rw [← hwa]; simp [go_sem]
  have n1 : wa.cell? ⟨w.heap.size + 1, 1, none⟩ = some (.string ⟨t.text.toArray⟩) := by rw [← hwa]; simp [go_sem]
  have n2 : wa.cell? ⟨w.heap.size + 1, 2, none⟩ = some (.slice a t.kids.length c) := by rw [← hwa]; simp [go_sem]
  have n3 : wa.cell? ⟨w.heap.size + 1, 3, none⟩ = some (.int .i64 t.pos) := by rw [← hwa]; simp [go_sem]
  have zn : wa.frozen? ⟨w.heap.size + 1, 2, none⟩ = false := by rw [← hwa]; simp [go_sem]
  have r0 : wa.cell? ⟨w.heap.size + 1 + 1, 0, none⟩ = some (.int .i64 0) := by rw [← hwa]; simp [go_sem]
  have r1 : wa.cell? ⟨w.heap.size + 1 + 1, 1, none⟩ = some (.string ⟨#[]⟩) := by rw [← hwa]; simp [go_sem]
  have r2 : wa.cell? ⟨w.heap.size + 1 + 1, 2, none⟩ = some (.slice none 0 0) := by rw [← hwa]; simp [go_sem]
  have r3 : wa.cell? ⟨w.heap.size + 1 + 1, 3, none⟩ = some (.int .i64 0) := by rw [← hwa]; simp [go_sem]
  have z0 : wa.frozen? ⟨w.heap.size + 1 + 1, 0, none⟩ = false := by rw [← hwa]; simp [go_sem]
  have z1 : wa.frozen? ⟨w.heap.size + 1 + 1, 1, none⟩ = false := by rw [← hwa]; simp [go_sem]
  have z2 : wa.frozen? ⟨w.heap.size + 1 + 1, 2, none⟩ = false := by rw [← hwa]; simp [go_sem]
  have z3 : wa.frozen? ⟨w.heap.size + 1 + 1, 3, none⟩ = false := by rw [← hwa]; simp [go_sem]
  have hsta : St l wa := C.below hst hn hba
  have hgwa : w.grownBy wa M := gb M hba
  have howna := hown.kept hgwa hmb
  have hka : Kids wa Bz a t.kids := hk.below (hba.mono hBz) (Nat.le_refl _)
  have hl63 : t.kids.length ≤ 9223372036854775807 := by have := hf.2.2.2.2.2.1; have := hf.2.2.2.2.2.2.1; omega
  have hcap : t.kids.length ≤ c := hf.2.2.2.2.2.1
  have hna : nS ≤ wa.heap.size := by omega
  have hBa : Bz ≤ wa.heap.size := by omega
  have hnoca : NoC M wa := C.noc hsta
  have hwl : l.length + (t.kids.flatMap (walkL d)).length ≤ 1125899906842624 := by rw [walkL, List.length_cons] at hl; omega
  have hbd0 : b.length + d * 3000000000000 ≤ 2305843009213693952 := by have := fuel_step hb; clear hb; omega
  have hbd1 : b.length + t.kids.length + d * 3000000000000 ≤ 2305843009213693952 := by have := hf.2.2.2.2.2.2.2; have := fuel_step hb; clear hb; omega
  have k18 : (t.kind == 18) = true := by rw [hkind]; rfl
  have hlk := look_bool howna t.text (by have := hf.2.2.2.2.1; unfold maxLen; omega)
  rw [hbd] at hlk
  have hE : nodeP f (d + 1) b t = t.with t.kids := by rw [nodeP, if_pos hkind, hbd, Nd.with_self]; rfl
  have hF : freeP (d + 1) b t = [] := by rw [freeP, if_pos hkind, hbd]; rfl
  rw [hE, hF, List.append_nil]
  have lr := cell_lt r0
  have HP := Lib.hid (show ∀ W6, Sets w.heap.size wa W6 → NodePost (t.with t.kids) l M St Bz w (.returned (.agg #[.int .i64 (t.with t.kids).kind, .string ⟨(t.with t.kids).text.toArray⟩, .slice a (t.with t.kids).kids.length c, .int .i64 (t.with t.kids).pos])) W6 from fun W6 hset =>
    node_end C hn hBz hf hgwa hsta (hka.toZ.mono (fun b hb => .inl hb)) hf.2.2.2.2.2.1 hf.2.2.2.2.2.2.1 hf.2.2.2.2.2.2.2 hset)
  clear hkind hwl hbd0 hbd1 C hE hF hgwa hnoca hst hown hk hba howna hka hsta hh hloc hl hb hmb hf
  go_enter Tryz.func41, Tryz.ntmps41
  go_wp2_with fail
  refine bodyPost_ret (v := .agg #[.int .i64 (t.with t.kids).kind, .string ⟨(t.with t.kids).text.toArray⟩, .slice a (t.with t.kids).kids.length c, .int .i64 (t.with t.kids).pos]) (by simp [results, Tryz.results41, go_sem, r0, r1, r2, r3, lr]) rfl ?_
  exact HP.out _ (by repeat first | (with_reducible exact Sets.refl _ _) | (with_reducible refine Sets.set ?_ _ _ (by omega) _))

set_option maxRecDepth 100000 in
set_option maxHeartbeats 16000000 in
theorem node_free (C : FreeC G LB f M nS St) (d : Nat) (b : List (List UInt8)) (mb : Nat) (l : List (List UInt8)) (t : Nd) (a : Option Addr) (c : Nat) (w : World) (Bz : Nat) (hkind : t.kind = 18) (hbd : b.contains t.text = false)
    (hh : t.height ≤ d + 1) (hloc : InAll Loc t) (hst : St l w) (hn : nS ≤ w.heap.size) (hown : w.ownsMap Tryz.prog 9 (plainElem Tryz.prog 4) mb b.length (bD b)) (hmb : some mb ≠ M)
    (hb : b.length + (d + 1) * 3000000000000 ≤ 2305843009213693952) (hl : l.length + (walkL (d + 1) t).length ≤ 1125899906842624) (hBz : Bz ≤ w.heap.size) (hk : Kids w Bz a t.kids) (hf : Fits t c) :
    Calls Tryz.prog 41 #[.agg #[.func (.func G) #[] LB, .map (some mb)], .agg #[.int .i64 t.kind, .string ⟨t.text.toArray⟩, .slice a t.kids.length c, .int .i64 t.pos]] w (NodePost (nodeP f (d + 1) b t) (l ++ freeP (d + 1) b t) M St Bz w) := by
  obtain ⟨wa, hwa⟩ : ∃ wa, ((w.alloc (.cells #[.func (.func G) #[] LB, .map (some mb)] 41)).alloc (.cells #[.int .i64 t.kind, .string ⟨t.text.toArray⟩, .slice a t.kids.length c, .int .i64 t.pos] 25)).alloc (.cells #[.int .i64 0, .string ⟨#[]⟩, .slice none 0 0, .int .i64 0] 25) = wa := ⟨_, rfl⟩
  have hba : Below w.heap.size w wa := by rw [← hwa]; exact (((Below.refl _ _).alloc (Nat.le_refl _) _).alloc (by simp) _).alloc (by simp; omega) _
  have hsz : wa.heap.size = w.heap.size + 3 := by rw [← hwa]; simp
  have s0 : wa.cell? ⟨w.heap.size, 0, none⟩ = some (.func (.func G) #[] LB) := by rw [← hwa]; simp [go_sem]
  have s1 : wa.cell? ⟨w.heap.size, 1, none⟩ = some (.map (some mb)) := by rw [← hwa]; simp [go_sem]
  have n0 : wa.cell? ⟨w.heap.size + 1, 0, none⟩ = some (.int .i64 t.kind) := by rw [← hwa]; simp [go_sem]
  have n1 : wa.cell? ⟨w.heap.size + 1, 1, none⟩ = some (.string ⟨t.text.toArray⟩) := by rw [← hwa]; simp [go_sem]
  have n2 : wa.cell? ⟨w.heap.size + 1, 2, none⟩ = some (.slice a t.kids.length c) := by rw [← hwa]; simp [go_sem]
  have n3 : wa.cell? ⟨w.heap.size + 1, 3, none⟩ = some (.int .i64 t.pos) := by rw [← hwa]; simp [go_sem]
  have zn : wa.frozen? ⟨w.heap.size + 1, 2, none⟩ = false := by rw [← hwa]; simp [go_sem]
  have r0 : wa.cell? ⟨w.heap.size + 1 + 1, 0, none⟩ = some (.int .i64 0) := by rw [← hwa]; simp [go_sem]
  have r1 : wa.cell? ⟨w.heap.size + 1 + 1, 1, none⟩ = some (.string ⟨#[]⟩) := by rw [← hwa]; simp [go_sem]
  have r2 : wa.cell? ⟨w.heap.size + 1 + 1, 2, none⟩ = some (.slice none 0 0) := by rw [← hwa]; simp [go_sem]
  have r3 : wa.cell? ⟨w.heap.size + 1 + 1, 3, none⟩ = some (.int .i64 0) := by rw [← hwa]; simp [go_sem]
  have z0 : wa.frozen? ⟨w.heap.size + 1 + 1, 0, none⟩ = false := by rw [← hwa]; simp [go_sem]
  have z1 : wa.frozen? ⟨w.heap.size + 1 + 1, 1, none⟩ = false := by rw [← hwa]; simp [go_sem]
  have z2 : wa.frozen? ⟨w.heap.size + 1 + 1, 2, none⟩ = false := by rw [← hwa]; simp [go_sem]
  have z3 : wa.frozen? ⟨w.heap.size + 1 + 1, 3, none⟩ = false := by rw [← hwa]; simp [go_sem]
  have hsta : St l wa := C.below hst hn hba
  have hgwa : w.grownBy wa M := gb M hba
  have howna := hown.kept hgwa hmb
  have hka : Kids wa Bz a t.kids := hk.below (hba.mono hBz) (Nat.le_refl _)
  have hl63 : t.kids.length ≤ 9223372036854775807 := by have := hf.2.2.2.2.2.1; have := hf.2.2.2.2.2.2.1; omega
  have hcap : t.kids.length ≤ c := hf.2.2.2.2.2.1
  have hna : nS ≤ wa.heap.size := by omega
  have hBa : Bz ≤ wa.heap.size := by omega
  have hnoca : NoC M wa := C.noc hsta
  have hwl : l.length + (t.kids.flatMap (walkL d)).length ≤ 1125899906842624 := by rw [walkL, List.length_cons] at hl; omega
  have hbd0 : b.length + d * 3000000000000 ≤ 2305843009213693952 := by have := fuel_step hb; clear hb; omega
  have hbd1 : b.length + t.kids.length + d * 3000000000000 ≤ 2305843009213693952 := by have := hf.2.2.2.2.2.2.2; have := fuel_step hb; clear hb; omega
  have k18 : (t.kind == 18) = true := by rw [hkind]; rfl
  have hlk := look_bool howna t.text (by have := hf.2.2.2.2.1; unfold maxLen; omega)
  rw [hbd] at hlk
  have hE : nodeP f (d + 1) b t = (f t).with t.kids := by rw [nodeP, if_pos hkind, hbd, ← C.kids t, Nd.with_self]; rfl
  have hF : freeP (d + 1) b t = [t.text] := by rw [freeP, if_pos hkind, hbd]; rfl
  rw [hE, hF]
  have hcall := C.call l wa t a c hsta hna (by omega) hf
  have hff := C.fits t c hf
  have hfk := C.kids t
  have hen := C.en
  have HC := Lib.hid C
  have HCALL := Lib.hid hcall
  have HF := Lib.hid hff
  have HFK := Lib.hid hfk
  have HG := Lib.hid hgwa
  have HN := Lib.hid hnoca
  have HKA := Lib.hid hka
  obtain ⟨y, hy⟩ : ∃ y, f t = y := ⟨_, rfl⟩
  rw [hy] at HCALL HF HFK ⊢
  clear hkind hwl hbd0 hbd1 C hcall hE hF hff hfk hgwa hnoca hst hown hk hba howna hka hsta hh hloc hl hb hmb hf hy
  unfold Enters at hen
  go_enter Tryz.func41, Tryz.ntmps41
  go_wp2_with fail
  refine HCALL.out.mono ?_
  rintro e w5 ⟨rfl, hg5, hs5⟩
  have zn := (frozen_kept n2 hg5 HN.out).trans zn
  have z0 := (frozen_kept r0 hg5 HN.out).trans z0
  have z1 := (frozen_kept r1 hg5 HN.out).trans z1
  have z2 := (frozen_kept r2 hg5 HN.out).trans z2
  have z3 := (frozen_kept r3 hg5 HN.out).trans z3
  have n0 := cell_kept n0 hg5 HN.out
  have n1 := cell_kept n1 hg5 HN.out
  have n2 := cell_kept n2 hg5 HN.out
  have n3 := cell_kept n3 hg5 HN.out
  have r0 := cell_kept r0 hg5 HN.out
  have r1 := cell_kept r1 hg5 HN.out
  have r2 := cell_kept r2 hg5 HN.out
  have r3 := cell_kept r3 hg5 HN.out
  have lr := cell_lt r0
  have HP := Lib.hid (show ∀ W6, Sets w.heap.size w5 W6 → NodePost (y.with t.kids) (l ++ [t.text]) M St Bz w (.returned (.agg #[.int .i64 (y.with t.kids).kind, .string ⟨(y.with t.kids).text.toArray⟩, .slice a (y.with t.kids).kids.length c, .int .i64 (y.with t.kids).pos])) W6 from fun W6 hset =>
    node_end HC.out hn hBz HF.out (HG.out.trans hg5) hs5 ((kids_gb HKA.out hg5 HN.out).toZ.mono (fun b hb => .inl hb)) (by have := HF.out.2.2.2.2.2.1; rw [HFK.out] at this; exact this) HF.out.2.2.2.2.2.2.1 (by have := HF.out.2.2.2.2.2.2.2; rw [HFK.out] at this; exact this) hset)
  have hyk : y.kids.length = t.kids.length := by rw [HFK.out]
  clear hg5 hs5 HCALL hwa
  go_wp2_with fail
  refine bodyPost_ret (v := .agg #[.int .i64 (y.with t.kids).kind, .string ⟨(y.with t.kids).text.toArray⟩, .slice a (y.with t.kids).kids.length c, .int .i64 (y.with t.kids).pos]) (by simp [results, Tryz.results41, go_sem, r0, r1, r2, r3, lr, hyk]) rfl ?_
  exact HP.out _ (by repeat first | (with_reducible exact Sets.refl _ _) | (with_reducible refine Sets.set ?_ _ _ (by omega) _))
end
end Go.Proofs.YtfcpblclfgkdjaaGreatDoor
