/-
  tree.walk: what it yields, walked
-/
import Derived.Test.YtnmebgiiajnnjaaIterA
import Derived.Lib.Hide
import Derived.RangeFuncNested
import Derived.RangeFuncBound
import Derived.RangeFuncCalls
import Derived.RangeFuncLeaves
import Derived.Shelf.Abstract
import Derived.Shelf.RegionOpen
import Derived.WalkKit
import Derived.OwnWalkIn
import Derived.TacticsInMore
import Derived.LoopNIn
import Derived.LoopIn
namespace Go.Proofs.Ytnmebgiiajnnjaa
set_option linter.unusedSimpArgs false
set_option linter.unusedVariables false
open Go.RowKit Go.Shelf
attribute [local go_sem] Oper.semAt_some

def encC {n₀ w0} (x : Come n₀ w0) : Array Value := #[.agg #[.int .i64 x.1.1.kind, .string ⟨x.1.1.text.toArray⟩, .slice x.1.2.1 x.1.1.kids.length x.1.2.2.1, .int .i64 x.1.1.pos], .int .i64 x.1.2.2.2]

theorem room_none {F : Fence} (hd : F.depth = none) (k : Nat) : F.room k := fun d h => by rw [hd] at h; cases h
theorem roundAnyDepth {F : Fence} (hd : F.depth = none) {m m' : Nat} {P : Program} {l : Nat} {f : FuncId} {tmps : Array Value} {assign body : Code} {w : World} {R : Ending → World → Prop}
    (h : RoundIn F m P l f tmps assign body w R) : RoundIn F m' P l f tmps assign body w R := ⟨h.1, fun c cs _ => h.2 c cs (room_none hd _)⟩
theorem yieldAnyDepth {F : Fence} (hd : F.depth = none) {m : Nat} (m' : Nat) {P : Program} {l : Nat} {args : Array Value} {W : World} {R : Ending → World → Prop} (h : YieldAt F m P l args W R) : YieldAt F m' P l args W R := by
  obtain ⟨fn, tmps, assign, body, hy, hR⟩ := h
  exact ⟨fn, tmps, assign, body, hy, roundAnyDepth hd hR⟩

/-- What walk hands back from a world W, pre having come. -/
def Walked (n₀ : Nat) (w0 : World) (mine : World → Nat → Prop) (J Jx : List (Come n₀ w0) → World → Prop) (pre : List (Come n₀ w0)) (want : List (Nd × Nat)) (W : World) (e : Ending) (W' : World) : Prop :=
  (e = .returned (.bool true) ∧ (∃ xs : List (Come n₀ w0), xs.map er = want ∧ J (pre ++ xs) W') ∧ KB n₀ mine W W') ∨ (e = .returned (.bool false) ∧ ∃ q, Jx q W')

theorem flat_room {α β : Type} (l : List α) (f : α → List β) (k : Nat) (hk : k < l.length) : ((l.take k).flatMap f).length + (f l[k]).length ≤ (l.flatMap f).length := by
  have h : l.flatMap f = (l.take k).flatMap f ++ (f l[k] ++ (l.drop (k + 1)).flatMap f) := by
    conv => lhs; rw [← List.take_append_drop k l, List.drop_eq_getElem_cons hk, List.flatMap_append, List.flatMap_cons]
  rw [h, List.length_append, List.length_append]
  omega
theorem flat_next {α β : Type} (l : List α) (f : α → List β) (k : Nat) (hk : k < l.length) : (l.take (k + 1)).flatMap f = (l.take k).flatMap f ++ f l[k] := by
  rw [List.take_succ_eq_append_getElem hk, List.flatMap_append]; simp

set_option maxRecDepth 100000 in
set_option maxHeartbeats 4000000 in
theorem walk_in (F : Fence) (hd : F.depth = none) (h30 : F.fn 30) (hro : F.round = none) (l n₀ N B : Nat) (w0 : World) (mine : World → Nat → Prop)
    (hmine : ∀ W o b, B ≤ W.heap.size → mine (W.alloc o) b → mine W b) (J Jx : List (Come n₀ w0) → World → Prop) (hJ : AbidesFrom B J)
    (hY : ∀ m pre x W, J pre W → pre.length < N → YieldAt F m Try.prog l (encC x) W fun e W' =>
      (e = .returned (.bool true) ∧ J (pre ++ [x]) W' ∧ KB n₀ mine W W') ∨ (e = .returned (.bool false) ∧ Jx (pre ++ [x]) W')) :
    ∀ (d : Nat) (hd101 : d ≤ 101) (t : Nd) (a : Option Addr) (c : Nat) (ht : Kids w0 n₀ a t.kids) (hf : Fits t c) (n : Nat) (pre : List (Come n₀ w0)) (W : World), B ≤ W.heap.size → n₀ ≤ W.heap.size → Sees n₀ w0 W → Rng n₀ mine W → J pre W → pre.length + (walkL d t).length ≤ N →
      CallsIn F n Try.prog 30 #[.agg #[.int .i64 t.kind, .string ⟨t.text.toArray⟩, .slice a t.kids.length c, .int .i64 t.pos], .int .i64 d, .func (.yield l) #[] #[]] W (Walked n₀ w0 mine J Jx pre (walkL d t) W) := by
  intro d
  induction d with
  | zero =>
    intro _ t a c ht hf n pre W hB hn hs hr hj hN
    refine callsIn_of_wp Try.func30 rfl h30 ?_ hro
    simp only [Try.ntmps30, List.size_toArray, List.length_cons, List.length_nil, Nat.reduceAdd, Nat.reduceSub, Array.replicate_succ, Array.replicate_zero, List.push_toArray, List.append_toArray, List.nil_append, List.cons_append]
    gi_wp2
    go_ret
    exact .inl ⟨rfl, ⟨[], rfl, by rw [List.append_nil]; exact hJ _ _ _ _ hj (World.grownBy_alloc W _ none) (fun r e => by cases e)⟩, KB.alloc _ (fun b hb => hmine W _ b hB hb)⟩
  | succ d ih =>
    intro hd1 t a c ht hf n pre W hB hn hs hr hj hN
    have hdd : ∀ k : Nat, (F.depth.isSome = true → 1 ≤ k) := fun k h => by rw [hd] at h; cases h
    have hal : ∀ (A : World) (o : Obj) (q : List (Come n₀ w0)), J q A → J q (A.alloc o) := fun A o q h => hJ _ _ _ _ h (World.grownBy_alloc A o none) (fun r e => by cases e)
    obtain ⟨W1, hW1⟩ : ∃ W1, W.alloc (.cells #[.int .i64 t.kind, .string ⟨t.text.toArray⟩, .slice a t.kids.length c, .int .i64 t.pos] 24) = W1 := ⟨_, rfl⟩
    obtain ⟨x, hx⟩ : ∃ x : Come n₀ w0, x = ⟨(t, a, c, d + 1), ht, hf⟩ := ⟨_, rfl⟩
    have k1 : KB n₀ mine W W1 := by rw [← hW1]; exact KB.alloc _ (fun b hb => hmine W _ b hB hb)
    have hb1 : ¬ mine W1 W.heap.size := fun h => by rw [← hW1] at h; have := (hr _ (hmine W _ _ hB h)).2; omega
    have c2 : W1.cell? ⟨W.heap.size, 2, none⟩ = some (.slice a t.kids.length c) := by rw [← hW1]; simp [go_sem]
    have hlen : pre.length < N := by simp [walkL] at hN; omega
    have hy0 : YieldAt F (n - 1) Try.prog l (encC x) W1 fun e W2 =>
        (e = .returned (.bool true) ∧ W2.cell? ⟨W.heap.size, 2, none⟩ = some (.slice a t.kids.length c) ∧ J (pre ++ [x]) W2 ∧ KB n₀ mine W W2) ∨ (e = .returned (.bool false) ∧ Jx (pre ++ [x]) W2) :=
      YieldAt.mono (hY (n - 1) pre x W1 (by rw [← hW1]; exact hal _ _ _ hj) hlen) fun e W2 h => h.elim (fun ⟨he, hj2, hk2⟩ => .inl ⟨he, hk2.cell _ _ c2 hb1, hj2, k1.trans hk2⟩) .inr
    obtain ⟨fn, tmps, assign, body, hy, hR⟩ := hy0
    have hxe : encC x = #[.agg #[.int .i64 t.kind, .string ⟨t.text.toArray⟩, .slice a t.kids.length c, .int .i64 t.pos], .int .i64 ((d : Int) + 1)] := by rw [hx]; simp [encC]
    have hxr : er x = (t, d + 1) := by rw [hx]; rfl
    rw [hxe] at hy
    rw [← hW1] at hy hR
    have HN := Lib.hid hN
    have HXR := Lib.hid hxr
    have HB := Lib.hid hB
    have HS := Lib.hid hs
    have HRG := Lib.hid hr
    have HF := Lib.hid hf
    have HK := Lib.hid ht
    have hdb : d ≤ 100 := by omega
    clear hW1 k1 hb1 c2 hlen hx hxe hxr hN hB hs hr hf ht hj hd1
    have h0 : ((d : Int) + 1 == 0) = false := by simp; omega
    refine callsIn_of_wp Try.func30 rfl h30 ?_ hro
    simp only [Try.ntmps30, List.size_toArray, List.length_cons, List.length_nil, Nat.reduceAdd, Nat.reduceSub, Array.replicate_succ, Array.replicate_zero, List.push_toArray, List.append_toArray, List.nil_append, List.cons_append]
    gi_wp2_with (first
      | ((try refine ⟨hdd _, ?_⟩); refine hR.mono ?_; clear hR; rintro e W2 (⟨rfl, c2, hj2, hk2⟩ | ⟨rfl, hx2⟩)))
    · have HC2 := Lib.hid c2
      have HJ2 := Lib.hid hj2
      have HK2 := Lib.hid hk2
      clear c2 hj2 hk2
      gi_loopw [19] (fun i wr => ∃ k : Nat, k ≤ t.kids.length ∧ i = .int .i64 k ∧ (∃ xs : List (Come n₀ w0), xs.map er = (t.kids.take k).flatMap (walkL d) ∧ J (pre ++ [x] ++ xs) wr) ∧ KB n₀ mine W wr) (fun i _ => t.kids.length - (intOf i).toNat)
      case atStart => exact ⟨0, by omega, rfl, ⟨[], rfl, by rw [List.append_nil]; exact HJ2.out⟩, HK2.out⟩
      case round =>
        obtain ⟨k, hk1, rfl, ⟨xs, hxs, hjr⟩, hkb⟩ := hrel
        have HJR := Lib.hid hjr
        have HXS := Lib.hid hxs
        have HKB := Lib.hid hkb
        clear hjr hxs hkb
        by_cases hlt : k < t.kids.length
        · obtain ⟨b, off, a', c', ha, hbn, h4, hf', hn'⟩ := HK.out.get hlt
          obtain ⟨h0', h1', h2', h3'⟩ := h4.sees (HS.out.kb HRG.out HKB.out) hbn
          have hsz := HKB.out.size
          have hlw : b < wr.heap.size := by omega
          have HF' := Lib.hid hf'
          have HN' := Lib.hid hn'
          have hcap := HF.out.2.2.2.2.2.1
          obtain ⟨hc56, hc57⟩ := HF.out.2.2.2.2.2.2
          subst ha
          clear h4 hf' hn'
          have hlen : (pre ++ [x] ++ xs).length + (walkL d t.kids[k]).length ≤ N := by
            have h1 := HN.out
            have h2 : xs.length = ((t.kids.take k).flatMap (walkL d)).length := by rw [← HXS.out, List.length_map]
            have h3 := flat_room t.kids (walkL d) k hlt
            rw [walkL, List.length_cons] at h1
            rw [List.length_append, List.length_append, List.length_singleton]
            omega
          obtain ⟨wa, hwa⟩ : ∃ wa, wr.alloc (.cells #[.int .i64 t.kids[k].kind, .string ⟨t.kids[k].text.toArray⟩, .slice a' t.kids[k].kids.length c', .int .i64 t.kids[k].pos] 24) = wa := ⟨_, rfl⟩
          have hBr : B ≤ wr.heap.size := by have := HB.out; omega
          have ka : KB n₀ mine W wa := by rw [← hwa]; exact HKB.out.trans (KB.alloc _ (fun b hb => hmine wr _ b hBr hb))
          have hsa : wr.heap.size ≤ wa.heap.size := by rw [← hwa]; simp
          have IH := ih (by omega) t.kids[k] a' c' HN'.out HF'.out (n - 1) (pre ++ [x] ++ xs) wa (by omega) (by omega) (HS.out.kb HRG.out ka) (ka.rng HRG.out) (by rw [← hwa]; exact hal _ _ _ HJR.out) hlen
          have IH' := IH.mono (R' := fun e W4 => (e = .returned (.bool true) ∧ (∃ ys : List (Come n₀ w0), ys.map er = (t.kids.take (k + 1)).flatMap (walkL d) ∧ J (pre ++ [x] ++ ys) W4) ∧ KB n₀ mine W W4) ∨ (e = .returned (.bool false) ∧ ∃ q, Jx q W4))
            (fun e W4 h => h.elim (fun ⟨he, ⟨ys, hys, hjy⟩, hk4⟩ => .inl ⟨he, ⟨xs ++ ys, by rw [List.map_append, HXS.out, hys, flat_next t.kids (walkL d) k hlt], by rw [← List.append_assoc]; exact hjy⟩, ka.trans hk4⟩) .inr)
          rw [← hwa] at IH'
          have HIH := Lib.hid IH'
          clear hlen ih IH IH' hwa ka hsa hBr
          gi_wp2_with (first
            | ((try refine ⟨hdd _, ?_⟩); gi_at_call 30; refine HIH.out.mono ?_; rintro e W4 (⟨rfl, hj4, hk4⟩ | ⟨rfl, q, hx4⟩)))
          · go_roundw
            case rel => exact ⟨k + 1, by omega, by go_num, hj4, hk4⟩
            case measure => simp [intOf]; omega
          · go_ret
            exact .inr ⟨rfl, q, hx4⟩
        · obtain rfl : k = t.kids.length := by omega
          gi_wp2
          go_ret
          refine .inl ⟨rfl, ⟨x :: xs, ?_, ?_⟩, HKB.out⟩
          · rw [List.map_cons, HXS.out, HXR.out, List.take_length]; rfl
          · have := HJR.out
            rwa [List.append_assoc, List.singleton_append] at this
    · go_ret
      exact .inr ⟨rfl, _, hx2⟩
end Go.Proofs.Ytnmebgiiajnnjaa
