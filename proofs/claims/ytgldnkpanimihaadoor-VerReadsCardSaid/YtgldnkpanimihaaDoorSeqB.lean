/-
  strings.SplitSeq at a sign: what comes.
-/
import Derived.Test.YtgldnkpanimihaaDoorSeqA
import Derived.RangeFuncBox
import Derived.Laws.NewBlocks
namespace Go.Proofs.YtgldnkpanimihaaDoor
set_option linter.unusedSimpArgs false
set_option linter.unusedVariables false
open Go.RowKit Go.Shelf
attribute [local go_sem] Oper.semAt_some

/-- A text's parts, cut at a byte. -/
def splitL (c : UInt8) : List UInt8 → List (List UInt8)
  | [] => [[]]
  | x :: t => if x = c then [] :: splitL c t else match splitL c t with
    | [] => [[x]]
    | l :: r => (x :: l) :: r
theorem splitL_cons (c x : UInt8) (t : List UInt8) : splitL c (x :: t) = if x = c then [] :: splitL c t else match splitL c t with
    | [] => [[x]]
    | l :: r => (x :: l) :: r := rfl
theorem splitL_ne (c : UInt8) : ∀ s, splitL c s ≠ []
  | [] => by simp [splitL]
  | x :: t => by
    unfold splitL
    split
    · simp
    · cases h : splitL c t <;> simp
theorem split_none {c : UInt8} : ∀ {s : List UInt8}, Lib.indexByte s c = -1 → splitL c s = [s]
  | [], _ => rfl
  | x :: t, h => by
    unfold Lib.indexByte at h
    by_cases hx : (x == c) = true
    · rw [if_pos hx] at h; omega
    · rw [if_neg hx] at h
      have hx' : ¬ x = c := by simpa using hx
      by_cases ht : (Lib.indexByte t c == -1) = true
      · rw [splitL_cons, if_neg hx', split_none (by simpa using ht)]
      · rw [if_neg ht] at h
        have := Lib.indexByte_ge t c
        have : Lib.indexByte t c ≠ -1 := by simpa using ht
        omega
theorem split_some {c : UInt8} : ∀ {s : List UInt8} {i : Nat}, Lib.indexByte s c = i → i < s.length ∧ splitL c s = s.take i :: splitL c (s.drop (i + 1))
  | [], i, h => by
    have : (-1 : Int) = i := h
    omega
  | x :: t, i, h => by
    unfold Lib.indexByte at h
    by_cases hx : (x == c) = true
    · rw [if_pos hx] at h
      obtain rfl : i = 0 := by omega
      have hx' : x = c := by simpa using hx
      rw [splitL_cons, if_pos hx']
      simp
    · rw [if_neg hx] at h
      have hx' : ¬ x = c := by simpa using hx
      by_cases ht : (Lib.indexByte t c == -1) = true
      · rw [if_pos ht] at h; omega
      · rw [if_neg ht] at h
        have h1 := Lib.indexByte_ge t c
        have h2 : Lib.indexByte t c ≠ -1 := by simpa using ht
        obtain ⟨j, rfl⟩ : ∃ j, i = j + 1 := ⟨i - 1, by omega⟩
        obtain ⟨h3, h4⟩ := split_some (c := c) (s := t) (i := j) (by omega)
        refine ⟨by simp; omega, ?_⟩
        rw [splitL_cons, if_neg hx', h4]
        simp
theorem split_len (c : UInt8) : ∀ (s : List UInt8), ∀ x ∈ splitL c s, x.length ≤ s.length
  | [], x, h => by simp [splitL] at h; simp [h]
  | y :: t, x, h => by
    have ih := split_len c t
    unfold splitL at h
    split at h
    · rcases List.mem_cons.1 h with rfl | h
      · simp
      · have := ih x h; simp; omega
    · cases hs : splitL c t with
      | nil => exact absurd hs (splitL_ne c t)
      | cons l r =>
        rw [hs] at h ih
        rcases List.mem_cons.1 h with rfl | h
        · have := ih l (by simp); simp; omega
        · have := ih x (by simp [h]); simp; omega

/-- A part that comes. -/
abbrev Part := { x : List UInt8 // x.length ≤ 100000 }
def encP (x : Part) : Array Value := #[.string ⟨x.1.toArray⟩]
def wlen (W : World) (B : Nat) : Nat := match W.cell? ⟨B, 0, none⟩ with
  | some (.string b) => b.size
  | _ => 0
theorem wlen_box {W : World} {B : Nat} {t : TypeId} {s : List UInt8} (h : Boxed W B t (.string ⟨s.toArray⟩)) : wlen W B = s.length := by
  unfold wlen
  rw [h.cell]
  simp [ByteArray.size]

set_option maxHeartbeats 1000000 in
theorem splitSeq_any (s sep : List UInt8) (w : World) :
    Calls Tryd.prog 24 #[.string ⟨s.toArray⟩, .string ⟨sep.toArray⟩] w fun e w' => e = .returned (.func (.func 41) #[] #[.pointer (some ⟨w.heap.size + 1, 0, none⟩), .pointer (some ⟨w.heap.size, 0, none⟩), .pointer (some ⟨w.heap.size + 2, 0, none⟩)]) ∧
      w' = ((w.alloc (.cells #[.string ⟨s.toArray⟩] 9)).alloc (.cells #[.string ⟨sep.toArray⟩] 9)).alloc (.cells #[.int .i64 0] 3) := by
  have h1 : Calls Tryd.prog 33 #[.string ⟨s.toArray⟩, .string ⟨sep.toArray⟩, .int .i64 0] w fun e w' => e = .returned (.func (.func 41) #[] #[.pointer (some ⟨w.heap.size + 1, 0, none⟩), .pointer (some ⟨w.heap.size, 0, none⟩), .pointer (some ⟨w.heap.size + 2, 0, none⟩)]) ∧
      w' = ((w.alloc (.cells #[.string ⟨s.toArray⟩] 9)).alloc (.cells #[.string ⟨sep.toArray⟩] 9)).alloc (.cells #[.int .i64 0] 3) := by
    go_enter Tryd.func33, Tryd.ntmps33
    go_wp2
    go_ret
    exact ⟨rfl, rfl⟩
  have H1 := Lib.hid h1
  clear h1
  go_enter Tryd.func24, Tryd.ntmps24
  go_wp2_with fail
  refine H1.out.mono ?_
  rintro e w2 ⟨rfl, h2⟩
  go_wp2
  go_ret
  exact ⟨rfl, rfl⟩

set_option maxRecDepth 100000 in
set_option maxHeartbeats 4000000 in
/-- splitSeq$1 handed whatever loop: the parts come, in order. -/
theorem split_stops (n : Nat) (own : Nat → Prop) (K : Nat) (c : UInt8) (s : List UInt8) (hs : s.length ≤ 100000) (B1 B0 B2 : Nat) (w : World)
    (b0 : Boxed w B0 9 (.string ⟨s.toArray⟩)) (b1 : Boxed w B1 9 (.string ⟨#[c]⟩)) (b2 : Boxed w B2 3 (.int .i64 0)) (o0 : ¬ own B0) (o1 : ¬ own B1) (o2 : ¬ own B2) (n1 : B1 ≠ B0) (n2 : B2 ≠ B0) :
    SeqS Fence.wide n Tryd.prog 41 #[.pointer (some ⟨B1, 0, none⟩), .pointer (some ⟨B0, 0, none⟩), .pointer (some ⟨B2, 0, none⟩)] encP (Ky own K) (fun b => b = B0) (fun _ _ => True) (fun xs => xs.map (·.1) = splitL c s) (fun pre => pre.map (·.1) <+: splitL c s) (splitL c s).length w := by
  intro l J Jx W hW hJ hJx fJ fJx hY h0
  have hdd : ∀ k : Nat, (Fence.wide.depth.isSome = true → 1 ≤ k) := fun k h => by cases h
  have c0 : Boxed W B0 9 (.string ⟨s.toArray⟩) := (hW.block _ b0.lt).trans b0
  have c1 : Boxed W B1 9 (.string ⟨#[c]⟩) := (hW.block _ b1.lt).trans b1
  have c2 : Boxed W B2 3 (.int .i64 0) := (hW.block _ b2.lt).trans b2
  have HY := Lib.hid hY
  have HJ := Lib.hid hJ
  have HFJ := Lib.hid fJ
  have C0 := Lib.hid c0
  have C1 := Lib.hid c1
  have C2 := Lib.hid c2
  have k1 := c1.cell
  have H0 := Lib.hid h0
  clear hY hJ hJx fJ fJx c0 c1 c2 b0 b1 b2 hW h0
  refine callsIn_of_wp Tryd.func41 rfl trivial ?_ rfl
  simp only [Tryd.ntmps41, List.size_toArray, List.length_cons, List.length_nil, Nat.reduceAdd, Nat.reduceSub, Array.replicate_succ, Array.replicate_zero, List.push_toArray, List.append_toArray, List.nil_append, List.cons_append]
  gi_wp2
  gi_loopw [7] (fun _ wr => ∃ (pre : List Part) (rest : List UInt8), rest.length ≤ 100000 ∧ Hid (pre.map (·.1) ++ splitL c rest = splitL c s) ∧ Hid (J pre wr) ∧ Hid (Boxed wr B0 9 (.string ⟨rest.toArray⟩)) ∧ Hid (Boxed wr B1 9 (.string ⟨#[c]⟩)) ∧ Hid (Boxed wr B2 3 (.int .i64 0)) ∧ Hid (W.heap.size ≤ wr.heap.size)) (fun _ wr => wlen wr B0)
  case atStart => exact ⟨[], s, hs, Lib.hid rfl, H0, C0, C1, C2, Lib.hid (Nat.le_refl _)⟩
  case round =>
    obtain ⟨pre, rest, hl, hsp, hj, hb0, hb1, hb2, hsz⟩ := hrel
    clear k1
    have q0 := hb0.out.cell
    have q0f := hb0.out.frozen
    have q1 := hb1.out.cell
    have q2 := hb2.out.cell
    have hlen : pre.length < (splitL c s).length := by
      have h1 := congrArg List.length hsp.out
      rw [List.length_append, List.length_map] at h1
      have h2 : (splitL c rest).length ≠ 0 := fun e => splitL_ne c rest (List.eq_nil_of_length_eq_zero e)
      omega
    have HI0 := Tryd.strings_Index_one ⟨rest.toArray⟩ c wr
    by_cases hix : Lib.indexByte rest c = -1
    · have HI := Lib.hid (show Calls Tryd.prog 43 #[.string ⟨rest.toArray⟩, .string ⟨#[c]⟩] wr fun e w' => e = .returned (.int .i64 (-1)) ∧ w' = wr by
        have h : Lib.indexByte (⟨rest.toArray⟩ : ByteArray).data.toList c = -1 := hix
        rw [h] at HI0; exact HI0)
      have HF := Lib.hid (show (pre ++ [(⟨rest, hl⟩ : Part)]).map (·.1) = splitL c s by rw [List.map_append, ← hsp.out, split_none hix]; rfl)
      obtain ⟨fn, tmps, assign, body, hy, hR⟩ := HY.out pre ⟨rest, hl⟩ wr hj.out hlen trivial
      dsimp only [encP] at hy
      clear HI0 hix hlen
      gi_wp2_with (first
        | ((try refine ⟨trivial, ?_⟩); (try refine ⟨hdd _, ?_⟩); gi_at_call 43; refine (callsIn_wide.2 HI.out).mono ?_; rintro e w' ⟨rfl, rfl⟩)
        | ((try refine ⟨hdd _, ?_⟩); refine hR.mono ?_; clear hR; rintro e W2 (⟨rfl, hj2, hk2⟩ | ⟨rfl, hx2, hk2⟩)))
      · go_end0
        exact ⟨⟨_, rfl⟩, .inl ⟨_, HF.out, hj2⟩⟩
      · go_end0
        exact ⟨⟨_, rfl⟩, .inr ⟨_, ⟨[], by rw [List.append_nil]; exact HF.out⟩, hx2⟩⟩
    · obtain ⟨i, hi⟩ : ∃ i : Nat, Lib.indexByte rest c = i := ⟨(Lib.indexByte rest c).toNat, by have := Lib.indexByte_ge rest c; omega⟩
      have HI := Lib.hid (show Calls Tryd.prog 43 #[.string ⟨rest.toArray⟩, .string ⟨#[c]⟩] wr fun e w' => e = .returned (.int .i64 i) ∧ w' = wr by
        have h : Lib.indexByte (⟨rest.toArray⟩ : ByteArray).data.toList c = i := hi
        rw [h] at HI0; exact HI0)
      obtain ⟨hir, hpl⟩ := split_some hi
      have hlt : (rest.take i).length ≤ 100000 := by simp; omega
      have hld : (rest.drop (i + 1)).length ≤ 100000 := by simp; omega
      have HF := Lib.hid (show (pre ++ [(⟨rest.take i, hlt⟩ : Part)]).map (·.1) ++ splitL c (rest.drop (i + 1)) = splitL c s by rw [List.map_append, ← hsp.out, hpl]; simp)
      have e1 : (⟨rest.toArray⟩ : ByteArray).extract 0 i = ⟨(rest.take i).toArray⟩ := by rw [ByteArray.extract_mk]; simp
      have e2 : (⟨rest.toArray⟩ : ByteArray).extract (i + 1) rest.length = ⟨(rest.drop (i + 1)).toArray⟩ := by rw [ByteArray.extract_mk, List.take_of_length_le (by simp)]
      obtain ⟨fn, tmps, assign, body, hy, hR⟩ := HY.out pre ⟨rest.take i, hlt⟩ wr hj.out hlen trivial
      dsimp only [encP] at hy
      have hR' := hR.mono (R' := fun e W2 => (e = .returned (.bool true) ∧ Boxed W2 B0 9 (.string ⟨rest.toArray⟩) ∧ W2.cell? ⟨B0, 0, none⟩ = some (.string ⟨rest.toArray⟩) ∧ W2.frozen? ⟨B0, 0, none⟩ = false ∧ W2.cell? ⟨B1, 0, none⟩ = some (.string ⟨#[c]⟩) ∧ Hid (J (pre ++ [⟨rest.take i, hlt⟩]) W2 ∧ Kx own wr W2)) ∨ (e = .returned (.bool false) ∧ Hid (Jx (pre ++ [⟨rest.take i, hlt⟩]) W2)))
        (fun e W2 h => h.elim (fun ⟨he, hj, hk⟩ => .inl ⟨he, hk.1.same _ _ o0 hb0.out rfl, hk.1.at hb0.out.cell o0, (show Boxed W2 B0 9 _ from hk.1.same _ _ o0 hb0.out rfl).frozen, hk.1.at hb1.out.cell o1, Lib.hid ⟨hj, hk.1⟩⟩) (fun ⟨he, hx, _⟩ => .inr ⟨he, Lib.hid hx⟩))
      have HO1 := Lib.hid (show ¬ own B1 from o1)
      have HO2 := Lib.hid (show ¬ own B2 from o2)
      clear HI0 hix hlen hi hpl hR
      gi_wp2_with (first
        | ((try refine ⟨trivial, ?_⟩); (try refine ⟨hdd _, ?_⟩); gi_at_call 43; refine (callsIn_wide.2 HI.out).mono ?_; rintro e w' ⟨rfl, rfl⟩)
        | ((try refine ⟨hdd _, ?_⟩); refine hR'.mono ?_; clear hR'; rintro e W2 (⟨rfl, bx2, s0, s1, s2, hjk⟩ | ⟨rfl, hx2⟩)))
      · go_roundw
        case rel =>
          have hk := hjk.out.2
          have hset := bx2.set (.string ⟨(rest.drop (i + 1)).toArray⟩)
          refine ⟨pre ++ [⟨rest.take i, hlt⟩], rest.drop (i + 1), hld, HF, Lib.hid ?_, Lib.hid hset, Lib.hid ?_, Lib.hid ?_, Lib.hid ?_⟩
          · exact HFJ.out _ _ _ _ hjk.out.1 (.inl rfl)
          · exact (Below.heap_setCell W2 ⟨B0, 0, none⟩ _ B1 n1).trans (hk.same _ _ HO1.out hb1.out rfl)
          · exact (Below.heap_setCell W2 ⟨B0, 0, none⟩ _ B2 n2).trans (hk.same _ _ HO2.out hb2.out rfl)
          · have := hk.size; have := hsz.out; simp [World.setCell]; omega
        case measure =>
          rw [wlen_box (bx2.set (.string ⟨(rest.drop (i + 1)).toArray⟩)), wlen_box hb0.out]
          simp; omega
      · refine bodyPost_ret_by (results_none rfl _ _ _) rfl ?_
        exact ⟨⟨_, rfl⟩, .inr ⟨_, ⟨_, HF.out⟩, hx2.out⟩⟩
end Go.Proofs.YtgldnkpanimihaaDoor
