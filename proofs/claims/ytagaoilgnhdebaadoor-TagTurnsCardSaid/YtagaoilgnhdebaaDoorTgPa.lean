/-
  tag: what is written is read as it was. Plain law; no program.
-/
import Derived.Test.YtagaoilgnhdebaaDoorTgB
namespace Go.Proofs.YtagaoilgnhdebaaDoor
set_option linter.unusedSimpArgs false
set_option linter.unusedVariables false
open Go.RowKit

theorem skipT_cons {c : UInt8} (s : List UInt8) (h : blankT c = true) : skipT (c :: s) = skipT s := by simp [skipT, h]
theorem skipT_not {c : UInt8} (s : List UInt8) (h : blankT c = false) : skipT (c :: s) = c :: s := by simp [skipT, h]
theorem skipT_skipT : ∀ s : List UInt8, skipT (skipT s) = skipT s
  | [] => rfl
  | c :: s => by
    cases h : blankT c with
    | true => rw [skipT_cons s h]; exact skipT_skipT s
    | false => rw [skipT_not s h, skipT_not s h]
theorem takesT_of {sign s s' : List UInt8} (h : skipT s = skipT s') : takesT sign s = takesT sign s' := by unfold takesT; rw [h]
theorem takesT_skip (sign s : List UInt8) : takesT sign (skipT s) = takesT sign s := takesT_of (skipT_skipT s)
theorem factorT_skip (n : Nat) (s : List UInt8) : factorT n (skipT s) = factorT n s := by
  cases n with
  | zero => rfl
  | succ n => simp only [factorT, takesT_skip]
theorem rowsT_skip {sign : List UInt8} {q : List UInt8 → Option (Xp × List UInt8)} (hq : ∀ s, q (skipT s) = q s) (s : List UInt8) : rowsT sign q (skipT s) = rowsT sign q s := by
  simp only [rowsT, hq]
theorem blind_cons {q : List UInt8 → Option (Xp × List UInt8)} (hq : ∀ s, q (skipT s) = q s) {c : UInt8} (h : blankT c = true) (s : List UInt8) : q (c :: s) = q s := by
  rw [← hq (c :: s), skipT_cons s h, hq]

/-- No sign of a tag stands first. -/
def StopT (t : List UInt8) : Prop := ∀ c, t.head? = some c → mayTB c = false
theorem stop_cons {c : UInt8} (t : List UInt8) (h : mayTB c = false) : StopT (c :: t) := by intro d hd; simp at hd; rw [← hd]; exact h
theorem stop_nil : StopT [] := by intro d hd; simp at hd
theorem take_stop : ∀ (s : List UInt8) {t : List UInt8}, s.all mayTB = true → StopT t → (s ++ t).takeWhile mayTB = s ∧ (s ++ t).dropWhile mayTB = t
  | [], t, _, ht => by
    cases t with
    | nil => exact ⟨rfl, rfl⟩
    | cons c t => have := ht c rfl; simp [this]
  | c :: s, t, hs, ht => by
    simp only [List.all_cons, Bool.and_eq_true] at hs
    have := take_stop s hs.2 ht
    simp [hs.1, this]
theorem may_not {c : UInt8} (h : mayTB c = true) : blankT c = false ∧ (c == 33) = false ∧ (c == 40) = false ∧ (c == 41) = false ∧ (c == 38) = false ∧ (c == 124) = false := by
  refine ⟨?_, ?_, ?_, ?_, ?_, ?_⟩
  · cases h2 : blankT c with
    | false => rfl
    | true =>
      simp only [blankT, Bool.or_eq_true, beq_iff_eq] at h2
      rcases h2 with rfl | rfl <;> exact absurd h (by decide)
  all_goals
    rw [beq_eq_false_iff_ne]
    rintro rfl
    exact absurd h (by decide)

/-- One sign of one byte is looked for. -/
theorem takes_one (a : UInt8) (c : UInt8) (s : List UInt8) (hc : blankT c = false) : takesT [a] (c :: s) = if c == a then (true, s) else (false, c :: s) := by
  unfold takesT
  rw [skipT_not s hc]
  have : Lib.hasPrefix (c :: s) [a] = (c == a) := by
    show ((a == c) && true) = _
    rw [Bool.and_true, Bool.eq_iff_iff]
    constructor <;> (intro h; rw [beq_iff_eq] at *; exact h.symm)
  rw [this]
  cases c == a <;> simp
theorem takes_hit (a : UInt8) (s : List UInt8) (ha : blankT a = false) : takesT [a] (a :: s) = (true, s) := by rw [takes_one a a s ha]; simp
theorem takes_miss (a c : UInt8) (s : List UInt8) (hc : blankT c = false) (h : (c == a) = false) : takesT [a] (c :: s) = (false, c :: s) := by rw [takes_one a c s hc, h]; simp
theorem takes_two (a b c : UInt8) (s : List UInt8) (hc : blankT c = false) (h : (c == a) = false) : takesT [a, b] (c :: s) = (false, c :: s) := by
  unfold takesT
  rw [skipT_not s hc]
  have : Lib.hasPrefix (c :: s) [a, b] = false := by
    simp [Lib.hasPrefix, List.isPrefixOf]
    intro h2; subst h2; simp at h
  rw [this]; simp
theorem takes_sign (op s : List UInt8) (hop : ∀ c, op.head? = some c → blankT c = false) (h0 : op ≠ []) : takesT op (op ++ s) = (true, s) := by
  cases op with
  | nil => exact absurd rfl h0
  | cons c op =>
    have hc := hop c rfl
    unfold takesT
    rw [List.cons_append, skipT_not _ hc]
    have : Lib.hasPrefix (c :: (op ++ s)) (c :: op) = true := by simp [Lib.hasPrefix]
    rw [this]; simp

theorem joinL_eq (sep x : List UInt8) (l : List (List UInt8)) : joinL sep (x :: l) = x ++ (l.map fun y => sep ++ y).flatten := by
  show l.foldl (fun a y => a ++ (sep ++ y)) x = _
  induction l generalizing x with
  | nil => simp
  | cons y l ih => rw [List.foldl_cons, ih]; simp

/-- The parts behind the first, each behind its sign. -/
def tailW (op : List UInt8) (W : Xp → List UInt8) (l : List Xp) : List UInt8 := (l.map fun k => ([32] ++ op ++ [32]) ++ W k).flatten
theorem tailW_cons (op : List UInt8) (W : Xp → List UInt8) (y : Xp) (l : List Xp) : tailW op W (y :: l) = 32 :: (op ++ (32 :: (W y ++ tailW op W l))) := by simp [tailW]
theorem joinW (op : List UInt8) (W : Xp → List UInt8) (x : Xp) (l : List Xp) : joinL ([32] ++ op ++ [32]) ((x :: l).map W) = W x ++ tailW op W l := by
  rw [List.map_cons, joinL_eq, List.map_map]; rfl

theorem rowT_back (op : List UInt8) (q : List UInt8 → Option (Xp × List UInt8)) (hq : ∀ s, q (skipT s) = q s) (W : Xp → List UInt8) (hop : ∀ c, op.head? = some c → blankT c = false) (h0 : op ≠ []) (SQ : List UInt8 → Prop) (t : List UInt8) (hS : SQ t) (hS2 : ∀ y l, SQ (tailW op W (y :: l) ++ t)) (ht : (takesT op t).1 = false) :
    ∀ (l : List Xp) (k : Nat) (s : List UInt8), (∀ y, y ∈ l → ∀ t', SQ t' → ∃ r, q (W y ++ t') = some (y, r) ∧ skipT r = skipT t') → l.length < k → skipT s = skipT (tailW op W l ++ t) → rowT op q k s = some (l, skipT t)
  | l, 0, _, _, h, _ => absurd h (by omega)
  | [], k + 1, s, _, _, hs => by
    have hs : skipT s = skipT t := by simpa [tailW] using hs
    have h2 : (takesT op t).2 = skipT t := by
      unfold takesT at ht ⊢
      by_cases hp : Lib.hasPrefix (skipT t) op = true
      · rw [if_pos hp] at ht; cases ht
      · rw [if_neg hp]
    rw [rowT, takesT_of hs, ht, h2]
    simp
  | y :: l, k + 1, s, hW, hk, hs => by
    have h1 : takesT op s = (true, 32 :: (W y ++ (tailW op W l ++ t))) := by
      rw [takesT_of hs, tailW_cons]
      have : 32 :: (op ++ 32 :: (W y ++ tailW op W l)) ++ t = 32 :: (op ++ 32 :: (W y ++ (tailW op W l ++ t))) := by simp
      rw [this, takesT_of (skipT_cons _ (by decide)), takes_sign op _ hop h0]
    have hS' : SQ (tailW op W l ++ t) := by
      cases l with
      | nil => simpa [tailW] using hS
      | cons z l => exact hS2 z l
    obtain ⟨r, hr, hr2⟩ := hW y (by simp) _ hS'
    rw [rowT, h1]
    simp only [if_true]
    rw [blind_cons hq (by decide), hr]
    simp only
    rw [rowT_back op q hq W hop h0 SQ t hS hS2 ht l k r (fun z hz => hW z (List.mem_cons_of_mem _ hz)) (by simpa using hk) hr2]

theorem tail_len (op : List UInt8) (W : Xp → List UInt8) (l : List Xp) (t : List UInt8) (h0 : op ≠ []) (hop : ∀ c, op.head? = some c → blankT c = false) : l.length ≤ (skipT (tailW op W l ++ t)).length := by
  have hl : ∀ l : List Xp, l.length ≤ (tailW op W l).length := by
    intro l
    induction l with
    | nil => simp
    | cons y l ih => rw [tailW_cons]; simp; omega
  cases l with
  | nil => simp
  | cons y l =>
    rw [tailW_cons, List.cons_append, skipT_cons _ (by decide)]
    cases op with
    | nil => exact absurd rfl h0
    | cons c op =>
      rw [List.cons_append, List.cons_append, skipT_not _ (hop c rfl)]
      have := hl l
      simp; omega

theorem rowsT_back (op : List UInt8) (q : List UInt8 → Option (Xp × List UInt8)) (hq : ∀ s, q (skipT s) = q s) (W : Xp → List UInt8) (hop : ∀ c, op.head? = some c → blankT c = false) (h0 : op ≠ []) (SQ : List UInt8 → Prop) (t : List UInt8) (hS : SQ t) (hS2 : ∀ y l, SQ (tailW op W (y :: l) ++ t)) (ht : (takesT op t).1 = false)
    (x : Xp) (l : List Xp) (hW : ∀ y, y ∈ x :: l → ∀ t', SQ t' → ∃ r, q (W y ++ t') = some (y, r) ∧ skipT r = skipT t') :
    rowsT op q (joinL ([32] ++ op ++ [32]) ((x :: l).map W) ++ t) = some (wrapT op x l, skipT t) := by
  have hS' : SQ (tailW op W l ++ t) := by
    cases l with
    | nil => simpa [tailW] using hS
    | cons z l => exact hS2 z l
  obtain ⟨r, hr, hr2⟩ := hW x (by simp) _ hS'
  have hlen : l.length < r.length + 1 := by
    have h1 := tail_len op W l t h0 hop
    rw [← hr2] at h1
    have h2 : (skipT r).length ≤ r.length := (List.dropWhile_sublist _).length_le
    omega
  rw [joinW, List.append_assoc, rowsT, hr]
  simp only
  rw [rowT_back op q hq W hop h0 SQ t hS hS2 ht l _ r (fun y hy => hW y (List.mem_cons_of_mem _ hy)) hlen hr2]

def FBack (d : Nat) (x : Xp) : Prop := ∀ N t, (writeX d x [38, 38]).length < N → StopT t → factorT N (writeX d x [38, 38] ++ t) = some (x, t)
def ABack (d : Nat) (x : Xp) : Prop := ∀ N t, (writeX d x [124, 124]).length < N → StopT t → (takesT [38, 38] t).1 = false → rowsT [38, 38] (factorT N) (writeX d x [124, 124] ++ t) = some (x, skipT t)
def TBack (d : Nat) (x : Xp) : Prop := ∀ N t, (writeX d x []).length < N → StopT t → (takesT [38, 38] t).1 = false → (takesT [124, 124] t).1 = false → termsOf (factorT N) (writeX d x [] ++ t) = some (x, skipT t)

theorem takes_false_snd {op t : List UInt8} (ht : (takesT op t).1 = false) : (takesT op t).2 = skipT t := by
  unfold takesT at ht ⊢
  by_cases hp : Lib.hasPrefix (skipT t) op = true
  · rw [if_pos hp] at ht; cases ht
  · rw [if_neg hp]
/-- A row of one part alone. -/
theorem rowsT_one {op : List UInt8} {q : List UInt8 → Option (Xp × List UInt8)} {s r t : List UInt8} {x : Xp} (hq : q s = some (x, r)) (hr : skipT r = skipT t) (ht : (takesT op t).1 = false) : rowsT op q s = some (x, skipT t) := by
  rw [rowsT, hq]
  simp only
  rw [rowT, takesT_of hr, ht, takes_false_snd ht]
  simp [wrapT]

theorem write_not (d : Nat) (x : Xp) : writeX d x [33] = writeX d x [38, 38] := by
  cases d with
  | zero => rfl
  | succ d => rw [writeX, writeX]; simp [signed]
theorem mem_join_len {W : Xp → List UInt8} {sep : List UInt8} {l : List Xp} {y : Xp} (hy : y ∈ l) : (W y).length ≤ (joinL sep (l.map W)).length := by
  cases l with
  | nil => cases hy
  | cons x l =>
    rw [List.map_cons, joinL_eq]
    rcases List.mem_cons.1 hy with rfl | h
    · simp
    · have : (W y).length ≤ ((List.map (fun y => sep ++ y) (List.map W l)).flatten).length := by
        induction l with
        | nil => cases h
        | cons z l ih =>
          rcases List.mem_cons.1 h with rfl | h
          · simp; omega
          · have := ih (List.mem_cons_of_mem _ h) h
            simp at this ⊢; omega
      simp at this ⊢; omega

/-- What stands in brackets. -/
theorem factor_in {N : Nat} {s t : List UInt8} {x : Xp} {r : List UInt8} (h : termsOf (factorT N) (s ++ (41 :: t)) = some (x, r)) (hr : skipT r = 41 :: t) : factorT (N + 1) ([40] ++ s ++ [41] ++ t) = some (x, t) := by
  have e : [40] ++ s ++ [41] ++ t = 40 :: (s ++ (41 :: t)) := by simp
  rw [e, factorT, takes_miss 33 40 _ (by decide) (by decide)]
  simp only [Bool.false_eq_true, if_false]
  rw [takes_hit 40 _ (by decide)]
  simp only [if_true]
  rw [h]
  simp only
  have h4 : takesT [41] r = (true, t) := by
    rw [takesT_of (show skipT r = skipT (41 :: t) by rw [hr, skipT_not _ (by decide)]), takes_hit 41 _ (by decide)]
  rw [h4]; simp

theorem rightX_mk (n : Nat) (op tag : List UInt8) (kids : List Xp) : rightX (n + 1) (.mk op tag kids) = if op = [] then tagB tag && kids.isEmpty
    else if op = [33] then decide (kids.length = 1) && (tag.isEmpty && kids.all (rightX n))
    else if op = [38, 38] ∨ op = [124, 124] then decide (2 ≤ kids.length) && (tag.isEmpty && kids.all (rightX n))
    else false := by rw [rightX]; rfl
theorem writeX_mk (n : Nat) (op tag : List UInt8) (kids : List Xp) (within : List UInt8) : writeX (n + 1) (.mk op tag kids) within = if op = [33] then [33] ++ writeX n (kids.headD default) [33]
    else if op = [38, 38] ∨ op = [124, 124] then signed op within (joinL ([32] ++ op ++ [32]) (kids.map fun k => writeX n k op))
    else tag := by rw [writeX]; rfl
set_option maxHeartbeats 1000000 in
theorem write_back : ∀ (d : Nat) (x : Xp), rightX d x = true → FBack d x ∧ ABack d x ∧ TBack d x
  | 0, x, h => by cases h
  | d + 1, .mk op tag kids, h => by
    have close {t : List UInt8} : StopT (41 :: t) ∧ (takesT [38, 38] (41 :: t)).1 = false ∧ (takesT [124, 124] (41 :: t)).1 = false :=
      ⟨stop_cons t (by decide), by rw [takes_two _ _ _ _ (by decide) (by decide)], by rw [takes_two _ _ _ _ (by decide) (by decide)]⟩
    have skipc {t : List UInt8} : skipT (skipT (41 :: t)) = 41 :: t := by rw [skipT_skipT, skipT_not _ (by decide)]
    rw [rightX_mk] at h
    by_cases h1 : op = []
    · subst h1
      simp only [if_true, Bool.and_eq_true, List.isEmpty_iff] at h
      obtain ⟨htag, rfl⟩ := h
      simp only [tagB, Bool.and_eq_true] at htag
      obtain ⟨hall, hne⟩ := htag
      have hw : ∀ w, writeX (d + 1) (.mk [] tag []) w = tag := fun w => by rw [writeX_mk]; simp
      have hF : FBack (d + 1) (.mk [] tag []) := by
        intro N t hN ht
        rw [hw] at hN ⊢
        cases N with
        | zero => omega
        | succ N =>
          cases tag with
          | nil => simp at hne
          | cons c s =>
            have hc : mayTB c = true := by simp at hall; exact hall.1
            obtain ⟨hb, h33, h40, h41, h38, h124⟩ := may_not hc
            obtain ⟨ha, hb2⟩ := take_stop (c :: s) hall ht
            have e1 : takesT [33] (c :: s ++ t) = (false, c :: s ++ t) := by rw [List.cons_append, takes_miss _ _ _ hb h33]
            have e2 : takesT [40] (c :: s ++ t) = (false, c :: s ++ t) := by rw [List.cons_append, takes_miss _ _ _ hb h40]
            rw [factorT, e1]
            simp only [Bool.false_eq_true, if_false]
            rw [e2]
            simp only [Bool.false_eq_true, if_false]
            rw [ha, hb2]; simp
      refine ⟨hF, ?_, ?_⟩
      · intro N t hN ht h38
        rw [hw] at hN ⊢
        have := hF N t (by rw [hw]; exact hN) ht
        rw [hw] at this
        exact rowsT_one this rfl h38
      · intro N t hN ht h38 h124
        rw [hw] at hN ⊢
        have := hF N t (by rw [hw]; exact hN) ht
        rw [hw] at this
        exact rowsT_one (rowsT_one this rfl h38) (skipT_skipT t) h124
    · rw [if_neg h1] at h
      by_cases h2 : op = [33]
      · subst h2
        simp only [if_true, Bool.and_eq_true, decide_eq_true_eq, List.isEmpty_iff, List.all_eq_true] at h
        obtain ⟨hl, rfl, hk⟩ := h
        match kids, hl with
        | [k], _ =>
          have hkF := (write_back d k (hk k (by simp))).1
          have hw : ∀ w, writeX (d + 1) (.mk [33] [] [k]) w = 33 :: writeX d k [38, 38] := fun w => by rw [writeX_mk]; simp [write_not]
          have hF : FBack (d + 1) (.mk [33] [] [k]) := by
            intro N t hN ht
            rw [hw] at hN ⊢
            cases N with
            | zero => omega
            | succ N =>
              have h3 := hkF N t (by simpa using hN) ht
              rw [List.cons_append, factorT, takes_hit 33 _ (by decide)]
              simp only [if_true]
              rw [h3]
          refine ⟨hF, ?_, ?_⟩
          · intro N t hN ht h38
            rw [hw] at hN ⊢
            have := hF N t (by rw [hw]; exact hN) ht
            rw [hw] at this
            exact rowsT_one this rfl h38
          · intro N t hN ht h38 h124
            rw [hw] at hN ⊢
            have := hF N t (by rw [hw]; exact hN) ht
            rw [hw] at this
            exact rowsT_one (rowsT_one this rfl h38) (skipT_skipT t) h124
      · rw [if_neg h2] at h
        by_cases h3 : op = [38, 38]
        · subst h3
          simp only [true_or, if_true, Bool.and_eq_true, decide_eq_true_eq, List.isEmpty_iff, List.all_eq_true] at h
          obtain ⟨hl, rfl, hk⟩ := h
          match kids, hl with
          | x :: y :: l, _ =>
            obtain ⟨J, hJ⟩ : ∃ J, joinL ([32] ++ [38, 38] ++ [32]) ((x :: y :: l).map fun k => writeX d k [38, 38]) = J := ⟨_, rfl⟩
            have hlen : ∀ k, k ∈ x :: y :: l → (writeX d k [38, 38]).length ≤ J.length := fun k hk => by rw [← hJ]; exact mem_join_len (W := fun k => writeX d k [38, 38]) hk
            have hw0 : ∀ w, w = [] ∨ w = [124, 124] → writeX (d + 1) (.mk [38, 38] [] (x :: y :: l)) w = J := fun w hw => by
              rw [writeX_mk]
              rw [if_neg (by decide), if_pos (.inl rfl), hJ, signed, if_neg]
              rcases hw with rfl | rfl <;> decide
            have hw1 : writeX (d + 1) (.mk [38, 38] [] (x :: y :: l)) [38, 38] = [40] ++ J ++ [41] := by
              rw [writeX_mk]
              rw [if_neg (by decide), if_pos (.inl rfl), hJ, signed, if_pos (by decide)]
            have hrow : ∀ N t, J.length < N → StopT t → (takesT [38, 38] t).1 = false → rowsT [38, 38] (factorT N) (J ++ t) = some (.mk [38, 38] [] (x :: y :: l), skipT t) := by
              intro N t hN ht h38
              have := rowsT_back [38, 38] (factorT N) (factorT_skip N) (fun k => writeX d k [38, 38]) (by intro c hc; simp at hc; subst hc; decide) (by decide) StopT t ht (fun y l => by rw [tailW_cons]; exact stop_cons _ (by decide)) h38 x (y :: l)
                (fun k hkm t' ht' => ⟨t', (write_back d k (hk k hkm)).1 N t' (by have := hlen k hkm; omega) ht', rfl⟩)
              rw [hJ] at this
              rw [this]; simp [wrapT]
            have hA : ABack (d + 1) (.mk [38, 38] [] (x :: y :: l)) := by
              intro N t hN ht h38
              rw [hw0 _ (.inr rfl)] at hN ⊢
              exact hrow N t hN ht h38
            have hT : TBack (d + 1) (.mk [38, 38] [] (x :: y :: l)) := by
              intro N t hN ht h38 h124
              rw [hw0 _ (.inl rfl)] at hN ⊢
              exact rowsT_one (hrow N t hN ht h38) (skipT_skipT t) h124
            refine ⟨?_, hA, hT⟩
            intro N t hN ht
            rw [hw1] at hN ⊢
            cases N with
            | zero => omega
            | succ N =>
              have h5 := hT N (41 :: t) (by rw [hw0 _ (.inl rfl)]; simp at hN; omega) close.1 close.2.1 close.2.2
              rw [hw0 _ (.inl rfl)] at h5
              exact factor_in h5 skipc
        · by_cases h4 : op = [124, 124]
          · subst h4
            simp only [or_true, if_true, Bool.and_eq_true, decide_eq_true_eq, List.isEmpty_iff, List.all_eq_true] at h
            obtain ⟨hl, rfl, hk⟩ := h
            match kids, hl with
            | x :: y :: l, _ =>
              obtain ⟨J, hJ⟩ : ∃ J, joinL ([32] ++ [124, 124] ++ [32]) ((x :: y :: l).map fun k => writeX d k [124, 124]) = J := ⟨_, rfl⟩
              have hlen : ∀ k, k ∈ x :: y :: l → (writeX d k [124, 124]).length ≤ J.length := fun k hk => by rw [← hJ]; exact mem_join_len (W := fun k => writeX d k [124, 124]) hk
              have hw0 : writeX (d + 1) (.mk [124, 124] [] (x :: y :: l)) [] = J := by
                rw [writeX_mk]
                rw [if_neg (by decide), if_pos (.inr rfl), hJ, signed, if_neg (by decide)]
              have hw1 : ∀ w, w = [38, 38] ∨ w = [124, 124] → writeX (d + 1) (.mk [124, 124] [] (x :: y :: l)) w = [40] ++ J ++ [41] := fun w hw => by
                rw [writeX_mk]
                rw [if_neg (by decide), if_pos (.inr rfl), hJ, signed, if_pos]
                rcases hw with rfl | rfl <;> decide
              have hT : TBack (d + 1) (.mk [124, 124] [] (x :: y :: l)) := by
                intro N t hN ht h38 h124
                rw [hw0] at hN ⊢
                have := rowsT_back [124, 124] (rowsT [38, 38] (factorT N)) (rowsT_skip (factorT_skip N)) (fun k => writeX d k [124, 124]) (by intro c hc; simp at hc; subst hc; decide) (by decide) (fun t => StopT t ∧ (takesT [38, 38] t).1 = false) t ⟨ht, h38⟩
                  (fun y l => by
                    rw [tailW_cons]
                    refine ⟨stop_cons _ (by decide), ?_⟩
                    rw [List.cons_append, takesT_of (skipT_cons _ (by decide)), List.append_assoc, List.cons_append, takes_two _ _ _ _ (by decide) (by decide)]) h124 x (y :: l)
                  (fun k hkm t' ht' => ⟨skipT t', (write_back d k (hk k hkm)).2.1 N t' (by have := hlen k hkm; omega) ht'.1 ht'.2, skipT_skipT t'⟩)
                rw [hJ] at this
                rw [termsOf, this]; simp [wrapT]
              have hF : FBack (d + 1) (.mk [124, 124] [] (x :: y :: l)) := by
                intro N t hN ht
                rw [hw1 _ (.inl rfl)] at hN ⊢
                cases N with
                | zero => omega
                | succ N =>
                  have h5 := hT N (41 :: t) (by rw [hw0]; simp at hN; omega) close.1 close.2.1 close.2.2
                  rw [hw0] at h5
                  exact factor_in h5 skipc
              refine ⟨hF, ?_, hT⟩
              intro N t hN ht h38
              have h6 := hF N t (by rw [hw1 _ (.inl rfl)]; rw [hw1 _ (.inr rfl)] at hN; exact hN) ht
              rw [hw1 _ (.inl rfl)] at h6
              rw [hw1 _ (.inr rfl)] at hN ⊢
              exact rowsT_one h6 rfl h38
          · rw [if_neg (by rintro (h | h); exact h3 h; exact h4 h)] at h
            cases h

/-- What is written is read as it was. -/
theorem read_back {x : Xp} (h : rightX 100 x = true) (hl : (writeX 100 x []).length ≤ 500) : readT (writeX 100 x []) = (x, 0) := by
  have h1 := (write_back 100 x h).2.2 ((writeX 100 x []).length + 1) [] (by omega) stop_nil (by decide) (by decide)
  rw [List.append_nil] at h1
  rw [readT, if_neg (by omega), termsT, h1]
  simp [skipT, h]
end Go.Proofs.YtagaoilgnhdebaaDoor
