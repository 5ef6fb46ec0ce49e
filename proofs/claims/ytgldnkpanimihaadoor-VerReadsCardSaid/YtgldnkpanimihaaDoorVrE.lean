/-
  ver.lines$1: the lines that are not empty, as words.
-/
import Derived.Test.YtgldnkpanimihaaDoorVrD
namespace Go.Proofs.YtgldnkpanimihaaDoor
set_option linter.unusedSimpArgs false
set_option linter.unusedVariables false
open Go.RowKit Go.Shelf
attribute [local go_sem] Oper.semAt_some

/-! What the library's variables hold is kept. -/
theorem var_kx {own : Nat → Prop} {w A B : World} {name : String} {cs : Array Value} (h : w.var? Tryd.prog name = some cs) (hb : Below w.heap.size w A) (hk : Kx own A B) (ho : ∀ b, own b → w.heap.size ≤ b) : B.var? Tryd.prog name = some cs := by
  have hA := var_on h hb
  unfold World.var? at h hA ⊢
  cases hg : Tryd.prog.globalNamed name with
  | none => rw [hg] at h; cases h
  | some g =>
    rw [hg] at h hA
    simp only [Option.bind_some] at h hA ⊢
    have hlt : g < w.heap.size := by
      rcases Nat.lt_or_ge g w.heap.size with hl | hl
      · exact hl
      · rw [Array.getElem?_eq_none hl] at h; cases h
    cases hx : A.heap[g]? with
    | none => rw [hx] at hA; cases hA
    | some o =>
      rw [hx] at hA
      cases o with
      | cells c t f => rw [hk.same g _ (fun e => by have := ho g e; omega) hx rfl]; exact hA
      | _ => simp at hA
theorem Env.kx {own : Nat → Prop} {w A B : World} (h : Env w) (hb : Below w.heap.size w A) (hk : Kx own A B) (ho : ∀ b, own b → w.heap.size ≤ b) : Env B := by
  refine ⟨?_, var_kx h.tab hb hk ho, ?_, ?_⟩
  · obtain ⟨m, hm⟩ := h.glob
    have hlt := cell_lt0 hm
    exact ⟨m, hk.at ((hb.cell hlt).trans hm) (fun e => by have := ho _ e; omega)⟩
  · obtain ⟨tp, p, hv⟩ := h.rng
    exact ⟨tp, p, var_kx hv hb hk ho⟩
  · obtain ⟨tp, p, hv⟩ := h.syn
    exact ⟨tp, p, var_kx hv hb hk ho⟩

/-! Bytes of an argument. -/
def BAt (w : World) (a : Option Addr) (l : List UInt8) : Prop :=
  l = [] ∨ ∃ b off, a = some ⟨b, off, none⟩ ∧ b < w.heap.size ∧ ∀ i (h : i < l.length), w.cell? ⟨b, off + i, none⟩ = some (.int .u8 l[i].toNat)
theorem BAt.on {w w' : World} {a : Option Addr} {l : List UInt8} (h : BAt w a l) (hb : Below w.heap.size w w') : BAt w' a l := by
  rcases h with h | ⟨b, off, h1, h2, h3⟩
  · exact .inl h
  · exact .inr ⟨b, off, h1, Nat.lt_of_lt_of_le h2 hb.size, fun i hi => (hb.cell (p := ⟨b, off + i, none⟩) h2).trans (h3 i hi)⟩
theorem conv_zero (w : World) (a : Option Addr) (c : Nat) : (convert 22 9 (.slice a 0 c)).run Tryd.prog w = .ok (.string ⟨#[]⟩) w := by
  rw [run_convert_bytes_string w 22 9 5 _ 0 c Tryd.underlying22 Tryd.underlying5 Tryd.underlying9]
  cases a <;> simp [Conv.bytesToString, loadCells]
  all_goals rfl
theorem nums_back (l : List UInt8) : strOfNums (l.map fun c => (c.toNat : Int)) = ⟨l.toArray⟩ := by
  unfold strOfNums
  congr 2
  rw [List.map_map]
  refine Eq.trans (List.map_congr_left (g := fun x => x) (fun x _ => ?_)) (by simp)
  simp
theorem BAt.conv {w : World} {a : Option Addr} {l : List UInt8} (h : BAt w a l) (c : Nat) : (convert 22 9 (.slice a l.length c)).run Tryd.prog w = .ok (.string ⟨l.toArray⟩) w := by
  rcases h with rfl | ⟨b, off, rfl, -, h3⟩
  · exact conv_zero w a c
  · have := run_convert_bytes_arg (P := Tryd.prog) w 22 5 Tryd.underlying22 Tryd.underlying5 b off l.length c (l.map fun c => (c.toNat : Int)) (by simp) (fun i hi => by
      rw [h3 i hi]; simp [List.getD, hi]) 9 Tryd.underlying9
    rw [nums_back] at this
    exact this

/-- A line that comes: its words, where they lie. -/
abbrev Ln := { x : List (List UInt8) × Nat // ∀ y ∈ x.1, y.length ≤ 100000 }
def encL (x : Ln) : Array Value := #[.slice (some ⟨x.1.2, 0, none⟩) x.1.1.length x.1.1.length]
def AtL (x : Ln) (W : World) : Prop := Texts W x.1.2 x.1.1
def linesOf (ps : List (List UInt8)) : List (List (List UInt8)) := (ps.map wordsG).filter fun l => !l.isEmpty
theorem linesOf_snoc (ps : List (List UInt8)) (x : List UInt8) : linesOf (ps ++ [x]) = linesOf ps ++ (if (wordsG x).isEmpty then [] else [wordsG x]) := by
  unfold linesOf
  rw [List.map_append, List.filter_append]
  congr 1
  cases h : (wordsG x).isEmpty <;> simp [h]
theorem RoundIn.within {F : Fence} {n : Nat} {P : Program} {l : Nat} {f : FuncId} {tmps : Array Value} {assign body : Code} {w : World} {R : Ending → World → Prop} (l' : Nat) (h : RoundIn F n P l f tmps assign body w R) : RoundIn (F.inRound l') n P l f tmps assign body w R := h
theorem yield_depth {F : Fence} (hd : F.depth = none) {m : Nat} (m' : Nat) {P : Program} {l : Nat} {args : Array Value} {W : World} {R : Ending → World → Prop} (h : YieldAt F m P l args W R) : YieldAt F m' P l args W R := by
  obtain ⟨fn, tmps, assign, body, hy, hR⟩ := h
  exact ⟨fn, tmps, assign, body, hy, hR.1, fun c cs _ => hR.2 c cs (fun d h => by rw [hd] at h; cases h)⟩
/-- Words are no longer than their line. -/
theorem words_len (line : List UInt8) (h : line.length ≤ 100000) : ∀ y ∈ wordsG line, y.length ≤ 100000 := by
  intro y hy
  unfold wordsG at hy
  obtain ⟨z, hz, rfl⟩ := List.mem_map.1 hy
  unfold Lib.goFieldsP at hz
  obtain ⟨p, _, rfl⟩ := List.mem_map.1 hz
  have h1 := (cut_len line [47, 47]).1
  have h2 : (((⟨(Lib.cut line [47, 47]).1.toArray⟩ : ByteArray).extract p.1 p.2).data.toList).length ≤ (Lib.cut line [47, 47]).1.length := by
    rw [ByteArray.extract_mk]; simp; omega
  omega

set_option maxRecDepth 100000 in
set_option maxHeartbeats 4000000 in
/-- lines$1 handed whatever loop: the lines come, in order. -/
theorem lines1_stops (n : Nat) (hn : 1 ≤ n) (own : Nat → Prop) (b : List UInt8) (hl : b.length ≤ 100000) (Bb : Nat) (a : Option Addr) (c : Nat) (w0 w : World) (hE : Env w0) (hb0 : Below w0.heap.size w0 w) (ho : ∀ k, own k → w0.heap.size ≤ k ∧ k < w.heap.size)
    (xb : Boxed w Bb 22 (.slice a b.length c)) (hba : BAt w a b) :
    SeqS Fence.wide n Tryd.prog 31 #[.pointer (some ⟨Bb, 0, none⟩)] encL (Ky own (w.heap.size + 2)) (fun _ => False) AtL (fun xs => xs.map (·.1.1) = linesOf (splitL 10 b)) (fun pre => pre.map (·.1.1) <+: linesOf (splitL 10 b)) (splitL 10 b).length w := by
  intro l J Jx W hW hJ hJx fJ fJx hY h0
  have hdd : ∀ k : Nat, (Fence.wide.depth.isSome = true → 1 ≤ k) := fun k h => by cases h
  have q1 : (W.alloc (.cells #[.func (.yield l) #[] #[]] 64)).cell? ⟨Bb, 0, none⟩ = some (.slice a b.length c) := Boxed.cell (Boxed.alloc ((hW.block _ xb.lt).trans xb) _)
  have HBW := Lib.hid (hb0.trans (hW.mono hb0.size))
  have HW := Lib.hid hW
  have hcv := BAt.conv ((hba.on hW).on (below_alloc W (.cells #[.func (.yield l) #[] #[]] 64))) c
  have HE := Lib.hid hE
  have HO := Lib.hid ho
  have HY := Lib.hid hY
  have HJ := Lib.hid hJ
  have HJX := Lib.hid hJx
  have FJ := Lib.hid fJ
  have FJX := Lib.hid fJx
  have H0 := Lib.hid h0
  clear hY hJ hJx fJ fJx xb hba hW hb0 hE ho h0
  refine callsIn_of_wp_marks Tryd.func31 rfl trivial ?_ rfl
  simp only [Tryd.ntmps31, List.size_toArray, List.length_cons, List.length_nil, Nat.reduceAdd, Nat.reduceSub, Array.replicate_succ, Array.replicate_zero, List.push_toArray, List.append_toArray, List.nil_append, List.cons_append]
  gi_wp2_with (refine ⟨trivial, ?_⟩; gi_at_call 24; refine (callsIn_wide.2 (splitSeq_any b [10] _)).mono ?_; rintro e w' ⟨rfl, rfl⟩)
  obtain ⟨W4, hW4⟩ : ∃ W4, ((((W.alloc (.cells #[.func (.yield l) #[] #[]] 64)).alloc (.cells #[.string ⟨b.toArray⟩] 9)).alloc (.cells #[.string ⟨#[10]⟩] 9)).alloc (.cells #[.int .i64 0] 3)) = W4 := ⟨_, rfl⟩
  rw [hW4]
  have hsz : W4.heap.size = W.heap.size + 4 := by rw [← hW4]; simp
  have hb4 : Below W.heap.size W W4 := by rw [← hW4]; exact (((((Below.refl _ W).alloc (Nat.le_refl _) _).alloc (by simp) _).alloc (by simp; omega) _).alloc (by simp; omega) _)
  have x0 : Boxed W4 W.heap.size 64 (.func (.yield l) #[] #[]) := by rw [← hW4]; exact (((Boxed.new W _ _).alloc _).alloc _).alloc _
  have x2 : Boxed W4 (W.heap.size + 1) 9 (.string ⟨b.toArray⟩) := by
    rw [← hW4]; have := Boxed.new (W.alloc (.cells #[.func (.yield l) #[] #[]] 64)) 9 (.string ⟨b.toArray⟩); rw [World.size_alloc] at this; exact (this.alloc _).alloc _
  have x3 : Boxed W4 (W.heap.size + 1 + 1) 9 (.string ⟨#[10]⟩) := by
    rw [← hW4]; have := Boxed.new ((W.alloc (.cells #[.func (.yield l) #[] #[]] 64)).alloc (.cells #[.string ⟨b.toArray⟩] 9)) 9 (.string ⟨#[10]⟩); rw [World.size_alloc, World.size_alloc] at this; exact this.alloc _
  have x4 : Boxed W4 (W.heap.size + 1 + 2) 3 (.int .i64 0) := by
    rw [← hW4]; have := Boxed.new (((W.alloc (.cells #[.func (.yield l) #[] #[]] 64)).alloc (.cells #[.string ⟨b.toArray⟩] 9)).alloc (.cells #[.string ⟨#[10]⟩] 9)) 3 (.int .i64 0); rw [World.size_alloc, World.size_alloc, World.size_alloc] at this; exact this
  have hwW := HW.out.size
  have hJ4 : J [] W4 := by rw [← hW4]; exact HJ.out.alloc _ (HJ.out.alloc _ (HJ.out.alloc _ (HJ.out.alloc _ H0.out)))
  have hno : ∀ k, W.heap.size ≤ k → ¬ own k := fun k hk h => by have := (HO.out k h).2; omega
  clear hW4 q1 hcv
  refine wpIn_rangeFunc_free rfl hn (gf := 41) (lb := #[.pointer (some ⟨W.heap.size + 1 + 1, 0, none⟩), .pointer (some ⟨W.heap.size + 1, 0, none⟩), .pointer (some ⟨W.heap.size + 1 + 2, 0, none⟩)]) rfl trivial (enters_of Tryd.func41 (by kernel_rfl) rfl)
    (split_stops (n - 1) own (W4.heap.size + 2) 10 b hl _ _ _ W4 x2 x3 x4 (hno _ (by omega)) (hno _ (by omega)) (hno _ (by omega)) (by omega) (by omega))
    (fun _ _ _ _ _ _ _ _ => trivial) Ky.trans (fun A o o' h hc => Ky.put (by omega) h hc) (Below.refl _ _) (fun k hk => by subst hk; omega) (fun _ => rfl)
    (fun pre A => (∃ pre' : List Ln, J pre' A ∧ Hid (pre'.map (·.1.1) = linesOf (pre.map (·.1)) ∧ pre'.length ≤ pre.length)) ∧ Boxed A W.heap.size 64 (.func (.yield l) #[] #[]) ∧ Kx own W A)
    (fun c pre A => c = .ret ∧ ∃ pre' : List Ln, Jx pre' A ∧ Hid (pre'.map (·.1.1) = linesOf (pre.map (·.1))))
    (fun s A B row ⟨⟨p', hj, hp⟩, hx, hk⟩ hg hr => ⟨⟨p', HJ.out _ A B row hj hg (fun r e => ⟨by have := (hr r e).1; omega, (hr r e).2⟩), hp⟩, boxed_keep hx hg (fun r e => (hr r e).2), hk.grown hg (fun r e => (hr r e).2)⟩)
    (fun c s A B row ⟨hc, p', hj, hp⟩ hg hr => ⟨hc, p', HJX.out _ A B row hj hg (fun r e => ⟨by have := (hr r e).1; omega, (hr r e).2⟩), hp⟩)
    (fun s A p v ⟨⟨p', hj, hp⟩, hx, hk⟩ hq => ⟨⟨p', FJ.out _ _ _ v hj (.inr (by omega)), hp⟩, boxed_set hx v (by omega), hk.fresh v (by omega)⟩)
    (fun c s A p v ⟨hc, p', hj, hp⟩ hq => ⟨hc, p', FJX.out _ _ _ v hj (.inr (by omega)), hp⟩)
    ⟨⟨[], hJ4, Lib.hid ⟨rfl, Nat.le_refl _⟩⟩, x0, Kx.below hb4⟩
    (fun x => { tmps := #[.func (.yield l) #[] #[], .pointer (some ⟨Bb, 0, none⟩), .pointer (some ⟨W.heap.size, 0, none⟩), .string ⟨x.1.toArray⟩, undef, .slice a b.length c, .string ⟨b.toArray⟩,
      .func (.func 41) #[] #[.pointer (some ⟨W.heap.size + 1 + 1, 0, none⟩), .pointer (some ⟨W.heap.size + 1, 0, none⟩), .pointer (some ⟨W.heap.size + 1 + 2, 0, none⟩)], .string ⟨x.1.toArray⟩, undef, undef, undef, undef, undef, undef, undef, undef, undef, undef, undef], defers := [] }) ?assign ?body ?done ?stop
  case assign =>
    intro l x W K hK
    gi_wp2
    simpa [encP] using hK
  case body =>
    rintro l' pre x A ⟨⟨pre', hj, hp⟩, hx, hk⟩ hlen -
    have hEA : Env A := HE.out.kx HBW.out hk (fun k h => (HO.out k h).1)
    have HWD := Lib.hid (words_any x.1 A hEA x.2)
    have HX := Lib.hid hx
    have HK := Lib.hid hk
    have HJ2 := Lib.hid hj
    have HNO := Lib.hid hno
    have HAS := Lib.hid (show W.heap.size ≤ A.heap.size from hk.size)
    have HSZ := Lib.hid hsz
    clear hEA hx hk hj hno x0 x2 x3 x4 hb4 hJ4 hsz hwW
    by_cases hw0 : (wordsG x.1) = []
    · rw [hw0] at HWD
      have HL := Lib.hid (show linesOf ((pre ++ [x]).map (·.1)) = linesOf (pre.map (·.1)) by rw [List.map_append, List.map_singleton, linesOf_snoc, hw0]; simp)
      clear hw0 hlen
      gi_wp2_with (refine ⟨trivial, ?_⟩; (try refine ⟨hdd _, ?_⟩); gi_at_call 32; refine (CallsIn.inRound l' (callsIn_wide.2 HWD.out)).mono ?_; rintro e A2 ⟨AA, rfl, h2⟩)
      refine ⟨fun _ h => (by cases h), ?_⟩
      gi_wp2
      have hb2 := h2.out.2.1
      exact ⟨(KeepsOthers.of_below hb2).from _, Ky.below hb2, ⟨pre', HJ.out _ A A2 none HJ2.out (grown_of_below hb2) (fun r e => by cases e), Lib.hid ⟨by rw [hp.out.1, HL.out], by have := hp.out.2; simp; omega⟩⟩, (hb2.block _ HX.out.lt).trans HX.out, HK.out.trans (Kx.below hb2)⟩
    · have hne : 0 < (wordsG x.1).length := Nat.pos_of_ne_zero fun e => hw0 (List.eq_nil_of_length_eq_zero e)
      have hemp : (wordsG x.1).isEmpty = false := by cases h : wordsG x.1 with | nil => exact absurd h hw0 | cons _ _ => rfl
      have HL := Lib.hid (show linesOf ((pre ++ [x]).map (·.1)) = linesOf (pre.map (·.1)) ++ [wordsG x.1] by rw [List.map_append, List.map_singleton, linesOf_snoc, hemp]; rfl)
      have HLEN := Lib.hid (show pre'.length < (splitL 10 b).length by have := hp.out.2; omega)
      have HWL := Lib.hid (words_len x.1 x.2)
      clear hw0 hlen hemp
      have HWD2 := Lib.hid (HWD.out.mono (R' := fun e A2 => ∃ AA, e = .returned (.slice (some ⟨AA, 0, none⟩) (wordsG x.1).length (wordsG x.1).length) ∧ A2.cell? ⟨W.heap.size, 0, none⟩ = some (.func (.yield l) #[] #[]) ∧
          Hid (Below A.heap.size A A2) ∧ ∃ fn tmps assign body, (Instr.yield l #[.slice (some ⟨AA, 0, none⟩) (wordsG x.1).length (wordsG x.1).length]).run Tryd.prog A2 = .ok (.round l fn tmps assign body) A2 ∧
          RoundIn (Fence.wide.inRound l') (n - 1 - 1 - 1) Tryd.prog l fn tmps assign body A2 fun e W' =>
            (e = .returned (.bool true) ∧ Hid (J (pre' ++ [⟨(wordsG x.1, AA), HWL.out⟩]) W' ∧ Ky own (w.heap.size + 2) A2 W')) ∨ (e = .returned (.bool false) ∧ Hid (Jx (pre' ++ [⟨(wordsG x.1, AA), HWL.out⟩]) W' ∧ Ky own (w.heap.size + 2) A2 W')))
        (fun e A2 ⟨AA, he, h2⟩ => by
          have hj2 : J pre' A2 := HJ.out _ A A2 none HJ2.out (grown_of_below h2.out.2.1) (fun r e => by cases e)
          obtain ⟨fn, tmps, assign, body, hy, hR⟩ := yield_depth rfl (n - 1 - 1 - 1) (HY.out pre' ⟨(wordsG x.1, AA), HWL.out⟩ A2 hj2 HLEN.out h2.out.1)
          exact ⟨AA, he, Boxed.cell ((h2.out.2.1.block _ HX.out.lt).trans HX.out), Lib.hid h2.out.2.1, fn, tmps, assign, body, hy, RoundIn.within l' (hR.mono fun e W' h => h.elim (fun h => .inl ⟨h.1, Lib.hid h.2⟩) (fun h => .inr ⟨h.1, Lib.hid h.2⟩))⟩))
      clear HWD
      gi_wp2_with (first
        | ((try refine ⟨trivial, ?_⟩); (try refine ⟨hdd _, ?_⟩); gi_at_call 32; refine (CallsIn.inRound l' (callsIn_wide.2 HWD2.out)).mono ?_; clear HWD2; rintro e A2 ⟨AA, rfl, z0, h2, fn, tmps, assign, body, hy, hR⟩)
        | ((try refine ⟨hdd _, ?_⟩); refine hR.mono ?_; clear hR; rintro e W3 (⟨rfl, h3⟩ | ⟨rfl, h3⟩)))
      · have hb2 := h2.out
        have hsw := HW.out.size
        have hs4 := HSZ.out
        have hy4 := (Ky.below (own := own) (B := W4.heap.size) hb2).trans (h3.out.2.less (by omega))
        exact ⟨hy4.2, hy4.less (by omega), ⟨_, h3.out.1, Lib.hid ⟨by rw [List.map_append, hp.out.1, HL.out]; rfl, by have := hp.out.2; simp; omega⟩⟩,
          h3.out.2.1.box ((hb2.block _ HX.out.lt).trans HX.out) (HNO.out _ (Nat.le_refl _)), HK.out.trans hy4.1⟩
      · have hb2 := h2.out
        have hsw := HW.out.size
        have hs4 := HSZ.out
        have hy4 := (Ky.below (own := own) (B := W4.heap.size) hb2).trans (h3.out.2.less (by omega))
        exact ⟨hy4.2, hy4.less (by omega), rfl, _, h3.out.1, Lib.hid (by rw [List.map_append, hp.out.1, HL.out]; rfl)⟩
  case done =>
    rintro D xs A hD hx ⟨⟨pre', hj, hp⟩, hbx, hk⟩ hK
    gi_wp2
    refine ⟨by simp, .inl ⟨_, _, rfl, run_takeDeferred hK, ?_⟩⟩
    exact ⟨_, results_none rfl _ _ _, ⟨_, rfl⟩, .inl ⟨pre', by rw [hp.out.1, hx], HJ.out.putObj _ hj (by omega) hK rfl⟩⟩
  case stop =>
    rintro D c pre A hD hpre ⟨rfl, pre', hj, hp⟩ hK
    gi_wp2
    refine ⟨by simp, .inl ⟨_, _, rfl, run_takeDeferred hK, ?_⟩⟩
    exact ⟨_, results_none rfl _ _ _, ⟨_, rfl⟩, .inr ⟨pre', by rw [hp.out]; exact (hpre.map _).filter _, HJX.out.putObj _ hj (by omega) hK rfl⟩⟩
end Go.Proofs.YtgldnkpanimihaaDoor
