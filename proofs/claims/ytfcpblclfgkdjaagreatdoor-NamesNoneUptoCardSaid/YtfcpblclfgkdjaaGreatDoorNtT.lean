/-
  the law NamesTurn, walked (of rows whose count does not wrap).
-/
import Derived.Deep.RegionHeld3
import Derived.BigQuiet
import Derived.Test.YtfcpblclfgkdjaaGreatDoorNtR
import Derived.Test.YtfcpblclfgkdjaaGreatDoorNtJ
import Derived.Test.YtfcpblclfgkdjaaGreatDoorZF
import Derived.Test.YtfcpblclfgkdjaaGreatDoorZN
namespace Go.Proofs.YtfcpblclfgkdjaaGreatDoor
set_option linter.unusedSimpArgs false
set_option linter.unusedVariables false
open Go.RowKit

/-- A row of All's, as nodes that lie. -/
theorem NRow.toKids {B base : Nat} {L : List (Nd × Option Addr × Nat)} {v : Value} {W : World} (h : NRow B base L v W) (hB : B ≤ W.heap.size) (hne : L ≠ []) :
    ∃ a c, v = .slice a (L.map (·.1)).length c ∧ Kids W W.heap.size a (L.map (·.1)) ∧ (L.map (·.1)).length ≤ c ∧ (L.map (·.1)).length ≤ 9223372036854775807 := by
  obtain ⟨g, cap, hv, hb, hg, hc, hm, hcell⟩ := h.lies hne
  refine ⟨some ⟨g, 0, none⟩, cap, by rw [hv]; simp, ?_, by simpa using hc, by unfold maxLen at hm; simp; omega⟩
  rw [kids_iff]
  intro j hj
  have hjL : j < L.length := by simpa using hj
  have hm := h.kids L[j] (List.getElem_mem hjL)
  have e : (L.map (·.1))[j] = L[j].1 := by simp
  have hcl : ∀ i, i < 4 → W.cell? ⟨g, 0 + j * 4 + i, none⟩ = (node4 L[j])[i]? := fun i hi => by
    have h4 : i < (node4 L[j]).length := by rw [node4_len]; exact hi
    rw [List.getElem?_eq_getElem h4]
    refine hcell _ _ ?_
    rw [Nat.zero_add, cells_get L j i hjL hi, List.getElem?_eq_getElem h4]
  rw [e]
  refine ⟨g, 0, L[j].2.1, L[j].2.2, rfl, hg, ⟨?_, ?_, ?_, ?_⟩, hm.1, hm.2.keep hB (fun _ _ => rfl)⟩
  · exact hcl 0 (by omega)
  · exact hcl 1 (by omega)
  · exact hcl 2 (by omega)
  · exact hcl 3 (by omega)
theorem four_on {n : Nat} {W W' : World} {b off : Nat} {q : Nd} {a' : Option Addr} {c' : Nat} (hb : Below n W W') (hn : b < n) (h : Four W b off q a' c') : Four W' b off q a' c' :=
  ⟨(hb.cell (p := ⟨b, off, none⟩) hn).trans h.1, (hb.cell (p := ⟨b, off + 1, none⟩) hn).trans h.2.1, (hb.cell (p := ⟨b, off + 2, none⟩) hn).trans h.2.2.1, (hb.cell (p := ⟨b, off + 3, none⟩) hn).trans h.2.2.2⟩
theorem flat_one (d : Nat) {l : List Nd} {k : Nd} (h : k ∈ l) : (walkL d k).length ≤ (l.flatMap (walkL d)).length := by
  induction l with
  | nil => cases h
  | cons x r ih =>
    rw [List.flatMap_cons, List.length_append]
    rcases List.mem_cons.1 h with rfl | h
    · omega
    · have := ih h; omega
theorem right_at (l : List UInt8) (q : Nd) (a' : Option Addr) (c' : Nat) (W : World) (b : Bool) (hb : rightB l q = b) (hg : Glob W) (hk : Kids W W.heap.size a' q.kids) (hf : Fits q c') :
    Calls Tryz.prog 6 #[.agg #[.int .i64 q.kind, .string ⟨q.text.toArray⟩, .slice a' q.kids.length c', .int .i64 q.pos], .string ⟨l.toArray⟩] W fun e w' => e = .returned (.bool b) ∧ Below W.heap.size W w' := by
  have := rright_any l q a' c' W hg hk hf
  rw [hb] at this
  exact this
theorem size_at (d : Nat) (hd : d ≤ 1000) (q : Nd) (a' : Option Addr) (c' : Nat) (W : World) (n : Int) (hn : wrap64 (walkL d q).length = n) (hk : Kids W W.heap.size a' q.kids) (hf : Fits q c') :
    Calls Tryz.prog 5 #[.agg #[.int .i64 q.kind, .string ⟨q.text.toArray⟩, .slice a' q.kids.length c', .int .i64 q.pos], .int .i64 d] W fun e w' => e = .returned (.int .i64 n) ∧ Below W.heap.size W w' := by
  have := rsize_any d hd q a' c' W hk hf
  rw [hn] at this
  exact this
theorem all_at (q : Nd) (a' : Option Addr) (c' : Nat) (W : World) (hk : Kids W W.heap.size a' q.kids) (hf : Fits q c') (hn : (walkL 200 q).length ≤ 1048576) :
    Calls Tryz.prog 7 #[.agg #[.int .i64 q.kind, .string ⟨q.text.toArray⟩, .slice a' q.kids.length c', .int .i64 q.pos], .int .i64 200] W fun e w' => ∃ aA cA, e = .returned (.slice aA (nodesL 200 q).length cA) ∧ Below W.heap.size W w' ∧ Kids w' w'.heap.size aA (nodesL 200 q) ∧ (nodesL 200 q).length ≤ cA ∧ (nodesL 200 q).length ≤ 9223372036854775807 :=
  (rall_any 200 (by omega) W.heap.size q a' c' W (Nat.le_refl _) hk hf (by rw [nodes_len]; exact hn)).mono fun e w' ⟨hb, v, L, he, hL, hrow, _⟩ => by
    obtain ⟨aA, cA, e1, e2, e3, e4⟩ := hrow.toKids hb.size (fun e => by rw [e] at hL; rw [nodesL_succ] at hL; cases hL)
    rw [hL] at e1 e2 e3 e4
    exact ⟨aA, cA, by rw [he, e1], hb, e2, e3, e4⟩
theorem called_at (s u : List UInt8) (ks X : List Nd) (hX : blockP (nodeP (ren s u) 100) [] ks = X) (a : Option Addr) (c : Nat) (w : World) (hs : s.length ≤ 140737488351232) (hu : u.length ≤ 140737488351232)
    (hh : ∀ k, k ∈ ks → InAll Loc k ∧ k.height ≤ 100) (hl : (ks.flatMap (walkL 100)).length ≤ 1048576) (hk : Kids w w.heap.size a ks) (hc : ks.length ≤ c) (hc2 : c ≤ 9223372036854775807) (h56 : ks.length ≤ 1000) :
    Calls Tryz.prog 8 #[.slice a ks.length c, .string ⟨s.toArray⟩, .string ⟨u.toArray⟩] w fun e w' => ∃ a' c', e = .returned (.slice a' ks.length c') ∧ Below w.heap.size w w' ∧ Kids w' w'.heap.size a' X ∧ ks.length ≤ c' ∧ c' ≤ 9223372036854775807 :=
  (called_any s u ks a c w hs hu (fun k h => (hh k h).2) (fun k h => (hh k h).1) (by omega) hk hc hc2 h56).mono fun e w' ⟨a', c', he, h1, h2, h3, h4⟩ => by
    rw [blockP_len] at he h2
    rw [hX] at h1
    exact ⟨a', c', he, h4, h1, h2, h3⟩
theorem free_at (ks : List Nd) (F0 : List (List UInt8)) (hF : blockF (freeP 100) [] ks = F0) (a : Option Addr) (c n : Nat) (w : World) (hn : ks.length = n)
    (hh : ∀ k, k ∈ ks → InAll Loc k ∧ k.height ≤ 100) (hl : (ks.flatMap (walkL 100)).length ≤ 1048576) (hk : Kids w w.heap.size a ks) (hc : n ≤ c) (hc2 : c ≤ 9223372036854775807) (h56 : n ≤ 1000) :
    Calls Tryz.prog 10 #[.slice a n c] w (FreePost F0 w) := by
  subst hn hF
  exact free_any ks a c w (fun k h => (hh k h).2) (fun k h => (hh k h).1) (by omega) hk hc hc2 h56
theorem same_at (q : Nd) (a1 a2 : Option Addr) (c1 c2 : Nat) (W : World) (h : q.height ≤ 100) (hk1 : Kids W W.heap.size a1 q.kids) (hf1 : Fits q c1) (hk2 : Kids W W.heap.size a2 q.kids) (hf2 : Fits q c2) :
    Calls Tryz.prog 9 #[.agg #[.int .i64 q.kind, .string ⟨q.text.toArray⟩, .slice a1 q.kids.length c1, .int .i64 q.pos], .agg #[.int .i64 q.kind, .string ⟨q.text.toArray⟩, .slice a2 q.kids.length c2, .int .i64 q.pos], .int .i64 200] W fun e w' => e = .returned (.bool true) ∧ Below W.heap.size W w' := by
  have := rsame_any 200 (by omega) q q a1 a2 c1 c2 W hk1 hf1 hk2 hf2
  rw [sameB_self 200 q (by omega)] at this
  exact this

set_option maxRecDepth 100000 in
set_option maxHeartbeats 16000000 in
theorem turn_law (l : List Nd) (a : Option Addr) (c : Nat) (s : List UInt8) (w : World) (hN : ∀ d, (l.flatMap (walkL d)).length ≤ 1048576) (hs : s.length ≤ 140737488351232) (hg : Glob w) (hT : Aw.Tab w) (hk : Kids w w.heap.size a l) (hc : l.length ≤ c) (hc2 : c ≤ 9223372036854775807) :
    Calls Tryz.prog 3 #[.slice a l.length c, .string ⟨s.toArray⟩] w fun e w' => e = .returned (.bool true) ∧ Below w.heap.size w w' := by
  have hl63 : l.length ≤ 9223372036854775807 := by omega
  have HTK := Lib.hid (Below.refl w.heap.size w)
  have HG := Lib.hid hg
  have HT := Lib.hid hT
  have HK := Lib.hid hk
  have HN := Lib.hid hN
  have HS := Lib.hid hs
  clear hN hs hg hT hk
  go_enter Tryz.func3, Tryz.ntmps3
  by_cases h30 : (30 : Int) < l.length
  · go_wp2_with fail
    go_ret
    exact ⟨rfl, Below.refl _ _⟩
  go_wp2_with fail
  go_loopw [6] (fun iv wr => ∃ i : Nat, i ≤ l.length ∧ iv = .int .i64 i ∧ Hid (Below w.heap.size w wr) ∧ Hid (∀ j (h : j < l.length), j < i → InAll Loc l[j] ∧ l[j].height ≤ 100 ∧ InAll (Clear toN) l[j])) (fun iv _ => l.length - (intOf iv).toNat)
  case atStart => exact ⟨0, by omega, rfl, HTK, Lib.hid (fun j _ h => by omega)⟩
  case round =>
    clear HTK
    obtain ⟨i, hi, rfl, HTK, HJ⟩ := hrel
    by_cases hlt : i < l.length
    · obtain ⟨bb, off, a', c', ha, hlb, hq4, hf', hn'⟩ := HK.out.get hlt
      subst ha
      have hmem := List.getElem_mem hlt
      have hstep : (InAll Loc l[i] ∧ l[i].height ≤ 100 ∧ InAll (Clear toN) l[i]) → ∀ j (h : j < l.length), j < i + 1 → InAll Loc l[j] ∧ l[j].height ≤ 100 ∧ InAll (Clear toN) l[j] := fun hx j h hj => by
        by_cases e : j = i
        · subst e; exact hx
        · exact HJ.out j h (by omega)
      have hkq : ∀ W, Below w.heap.size w W → Four W bb (off + i * 4) l[i] a' c' ∧ Kids W W.heap.size a' l[i].kids := fun W hW => ⟨four_on hW hlb hq4, hn'.on hW⟩
      have hw2 := Nat.le_trans (flat_one 200 hmem) (HN.out 200)
      obtain ⟨q, hq⟩ : ∃ q, l[i] = q := ⟨_, rfl⟩
      rw [hq] at hq4 hf' hn' hstep hkq hw2
      obtain ⟨n, hn⟩ : ∃ n, wrap64 (walkL 1000 q).length = n := ⟨_, rfl⟩
      obtain ⟨r1, hr1⟩ : ∃ r, rightB sStmt q = r := ⟨_, rfl⟩
      obtain ⟨r2, hr2⟩ : ∃ r, rightB sExpr q = r := ⟨_, rfl⟩
      have HKQ := Lib.hid hkq
      have HSTEP := Lib.hid hstep
      have HW2 := Lib.hid hw2
      have HR1 := Lib.hid hr1
      have HR2 := Lib.hid hr2
      have HSZ := Lib.hid (size_at 1000 (by omega) q a' c' wr n hn (hkq _ HTK.out).2 hf')
      obtain ⟨q0, q1, q2, q3⟩ := (hkq _ HTK.out).1
      clear hq4 hn' hstep hkq hw2 hq hn hr1 hr2 hmem HJ
      go_wp2_with fail
      refine HSZ.out.mono ?_
      rintro e w1 ⟨rfl, hb1⟩
      have HTK1 := Lib.hid (bext HTK.out hb1)
      clear hb1 HTK HSZ
      obtain ⟨⟨q0, q1, q2, q3⟩, hk1⟩ := HKQ.out _ HTK1.out
      by_cases h300 : (300 : Int) < n
      · go_wp2_with fail
        go_ret
        exact ⟨rfl, HTK1.out⟩
      have HC1 := Lib.hid (show Calls Tryz.prog 6 #[.agg #[.int .i64 q.kind, .string ⟨q.text.toArray⟩, .slice a' q.kids.length c', .int .i64 q.pos], .string ⟨#[115, 116, 97, 116, 101, 109, 101, 110, 116]⟩] w1 _ from right_at sStmt q a' c' w1 r1 HR1.out (HG.out.on HTK1.out) hk1 hf')
      clear hk1
      go_wp2_with fail
      refine HC1.out.mono ?_
      rintro e w2 ⟨rfl, hb2⟩
      have HTK2 := Lib.hid (bext HTK1.out hb2)
      clear hb2 HTK1 HC1
      obtain ⟨⟨q0, q1, q2, q3⟩, hk2⟩ := HKQ.out _ HTK2.out
      cases r1 with
      | true =>
        have HOK := Lib.hid (right_loc (.inl rfl) HR1.out)
        have HTKW := HTK2
        clear hk2 HTK2
        have HALL := Lib.hid (all_at q a' c' w2 (HKQ.out _ HTKW.out).2 hf' HW2.out)
        go_wp2_with fail
        refine HALL.out.mono ?_
        rintro e w4 ⟨aA, cA, rfl, hb4, hkA, hlA, hmA⟩
        have HTK4 := Lib.hid (bext HTKW.out hb4)
        have HKA := Lib.hid hkA
        have HAIN := Lib.hid (show (∀ x, x ∈ nodesL 200 q → Clear toN x) → InAll (Clear toN) q from fun h => InAll.of_high (by have := HOK.out.2; omega) h)
        obtain ⟨A, hA⟩ : ∃ A, nodesL 200 q = A := ⟨_, rfl⟩
        rw [hA] at HKA hlA hmA HAIN ⊢
        clear hb4 hkA hA HALL HTKW q0 q1 q2 q3
        go_wp2_with fail
        go_loopw [8] (fun kv wi => ∃ k : Nat, k ≤ A.length ∧ kv = .int .i64 k ∧ Hid (Below w.heap.size w wi) ∧ Hid (Kids wi wi.heap.size aA A) ∧ Hid (∀ j (h : j < A.length), j < k → Clear toN A[j])) (fun kv _ => A.length - (intOf kv).toNat)
        case atStart => exact ⟨0, by omega, rfl, HTK4, HKA, Lib.hid (fun j _ h => by omega)⟩
        case round =>
          obtain ⟨k, hk1, rfl, HTKI, HKI, HCL⟩ := hrel
          by_cases hkl : k < A.length
          · obtain ⟨bA, oA, a'', c'', haA, -, ⟨p0, p1, p2, p3⟩, -, -⟩ := HKI.out.get hkl
            subst haA
            have hnx : Clear toN A[k] → ∀ j (h : j < A.length), j < k + 1 → Clear toN A[j] := fun hx j h hj => by
              by_cases e : j = k
              · subst e; exact hx
              · exact HCL.out j h (by omega)
            obtain ⟨x, hx⟩ : ∃ x, A[k] = x := ⟨_, rfl⟩
            rw [hx] at p0 p1 p2 p3 hnx
            have HNX := Lib.hid hnx
            clear hnx hx HCL
            cases e1 : (x.text == [111, 116, 104, 101, 114, 95, 110, 97, 109, 101]) with
            | true =>
              go_wp2_with fail
              go_ret
              exact ⟨rfl, HTKI.out⟩
            | false =>
            cases k32 : (x.kind == 32) with
            | false =>
              have HC := Lib.hid (show Clear toN x from ⟨by simpa [toN] using e1, fun e => by rw [e] at k32; cases k32⟩)
              go_wp2_with fail
              go_roundw
              case rel => exact ⟨k + 1, by omega, by go_num, HTKI, HKI, Lib.hid (HNX.out HC.out)⟩
              case measure => simp [intOf]; omega
            | true =>
            by_cases h8 : (8 : Int) < x.text.length
            · go_wp2_with fail
              go_ret
              exact ⟨rfl, HTKI.out⟩
            · have HC := Lib.hid (show Clear toN x from ⟨by simpa [toN] using e1, fun _ => by omega⟩)
              go_wp2_with fail
              go_roundw
              case rel => exact ⟨k + 1, by omega, by go_num, HTKI, HKI, Lib.hid (HNX.out HC.out)⟩
              case measure => simp [intOf]; omega
          · obtain rfl : k = A.length := by omega
            have HIN := Lib.hid (HAIN.out (fun x hx => by
              obtain ⟨j, hj, rfl⟩ := List.getElem_of_mem hx
              exact HCL.out j hj hj))
            go_wp2_with fail
            go_roundw
            case rel => exact ⟨i + 1, by omega, by go_num, HTKI, Lib.hid (HSTEP.out ⟨HOK.out.1, HOK.out.2, HIN.out⟩)⟩
            case measure => simp [intOf]; omega

      | false =>
      have HC2 := Lib.hid (show Calls Tryz.prog 6 #[.agg #[.int .i64 q.kind, .string ⟨q.text.toArray⟩, .slice a' q.kids.length c', .int .i64 q.pos], .string ⟨#[101, 120, 112, 114, 101, 115, 115, 105, 111, 110]⟩] w2 _ from right_at sExpr q a' c' w2 r2 HR2.out (HG.out.on HTK2.out) hk2 hf')
      clear hk2
      go_wp2_with fail
      refine HC2.out.mono ?_
      rintro e w3 ⟨rfl, hb3⟩
      have HTKW := Lib.hid (bext HTK2.out hb3)
      clear hb3 HTK2 HC2
      obtain ⟨⟨q0, q1, q2, q3⟩, -⟩ := HKQ.out _ HTKW.out
      cases r2 with
      | false =>
        go_wp2_with fail
        go_ret
        exact ⟨rfl, HTKW.out⟩
      | true =>
        have HOK := Lib.hid (right_loc (.inr rfl) HR2.out)
        have HALL := Lib.hid (all_at q a' c' w3 (HKQ.out _ HTKW.out).2 hf' HW2.out)
        go_wp2_with fail
        refine HALL.out.mono ?_
        rintro e w4 ⟨aA, cA, rfl, hb4, hkA, hlA, hmA⟩
        have HTK4 := Lib.hid (bext HTKW.out hb4)
        have HKA := Lib.hid hkA
        have HAIN := Lib.hid (show (∀ x, x ∈ nodesL 200 q → Clear toN x) → InAll (Clear toN) q from fun h => InAll.of_high (by have := HOK.out.2; omega) h)
        obtain ⟨A, hA⟩ : ∃ A, nodesL 200 q = A := ⟨_, rfl⟩
        rw [hA] at HKA hlA hmA HAIN ⊢
        clear hb4 hkA hA HALL HTKW q0 q1 q2 q3
        go_wp2_with fail
        go_loopw [8] (fun kv wi => ∃ k : Nat, k ≤ A.length ∧ kv = .int .i64 k ∧ Hid (Below w.heap.size w wi) ∧ Hid (Kids wi wi.heap.size aA A) ∧ Hid (∀ j (h : j < A.length), j < k → Clear toN A[j])) (fun kv _ => A.length - (intOf kv).toNat)
        case atStart => exact ⟨0, by omega, rfl, HTK4, HKA, Lib.hid (fun j _ h => by omega)⟩
        case round =>
          obtain ⟨k, hk1, rfl, HTKI, HKI, HCL⟩ := hrel
          by_cases hkl : k < A.length
          · obtain ⟨bA, oA, a'', c'', haA, -, ⟨p0, p1, p2, p3⟩, -, -⟩ := HKI.out.get hkl
            subst haA
            have hnx : Clear toN A[k] → ∀ j (h : j < A.length), j < k + 1 → Clear toN A[j] := fun hx j h hj => by
              by_cases e : j = k
              · subst e; exact hx
              · exact HCL.out j h (by omega)
            obtain ⟨x, hx⟩ : ∃ x, A[k] = x := ⟨_, rfl⟩
            rw [hx] at p0 p1 p2 p3 hnx
            have HNX := Lib.hid hnx
            clear hnx hx HCL
            cases e1 : (x.text == [111, 116, 104, 101, 114, 95, 110, 97, 109, 101]) with
            | true =>
              go_wp2_with fail
              go_ret
              exact ⟨rfl, HTKI.out⟩
            | false =>
            cases k32 : (x.kind == 32) with
            | false =>
              have HC := Lib.hid (show Clear toN x from ⟨by simpa [toN] using e1, fun e => by rw [e] at k32; cases k32⟩)
              go_wp2_with fail
              go_roundw
              case rel => exact ⟨k + 1, by omega, by go_num, HTKI, HKI, Lib.hid (HNX.out HC.out)⟩
              case measure => simp [intOf]; omega
            | true =>
            by_cases h8 : (8 : Int) < x.text.length
            · go_wp2_with fail
              go_ret
              exact ⟨rfl, HTKI.out⟩
            · have HC := Lib.hid (show Clear toN x from ⟨by simpa [toN] using e1, fun _ => by omega⟩)
              go_wp2_with fail
              go_roundw
              case rel => exact ⟨k + 1, by omega, by go_num, HTKI, HKI, Lib.hid (HNX.out HC.out)⟩
              case measure => simp [intOf]; omega
          · obtain rfl : k = A.length := by omega
            have HIN := Lib.hid (HAIN.out (fun x hx => by
              obtain ⟨j, hj, rfl⟩ := List.getElem_of_mem hx
              exact HCL.out j hj hj))
            go_wp2_with fail
            go_roundw
            case rel => exact ⟨i + 1, by omega, by go_num, HTKI, Lib.hid (HSTEP.out ⟨HOK.out.1, HOK.out.2, HIN.out⟩)⟩
            case measure => simp [intOf]; omega

    · obtain rfl : i = l.length := by omega
      have hOK : TurnOk l := ⟨fun k hk => by
        obtain ⟨j, hj, rfl⟩ := List.getElem_of_mem hk
        exact HJ.out j hj hj⟩
      have hh : ∀ k, k ∈ l → InAll Loc k ∧ k.height ≤ 100 := fun k hk => ⟨(hOK.ok k hk).1, (hOK.ok k hk).2.1⟩
      have hN100 := HN.out 100
      obtain ⟨X, hX⟩ : ∃ X, blockP (nodeP (ren s toN) 100) [] l = X := ⟨_, rfl⟩
      obtain ⟨F0, hF0⟩ : ∃ F0, blockF (freeP 100) [] l = F0 := ⟨_, rfl⟩
      obtain ⟨G0, hG0⟩ : ∃ G0, blockF (freeP 100) [] X = G0 := ⟨_, rfl⟩
      have hXs : X.map Nd.strip = l.map Nd.strip := by rw [← hX]; exact turn_shape l s toN
      have hXl : X.length = l.length := by rw [← hX, blockP_len]
      have hhX := row_shape hXs hh
      have hNX : (X.flatMap (walkL 100)).length ≤ 1048576 := by rw [rows_walk 100 hXs]; exact hN100
      have hXb : blockP (nodeP (ren toN s) 100) [] X = l := by rw [← hX]; exact (turn_back hOK s).1
      have h1000 : l.length ≤ 1000 := by omega
      have HC1 := Lib.hid (show Calls Tryz.prog 8 #[.slice a l.length c, .string ⟨s.toArray⟩, .string ⟨#[111, 116, 104, 101, 114, 95, 110, 97, 109, 101]⟩] wr _ from called_at s toN l X hX a c wr HS.out (by decide) hh hN100 (HK.out.on HTK.out) hc hc2 h1000)
      have HC2 := Lib.hid (fun (aX : Option Addr) (cX : Nat) (W : World) (h1 : Kids W W.heap.size aX X) (h2 : l.length ≤ cX) (h3 : cX ≤ 9223372036854775807) => (show Calls Tryz.prog 8 #[.slice aX l.length cX, .string ⟨#[111, 116, 104, 101, 114, 95, 110, 97, 109, 101]⟩, .string ⟨s.toArray⟩] W (fun e w' => ∃ a' c', e = .returned (.slice a' l.length c') ∧ Below W.heap.size W w' ∧ Kids w' w'.heap.size a' l ∧ l.length ≤ c' ∧ c' ≤ 9223372036854775807) from by
        have := called_at toN s X l hXb aX cX W (by decide) HS.out hhX hNX h1 (by omega) h3 (by omega)
        rw [hXl] at this
        exact this))
      have HFL := Lib.hid (fun (W : World) (h1 : Kids W W.heap.size a l) => free_at l F0 hF0 a c l.length W rfl hh hN100 h1 hc hc2 h1000)
      have HFX := Lib.hid (fun (aX : Option Addr) (cX : Nat) (W : World) (h1 : Kids W W.heap.size aX X) (h2 : l.length ≤ cX) (h3 : cX ≤ 9223372036854775807) => free_at X G0 hG0 aX cX l.length W hXl hhX hNX h1 h2 h3 h1000)
      have HIS := Lib.hid (fun (F G : List (List UInt8)) (hF : ∀ x, x ∈ F ↔ x ∈ F0) (hG : ∀ x, x ∈ G ↔ x ∈ G0) => turn_is hOK s (F := F) (G := G) (by rw [hF0]; exact hF) (by rw [hX, hG0]; exact hG))
      have HNO := Lib.hid (fun (G : List (List UInt8)) (hG : ∀ x, x ∈ G ↔ x ∈ G0) (g : List UInt8) (hg : g ∈ G) => turn_none hOK s (G := G) (by rw [hX, hG0]; exact hG) hg)
      have HHL := Lib.hid hh
      have eL : ((l.length : Int) == (l.length : Int)) = true := by simp
      clear hh hN100 hX hF0 hG0 hXs hXl hhX hNX hXb hOK HJ
      go_wp2_with fail
      refine HC1.out.mono ?_
      rintro e w1 ⟨aX, cX, rfl, hb1, hkX, hlX, hmX⟩
      have HC3 := Lib.hid (HC2.out aX cX w1 hkX hlX hmX)
      have HB1 := Lib.hid (bext HTK.out hb1)
      have HKX := Lib.hid hkX
      clear hb1 hkX HC1 HC2 HTK
      go_wp2_with fail
      refine HC3.out.mono ?_
      rintro e w2 ⟨aY, cY, rfl, hb2, hkY, hlY, hmY⟩
      have HB2 := Lib.hid (bext HB1.out hb2)
      have HK2 := Lib.hid (HK.out.on HB2.out)
      have HKX2 := Lib.hid (HKX.out.on hb2)
      have HKY := Lib.hid hkY
      have HI2 := Lib.hid (Below.refl w2.heap.size w2)
      clear hb2 hkY HC3 HB1 HKX
      go_wp2_with fail
      go_loopw [11] (fun iv wi => ∃ i : Nat, i ≤ l.length ∧ iv = .int .i64 i ∧ Hid (Below w2.heap.size w2 wi)) (fun iv _ => l.length - (intOf iv).toNat)
      case atStart => exact ⟨0, by omega, rfl, HI2⟩
      case round =>
        clear HI2
        obtain ⟨i, hi, rfl, HBI⟩ := hrel
        by_cases hlt : i < l.length
        · obtain ⟨b1, o1, a1, c1, ha, hlb1, hq1, hf1, hn1⟩ := HK2.out.get hlt
          obtain ⟨b2, o2, a2, c2, haY, hlb2, hq2, hf2, hn2⟩ := HKY.out.get hlt
          subst ha haY
          have hht := (HHL.out _ (List.getElem_mem hlt)).2
          obtain ⟨q, hq⟩ : ∃ q, l[i] = q := ⟨_, rfl⟩
          rw [hq] at hq1 hf1 hn1 hq2 hf2 hn2 hht
          have HSM := Lib.hid (show ∀ W, Below w2.heap.size w2 W → Calls Tryz.prog 9 #[.agg #[.int .i64 q.kind, .string ⟨q.text.toArray⟩, .slice a1 q.kids.length c1, .int .i64 q.pos], .agg #[.int .i64 q.kind, .string ⟨q.text.toArray⟩, .slice a2 q.kids.length c2, .int .i64 q.pos], .int .i64 200] W (fun e w' => e = .returned (.bool true) ∧ (Four w' b1 (o1 + i * 4) q a1 c1 ∧ Four w' b2 (o2 + i * 4) q a2 c2) ∧ Hid (Below w2.heap.size w2 w')) from fun W hW =>
            (same_at q a1 a2 c1 c2 W hht (hn1.on hW) hf1 (hn2.on hW) hf2).mono fun e w' ⟨he, hb⟩ => ⟨he, ⟨four_on (bext hW hb) hlb1 hq1, four_on (bext hW hb) hlb2 hq2⟩, Lib.hid (bext hW hb)⟩)
          obtain ⟨q0, q1, q2, q3⟩ := four_on HBI.out hlb1 hq1
          obtain ⟨p0, p1, p2, p3⟩ := four_on HBI.out hlb2 hq2
          clear hq1 hf1 hn1 hq2 hf2 hn2 hht hq
          go_wp2_with fail
          go_region_held3 (fun W' => (W'.cell? ⟨b1, o1 + i * 4, none⟩ = some (.int .i64 q.kind) ∧ W'.cell? ⟨b1, o1 + i * 4 + 1, none⟩ = some (.string ⟨q.text.toArray⟩) ∧ W'.cell? ⟨b1, o1 + i * 4 + 2, none⟩ = some (.slice a1 q.kids.length c1) ∧ W'.cell? ⟨b1, o1 + i * 4 + 3, none⟩ = some (.int .i64 q.pos)) ∧ (W'.cell? ⟨b2, o2 + i * 4, none⟩ = some (.int .i64 q.kind) ∧ W'.cell? ⟨b2, o2 + i * 4 + 1, none⟩ = some (.string ⟨q.text.toArray⟩) ∧ W'.cell? ⟨b2, o2 + i * 4 + 2, none⟩ = some (.slice a2 q.kids.length c2) ∧ W'.cell? ⟨b2, o2 + i * 4 + 3, none⟩ = some (.int .i64 q.pos))) (go_keep)
            (first
              | (go_at_call 9
                 refine (HSM.out _ (by first | exact HBI.out | exact HBI.out.drew)).mono ?_
                 rintro e w5 ⟨rfl, ⟨⟨q0, q1, q2, q3⟩, ⟨p0, p1, p2, p3⟩⟩, hr5⟩))
          all_goals
            go_wp2_with fail
            go_roundw
            case rel => exact ⟨i + 1, by omega, by go_num, hr5⟩
            case measure => simp [intOf]; omega
        · obtain rfl : i = l.length := by omega
          have HB3 := Lib.hid (bext HB2.out HBI.out)
          have HF1 := Lib.hid (HFL.out wr (HK2.out.on HBI.out))
          have HKX3 := Lib.hid (HKX2.out.on HBI.out)
          clear HBI HFL HK2 HKX2 HKY HHL HK hlt
          go_wp2_with fail
          refine HF1.out.mono ?_
          rintro e w6 ⟨F, aF, cF, rfl, hkF, hlF, hmF, hb6⟩
          have HF2 := Lib.hid (HFX.out aX cX w6 (HKX3.out.on hb6) hlX hmX)
          have HB6 := Lib.hid (bext HB3.out hb6)
          have HKF := Lib.hid hkF
          have HMF := Lib.hid hmF
          clear hb6 hkF hmF HF1 HKX3 HB3 HFX
          go_wp2_with fail
          refine HF2.out.mono ?_
          rintro e w7 ⟨G, aG, cG, rfl, hkG, hlG, hmG, hb7⟩
          have HB7 := Lib.hid (bext HB6.out hb7)
          have HKF7 := Lib.hid (HKF.out.on hb7)
          have HKG7 := Lib.hid hkG
          have HI7 := Lib.hid (Below.refl w7.heap.size w7)
          have HEQ := Lib.hid (HIS.out F G HMF.out hmG)
          have HNG := Lib.hid (fun (i : Nat) (h : i < G.length) => HNO.out G hmG G[i] (List.getElem_mem h))
          clear hb7 hkG hmG HF2 HKF HB6 HMF HIS HNO
          go_wp2_with fail
          go_loopw [12, 16] (fun sv iv wi => ∃ i : Nat, i ≤ F.length ∧ iv = .int .i64 i ∧ sv = .bool (isIn F i s) ∧ Hid (Below w7.heap.size w7 wi)) (fun _ iv _ => F.length - (intOf iv).toNat)
          case atStart => exact ⟨0, by omega, rfl, by simp [isIn], HI7⟩
          case round =>
            clear HI7
            obtain ⟨i, hi, rfl, rfl, HBI⟩ := hrel
            by_cases hlt : i < F.length
            · obtain ⟨bF, oF, haF, hcF⟩ := (HKF7.out.on HBI.out) i hlt
              subst haF
              have hsucc := isIn_succ F i s hlt
              obtain ⟨d, hd⟩ : ∃ d, F[i] = d := ⟨_, rfl⟩
              rw [hd] at hcF hsucc
              obtain ⟨r, hr⟩ : ∃ r, (d == s) = r := ⟨_, rfl⟩
              rw [hr] at hsucc
              obtain ⟨sv, hsv⟩ : ∃ sv, isIn F i s = sv := ⟨_, rfl⟩
              rw [hsv] at hsucc ⊢
              have HSUC := Lib.hid hsucc
              clear hsucc hsv hd
              cases sv with
              | true =>
                go_wp2_with fail
                go_roundw
                case rel => exact ⟨i + 1, by omega, by go_num, by rw [HSUC.out]; rfl, HBI⟩
                case measure => simp [intOf]; omega
              | false =>
                go_wp2_with fail
                go_roundw
                case rel => exact ⟨i + 1, by omega, by go_num, by rw [HSUC.out]; rfl, HBI⟩
                case measure => simp [intOf]; omega
            · obtain rfl : i = F.length := by omega
              rw [HEQ.out]
              go_wp2_with fail
              go_loopw [13, 17] (fun sv iv wi => ∃ i : Nat, i ≤ G.length ∧ iv = .int .i64 i ∧ sv = .bool (isIn G i toN) ∧ Hid (Below w7.heap.size w7 wi)) (fun _ iv _ => G.length - (intOf iv).toNat)
              case atStart => exact ⟨0, by omega, rfl, by simp [isIn], HBI⟩
              case round =>
                clear HBI
                obtain ⟨i, hi, rfl, rfl, HBI⟩ := hrel
                by_cases hlt : i < G.length
                · obtain ⟨bG, oG, haG, hcG⟩ := (HKG7.out.on HBI.out) i hlt
                  subst haG
                  have hsucc := isIn_succ G i toN hlt
                  have hng := HNG.out i hlt
                  obtain ⟨d, hd⟩ : ∃ d, G[i] = d := ⟨_, rfl⟩
                  rw [hd] at hcG hsucc hng
                  obtain ⟨r, hr⟩ : ∃ r, (d == [111, 116, 104, 101, 114, 95, 110, 97, 109, 101]) = r := ⟨_, rfl⟩
                  have hr' : (d == toN) = r := hr
                  rw [hr'] at hsucc
                  obtain ⟨sv, hsv⟩ : ∃ sv, isIn G i toN = sv := ⟨_, rfl⟩
                  rw [hsv] at hsucc ⊢
                  have HSUC := Lib.hid hsucc
                  obtain ⟨r3, hr3⟩ : ∃ r3, (s == [111, 116, 104, 101, 114, 95, 110, 97, 109, 101]) = r3 := ⟨_, rfl⟩
                  have hr3' : (s == toN) = r3 := hr3
                  rw [hr3'] at hng
                  clear hsucc hsv hd hr' hr3'
                  cases e2 : (d == s) with
                  | false =>
                    clear hng
                    cases sv with
                    | true =>
                      go_wp2_with fail
                      go_roundw
                      case rel => exact ⟨i + 1, by omega, by go_num, by rw [HSUC.out]; rfl, HBI⟩
                      case measure => simp [intOf]; omega
                    | false =>
                      go_wp2_with fail
                      go_roundw
                      case rel => exact ⟨i + 1, by omega, by go_num, by rw [HSUC.out]; rfl, HBI⟩
                      case measure => simp [intOf]; omega
                  | true =>
                    rw [e2] at hng
                    obtain rfl : r3 = true := by cases r3 with
                      | true => rfl
                      | false => cases hng
                    clear hng
                    cases sv with
                    | true =>
                      go_wp2_with fail
                      go_roundw
                      case rel => exact ⟨i + 1, by omega, by go_num, by rw [HSUC.out]; rfl, HBI⟩
                      case measure => simp [intOf]; omega
                    | false =>
                      go_wp2_with fail
                      go_roundw
                      case rel => exact ⟨i + 1, by omega, by go_num, by rw [HSUC.out]; rfl, HBI⟩
                      case measure => simp [intOf]; omega
                · obtain rfl : i = G.length := by omega
                  have HA := Lib.hid (Aw.awake_any wr (HT.out.on (bext HB7.out HBI.out)))
                  obtain ⟨sv, hsv⟩ : ∃ sv, isIn G G.length toN = sv := ⟨_, rfl⟩
                  rw [hsv]
                  cases sv
                  all_goals
                    go_wp2_with fail
                    refine HA.out.mono ?_
                    rintro e w9 ⟨rfl, hb9⟩
                    have HB9 := Lib.hid (bext (bext HB7.out HBI.out) hb9)
                    clear hb9
                    go_wp2_with fail
                    go_ret
                    exact ⟨rfl, HB9.out⟩
end Go.Proofs.YtfcpblclfgkdjaaGreatDoor
