/-
  the document's Read, walked.
-/
import Derived.Test.YtgldnkpanimihaaDoorVrZ
namespace Go.Proofs.YtgldnkpanimihaaDoor.Rf
set_option linter.unusedSimpArgs false
set_option linter.unusedVariables false
open Go.RowKit

def RfPost (r : List UInt8 × Int × Int) (w : World) (e : Ending) (w' : World) : Prop := e = .returned (.tuple #[.string ⟨r.1.toArray⟩, .int .i64 r.2.1, .int .i64 r.2.2]) ∧ Hid (Below w.heap.size w w')

set_option maxRecDepth 100000 in
set_option maxHeartbeats 16000000 in
theorem read_ref (b : List UInt8) (w : World) (hl : b.length ≤ 1000) :
    Calls Tryd.prog 11 #[.string ⟨b.toArray⟩] w (RfPost (readL b) w) := by
  go_enter Tryd.func11, Tryd.ntmps11
  go_wp2
  go_loopw [5, 6, 7, 8, 9] (fun s5 s6 s7 s8 s9 wr => ∃ (k f : Nat) (p : List UInt8) (m : Int) (t : Bool), s5 = .string ⟨p.toArray⟩ ∧ s6 = .int .i64 m ∧ s7 = .bool t ∧ s8 = .int .i64 f ∧ s9 = .int .i64 k ∧ Hid (Inv b ⟨p, m, if t then 1 else 0⟩ k f) ∧ Hid (Below w.heap.size w wr))
    (fun _ _ _ _ i _ => b.length + 1 - (intOf i).toNat)
  case atStart => exact ⟨0, 0, [], 16, false, rfl, rfl, rfl, rfl, rfl, Lib.hid (inv_start b), Lib.hid (Below.refl _ _)⟩
  case round =>
    obtain ⟨k, f, p, m, t, rfl, rfl, rfl, rfl, rfl, HI, hb⟩ := hrel
    have hk1 := inv_le HI.out
    obtain ⟨st, hst⟩ : ∃ st : St, st = ⟨p, m, if t then 1 else 0⟩ := ⟨_, rfl⟩
    by_cases hk : k ≤ b.length
    · by_cases hstop : ∀ h : k < b.length, b[k] = 10
      · obtain ⟨hfk, hnx, hno⟩ := inv_at HI.out hk hstop
        rw [← hst] at hnx hno
        have xl := ext_line b f k
        have lline : ((b.drop f).take (k - f)).length ≤ 1000 := by simp; omega
        obtain ⟨line, hline⟩ : ∃ l, (b.drop f).take (k - f) = l := ⟨_, rfl⟩
        rw [hline] at xl hnx hno lline
        obtain ⟨WL, hWL⟩ : ∃ l, wordsG line = l := ⟨_, rfl⟩
        have HST := Lib.hid hstop
        clear hline hstop
        have lline : line.length ≤ 100000 := by omega
        rcases Nat.lt_or_ge k b.length with hlt | hge
        · have e2 := byte_at b k hlt
          obtain ⟨d, hd⟩ : ∃ d, b[k] = d := ⟨_, rfl⟩
          rw [hd] at e2
          have q10 : ((d.toNat : Int) != 10) = false := by rw [← hd, HST.out hlt]; rfl
          clear hd
          by_cases w0 : WL = []
          · subst w0
            have HN := hnx st (by unfold oneL; rw [hWL, if_pos rfl])
            rw [hst] at HN
            have HN := Lib.hid HN
            clear hnx hno hst
            go_wp2_with fail
            refine (words_ref line wr lline).mono ?_
            rintro e9 w1 ⟨a1, c1, rfl, h1⟩
            rw [hWL] at h1 ⊢
            have hb1 := Lib.hid (bext hb.out (h1.out.2))
            clear hWL
            go_wp2
            go_roundw
            case rel => exact ⟨k + 1, k + 1, p, m, t, rfl, rfl, rfl, by go_num, by go_num, HN, hb1⟩
            case measure => simp [intOf]; omega
          have hone : oneL st line = stepR st WL := by unfold oneL; rw [hWL, if_neg w0]
          by_cases w2 : WL.length = 2
          · obtain ⟨x, y, rfl⟩ : ∃ x y, WL = [x, y] := by
              match WL, w2 with
              | [x, y], _ => exact ⟨x, y, rfl⟩
            have ly : y.length ≤ 1000 := Nat.le_trans (words_short line y (by rw [hWL]; simp)) (by omega)
            clear w0 w2
            by_cases n1 : x = [109, 111, 100, 117, 108, 101]
            · subst n1
              by_cases hp : p = []
              · cases hpy : pathL y with
                | true =>
                  have HN := Lib.hid (hnx ⟨y, m, if t then 1 else 0⟩ (by rw [hone, step_mod, if_neg (by rw [hpy, hst]; simp [hp]), hst]))
                  subst hp
                  clear hone hnx hno hst
                  go_wp2_with fail
                  refine (words_ref line wr lline).mono ?_
                  rintro e9 w1 ⟨a1, c1, rfl, h1⟩
                  rw [hWL] at h1 ⊢
                  have hb1 := Lib.hid (bext hb.out (h1.out.2))
                  obtain ⟨A1, rfl, t0⟩ := h1.out.1 0 (by simp)
                  obtain ⟨A2, eA, t1⟩ := h1.out.1 1 (by simp)
                  obtain rfl : A1 = A2 := by cases eA; rfl
                  clear hWL
                  have x0 : w1.cell? ⟨A1, 0, none⟩ = some (.string ⟨#[109, 111, 100, 117, 108, 101]⟩) := t0
                  have x1 : w1.cell? ⟨A1, 1, none⟩ = some (.string ⟨y.toArray⟩) := t1
                  clear t0 t1 eA
                  go_wp2_with fail
                  refine (path_ref y _ (by omega)).mono ?_
                  rintro e9 w' ⟨rfl, h9⟩
                  obtain rfl := h9
                  rw [hpy]
                  clear hpy
                  go_wp2
                  go_roundw
                  case rel => exact ⟨k + 1, k + 1, y, m, t, rfl, rfl, rfl, by go_num, by go_num, HN, hb1⟩
                  case measure => simp [intOf]; omega
                | false =>
                  have HV := Lib.hid (hno (by rw [hone, step_mod, if_pos (.inr hpy)]))
                  subst hp
                  clear hone hnx hno hst
                  go_wp2_with fail
                  refine (words_ref line wr lline).mono ?_
                  rintro e9 w1 ⟨a1, c1, rfl, h1⟩
                  rw [hWL] at h1 ⊢
                  have hb1 := Lib.hid (bext hb.out (h1.out.2))
                  obtain ⟨A1, rfl, t0⟩ := h1.out.1 0 (by simp)
                  obtain ⟨A2, eA, t1⟩ := h1.out.1 1 (by simp)
                  obtain rfl : A1 = A2 := by cases eA; rfl
                  clear hWL
                  have x0 : w1.cell? ⟨A1, 0, none⟩ = some (.string ⟨#[109, 111, 100, 117, 108, 101]⟩) := t0
                  have x1 : w1.cell? ⟨A1, 1, none⟩ = some (.string ⟨y.toArray⟩) := t1
                  clear t0 t1 eA
                  go_wp2_with fail
                  refine (path_ref y _ (by omega)).mono ?_
                  rintro e9 w' ⟨rfl, h9⟩
                  obtain rfl := h9
                  rw [hpy]
                  clear hpy
                  go_wp2
                  refine bodyPost_ret (v := .tuple #[.string ⟨#[]⟩, .int .i64 0, .int .i64 7]) (by simp [results, Tryd.results11, go_sem]) rfl ?_
                  exact ⟨by rw [HV.out], hb1⟩
              · have HV := Lib.hid (hno (by rw [hone, step_mod, if_pos (.inl (by rw [hst]; exact hp))]))
                have hpe : p.isEmpty = false := by simpa using hp
                clear hone hnx hno hst hp
                go_wp2_with fail
                refine (words_ref line wr lline).mono ?_
                rintro e9 w1 ⟨a1, c1, rfl, h1⟩
                rw [hWL] at h1 ⊢
                have hb1 := Lib.hid (bext hb.out (h1.out.2))
                obtain ⟨A1, rfl, t0⟩ := h1.out.1 0 (by simp)
                obtain ⟨A2, eA, t1⟩ := h1.out.1 1 (by simp)
                obtain rfl : A1 = A2 := by cases eA; rfl
                clear hWL
                have x0 : w1.cell? ⟨A1, 0, none⟩ = some (.string ⟨#[109, 111, 100, 117, 108, 101]⟩) := t0
                have x1 : w1.cell? ⟨A1, 1, none⟩ = some (.string ⟨y.toArray⟩) := t1
                clear t0 t1 eA
                go_wp2
                refine bodyPost_ret (v := .tuple #[.string ⟨#[]⟩, .int .i64 0, .int .i64 7]) (by simp [results, Tryd.results11, go_sem]) rfl ?_
                exact ⟨by rw [HV.out], hb1⟩
            have n1b : (x == [109, 111, 100, 117, 108, 101]) = false := by simpa using n1
            by_cases n2 : x = [103, 111]
            · subst n2
              obtain ⟨n, hn⟩ : ∃ n, (minorG y).1 = n := ⟨_, rfl⟩
              obtain ⟨u, hu⟩ : ∃ n, (minorG y).2 = n := ⟨_, rfl⟩
              have HM := fun w2 => minor_ref y w2 ly
              unfold MinPost at HM
              rw [hn, hu] at HM
              have HM := Lib.hid HM
              have hsp : stepR st [[103, 111], y] = if u ≠ 0 ∨ st.many ≠ 0 then none else some { st with minor := n, many := 1 } := by
                rw [step_go, hn, hu]
              by_cases hu0 : u = 0
              · subst hu0
                cases t with
                | true =>
                  have HV := Lib.hid (hno (by rw [hone, hsp, if_pos (.inr (by rw [hst]; simp))]))
                  clear hone hnx hno hst hsp hn hu n1 n1b
                  go_wp2_with fail
                  refine (words_ref line wr lline).mono ?_
                  rintro e9 w1 ⟨a1, c1, rfl, h1⟩
                  rw [hWL] at h1 ⊢
                  have hb1 := Lib.hid (bext hb.out (h1.out.2))
                  obtain ⟨A1, rfl, t0⟩ := h1.out.1 0 (by simp)
                  obtain ⟨A2, eA, t1⟩ := h1.out.1 1 (by simp)
                  obtain rfl : A1 = A2 := by cases eA; rfl
                  clear hWL
                  have x0 : w1.cell? ⟨A1, 0, none⟩ = some (.string ⟨#[103, 111]⟩) := t0
                  have x1 : w1.cell? ⟨A1, 1, none⟩ = some (.string ⟨y.toArray⟩) := t1
                  clear t0 t1 eA
                  go_wp2_with fail
                  refine (HM.out _).mono ?_
                  rintro e9 w2 ⟨rfl, h2⟩
                  have hb2 := Lib.hid (bext hb1.out h2.out)
                  go_wp2
                  refine bodyPost_ret (v := .tuple #[.string ⟨#[]⟩, .int .i64 0, .int .i64 7]) (by simp [results, Tryd.results11, go_sem]) rfl ?_
                  exact ⟨by rw [HV.out], hb2⟩
                | false =>
                  have HN := Lib.hid (hnx ⟨p, n, 1⟩ (by rw [hone, hsp, if_neg (by rw [hst]; simp), hst]))
                  clear hone hnx hno hst hsp hn hu n1 n1b
                  go_wp2_with fail
                  refine (words_ref line wr lline).mono ?_
                  rintro e9 w1 ⟨a1, c1, rfl, h1⟩
                  rw [hWL] at h1 ⊢
                  have hb1 := Lib.hid (bext hb.out (h1.out.2))
                  obtain ⟨A1, rfl, t0⟩ := h1.out.1 0 (by simp)
                  obtain ⟨A2, eA, t1⟩ := h1.out.1 1 (by simp)
                  obtain rfl : A1 = A2 := by cases eA; rfl
                  clear hWL
                  have x0 : w1.cell? ⟨A1, 0, none⟩ = some (.string ⟨#[103, 111]⟩) := t0
                  have x1 : w1.cell? ⟨A1, 1, none⟩ = some (.string ⟨y.toArray⟩) := t1
                  clear t0 t1 eA
                  go_wp2_with fail
                  refine (HM.out _).mono ?_
                  rintro e9 w2 ⟨rfl, h2⟩
                  have hb2 := Lib.hid (bext hb1.out h2.out)
                  go_wp2
                  go_roundw
                  case rel => exact ⟨k + 1, k + 1, p, n, true, rfl, rfl, rfl, by go_num, by go_num, HN, hb2⟩
                  case measure => simp [intOf]; omega
              · have HV := Lib.hid (hno (by rw [hone, hsp, if_pos (.inl hu0)]))
                have hub : (u != 0) = true := by simpa using hu0
                clear hone hnx hno hst hsp hn hu n1 n1b hu0
                go_wp2_with fail
                refine (words_ref line wr lline).mono ?_
                rintro e9 w1 ⟨a1, c1, rfl, h1⟩
                rw [hWL] at h1 ⊢
                have hb1 := Lib.hid (bext hb.out (h1.out.2))
                obtain ⟨A1, rfl, t0⟩ := h1.out.1 0 (by simp)
                obtain ⟨A2, eA, t1⟩ := h1.out.1 1 (by simp)
                obtain rfl : A1 = A2 := by cases eA; rfl
                clear hWL
                have x0 : w1.cell? ⟨A1, 0, none⟩ = some (.string ⟨#[103, 111]⟩) := t0
                have x1 : w1.cell? ⟨A1, 1, none⟩ = some (.string ⟨y.toArray⟩) := t1
                clear t0 t1 eA
                go_wp2_with fail
                refine (HM.out _).mono ?_
                rintro e9 w2 ⟨rfl, h2⟩
                have hb2 := Lib.hid (bext hb1.out h2.out)
                go_wp2
                refine bodyPost_ret (v := .tuple #[.string ⟨#[]⟩, .int .i64 0, .int .i64 7]) (by simp [results, Tryd.results11, go_sem]) rfl ?_
                exact ⟨by rw [HV.out], hb2⟩
            have n2b : (x == [103, 111]) = false := by simpa using n2
            by_cases n3 : x = [116, 111, 111, 108, 99, 104, 97, 105, 110]
            · subst n3
              have HN := hnx st (by rw [hone, step_chain])
              rw [hst] at HN
              have HN := Lib.hid HN
              clear hst
              clear hone hnx hno n1 n1b n2 n2b
              go_wp2_with fail
              refine (words_ref line wr lline).mono ?_
              rintro e9 w1 ⟨a1, c1, rfl, h1⟩
              rw [hWL] at h1 ⊢
              have hb1 := Lib.hid (bext hb.out (h1.out.2))
              obtain ⟨A1, rfl, t0⟩ := h1.out.1 0 (by simp)
              obtain ⟨A2, eA, t1⟩ := h1.out.1 1 (by simp)
              obtain rfl : A1 = A2 := by cases eA; rfl
              clear hWL
              have x0 : w1.cell? ⟨A1, 0, none⟩ = some (.string ⟨#[116, 111, 111, 108, 99, 104, 97, 105, 110]⟩) := t0
              have x1 : w1.cell? ⟨A1, 1, none⟩ = some (.string ⟨y.toArray⟩) := t1
              clear t0 t1 eA
              go_wp2
              go_roundw
              case rel => exact ⟨k + 1, k + 1, p, m, t, rfl, rfl, rfl, by go_num, by go_num, HN, hb1⟩
              case measure => simp [intOf]; omega
            · have HV := Lib.hid (hno (by rw [hone, step_other n1 n2 n3]))
              have n3b : (x == [116, 111, 111, 108, 99, 104, 97, 105, 110]) = false := by simpa using n3
              clear hone hnx hno
              go_wp2_with fail
              refine (words_ref line wr lline).mono ?_
              rintro e9 w1 ⟨a1, c1, rfl, h1⟩
              rw [hWL] at h1 ⊢
              have hb1 := Lib.hid (bext hb.out (h1.out.2))
              obtain ⟨A1, rfl, t0⟩ := h1.out.1 0 (by simp)
              obtain ⟨A2, eA, t1⟩ := h1.out.1 1 (by simp)
              obtain rfl : A1 = A2 := by cases eA; rfl
              clear hWL
              have x0 : w1.cell? ⟨A1, 0, none⟩ = some (.string ⟨x.toArray⟩) := t0
              have x1 : w1.cell? ⟨A1, 1, none⟩ = some (.string ⟨y.toArray⟩) := t1
              clear t0 t1 eA
              go_wp2
              refine bodyPost_ret (v := .tuple #[.string ⟨#[]⟩, .int .i64 0, .int .i64 7]) (by simp [results, Tryd.results11, go_sem]) rfl ?_
              exact ⟨by rw [HV.out], hb1⟩
          · have HV := Lib.hid (hno (by rw [hone, step_bad w2]))
            have v0 : ((WL.length : Int) == 0) = false := by simp; exact w0
            have v2 : ((WL.length : Int) != 2) = true := by simp; omega
            clear hone hnx hno
            go_wp2_with fail
            refine (words_ref line wr lline).mono ?_
            rintro e9 w1 ⟨a1, c1, rfl, h1⟩
            rw [hWL] at h1 ⊢
            have hb1 := Lib.hid (bext hb.out (h1.out.2))
            clear hWL w0 w2
            go_wp2
            refine bodyPost_ret (v := .tuple #[.string ⟨#[]⟩, .int .i64 0, .int .i64 7]) (by simp [results, Tryd.results11, go_sem]) rfl ?_
            exact ⟨by rw [HV.out], hb1⟩
        · have hge2 : ¬ (k : Int) < b.length := by omega
          by_cases w0 : WL = []
          · subst w0
            have HN := hnx st (by unfold oneL; rw [hWL, if_pos rfl])
            rw [hst] at HN
            have HN := Lib.hid HN
            clear hnx hno hst
            go_wp2_with fail
            refine (words_ref line wr lline).mono ?_
            rintro e9 w1 ⟨a1, c1, rfl, h1⟩
            rw [hWL] at h1 ⊢
            have hb1 := Lib.hid (bext hb.out (h1.out.2))
            clear hWL
            go_wp2
            go_roundw
            case rel => exact ⟨k + 1, k + 1, p, m, t, rfl, rfl, rfl, by go_num, by go_num, HN, hb1⟩
            case measure => simp [intOf]; omega
          have hone : oneL st line = stepR st WL := by unfold oneL; rw [hWL, if_neg w0]
          by_cases w2 : WL.length = 2
          · obtain ⟨x, y, rfl⟩ : ∃ x y, WL = [x, y] := by
              match WL, w2 with
              | [x, y], _ => exact ⟨x, y, rfl⟩
            have ly : y.length ≤ 1000 := Nat.le_trans (words_short line y (by rw [hWL]; simp)) (by omega)
            clear w0 w2
            by_cases n1 : x = [109, 111, 100, 117, 108, 101]
            · subst n1
              by_cases hp : p = []
              · cases hpy : pathL y with
                | true =>
                  have HN := Lib.hid (hnx ⟨y, m, if t then 1 else 0⟩ (by rw [hone, step_mod, if_neg (by rw [hpy, hst]; simp [hp]), hst]))
                  subst hp
                  clear hone hnx hno hst
                  go_wp2_with fail
                  refine (words_ref line wr lline).mono ?_
                  rintro e9 w1 ⟨a1, c1, rfl, h1⟩
                  rw [hWL] at h1 ⊢
                  have hb1 := Lib.hid (bext hb.out (h1.out.2))
                  obtain ⟨A1, rfl, t0⟩ := h1.out.1 0 (by simp)
                  obtain ⟨A2, eA, t1⟩ := h1.out.1 1 (by simp)
                  obtain rfl : A1 = A2 := by cases eA; rfl
                  clear hWL
                  have x0 : w1.cell? ⟨A1, 0, none⟩ = some (.string ⟨#[109, 111, 100, 117, 108, 101]⟩) := t0
                  have x1 : w1.cell? ⟨A1, 1, none⟩ = some (.string ⟨y.toArray⟩) := t1
                  clear t0 t1 eA
                  go_wp2_with fail
                  refine (path_ref y _ (by omega)).mono ?_
                  rintro e9 w' ⟨rfl, h9⟩
                  obtain rfl := h9
                  rw [hpy]
                  clear hpy
                  go_wp2
                  go_roundw
                  case rel => exact ⟨k + 1, k + 1, y, m, t, rfl, rfl, rfl, by go_num, by go_num, HN, hb1⟩
                  case measure => simp [intOf]; omega
                | false =>
                  have HV := Lib.hid (hno (by rw [hone, step_mod, if_pos (.inr hpy)]))
                  subst hp
                  clear hone hnx hno hst
                  go_wp2_with fail
                  refine (words_ref line wr lline).mono ?_
                  rintro e9 w1 ⟨a1, c1, rfl, h1⟩
                  rw [hWL] at h1 ⊢
                  have hb1 := Lib.hid (bext hb.out (h1.out.2))
                  obtain ⟨A1, rfl, t0⟩ := h1.out.1 0 (by simp)
                  obtain ⟨A2, eA, t1⟩ := h1.out.1 1 (by simp)
                  obtain rfl : A1 = A2 := by cases eA; rfl
                  clear hWL
                  have x0 : w1.cell? ⟨A1, 0, none⟩ = some (.string ⟨#[109, 111, 100, 117, 108, 101]⟩) := t0
                  have x1 : w1.cell? ⟨A1, 1, none⟩ = some (.string ⟨y.toArray⟩) := t1
                  clear t0 t1 eA
                  go_wp2_with fail
                  refine (path_ref y _ (by omega)).mono ?_
                  rintro e9 w' ⟨rfl, h9⟩
                  obtain rfl := h9
                  rw [hpy]
                  clear hpy
                  go_wp2
                  refine bodyPost_ret (v := .tuple #[.string ⟨#[]⟩, .int .i64 0, .int .i64 7]) (by simp [results, Tryd.results11, go_sem]) rfl ?_
                  exact ⟨by rw [HV.out], hb1⟩
              · have HV := Lib.hid (hno (by rw [hone, step_mod, if_pos (.inl (by rw [hst]; exact hp))]))
                have hpe : p.isEmpty = false := by simpa using hp
                clear hone hnx hno hst hp
                go_wp2_with fail
                refine (words_ref line wr lline).mono ?_
                rintro e9 w1 ⟨a1, c1, rfl, h1⟩
                rw [hWL] at h1 ⊢
                have hb1 := Lib.hid (bext hb.out (h1.out.2))
                obtain ⟨A1, rfl, t0⟩ := h1.out.1 0 (by simp)
                obtain ⟨A2, eA, t1⟩ := h1.out.1 1 (by simp)
                obtain rfl : A1 = A2 := by cases eA; rfl
                clear hWL
                have x0 : w1.cell? ⟨A1, 0, none⟩ = some (.string ⟨#[109, 111, 100, 117, 108, 101]⟩) := t0
                have x1 : w1.cell? ⟨A1, 1, none⟩ = some (.string ⟨y.toArray⟩) := t1
                clear t0 t1 eA
                go_wp2
                refine bodyPost_ret (v := .tuple #[.string ⟨#[]⟩, .int .i64 0, .int .i64 7]) (by simp [results, Tryd.results11, go_sem]) rfl ?_
                exact ⟨by rw [HV.out], hb1⟩
            have n1b : (x == [109, 111, 100, 117, 108, 101]) = false := by simpa using n1
            by_cases n2 : x = [103, 111]
            · subst n2
              obtain ⟨n, hn⟩ : ∃ n, (minorG y).1 = n := ⟨_, rfl⟩
              obtain ⟨u, hu⟩ : ∃ n, (minorG y).2 = n := ⟨_, rfl⟩
              have HM := fun w2 => minor_ref y w2 ly
              unfold MinPost at HM
              rw [hn, hu] at HM
              have HM := Lib.hid HM
              have hsp : stepR st [[103, 111], y] = if u ≠ 0 ∨ st.many ≠ 0 then none else some { st with minor := n, many := 1 } := by
                rw [step_go, hn, hu]
              by_cases hu0 : u = 0
              · subst hu0
                cases t with
                | true =>
                  have HV := Lib.hid (hno (by rw [hone, hsp, if_pos (.inr (by rw [hst]; simp))]))
                  clear hone hnx hno hst hsp hn hu n1 n1b
                  go_wp2_with fail
                  refine (words_ref line wr lline).mono ?_
                  rintro e9 w1 ⟨a1, c1, rfl, h1⟩
                  rw [hWL] at h1 ⊢
                  have hb1 := Lib.hid (bext hb.out (h1.out.2))
                  obtain ⟨A1, rfl, t0⟩ := h1.out.1 0 (by simp)
                  obtain ⟨A2, eA, t1⟩ := h1.out.1 1 (by simp)
                  obtain rfl : A1 = A2 := by cases eA; rfl
                  clear hWL
                  have x0 : w1.cell? ⟨A1, 0, none⟩ = some (.string ⟨#[103, 111]⟩) := t0
                  have x1 : w1.cell? ⟨A1, 1, none⟩ = some (.string ⟨y.toArray⟩) := t1
                  clear t0 t1 eA
                  go_wp2_with fail
                  refine (HM.out _).mono ?_
                  rintro e9 w2 ⟨rfl, h2⟩
                  have hb2 := Lib.hid (bext hb1.out h2.out)
                  go_wp2
                  refine bodyPost_ret (v := .tuple #[.string ⟨#[]⟩, .int .i64 0, .int .i64 7]) (by simp [results, Tryd.results11, go_sem]) rfl ?_
                  exact ⟨by rw [HV.out], hb2⟩
                | false =>
                  have HN := Lib.hid (hnx ⟨p, n, 1⟩ (by rw [hone, hsp, if_neg (by rw [hst]; simp), hst]))
                  clear hone hnx hno hst hsp hn hu n1 n1b
                  go_wp2_with fail
                  refine (words_ref line wr lline).mono ?_
                  rintro e9 w1 ⟨a1, c1, rfl, h1⟩
                  rw [hWL] at h1 ⊢
                  have hb1 := Lib.hid (bext hb.out (h1.out.2))
                  obtain ⟨A1, rfl, t0⟩ := h1.out.1 0 (by simp)
                  obtain ⟨A2, eA, t1⟩ := h1.out.1 1 (by simp)
                  obtain rfl : A1 = A2 := by cases eA; rfl
                  clear hWL
                  have x0 : w1.cell? ⟨A1, 0, none⟩ = some (.string ⟨#[103, 111]⟩) := t0
                  have x1 : w1.cell? ⟨A1, 1, none⟩ = some (.string ⟨y.toArray⟩) := t1
                  clear t0 t1 eA
                  go_wp2_with fail
                  refine (HM.out _).mono ?_
                  rintro e9 w2 ⟨rfl, h2⟩
                  have hb2 := Lib.hid (bext hb1.out h2.out)
                  go_wp2
                  go_roundw
                  case rel => exact ⟨k + 1, k + 1, p, n, true, rfl, rfl, rfl, by go_num, by go_num, HN, hb2⟩
                  case measure => simp [intOf]; omega
              · have HV := Lib.hid (hno (by rw [hone, hsp, if_pos (.inl hu0)]))
                have hub : (u != 0) = true := by simpa using hu0
                clear hone hnx hno hst hsp hn hu n1 n1b hu0
                go_wp2_with fail
                refine (words_ref line wr lline).mono ?_
                rintro e9 w1 ⟨a1, c1, rfl, h1⟩
                rw [hWL] at h1 ⊢
                have hb1 := Lib.hid (bext hb.out (h1.out.2))
                obtain ⟨A1, rfl, t0⟩ := h1.out.1 0 (by simp)
                obtain ⟨A2, eA, t1⟩ := h1.out.1 1 (by simp)
                obtain rfl : A1 = A2 := by cases eA; rfl
                clear hWL
                have x0 : w1.cell? ⟨A1, 0, none⟩ = some (.string ⟨#[103, 111]⟩) := t0
                have x1 : w1.cell? ⟨A1, 1, none⟩ = some (.string ⟨y.toArray⟩) := t1
                clear t0 t1 eA
                go_wp2_with fail
                refine (HM.out _).mono ?_
                rintro e9 w2 ⟨rfl, h2⟩
                have hb2 := Lib.hid (bext hb1.out h2.out)
                go_wp2
                refine bodyPost_ret (v := .tuple #[.string ⟨#[]⟩, .int .i64 0, .int .i64 7]) (by simp [results, Tryd.results11, go_sem]) rfl ?_
                exact ⟨by rw [HV.out], hb2⟩
            have n2b : (x == [103, 111]) = false := by simpa using n2
            by_cases n3 : x = [116, 111, 111, 108, 99, 104, 97, 105, 110]
            · subst n3
              have HN := hnx st (by rw [hone, step_chain])
              rw [hst] at HN
              have HN := Lib.hid HN
              clear hst
              clear hone hnx hno n1 n1b n2 n2b
              go_wp2_with fail
              refine (words_ref line wr lline).mono ?_
              rintro e9 w1 ⟨a1, c1, rfl, h1⟩
              rw [hWL] at h1 ⊢
              have hb1 := Lib.hid (bext hb.out (h1.out.2))
              obtain ⟨A1, rfl, t0⟩ := h1.out.1 0 (by simp)
              obtain ⟨A2, eA, t1⟩ := h1.out.1 1 (by simp)
              obtain rfl : A1 = A2 := by cases eA; rfl
              clear hWL
              have x0 : w1.cell? ⟨A1, 0, none⟩ = some (.string ⟨#[116, 111, 111, 108, 99, 104, 97, 105, 110]⟩) := t0
              have x1 : w1.cell? ⟨A1, 1, none⟩ = some (.string ⟨y.toArray⟩) := t1
              clear t0 t1 eA
              go_wp2
              go_roundw
              case rel => exact ⟨k + 1, k + 1, p, m, t, rfl, rfl, rfl, by go_num, by go_num, HN, hb1⟩
              case measure => simp [intOf]; omega
            · have HV := Lib.hid (hno (by rw [hone, step_other n1 n2 n3]))
              have n3b : (x == [116, 111, 111, 108, 99, 104, 97, 105, 110]) = false := by simpa using n3
              clear hone hnx hno
              go_wp2_with fail
              refine (words_ref line wr lline).mono ?_
              rintro e9 w1 ⟨a1, c1, rfl, h1⟩
              rw [hWL] at h1 ⊢
              have hb1 := Lib.hid (bext hb.out (h1.out.2))
              obtain ⟨A1, rfl, t0⟩ := h1.out.1 0 (by simp)
              obtain ⟨A2, eA, t1⟩ := h1.out.1 1 (by simp)
              obtain rfl : A1 = A2 := by cases eA; rfl
              clear hWL
              have x0 : w1.cell? ⟨A1, 0, none⟩ = some (.string ⟨x.toArray⟩) := t0
              have x1 : w1.cell? ⟨A1, 1, none⟩ = some (.string ⟨y.toArray⟩) := t1
              clear t0 t1 eA
              go_wp2
              refine bodyPost_ret (v := .tuple #[.string ⟨#[]⟩, .int .i64 0, .int .i64 7]) (by simp [results, Tryd.results11, go_sem]) rfl ?_
              exact ⟨by rw [HV.out], hb1⟩
          · have HV := Lib.hid (hno (by rw [hone, step_bad w2]))
            have v0 : ((WL.length : Int) == 0) = false := by simp; exact w0
            have v2 : ((WL.length : Int) != 2) = true := by simp; omega
            clear hone hnx hno
            go_wp2_with fail
            refine (words_ref line wr lline).mono ?_
            rintro e9 w1 ⟨a1, c1, rfl, h1⟩
            rw [hWL] at h1 ⊢
            have hb1 := Lib.hid (bext hb.out (h1.out.2))
            clear hWL w0 w2
            go_wp2
            refine bodyPost_ret (v := .tuple #[.string ⟨#[]⟩, .int .i64 0, .int .i64 7]) (by simp [results, Tryd.results11, go_sem]) rfl ?_
            exact ⟨by rw [HV.out], hb1⟩
      · have hlt : k < b.length := by
          apply Classical.byContradiction
          intro h
          exact hstop fun h2 => absurd h2 h
        have e2 := byte_at b k hlt
        obtain ⟨d, hd⟩ : ∃ d, b[k] = d := ⟨_, rfl⟩
        have hc : b[k] ≠ 10 := fun e => hstop fun _ => e
        have HN := Lib.hid (inv_skip HI.out hlt hc)
        rw [hd] at e2 hc
        have q10 : ((d.toNat : Int) != 10) = true := by
          simp only [bne_iff_ne, ne_eq]
          intro e
          exact hc (UInt8.toNat_inj.1 (show d.toNat = 10 by omega))
        have hu := d.toNat_lt
        clear hd hc hstop hst
        go_wp2
        go_roundw
        case rel => exact ⟨k + 1, f, p, m, t, rfl, rfl, rfl, rfl, by go_num, HN, hb⟩
        case measure => simp [intOf]; omega
    · have HE := Lib.hid (inv_end HI.out (by omega))
      clear hst
      by_cases hp : p = []
      · subst hp
        go_wp2
        refine bodyPost_ret (v := .tuple #[.string ⟨#[]⟩, .int .i64 0, .int .i64 7]) (by simp [results, Tryd.results11, go_sem]) rfl ?_
        exact ⟨by rw [HE.out]; rfl, hb⟩
      · have hpe : p.isEmpty = false := by simpa using hp
        have HQ := Lib.hid (show readL b = (p, m, 0) by rw [HE.out]; unfold fin; simp only; rw [if_neg hp])
        clear hp
        go_wp2
        refine bodyPost_ret (v := .tuple #[.string ⟨p.toArray⟩, .int .i64 m, .int .i64 0]) (by simp [results, Tryd.results11, go_sem]) rfl ?_
        exact ⟨by rw [HQ.out], hb⟩
end Go.Proofs.YtgldnkpanimihaaDoor.Rf
