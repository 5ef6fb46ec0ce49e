/-
  tag: a tag's version, walked.
-/
import Derived.Lib.OthersKept
import Derived.Lib.AppendIntMem
import Derived.Lib.AtoiAllCases
import Derived.Lib.SmallJoins
import Derived.Lib.IndexMore
import Derived.Test.YtagaoilgnhdebaaDoorShelf
import Derived.Test.YtagaoilgnhdebaaDoorTgB
namespace Go.Proofs.YtagaoilgnhdebaaDoor
set_option linter.unusedSimpArgs false
set_option linter.unusedVariables false
open Go.RowKit

theorem var_on {P : Program} {w w' : World} {name : String} {cs : Array Value} (h : w.var? P name = some cs) (hb : Below w.heap.size w w') : w'.var? P name = some cs := by
  unfold World.var? at h ⊢
  cases hg : P.globalNamed name with
  | none => rw [hg] at h; cases h
  | some g =>
    rw [hg] at h
    simp only [Option.bind_some] at h ⊢
    cases hx : w.heap[g]? with
    | none => rw [hx] at h; cases h
    | some o =>
      rw [hb.block g (Array.getElem?_eq_some_iff.1 hx).1, hx]
      rw [hx] at h
      exact h
def Tab (w : World) : Prop := Lib.TabIs Tryd.prog w "internal/strconv.uint64pow10" .u64 Lib.pow10Tab
theorem Tab.on {w w' : World} (h : Tab w) (hb : Below w.heap.size w w') : Tab w' := var_on h hb
def Vr (n : String) (w : World) : Prop := ∃ tp p, w.var? Tryd.prog n = some #[.iface tp p]
theorem Vr.on {n : String} {w w' : World} (h : Vr n w) (hb : Below w.heap.size w w') : Vr n w' := h.elim fun tp h => h.elim fun p h => ⟨tp, p, var_on h hb⟩
/-- What the library's variables hold. -/
structure Env (w : World) : Prop where
  tab : Tab w
  rng : Vr "strconv.ErrRange" w
  syn : Vr "strconv.ErrSyntax" w
theorem Env.on {w w' : World} (h : Env w) (hb : Below w.heap.size w w') : Env w' := ⟨h.tab.on hb, h.rng.on hb, h.syn.on hb⟩
theorem itoa_any (n : Int) (w : World) (h0 : -9223372036854775808 ≤ n) (h1 : n ≤ 9223372036854775807) (hE : Env w) :
    Calls Tryd.prog 52 #[.int .i64 n] w fun e w' => e = .returned (.string ⟨(Lib.itoa n).toArray⟩) ∧ Hid (Below w.heap.size w w') :=
  (Tryd.strconv_Itoa n h0 h1 w hE.tab).mono fun e w' ⟨he, k, os, hw⟩ => ⟨he, Lib.hid (by rw [hw]; exact Lib.below_grow _ w (Nat.le_refl _) k os)⟩
theorem atoi_ok (s : List UInt8) (v : Int) (h : Lib.atoiAll s = .ok v) (w : World) (hs : s.length ≤ 140737488351232) :
    Calls Tryd.prog 51 #[.string ⟨s.toArray⟩] w fun e w' => e = .returned (.tuple #[.int .i64 v, .nilIface]) ∧ Hid (Below w.heap.size w w') :=
  (Tryd.strconv_Atoi_ok ⟨s.toArray⟩ (by simp [ByteArray.size]; omega) v h w).mono fun e w' ⟨he, hw⟩ => ⟨he, Lib.hid (by
    rcases hw with rfl | ⟨t, rfl⟩
    · exact Below.refl _ _
    · exact Go.Joins.below_bytesWorld _ _ _ _ (Nat.le_refl _))⟩
/-- Told by an error: a number, and something that is not nil. -/
theorem atoi_err (s : List UInt8) (h : ∀ v, Lib.atoiAll s ≠ .ok v) (w : World) (hE : Env w) (hs : s.length ≤ 140737488351232) :
    Calls Tryd.prog 51 #[.string ⟨s.toArray⟩] w fun e w' => ∃ (z : Int) (N : Nat), e = .returned (.tuple #[.int .i64 z, .iface 98 (.pointer (some ⟨N, 0, none⟩))]) ∧ Hid (Below w.heap.size w w') := by
  have hsz : (⟨s.toArray⟩ : ByteArray).size ≤ 281474976710656 := by simp [ByteArray.size]; omega
  cases ha : Lib.atoiAll s with
  | ok v => exact absurd ha (h v)
  | «syntax» =>
    obtain ⟨tp, p, hv⟩ := hE.syn
    exact (Tryd.strconv_Atoi_syntax_var ⟨s.toArray⟩ hsz ha tp p w hv).mono fun e w' ⟨N, he, _, _, hb⟩ => ⟨0, N, he, Lib.hid hb⟩
  | range =>
    obtain ⟨tp, p, hv⟩ := hE.rng
    exact (Tryd.strconv_Atoi_range_var ⟨s.toArray⟩ hsz ha tp p w hv).mono fun e w' ⟨N, he, _, _, hb⟩ => ⟨_, N, he, Lib.hid hb⟩


/-- A text's number of at most 99; -1. -/
def numV (D : List UInt8) : Int := match Lib.atoiAll D with | .ok v => if Lib.itoa v = D ∧ 0 ≤ v ∧ v ≤ 99 then v else -1 | _ => -1
theorem verT_eq (s : List UInt8) : verT s = if Lib.hasPrefix s [103, 111, 49, 46] then numV (s.drop 4) else -1 := rfl
/-- How a text's number may come out. -/
theorem numV_cases (D : List UInt8) : (∃ v, Lib.atoiAll D = .ok v ∧ (-9223372036854775808 ≤ v ∧ v ≤ 9223372036854775807) ∧ ((Lib.itoa v == D) = false ∧ numV D = -1 ∨ (Lib.itoa v = D ∧ (v < 0 ∧ numV D = -1 ∨ (¬ v < 0 ∧ (99 < v ∧ numV D = -1 ∨ ¬ 99 < v ∧ numV D = v)))))) ∨ ((∀ v, Lib.atoiAll D ≠ .ok v) ∧ numV D = -1) := by
  unfold numV
  cases h : Lib.atoiAll D with
  | «syntax» => exact .inr ⟨(fun v e => by cases e), rfl⟩
  | range => exact .inr ⟨(fun v e => by cases e), rfl⟩
  | ok v =>
    refine .inl ⟨v, rfl, Lib.atoiAll_bounds h, ?_⟩
    simp only
    by_cases h1 : Lib.itoa v = D
    · refine .inr ⟨h1, ?_⟩
      by_cases h2 : v < 0
      · exact .inl ⟨h2, if_neg (by omega)⟩
      · refine .inr ⟨h2, ?_⟩
        by_cases h3 : 99 < v
        · exact .inl ⟨h3, if_neg (by omega)⟩
        · exact .inr ⟨h3, if_pos ⟨h1, by omega, by omega⟩⟩
    · exact .inl ⟨by simpa using h1, if_neg (fun h => h1 h.1)⟩
def VerPost (r : Int) (w : World) (e : Ending) (w' : World) : Prop := e = .returned (.int .i64 r) ∧ Hid (Below w.heap.size w w')

set_option maxRecDepth 100000 in
set_option maxHeartbeats 8000000 in
theorem version_any (s : List UInt8) (w : World) (hE : Env w) (hs : s.length ≤ 140737488351232) :
    Calls Tryd.prog 39 #[.string ⟨s.toArray⟩] w (VerPost (verT s) w) := by
  have hP := Tryd.strings_CutPrefix ⟨s.toArray⟩ ⟨([103, 111, 49, 46] : List UInt8).toArray⟩ w
  simp only [List.toList_toArray] at hP
  obtain ⟨V, hV⟩ : ∃ V, verT s = V := ⟨_, rfl⟩
  rw [verT_eq] at hV
  have HE := Lib.hid hE
  clear hE
  rw [verT_eq, hV]
  cases hp : Lib.hasPrefix s [103, 111, 49, 46] with
  | false =>
    rw [hp] at hP hV
    have HV := Lib.hid (show V = -1 from hV.symm)
    have HP := Lib.hid (show Calls Tryd.prog 48 #[.string ⟨s.toArray⟩, .string ⟨#[103, 111, 49, 46]⟩] w fun e w' => e = .returned (.tuple #[.string ⟨s.toArray⟩, .bool false]) ∧ w' = w by simpa [Lib.trimPrefix, hp] using hP)
    clear hV hP hp
    go_enter Tryd.func39, Tryd.ntmps39
    rcases numV_cases s with ⟨v, hok, ⟨v0, v1⟩, ⟨hne, hN⟩ | ⟨hie, ⟨hneg, hN⟩ | ⟨hneg, ⟨hbig, hN⟩ | ⟨hbig, hN⟩⟩⟩⟩ | ⟨herr, hN⟩
    · have HN := Lib.hid hN
      have HA := Lib.hid (atoi_ok s v hok w (by omega))
      have HI := Lib.hid fun wa (hE : Env wa) => itoa_any v wa v0 v1 hE
      skip
      clear hok hN
      go_wp2_with fail
      refine HP.out.mono ?_
      rintro e w' ⟨rfl, h9⟩
      obtain rfl := h9
      go_wp2_with fail
      refine HA.out.mono ?_
      rintro e wa ⟨rfl, hwa⟩
      go_wp2
      refine bodyPost_ret (v := .int .i64 (-1)) (by simp [results, Tryd.results39, go_sem]) rfl ?_
      exact ⟨by rw [HV.out], Lib.hid hwa.out⟩
    · have HN := Lib.hid hN
      have HA := Lib.hid (atoi_ok s v hok w (by omega))
      have HI := Lib.hid fun wa (hE : Env wa) => itoa_any v wa v0 v1 hE
      skip
      clear hok hN
      go_wp2_with fail
      refine HP.out.mono ?_
      rintro e w' ⟨rfl, h9⟩
      obtain rfl := h9
      go_wp2_with fail
      refine HA.out.mono ?_
      rintro e wa ⟨rfl, hwa⟩
      go_wp2
      refine bodyPost_ret (v := .int .i64 (-1)) (by simp [results, Tryd.results39, go_sem]) rfl ?_
      exact ⟨by rw [HV.out], Lib.hid hwa.out⟩
    · have HN := Lib.hid hN
      have HA := Lib.hid (atoi_ok s v hok w (by omega))
      have HI := Lib.hid fun wa (hE : Env wa) => itoa_any v wa v0 v1 hE
      skip
      clear hok hN
      go_wp2_with fail
      refine HP.out.mono ?_
      rintro e w' ⟨rfl, h9⟩
      obtain rfl := h9
      go_wp2_with fail
      refine HA.out.mono ?_
      rintro e wa ⟨rfl, hwa⟩
      go_wp2
      refine bodyPost_ret (v := .int .i64 (-1)) (by simp [results, Tryd.results39, go_sem]) rfl ?_
      exact ⟨by rw [HV.out], Lib.hid hwa.out⟩
    · have HN := Lib.hid hN
      have HA := Lib.hid (atoi_ok s v hok w (by omega))
      have HI := Lib.hid fun wa (hE : Env wa) => itoa_any v wa v0 v1 hE
      skip
      clear hok hN
      go_wp2_with fail
      refine HP.out.mono ?_
      rintro e w' ⟨rfl, h9⟩
      obtain rfl := h9
      go_wp2_with fail
      refine HA.out.mono ?_
      rintro e wa ⟨rfl, hwa⟩
      go_wp2
      refine bodyPost_ret (v := .int .i64 (-1)) (by simp [results, Tryd.results39, go_sem]) rfl ?_
      exact ⟨by rw [HV.out], Lib.hid hwa.out⟩
    · have HN := Lib.hid hN
      have HA := Lib.hid (atoi_err s herr w HE.out (by omega))
      clear herr hN
      go_wp2_with fail
      refine HP.out.mono ?_
      rintro e w' ⟨rfl, h9⟩
      obtain rfl := h9
      go_wp2_with fail
      refine HA.out.mono ?_
      rintro e wa ⟨z, N, rfl, hwa⟩
      go_wp2
      refine bodyPost_ret (v := .int .i64 (-1)) (by simp [results, Tryd.results39, go_sem]) rfl ?_
      exact ⟨by rw [HV.out], Lib.hid hwa.out⟩
  | true =>
    rw [hp] at hV
    have HV := Lib.hid (show V = numV (s.drop 4) from hV.symm)
    rw [hp, Lib.trimPrefix, hp, if_pos rfl] at hP
    have hrl : (s.drop 4).length ≤ 140737488351232 := by simp; omega
    have hP : Calls Tryd.prog 48 #[.string ⟨s.toArray⟩, .string ⟨#[103, 111, 49, 46]⟩] w fun e w' => e = .returned (.tuple #[.string ⟨(s.drop 4).toArray⟩, .bool true]) ∧ w' = w := hP
    obtain ⟨R, hR⟩ : ∃ R, s.drop 4 = R := ⟨_, rfl⟩
    rw [hR] at HV hP hrl
    have HP := Lib.hid hP
    clear hR hP hp hV
    go_enter Tryd.func39, Tryd.ntmps39
    rcases numV_cases R with ⟨v, hok, ⟨v0, v1⟩, ⟨hne, hN⟩ | ⟨hie, ⟨hneg, hN⟩ | ⟨hneg, ⟨hbig, hN⟩ | ⟨hbig, hN⟩⟩⟩⟩ | ⟨herr, hN⟩
    · have HN := Lib.hid hN
      have HA := Lib.hid (atoi_ok R v hok w (by omega))
      have HI := Lib.hid fun wa (hE : Env wa) => itoa_any v wa v0 v1 hE
      skip
      clear hok hN
      go_wp2_with fail
      refine HP.out.mono ?_
      rintro e w' ⟨rfl, h9⟩
      obtain rfl := h9
      go_wp2_with fail
      refine HA.out.mono ?_
      rintro e wa ⟨rfl, hwa⟩
      go_wp2_with fail
      refine (HI.out wa (HE.out.on hwa.out)).mono ?_
      rintro e wb ⟨rfl, hwb⟩
      go_wp2
      refine bodyPost_ret (v := .int .i64 (-1)) (by simp [results, Tryd.results39, go_sem]) rfl ?_
      exact ⟨by rw [HV.out, HN.out], Lib.hid (bext hwa.out hwb.out)⟩
    · have HN := Lib.hid hN
      have HA := Lib.hid (atoi_ok R v hok w (by omega))
      have HI := Lib.hid fun wa (hE : Env wa) => itoa_any v wa v0 v1 hE
      rw [hie] at HI
      clear hok hN
      go_wp2_with fail
      refine HP.out.mono ?_
      rintro e w' ⟨rfl, h9⟩
      obtain rfl := h9
      go_wp2_with fail
      refine HA.out.mono ?_
      rintro e wa ⟨rfl, hwa⟩
      go_wp2_with fail
      refine (HI.out wa (HE.out.on hwa.out)).mono ?_
      rintro e wb ⟨rfl, hwb⟩
      go_wp2
      refine bodyPost_ret (v := .int .i64 (-1)) (by simp [results, Tryd.results39, go_sem]) rfl ?_
      exact ⟨by rw [HV.out, HN.out], Lib.hid (bext hwa.out hwb.out)⟩
    · have HN := Lib.hid hN
      have HA := Lib.hid (atoi_ok R v hok w (by omega))
      have HI := Lib.hid fun wa (hE : Env wa) => itoa_any v wa v0 v1 hE
      rw [hie] at HI
      clear hok hN
      go_wp2_with fail
      refine HP.out.mono ?_
      rintro e w' ⟨rfl, h9⟩
      obtain rfl := h9
      go_wp2_with fail
      refine HA.out.mono ?_
      rintro e wa ⟨rfl, hwa⟩
      go_wp2_with fail
      refine (HI.out wa (HE.out.on hwa.out)).mono ?_
      rintro e wb ⟨rfl, hwb⟩
      go_wp2
      refine bodyPost_ret (v := .int .i64 (-1)) (by simp [results, Tryd.results39, go_sem]) rfl ?_
      exact ⟨by rw [HV.out, HN.out], Lib.hid (bext hwa.out hwb.out)⟩
    · have HN := Lib.hid hN
      have HA := Lib.hid (atoi_ok R v hok w (by omega))
      have HI := Lib.hid fun wa (hE : Env wa) => itoa_any v wa v0 v1 hE
      rw [hie] at HI
      clear hok hN
      go_wp2_with fail
      refine HP.out.mono ?_
      rintro e w' ⟨rfl, h9⟩
      obtain rfl := h9
      go_wp2_with fail
      refine HA.out.mono ?_
      rintro e wa ⟨rfl, hwa⟩
      go_wp2_with fail
      refine (HI.out wa (HE.out.on hwa.out)).mono ?_
      rintro e wb ⟨rfl, hwb⟩
      go_wp2
      refine bodyPost_ret (v := .int .i64 v) (by simp [results, Tryd.results39, go_sem]) rfl ?_
      exact ⟨by rw [HV.out, HN.out], Lib.hid (bext hwa.out hwb.out)⟩
    · have HN := Lib.hid hN
      have HA := Lib.hid (atoi_err R herr w HE.out (by omega))
      clear herr hN
      go_wp2_with fail
      refine HP.out.mono ?_
      rintro e w' ⟨rfl, h9⟩
      obtain rfl := h9
      go_wp2_with fail
      refine HA.out.mono ?_
      rintro e wa ⟨z, N, rfl, hwa⟩
      go_wp2
      refine bodyPost_ret (v := .int .i64 (-1)) (by simp [results, Tryd.results39, go_sem]) rfl ?_
      exact ⟨by rw [HV.out, HN.out], Lib.hid hwa.out⟩
end Go.Proofs.YtagaoilgnhdebaaDoor
