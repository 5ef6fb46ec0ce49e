/-
  VerNotes, walked.
-/
import Derived.Test.YtgldnkpanimihaaDoorVrL
import Derived.Test.YtgldnkpanimihaaDoorVrN
namespace Go.Proofs.YtgldnkpanimihaaDoor
set_option linter.unusedSimpArgs false
set_option linter.unusedVariables false
open Go.RowKit

def Rd (l : List UInt8) (p : List UInt8) (m e : Int) : Prop := ∀ (a : Option Addr) (c : Nat) (w : World), Env w → BAt w a l → Calls Tryd.prog 10 #[.slice a l.length c] w fun e' w' => e' = .returned (.tuple #[.agg #[.string ⟨p.toArray⟩, .int .i64 m], .int .i64 e]) ∧ Hid (Below w.heap.size w w')
theorem rd_of {l : List UInt8} {p : List UInt8} {m e : Int} (h : readL l = (p, m, e)) (hl : l.length ≤ 65536) : Rd l p m e := fun a c w hE hb => by
  have := read_any l a c w hE hb hl
  rw [h] at this
  exact this
theorem byte_of (s : List UInt8) (i : Nat) (h : i < s.length) : ((⟨s.toArray⟩ : ByteArray)[i]'(by simpa [ByteArray.size] using h)) = s[i] := by simp [ByteArray.getElem_eq_getElem_data]

set_option maxRecDepth 100000 in
set_option maxHeartbeats 8000000 in
theorem notes_in (b note : List UInt8) (a : Option Addr) (c : Nat) (w : World) (hE : Env w) (hba : BAt w a b) (hb : b.length ≤ 500) (hn : note.length ≤ 50) :
    Calls Tryd.prog 4 #[.slice a b.length c, .string ⟨note.toArray⟩] w (Good w) := by
  obtain ⟨⟨p, m, e⟩, hr⟩ : ∃ r, readL b = r := ⟨_, rfl⟩
  obtain ⟨L, hL⟩ : ∃ L, [47, 47, 32] ++ note ++ [10, 10, 32, 9, 13, 10] ++ b ++ [10, 47, 47] ++ note = L := ⟨_, rfl⟩
  have lL : L.length ≤ 65536 := by rw [← hL]; simp; omega
  have HR := Lib.hid (rd_of hr (by omega))
  have HRL : Hid ((10 : UInt8) ∉ note → Rd L p m e) := Lib.hid fun (h : (10 : UInt8) ∉ note) => rd_of (by have := notes_plain b note h; rw [hL, hr] at this; exact this) lL
  have cat : ((((((⟨#[47, 47, 32]⟩ : ByteArray) ++ ⟨note.toArray⟩) ++ ⟨#[10, 10, 32, 9, 13, 10]⟩) ++ ⟨b.toArray⟩) ++ ⟨#[10, 47, 47]⟩) ++ ⟨note.toArray⟩) = ⟨L.toArray⟩ := by rw [← hL]; first | done | (apply ByteArray.ext; simp)
  have HCAT := Lib.hid cat
  have HE := Lib.hid hE
  have HBA := Lib.hid hba
  clear hr hL cat hE hba
  go_enter Tryd.func4, Tryd.ntmps4
  go_wp2
  go_loopw [5] (fun i wr => ∃ k : Nat, k ≤ note.length ∧ i = .int .i64 k ∧ Hid ((10 : UInt8) ∉ note.take k) ∧ w = wr) (fun i _ => note.length - (intOf i).toNat)
  case atStart => exact ⟨0, by omega, rfl, Lib.hid (by simp), rfl⟩
  case round =>
    obtain ⟨k, hk, rfl, hno, rfl⟩ := hrel
    by_cases hlt : k < note.length
    · have e2 := byte_of note k hlt
      have htk : note.take (k + 1) = note.take k ++ [note[k]] := by rw [List.take_add_one, List.getElem?_eq_getElem hlt]; rfl
      obtain ⟨d, hd⟩ : ∃ d, note[k] = d := ⟨_, rfl⟩
      rw [hd] at e2 htk
      by_cases h10 : d = 10
      · subst h10
        clear htk hd
        go_wp2
        go_ret
        exact ⟨rfl, Below.refl _ _⟩
      · have h10b : ((d.toNat : Int) == 10) = false := by
          simp only [beq_eq_false_iff_ne, ne_eq]
          intro e; exact h10 (UInt8.toNat_inj.1 (show d.toNat = 10 by omega))
        have HN2 := Lib.hid (show (10 : UInt8) ∉ note.take (k + 1) by rw [htk]; simp only [List.mem_append, List.mem_singleton, not_or]; exact ⟨hno.out, fun e => h10 e.symm⟩)
        clear htk hd h10
        go_wp2
        go_roundw
        case rel => exact ⟨k + 1, by omega, by go_num, HN2, by first | trivial | rfl⟩
        case measure => simp [intOf]; omega
    · have HRL2 := Lib.hid (HRL.out (by have := hno.out; rw [List.take_of_length_le (by omega)] at this; exact this))
      clear HRL hno
      go_wp2_with fail
      refine (HR.out a c w HE.out HBA.out).mono ?_
      rintro e' w1 ⟨rfl, h1⟩
      have hb2 := bext h1.out (below_alloc w1 (.cells #[.string ⟨p.toArray⟩, .int .i64 m] 24))
      have hcv := (HBA.out.on hb2).conv c
      have kcv := Lib.run_convert_string_bytes (P := Tryd.prog) (src := 9) (dst := 22) (e := 5) (hs := Tryd.underlying9) (hd := Tryd.underlying22) (he := Tryd.underlying5)
      have cat := HCAT.out
      have P2 := Lib.hid (Pair.new w1 (.string ⟨p.toArray⟩) (.int .i64 m))
      have HB2 := Lib.hid hb2
      have n1 : ¬ 9223372036854775807 < 3 + note.length := by omega
      have n2 : ¬ 9223372036854775807 < 3 + note.length + 6 := by omega
      have n3 : ¬ 9223372036854775807 < 3 + note.length + 6 + b.length := by omega
      have n4 : ¬ 9223372036854775807 < 3 + note.length + 6 + b.length + 3 := by omega
      have n5 : ¬ 9223372036854775807 < 3 + note.length + 6 + b.length + 3 + note.length := by omega
      have hbw := bext hb2 (Go.Joins.below_bytesWorld _ (w1.alloc (.cells #[.string ⟨p.toArray⟩, .int .i64 m] 24)) 5 ⟨L.toArray⟩ (Nat.le_refl _))
      have P3 := Lib.hid (P2.out.below (Go.Joins.below_bytesWorld _ (w1.alloc (.cells #[.string ⟨p.toArray⟩, .int .i64 m] 24)) 5 ⟨L.toArray⟩ (Nat.le_refl _)))
      have HBW := Lib.hid hbw
      have HC := Lib.hid fun a2 c2 (hb9 : BAt (Lib.bytesWorld (w1.alloc (.cells #[.string ⟨p.toArray⟩, .int .i64 m] 24)) 5 ⟨L.toArray⟩) a2 L) => (HRL2.out a2 c2 _ (HE.out.on hbw) hb9).mono (R' := fun e' w' => e' = .returned (.tuple #[.agg #[.string ⟨p.toArray⟩, .int .i64 m], .int .i64 e]) ∧ Hid (Below w.heap.size w w' ∧ Pair w' w1.heap.size (.string ⟨p.toArray⟩) (.int .i64 m)))
        (fun e' w' h => ⟨h.1, Lib.hid ⟨bext HBW.out h.2.out, P3.out.below h.2.out⟩⟩)
      have hbat : BAt (Lib.bytesWorld (w1.alloc (.cells #[.string ⟨p.toArray⟩, .int .i64 m] 24)) 5 ⟨L.toArray⟩) (some ⟨w1.heap.size + 1, 0, none⟩) L := by
        have := bat_conv (w1.alloc (.cells #[.string ⟨p.toArray⟩, .int .i64 m] 24)) L
        rw [World.size_alloc] at this
        exact this
      have HC2 := Lib.hid fun c2 => HC.out (some ⟨w1.heap.size + 1, 0, none⟩) c2 hbat
      clear hb2 hbw hbat HC
      go_wp2_with fail
      refine (HC2.out _).mono ?_
      rintro e' w3 ⟨rfl, h3⟩
      have P5 := h3.out.2.alloc (.cells #[.string ⟨p.toArray⟩, .int .i64 m] 24)
      have q0 := P5.c0
      have q1 := P5.c1
      have P6 := Pair.new w3 (.string ⟨p.toArray⟩) (.int .i64 m)
      have q2 := P6.c0
      have q3 := P6.c1
      clear P5 P6
      have hb4 := Lib.hid (bext h3.out.1 (below_alloc w3 (.cells #[.string ⟨p.toArray⟩, .int .i64 m] 24)))
      go_wp2_with fail
      refine (awake_any (w3.alloc (.cells #[.string ⟨p.toArray⟩, .int .i64 m] 24)) (HE.out.on hb4.out)).mono ?_
      rintro e' w5 ⟨rfl, h5⟩
      go_wp2
      go_ret
      exact ⟨rfl, bext hb4.out h5.out⟩
set_option maxRecDepth 100000 in
set_option maxHeartbeats 4000000 in
theorem notes_law (b : List UInt8) (a : Option Addr) (c : Nat) (note : List UInt8) (w : World) (hE : Env w) (hba : BAt w a b) (hb : b.length ≤ 9223372036854775807) (hn : note.length ≤ 9223372036854775807) :
    Calls Tryd.prog 4 #[.slice a b.length c, .string ⟨note.toArray⟩] w (Good w) := by
  by_cases h1 : 500 < (b.length : Int)
  · clear hE hba
    go_enter Tryd.func4, Tryd.ntmps4
    go_wp2
    go_ret
    exact ⟨rfl, Below.refl _ _⟩
  · by_cases h2 : 50 < (note.length : Int)
    · clear hE hba
      go_enter Tryd.func4, Tryd.ntmps4
      go_wp2
      go_ret
      exact ⟨rfl, Below.refl _ _⟩
    · exact notes_in b note a c w hE hba (by omega) (by omega)
end Go.Proofs.YtgldnkpanimihaaDoor
