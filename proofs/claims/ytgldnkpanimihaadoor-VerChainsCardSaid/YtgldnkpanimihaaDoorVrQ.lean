/-
  VerChains, walked.
-/
import Derived.Test.YtgldnkpanimihaaDoorVrP
namespace Go.Proofs.YtgldnkpanimihaaDoor
set_option linter.unusedSimpArgs false
set_option linter.unusedVariables false
open Go.RowKit

theorem digit_byte {n : Int} (h0 : 0 ≤ n) (h1 : n ≤ 255) : ∃ d : Nat, d < 10 ∧ n % 10 = (d : Int) ∧ IntKind.u8.wrap (48 + (d : Int)) = 48 + d := by
  refine ⟨(n % 10).toNat, by omega, by omega, ?_⟩
  have : (n % 10).toNat < 10 := by omega
  obtain ⟨d, hd⟩ : ∃ d, (n % 10).toNat = d := ⟨_, rfl⟩
  rw [hd] at this ⊢
  rcases (show d = 0 ∨ d = 1 ∨ d = 2 ∨ d = 3 ∨ d = 4 ∨ d = 5 ∨ d = 6 ∨ d = 7 ∨ d = 8 ∨ d = 9 by omega) with rfl | rfl | rfl | rfl | rfl | rfl | rfl | rfl | rfl | rfl <;> decide

set_option maxRecDepth 100000 in
set_option maxHeartbeats 8000000 in
theorem chains_in (b : List UInt8) (n : Int) (a : Option Addr) (c : Nat) (w : World) (hE : Env w) (hba : BAt w a b) (hb : b.length ≤ 500) (hn0 : 0 ≤ n) (hn1 : n ≤ 255) :
    Calls Tryd.prog 6 #[.slice a b.length c, .int .u8 n] w (Good w) := by
  obtain ⟨⟨p, m, e⟩, hr⟩ : ∃ r, readL b = r := ⟨_, rfl⟩
  obtain ⟨d, hd, hnd, hwr⟩ := digit_byte hn0 hn1
  obtain ⟨f, hf⟩ : ∃ f, UInt8.ofNat (48 + d) = f := ⟨_, rfl⟩
  have hff : (f.toNat : Int) = 48 + d := by rw [← hf]; exact nat_fig hd
  obtain ⟨k1, k2⟩ := chains_plain b d hd
  rw [hf, hr] at k1
  obtain ⟨L, hL⟩ : ∃ L, b ++ [10, 116, 111, 111, 108, 99, 104, 97, 105, 110, 32] ++ ([103, 111, 49, 46] ++ [f]) = L := ⟨_, rfl⟩
  obtain ⟨M, hM⟩ : ∃ M, b ++ [10, 116, 111, 111, 108, 99, 104, 97, 105, 110] = M := ⟨_, rfl⟩
  rw [hL] at k1
  rw [hM] at k2
  have lL : L.length ≤ 65536 := by rw [← hL]; simp; omega
  have lM : M.length ≤ 65536 := by rw [← hM]; simp; omega
  have HR := Lib.hid (rd_of hr (by omega))
  have HRL := Lib.hid (rd_of k1 lL)
  have HRM := Lib.hid (rd_of k2 lM)
  have cat : (((⟨b.toArray⟩ : ByteArray) ++ ⟨#[10, 116, 111, 111, 108, 99, 104, 97, 105, 110, 32]⟩) ++ (⟨#[103, 111, 49, 46]⟩ ++ ⟨#[f]⟩)) = ⟨L.toArray⟩ := by rw [← hL]; first | done | (apply ByteArray.ext; simp)
  have cat2 : ((⟨b.toArray⟩ : ByteArray) ++ ⟨#[10, 116, 111, 111, 108, 99, 104, 97, 105, 110]⟩) = ⟨M.toArray⟩ := by rw [← hM]; first | done | (apply ByteArray.ext; simp)
  have HCAT := Lib.hid cat
  have HCAT2 := Lib.hid cat2
  have HE := Lib.hid hE
  have HBA := Lib.hid hba
  have HFF := Lib.hid hff
  clear hr hL hM cat cat2 hE hba k1 k2 hf hff lL lM
  go_enter Tryd.func6, Tryd.ntmps6
  go_wp2_with fail
  refine (HR.out a c w HE.out HBA.out).mono ?_
  rintro e' w1 ⟨rfl, h1⟩
  have hb2 := bext h1.out (below_alloc w1 (.cells #[.string ⟨p.toArray⟩, .int .i64 m] 24))
  obtain ⟨W2, hW2⟩ : ∃ W2, (w1.alloc (.cells #[.string ⟨p.toArray⟩, .int .i64 m] 24)) = W2 := ⟨_, rfl⟩
  have s2 : W2.heap.size = w1.heap.size + 1 := by rw [← hW2]; simp
  have hb2 : Below w.heap.size w W2 := by rw [← hW2]; exact hb2
  have P2 : Pair W2 w1.heap.size (.string ⟨p.toArray⟩) (.int .i64 m) := by rw [← hW2]; exact Pair.new w1 _ _
  obtain ⟨W3, hW3⟩ : ∃ W3, W2.alloc (.cells #[.int .u8 (48 + (d : Int))] 5) = W3 := ⟨_, rfl⟩
  have hbt : BAt W3 (some ⟨w1.heap.size + 1, 0, none⟩) [f] := by
    have := bat_new W2 [f] #[.int .u8 (48 + (d : Int))] (0, 0) (by simp [HFF.out])
    rw [s2] at this
    rw [← hW3]; exact this
  have hb3 : Below w.heap.size w W3 := by rw [← hW3]; exact bext hb2 (below_alloc _ _)
  have s3 : W3.heap.size = w1.heap.size + 1 + 1 := by rw [← hW3]; simp [s2]
  have P3 : Pair W3 w1.heap.size (.string ⟨p.toArray⟩) (.int .i64 m) := by rw [← hW3]; exact P2.alloc _
  have hcv1 : (convert 22 9 (.slice (some ⟨w1.heap.size + 1, 0, none⟩) 1 1)).run Tryd.prog W3 = .ok (.string ⟨#[f]⟩) W3 := hbt.conv 1
  have hcv2 := (HBA.out.on hb3).conv c
  have HW2 := Lib.hid hW2
  have HW3 := Lib.hid hW3
  have HB3 := Lib.hid hb3
  have HP3 := Lib.hid P3
  have kcv := Lib.run_convert_string_bytes (P := Tryd.prog) (src := 9) (dst := 22) (e := 5) (hs := Tryd.underlying9) (hd := Tryd.underlying22) (he := Tryd.underlying5)
  have cat := HCAT.out
  have n1 : ¬ 9223372036854775807 < b.length + 11 := by omega
  have n2 : ¬ 9223372036854775807 < b.length + 11 + 5 := by omega
  have n3 : ¬ 9223372036854775807 < b.length + 10 := by omega
  obtain ⟨W4, hW4⟩ : ∃ W4, Lib.bytesWorld W3 5 ⟨L.toArray⟩ = W4 := ⟨_, rfl⟩
  have hb4 : Below w.heap.size w W4 := by rw [← hW4]; exact bext hb3 (Go.Joins.below_bytesWorld _ W3 5 ⟨L.toArray⟩ (Nat.le_refl _))
  have P4 : Pair W4 w1.heap.size (.string ⟨p.toArray⟩) (.int .i64 m) := by rw [← hW4]; exact P3.below (Go.Joins.below_bytesWorld _ W3 5 ⟨L.toArray⟩ (Nat.le_refl _))
  have hbt4 : BAt W4 (some ⟨w1.heap.size + 1 + 1, 0, none⟩) L := by
    have := bat_conv W3 L
    rw [s3, hW4] at this
    exact this
  have HB4 := Lib.hid hb4
  have HP4 := Lib.hid P4
  have HC := Lib.hid fun c2 => (HRL.out (some ⟨w1.heap.size + 1 + 1, 0, none⟩) c2 W4 (HE.out.on HB4.out) hbt4)
  clear hb2 P2 hbt hb3 P3 hb4 P4 hbt4
  go_wp2_with fail
  refine (HC.out _).mono ?_
  rintro e' w5 ⟨rfl, h5⟩
  clear hcv1 hcv2 hW2 hW3 hW4 cat
  have HB5 := Lib.hid (bext HB4.out h5.out)
  have HP5 := Lib.hid (HP4.out.below h5.out)
  obtain ⟨W6, hW6⟩ : ∃ W6, w5.alloc (.cells #[.string ⟨p.toArray⟩, .int .i64 m] 24) = W6 := ⟨_, rfl⟩
  have hb6 : Below w.heap.size w W6 := by rw [← hW6]; exact bext HB5.out (below_alloc _ _)
  have P6 : Pair W6 w1.heap.size (.string ⟨p.toArray⟩) (.int .i64 m) := by rw [← hW6]; exact HP5.out.alloc _
  have Q6 : Pair W6 w5.heap.size (.string ⟨p.toArray⟩) (.int .i64 m) := by rw [← hW6]; exact Pair.new w5 _ _
  have s6 : W6.heap.size = w5.heap.size + 1 := by rw [← hW6]; simp
  have hcv2 := (HBA.out.on hb6).conv c
  have cat := HCAT2.out
  obtain ⟨W7, hW7⟩ : ∃ W7, Lib.bytesWorld W6 5 ⟨M.toArray⟩ = W7 := ⟨_, rfl⟩
  have hb7 : Below w.heap.size w W7 := by rw [← hW7]; exact bext hb6 (Go.Joins.below_bytesWorld _ W6 5 ⟨M.toArray⟩ (Nat.le_refl _))
  have P7 : Pair W7 w1.heap.size (.string ⟨p.toArray⟩) (.int .i64 m) := by rw [← hW7]; exact P6.below (Go.Joins.below_bytesWorld _ W6 5 ⟨M.toArray⟩ (Nat.le_refl _))
  have Q7 : Pair W7 w5.heap.size (.string ⟨p.toArray⟩) (.int .i64 m) := by rw [← hW7]; exact Q6.below (Go.Joins.below_bytesWorld _ W6 5 ⟨M.toArray⟩ (Nat.le_refl _))
  have hbt7 : BAt W7 (some ⟨w5.heap.size + 1, 0, none⟩) M := by
    have := bat_conv W6 M
    rw [s6, hW7] at this
    exact this
  have HB7 := Lib.hid hb7
  have HP7 := Lib.hid P7
  have HQ7 := Lib.hid Q7
  have HC2 := Lib.hid fun c2 => (HRM.out (some ⟨w5.heap.size + 1, 0, none⟩) c2 W7 (HE.out.on HB7.out) hbt7)
  clear hb6 P6 Q6 hb7 P7 Q7 hbt7
  go_wp2_with fail
  refine (HC2.out _).mono ?_
  rintro e' w8 ⟨rfl, h8⟩
  clear hcv2 hW6 hW7 cat
  obtain ⟨W9, hW9⟩ : ∃ W9, w8.alloc (.cells #[.string ⟨([] : List UInt8).toArray⟩, .int .i64 0] 24) = W9 := ⟨_, rfl⟩
  have P9 : Pair W9 w1.heap.size (.string ⟨p.toArray⟩) (.int .i64 m) := by rw [← hW9]; exact (HP7.out.below h8.out).alloc _
  have Q9 : Pair W9 w5.heap.size (.string ⟨p.toArray⟩) (.int .i64 m) := by rw [← hW9]; exact (HQ7.out.below h8.out).alloc _
  have R9 : Pair W9 w8.heap.size (.string ⟨([] : List UInt8).toArray⟩) (.int .i64 0) := by rw [← hW9]; exact Pair.new w8 _ _
  have HB9 : Hid (Below w.heap.size w W9) := Lib.hid (by rw [← hW9]; exact bext (bext HB7.out h8.out) (below_alloc _ _))
  have p0 := P9.c0
  have p1 := P9.c1
  have q0 := Q9.c0
  have q1 := Q9.c1
  have r0 := R9.c0
  have r1 := R9.c1
  clear P9 Q9 R9
  have HW9 := Lib.hid hW9
  subst hW9
  clear HW9
  go_wp2_with fail
  refine (awake_any _ (HE.out.on HB9.out)).mono ?_
  rintro e' w10 ⟨rfl, h10⟩
  go_wp2
  go_ret
  exact ⟨rfl, bext HB9.out h10.out⟩
set_option maxRecDepth 100000 in
set_option maxHeartbeats 4000000 in
theorem chains_law (b : List UInt8) (a : Option Addr) (c : Nat) (n : Int) (w : World) (hE : Env w) (hba : BAt w a b) (hb : b.length ≤ 9223372036854775807) (hn : (Lit.int .u8 n).wf = true) :
    Calls Tryd.prog 6 #[.slice a b.length c, .int .u8 n] w (Good w) := by
  have hb2 : 0 ≤ n ∧ n ≤ 255 := by simpa [Lit.wf, IntKind.min, IntKind.max, IntKind.signed, IntKind.bits] using hn
  by_cases h1 : 500 < (b.length : Int)
  · clear hE hba hn
    go_enter Tryd.func6, Tryd.ntmps6
    go_wp2
    go_ret
    exact ⟨rfl, Below.refl _ _⟩
  · exact chains_in b n a c w hE hba (by omega) hb2.1 hb2.2
end Go.Proofs.YtgldnkpanimihaaDoor
