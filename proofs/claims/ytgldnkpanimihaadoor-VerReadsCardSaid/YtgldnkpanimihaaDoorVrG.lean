/-
  ver.Text; awake.
-/
import Derived.Lib.ConvBytes
import Derived.Lib.SlBytesConst
import Derived.Test.YtgldnkpanimihaaDoorVrF
namespace Go.Proofs.YtgldnkpanimihaaDoor
set_option linter.unusedSimpArgs false
set_option linter.unusedVariables false
open Go.RowKit

/-- A version's text. -/
def textL (m : Int) : List UInt8 := if 0 ≤ m ∧ m ≤ 99 then 49 :: 46 :: Lib.itoa m else []
set_option maxHeartbeats 1000000 in
theorem text_any (m : Int) (w : World) :
    Calls Tryd.prog 17 #[.int .i64 m] w fun e w' => e = .returned (.string ⟨(textL m).toArray⟩) ∧ w = w' := by
  by_cases h0 : m < 0
  · have H := Lib.hid (show textL m = [] by unfold textL; rw [if_neg (by omega)])
    go_enter Tryd.func17, Tryd.ntmps17
    go_wp2
    go_ret
    exact ⟨by rw [H.out]; rfl, rfl⟩
  · by_cases h1 : 99 < m
    · have H := Lib.hid (show textL m = [] by unfold textL; rw [if_neg (by omega)])
      go_enter Tryd.func17, Tryd.ntmps17
      go_wp2
      go_ret
      exact ⟨by rw [H.out]; rfl, rfl⟩
    · have H := Lib.hid (show textL m = 49 :: 46 :: Lib.itoa m by unfold textL; rw [if_pos (by omega)])
      have HI0 := Tryd.strconv_Itoa_small m.toNat (by omega) w
      rw [show ((m.toNat : Nat) : Int) = m by omega] at HI0
      have hit : Lib.decDigits m.toNat = Lib.itoa m := by unfold Lib.itoa; rw [if_neg h0]
      rw [hit] at HI0
      have hlen : (Lib.itoa m).length ≤ 2 := by rw [← hit]; exact dec_len_le (k := 2) (by omega) (by decide)
      obtain ⟨D, hD⟩ : ∃ D, Lib.itoa m = D := ⟨_, rfl⟩
      rw [hD] at HI0 H hlen
      have HI := Lib.hid HI0
      clear HI0 hit hD
      go_enter Tryd.func17, Tryd.ntmps17
      go_wp2_with fail
      refine HI.out.mono ?_
      rintro e w' ⟨rfl, h9⟩
      obtain rfl := h9
      go_wp2
      go_ret
      exact ⟨by rw [H.out]; first | rfl | (congr 2), rfl⟩
/-- New bytes. -/
theorem bat_conv (w : World) (l : List UInt8) : BAt (Lib.bytesWorld w 5 ⟨l.toArray⟩) (some ⟨w.heap.size, 0, none⟩) l := by
  refine .inr ⟨_, _, rfl, (by rw [Lib.bytesWorld_size]; omega), fun i hi => ?_⟩
  rw [Nat.zero_add, Lib.bytesWorld_cell w 5 ⟨l.toArray⟩ i (by simpa [ByteArray.size] using hi)]
  simp [List.getD, hi]
theorem bat_new (w : World) (l : List UInt8) (cs : Array Value) (fr : Nat × Nat) (h : cs = (l.map fun c => Value.int .u8 c.toNat).toArray) : BAt (w.alloc (.cells cs 5 fr)) (some ⟨w.heap.size, 0, none⟩) l := by
  subst h
  refine .inr ⟨_, _, rfl, (by simp), fun i hi => ?_⟩
  rw [Nat.zero_add, World.cell?_alloc_mark]
  simp [hi]
def exB : List UInt8 := [109, 111, 100, 117, 108, 101, 32, 97, 47, 98, 10, 103, 111, 32, 49, 46, 50, 50, 46, 49, 32, 47, 47, 32, 120]
theorem ex1 : minorG [49, 46, 50, 49, 114, 99, 50] = (21, 0) := by decide +kernel
theorem ex2 : minorG [49, 46, 48, 50, 49] = (0, 6) := by decide +kernel
theorem ex3 : readL exB = ([97, 47, 98], 22, 0) := by decide +kernel
def Good (w : World) (e : Ending) (w' : World) : Prop := e = .returned (.bool true) ∧ Below w.heap.size w w'

set_option maxRecDepth 100000 in
set_option maxHeartbeats 4000000 in
theorem awake_any (w : World) (hE : Env w) : Calls Tryd.prog 12 #[] w fun e w' => e = .returned (.bool true) ∧ Hid (Below w.heap.size w w') := by
  have H1 := Lib.hid fun w2 (h : Env w2) => minor_any [49, 46, 50, 49, 114, 99, 50] w2 h (by simp)
  have H2 := Lib.hid fun w2 (h : Env w2) => minor_any [49, 46, 48, 50, 49] w2 h (by simp)
  have H3 := Lib.hid fun w2 (h : Env w2) a (hb : BAt w2 a exB) => read_any exB a 25 w2 h hb (by simp [exB])
  rw [ex1] at H1
  rw [ex2] at H2
  rw [ex3] at H3
  unfold MinPost at H1 H2
  unfold ReadPost at H3
  dsimp only at H1 H2 H3
  have HE := Lib.hid hE
  have kc := fun (w : World) (C : Array Value) (n c : Nat) => Lib.run_convert_bytes_const (P := Tryd.prog) w 22 5 C n c Tryd.underlying22 Tryd.underlying5
  clear hE
  go_enter Tryd.func12, Tryd.ntmps12
  go_wp2_with fail
  refine (H1.out w HE.out).mono ?_
  rintro e w1 ⟨rfl, h1⟩
  go_wp2_with fail
  refine (H2.out w1 (HE.out.on h1.out)).mono ?_
  rintro e w2 ⟨rfl, h2⟩
  have HE2 := Lib.hid ((HE.out.on h1.out).on h2.out)
  go_wp2_with fail
  refine (H3.out _ (HE2.out.on (below_alloc _ _)) _ (bat_new w2 exB _ _ rfl)).mono ?_
  rintro e w3 ⟨rfl, h3⟩
  go_wp2
  go_ret
  exact ⟨rfl, Lib.hid (bext (bext (bext (bext h1.out h2.out) (below_alloc _ _)) h3.out) (below_alloc _ _))⟩
end Go.Proofs.YtgldnkpanimihaaDoor
