/-
  names.Joint, walked: one sign more than the longest row of it.
-/
import Derived.Test.YtfcpblclfgkdjaaDoorShelf
import Derived.Test.YtfcpblclfgkdjaaDoorNmA
import Derived.Test.YtfcpblclfgkdjaaDoorNmPb
namespace Go.Proofs.YtfcpblclfgkdjaaDoor
set_option linter.unusedSimpArgs false
set_option linter.unusedVariables false
open Go.RowKit

/-- The texts that a slice holds. -/
def Strs (w : World) (a : Option Addr) (l : List (List UInt8)) : Prop := ∀ j (h : j < l.length), ∃ b off, a = some ⟨b, off, none⟩ ∧ w.cell? ⟨b, off + j, none⟩ = some (.string ⟨l[j].toArray⟩)
theorem Strs.on {w w' : World} {a : Option Addr} {l : List (List UInt8)} (h : Strs w a l) (hb : Below w.heap.size w w') : Strs w' a l := fun j hj => by
  obtain ⟨b, off, ha, hc⟩ := h j hj
  exact ⟨b, off, ha, (hb.cell (cell_lt1 hc)).trans hc⟩
theorem Strs.nil (w : World) (a : Option Addr) : Strs w a [] := fun j hj => by simp at hj

/-- Where the ranging has come to k: the row, the longest one. -/
structure JAt (s : List UInt8) (m0 k row long : Nat) : Prop where
  row : (jrow (s.take k) (0, m0)).1 = row
  long : (jrow (s.take k) (0, m0)).2 = long
theorem jat_zero (s : List UInt8) (m0 : Nat) : JAt s m0 0 0 m0 := ⟨rfl, rfl⟩
theorem JAt.le {s : List UInt8} {m0 k row long : Nat} (h : JAt s m0 k row long) : row ≤ s.length ∧ (long = m0 ∨ long ≤ s.length) := by
  have hj := jinv_all m0 (s.take k)
  rw [← h.row, ← h.long]
  have hl : (s.take k).length ≤ s.length := by simp; omega
  refine ⟨Nat.le_trans hj.le hl, ?_⟩
  rcases hj.some with h1 | ⟨i, hi⟩
  · exact .inl h1
  · right
    by_cases h0 : (jrow (s.take k) (0, m0)).2 = 0
    · omega
    · have := hi.le (by omega)
      omega
theorem JAt.sign {s : List UInt8} {m0 k row long : Nat} (h : JAt s m0 k row long) (hk : k < s.length) (hc : s[k] = 95) : JAt s m0 (k + 1) (row + 1) (Max.max long (row + 1)) := by
  have e : jrow (s.take (k + 1)) (0, m0) = jstep (jrow (s.take k) (0, m0)) 95 := by
    rw [List.take_succ_eq_append_getElem hk, jrow_app, hc]; rfl
  refine ⟨?_, ?_⟩ <;> rw [e, jstep, if_pos rfl]
  · show _ + 1 = _; rw [h.row]
  · show Max.max _ (_ + 1) = _; rw [h.row, h.long]
theorem JAt.other {s : List UInt8} {m0 k n row long : Nat} (h : JAt s m0 k row long) (hk : k < s.length) (h1 : 1 ≤ n) (hn : (Utf8.decode ⟨s.toArray⟩ k).2 = n) (hc : s[k] ≠ 95)
    (hr : (s[k].toNat < 128 ∧ n = 1) ∨ 128 ≤ s[k].toNat) : JAt s m0 (k + n) 0 long ∧ k + n ≤ s.length := by
  have hw : k + n ≤ s.length ∧ ∀ b, b ∈ (s.drop k).take n → b ≠ 95 := by
    rcases hr with ⟨_, rfl⟩ | hr
    · refine ⟨by omega, fun b hb => ?_⟩
      rw [List.drop_eq_getElem_cons hk] at hb
      simp only [List.take_succ_cons, List.take_zero, List.mem_singleton] at hb
      subst hb; exact hc
    · exact rune_whole s k hk n hn hr
  have hne : (s.drop k).take n ≠ [] := fun e => by
    have := congrArg List.length e
    simp at this
    omega
  have e : jrow (s.take (k + n)) (0, m0) = (0, (jrow (s.take k) (0, m0)).2) := by
    rw [List.take_add, jrow_app, jrow_others _ _ hne hw.2]
  refine ⟨⟨by rw [e], by rw [e]; exact h.long⟩, hw.1⟩
theorem JAt.last {s : List UInt8} {m0 row long : Nat} (h : JAt s m0 s.length row long) : (jrow s (0, m0)).2 = long := by
  have := h.long
  rwa [List.take_length] at this
theorem jlong_take {l : List (List UInt8)} {k : Nat} (hk : k < l.length) (m : Nat) : jlong (l.take (k + 1)) m = (jrow l[k] (0, jlong (l.take k) m)).2 := by
  rw [List.take_succ_eq_append_getElem hk, jlong_app]; rfl
theorem repeat_eq (b : UInt8) : ∀ n, Lib.repeatL [b] n = List.replicate n b
  | 0 => rfl
  | n + 1 => by rw [Lib.repeatL, repeat_eq b n]; rfl

theorem max_int (a b : Nat) : Value.int .i64 (max (a : Int) ((b : Int) + 1)) = .int .i64 ((Max.max a (b + 1) : Nat) : Int) := by
  congr 1; omega

set_option maxHeartbeats 4000000 in
theorem joint_any (l : List (List UInt8)) (a : Option Addr) (c : Nat) (w : World) (hs : Strs w a l) (hl : l.length ≤ 9223372036854775807) (hm : ∀ s ∈ l, s.length ≤ 140737488351232) :
    Calls Tryd.prog 5 #[.slice a l.length c] w fun e w' => e = .returned (.string ⟨(List.replicate (jlong l 1 + 1) 95).toArray⟩) ∧ Below w.heap.size w w' := by
  have HM := Lib.hid hm
  clear hm
  go_enter Tryd.func5, Tryd.ntmps5
  go_wp2_with fail
  go_loopw [3, 11] (fun m i wr => ∃ k long : Nat, k ≤ l.length ∧ i = .int .i64 k ∧ m = .int .i64 long ∧ long ≤ 140737488351232 ∧ Hid (jlong (l.take k) 1 = long) ∧ Hid (Below w.heap.size w wr)) (fun _ i _ => l.length - (intOf i).toNat)
  case atStart => exact ⟨0, 1, by omega, rfl, rfl, by omega, Lib.hid rfl, Lib.hid (Below.refl _ _)⟩
  case round =>
    obtain ⟨k, long, hk, rfl, rfl, hlo, HJ, HB⟩ := hrel
    by_cases hlt : k < l.length
    · obtain ⟨b, off, ha, hc⟩ := (hs.on HB.out) k hlt
      subst ha
      have hsl := HM.out _ (List.getElem_mem hlt)
      have HT := Lib.hid (jlong_take hlt 1)
      obtain ⟨s, hs2⟩ : ∃ s, l[k] = s := ⟨_, rfl⟩
      rw [hs2] at hc hsl HT
      clear hs2
      go_wp2_with fail
      go_loopw [3, 6] (fun m r wi => ∃ j row lo : Nat, j ≤ s.length ∧ r = .int .i64 row ∧ m = .int .i64 lo ∧ wi = wr.iter ⟨s.toArray⟩ j ∧ row ≤ 140737488351232 ∧ lo ≤ 140737488351232 ∧ Hid (JAt s long j row lo)) (fun _ _ wi => s.length - wi.iterPos wr.heap.size)
      case atStart => exact ⟨0, 0, long, by omega, rfl, rfl, rfl, by omega, by omega, Lib.hid (jat_zero s long)⟩
      case round =>
        obtain ⟨j, row, lo, hj, rfl, rfl, rfl, hrow, hlo2, HA⟩ := hrel
        by_cases hjl : j < s.length
        · obtain ⟨r, n, hd, hn, hr, hc2⟩ := rune_at s j hjl
          have hnx : ∀ ty, (Instr.next (.pointer (some ⟨wr.heap.size, 0, none⟩)) true ty).run Tryd.prog (wr.iter ⟨s.toArray⟩ j) = _ := fun ty => next_at wr s j hjl r n hd ty
          by_cases h95 : s[j] = 95
          · have h5 : (s[j]).toNat = 95 := by rw [h95]; rfl
            obtain ⟨rfl, rfl⟩ : r = 95 ∧ n = 1 := by omega
            have HA2 := Lib.hid (HA.out.sign hjl h95)
            have HL := Lib.hid HA2.out.le
            clear hd hc2 h95 h5
            go_wp2_with fail
            go_roundw
            case rel => exact ⟨j + 1, row + 1, _, by omega, rfl, max_int lo row, rfl, by have := HL.out; omega, by have := HL.out; omega, HA2⟩
            case measure => simp; omega
          · have h5 : r ≠ 95 := by
              intro e
              rcases hc2 with ⟨_, e2, _⟩ | ⟨_, e2⟩
              · exact h95 (UInt8.toNat_inj.1 (by rw [← e2, e]; rfl))
              · omega
            have h6 : ((r : Int) != 95) = true := by simp; omega
            obtain ⟨hA2, hle⟩ := HA.out.other hjl hn (by rw [hd]) h95 (by omega)
            have HA2 := Lib.hid hA2
            clear hd hc2 h95 h5 hA2
            go_wp2_with fail
            go_roundw
            case rel => exact ⟨j + n, 0, lo, by omega, rfl, rfl, rfl, by omega, by omega, HA2⟩
            case measure => simp; omega
        · have hnx : ∀ ty, (Instr.next (.pointer (some ⟨wr.heap.size, 0, none⟩)) true ty).run Tryd.prog (wr.iter ⟨s.toArray⟩ j) = _ := fun ty => next_out wr s j hjl ty
          obtain rfl : j = s.length := by omega
          have HE := Lib.hid HA.out.last
          have HB2 := Lib.hid (bext HB.out (below_iter wr ⟨s.toArray⟩ s.length))
          go_wp2_with fail
          go_roundw
          case rel => exact ⟨k + 1, lo, by omega, by go_num, rfl, by omega, Lib.hid (by rw [HT.out, HJ.out]; exact HE.out), HB2⟩
          case measure => simp [intOf]; omega
    · obtain rfl : k = l.length := by omega
      rw [List.take_length] at HJ
      have HR := Lib.hid fun W => Tryd.strings_Repeat ⟨#[95]⟩ (long + 1) W (by omega) (by simp [ByteArray.size]; omega)
      go_wp2_with fail
      refine (HR.out _).mono ?_
      rintro e w' ⟨rfl, hb⟩
      have HB2 := Lib.hid (bext HB.out hb)
      clear hb
      go_wp2_with fail
      go_ret
      refine ⟨?_, HB2.out⟩
      rw [HJ.out, ← repeat_eq]
      rfl
end Go.Proofs.YtfcpblclfgkdjaaDoor
