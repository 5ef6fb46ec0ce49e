/-
  slices.EqualFunc over nodes, walked
-/
import Derived.Test.YtnmebgiiajnnjaaNodeA
import Derived.Test.YtnmebgiiajnnjaaIterE
namespace Go.Proofs.Ytnmebgiiajnnjaa
set_option linter.unusedSimpArgs false
set_option linter.unusedVariables false
open Go.RowKit

def eqL (f : Nd → Nd → Bool) : List Nd → List Nd → Bool
  | [], [] => true
  | x :: xs, y :: ys => f x y && eqL f xs ys
  | _, _ => false
theorem eqL_true {f : Nd → Nd → Bool} : ∀ {l m : List Nd}, l.length = m.length → (∀ j (h1 : j < l.length) (h2 : j < m.length), f l[j] m[j] = true) → eqL f l m = true
  | [], [], _, _ => rfl
  | [], _ :: _, h, _ => by simp at h
  | _ :: _, [], h, _ => by simp at h
  | x :: xs, y :: ys, h, hf => by
    have h0 := hf 0 (by simp) (by simp)
    simp only [List.getElem_cons_zero] at h0
    rw [eqL, h0, Bool.true_and]
    exact eqL_true (by simpa using h) (fun j h1 h2 => hf (j + 1) (Nat.succ_lt_succ h1) (Nat.succ_lt_succ h2))
theorem eqL_false {f : Nd → Nd → Bool} : ∀ {l m : List Nd} (j : Nat) (h1 : j < l.length) (h2 : j < m.length), f l[j] m[j] = false → eqL f l m = false
  | [], _, _, h1, _, _ => by simp at h1
  | _ :: _, [], _, _, h2, _ => by simp at h2
  | x :: xs, y :: ys, 0, _, _, h => by simp only [List.getElem_cons_zero] at h; rw [eqL, h, Bool.false_and]
  | x :: xs, y :: ys, j + 1, h1, h2, h => by rw [eqL, eqL_false j (by simpa using h1) (by simpa using h2) (by simpa using h), Bool.and_false]
theorem eqL_len {f : Nd → Nd → Bool} : ∀ {l m : List Nd}, l.length ≠ m.length → eqL f l m = false
  | [], [], h => by simp at h
  | [], _ :: _, _ => rfl
  | _ :: _, [], _ => rfl
  | x :: xs, y :: ys, h => by rw [eqL, eqL_len (l := xs) (m := ys) (by simpa using h), Bool.and_false]

/-- Called with these two nodes, in whatever later world, the function value g over lb hands back b. -/
def EqSays (P : Program) (g : Nat) (lb : Array Value) (x y : Nd) (b : Bool) (w : World) : Prop :=
  ∀ W a c a' c', Below w.heap.size w W → Kids W W.heap.size a x.kids → Fits x c → Kids W W.heap.size a' y.kids → Fits y c' →
    Calls P g (#[.agg #[.int .i64 x.kind, .string ⟨x.text.toArray⟩, .slice a x.kids.length c, .int .i64 x.pos], .agg #[.int .i64 y.kind, .string ⟨y.text.toArray⟩, .slice a' y.kids.length c', .int .i64 y.pos]] ++ lb) W fun e W' => e = .returned (.bool b) ∧ Below W.heap.size W W'
theorem EqSays.on {P : Program} {g : Nat} {lb : Array Value} {x y : Nd} {b : Bool} {w w' : World} (h : EqSays P g lb x y b w) (hb : Below w.heap.size w w') : EqSays P g lb x y b w' :=
  fun W a c a' c' hW => h W a c a' c' (bext hb hW)

set_option maxHeartbeats 1000000 in
theorem equalFunc_any (l m : List Nd) (a1 a2 : Option Addr) (c1 c2 : Nat) (g : Nat) (lb : Array Value) (f : Nd → Nd → Bool) (w : World) (eg : Enters Try.prog g) (hl : l.length ≤ 9223372036854775807) (hm : m.length ≤ 9223372036854775807) (hc2 : m.length ≤ c2)
    (hk1 : Kids w w.heap.size a1 l) (hk2 : Kids w w.heap.size a2 m) (hso : ∀ x, x ∈ l → ∀ y, y ∈ m → EqSays Try.prog g lb x y (f x y) w) :
    Calls Try.prog 27 #[.slice a1 l.length c1, .slice a2 m.length c2, .func (.func g) #[] lb] w fun e w' => e = .returned (.bool (eqL f l m)) ∧ Below w.heap.size w w' := by
  have HS := Lib.hid hso
  have HK1 := Lib.hid hk1
  have HK2 := Lib.hid hk2
  clear hso hk1 hk2
  unfold Enters at eg
  go_enter Try.func27, Try.ntmps27
  by_cases hlm : l.length = m.length
  · have e1 : ((l.length : Int) != (m.length : Int)) = false := by simp [hlm]
    have e2 : ((l.length : Int) == (m.length : Int)) = true := by simp [hlm]
    have HLM := Lib.hid hlm
    clear hlm
    go_wp2_with fail
    go_loopw [17] (fun i wr => ∃ k : Nat, k ≤ l.length ∧ i = .int .i64 k ∧ (∀ j (h1 : j < l.length) (h2 : j < m.length), j < k → f l[j] m[j] = true) ∧ Below w.heap.size w wr) (fun i _ => l.length - (intOf i).toNat)
    case atStart => exact ⟨0, by omega, rfl, fun j _ _ h => by omega, Below.refl _ _⟩
    case round =>
      obtain ⟨k, hk1, rfl, hall, hb⟩ := hrel
      have HA := Lib.hid hall
      have HB := Lib.hid hb
      clear hall hb
      by_cases hlt : k < l.length
      · obtain ⟨b, off, a', c', ha, hbB, ⟨h0, h1, h2, h3⟩, hf, hn⟩ := (HK1.out.on HB.out).get hlt
        have hlt2 : k < m.length := by have := HLM.out; omega
        obtain ⟨b', off', a'', c'', ha', hbB', ⟨h0', h1', h2', h3'⟩, hf', hn'⟩ := (HK2.out.on HB.out).get hlt2
        subst ha
        subst ha'
        have HC := HS.out _ (List.getElem_mem hlt) _ (List.getElem_mem hlt2)
        obtain ⟨wa, hwa⟩ : ∃ wa, (wr.alloc (.cells #[.int .i64 l[k].kind, .string ⟨l[k].text.toArray⟩, .slice a' l[k].kids.length c', .int .i64 l[k].pos] 24)).alloc (.cells #[.int .i64 m[k].kind, .string ⟨m[k].text.toArray⟩, .slice a'' m[k].kids.length c'', .int .i64 m[k].pos] 24) = wa := ⟨_, rfl⟩
        have hba : Below wr.heap.size wr wa := by rw [← hwa]; exact ((Below.refl _ _).alloc (Nat.le_refl _) _).alloc (by simp) _
        have hcall := HC wa a' c' a'' c'' (bext HB.out hba) (hn.on hba) hf (hn'.on hba) hf'
        have HBA := Lib.hid (bext HB.out hba)
        rw [← hwa] at hcall HBA
        have hcap := hc2
        have hlb : b < wr.heap.size := hbB
        clear hf hf' hn hn' HC hba hwa
        cases hq : f l[k] m[k] with
        | true =>
          rw [hq] at hcall
          have HCL := Lib.hid hcall
          have HQ := Lib.hid hq
          clear hq hcall
          go_wp2_with fail
          refine HCL.out.mono ?_
          rintro e w1 ⟨rfl, hb1⟩
          go_wp2_with fail
          go_roundw
          case rel =>
            refine ⟨k + 1, by omega, by go_num, fun j h1 h2 hj => ?_, bext HBA.out hb1⟩
            rcases Nat.lt_or_ge j k with hjk | hjk
            · exact HA.out j h1 h2 hjk
            · obtain rfl : j = k := by omega
              exact HQ.out
          case measure => simp [intOf]; omega
        | false =>
          rw [hq] at hcall
          have HCL := Lib.hid hcall
          have HQ := Lib.hid hq
          clear hq hcall
          go_wp2_with fail
          refine HCL.out.mono ?_
          rintro e w1 ⟨rfl, hb1⟩
          go_wp2_with fail
          go_ret
          exact ⟨ret_bool (eqL_false k hlt hlt2 HQ.out).symm, bext HBA.out hb1⟩
      · obtain rfl : k = l.length := by omega
        go_wp2_with fail
        go_ret
        exact ⟨ret_bool (eqL_true HLM.out (fun j h1 h2 => HA.out j h1 h2 h1)).symm, HB.out⟩
  · have e1 : ((l.length : Int) != (m.length : Int)) = true := by simp; omega
    have e2 : ((l.length : Int) == (m.length : Int)) = false := by simp; omega
    have HE := Lib.hid (eqL_len (f := f) hlm)
    clear hlm
    go_wp2_with fail
    go_ret
    exact ⟨ret_bool HE.out.symm, Below.refl _ _⟩
end Go.Proofs.Ytnmebgiiajnnjaa
