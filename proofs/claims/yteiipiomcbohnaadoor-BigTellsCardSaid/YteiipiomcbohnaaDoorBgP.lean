/-
  what the library is asked for: numerals, a Builder's writes.
-/
import Derived.Lib.OthersKept
import Derived.Lib.AppendIntMem
import Derived.Shelf.Strings.BuilderK
import Derived.Test.YteiipiomcbohnaaDoorShelf
import Derived.Test.YteiipiomcbohnaaDoorBgB
import Derived.Test.YteiipiomcbohnaaDoorBgO
namespace Go.Proofs.YteiipiomcbohnaaDoor
set_option linter.unusedSimpArgs false
set_option linter.unusedVariables false
open Go.RowKit

/-- The table of powers of ten lies as it was laid. -/
def Tab (w : World) : Prop := Lib.TabIs Tryd.prog w "internal/strconv.uint64pow10" .u64 Lib.pow10Tab
theorem var_on {P : Program} {w w' : World} {name : String} {cs : Array Value} (h : w.var? P name = some cs) (hb : Below w.heap.size w w') : w'.var? P name = some cs := by
  unfold World.var? at h ⊢
  cases hg : P.globalNamed name with
  | none => rw [hg] at h; cases h
  | some g =>
    rw [hg] at h
    simp only [Option.bind_some] at h ⊢
    cases hx : w.heap[g]? with
    | none => rw [hx] at h; cases h
    | some o =>
      rw [hb.block g (Array.getElem?_eq_some_iff.1 hx).1, hx]
      rw [hx] at h
      exact h
theorem Tab.on {w w' : World} (h : Tab w) (hb : Below w.heap.size w w') : Tab w' := var_on h hb
theorem itoa_any (n : Int) (w : World) (h0 : -9223372036854775808 ≤ n) (h1 : n ≤ 9223372036854775807) (ht : Tab w) :
    Calls Tryd.prog 26 #[.int .i64 n] w fun e w' => e = .returned (.string ⟨(Lib.itoa n).toArray⟩) ∧ Below w.heap.size w w' :=
  (Tryd.strconv_Itoa n h0 h1 w ht).mono fun e w' ⟨he, k, os, hw⟩ => ⟨he, by rw [hw]; exact Lib.below_grow _ w (Nat.le_refl _) k os⟩

def wb_ren : Go.Shelf.Ren := ⟨fun | 167 => 63 | n => Tryd.lays105_ren.f n, Tryd.lays105_ren.t, Tryd.lays105_ren.g⟩
theorem lays167 : Go.Proofs.Lays.n167 Tryd.prog wb_ren := {
  mixed := by kernel_rfl
  f167 := Tryd.func63.trans (congrArg some (by kernel_rfl))
  f240 := Tryd.func82.trans (congrArg some (by kernel_rfl))
  f276 := Tryd.func97.trans (congrArg some (by kernel_rfl))
  t0 := Tryd.lays105.t0
  a0 := Tryd.lays105.a0
  z0 := Tryd.lays105.z0
  v0 := Tryd.lays105.v0
  t4 := Tryd.lays105.t4
  a4 := Tryd.lays105.a4
  z4 := Tryd.lays105.z4
  v4 := Tryd.lays105.v4
  t5 := Tryd.lays105.t5
  a5 := Tryd.lays105.a5
  z5 := Tryd.lays105.z5
  v5 := Tryd.lays105.v5
  t9 := Tryd.lays105.t9
  a9 := Tryd.lays105.a9
  z9 := Tryd.lays105.z9
  v9 := Tryd.lays105.v9
  t20 := Tryd.lays105.t20
  a20 := Tryd.lays105.a20
  z20 := Tryd.lays105.z20
  v20 := Tryd.lays105.v20
  t37 := Tryd.lays105.t37
  a37 := Tryd.lays105.a37
  z37 := Tryd.lays105.z37
  v37 := Tryd.lays105.v37
  t70 := Tryd.lays105.t70
  a70 := Tryd.lays105.a70
  z70 := Tryd.lays105.z70
  v70 := Tryd.lays105.v70
  t72 := Tryd.lays105.t72
  a72 := Tryd.lays105.a72
  z72 := Tryd.lays105.z72
  v72 := Tryd.lays105.v72
  t75 := Tryd.lays105.t75
  a75 := Tryd.lays105.a75
  z75 := Tryd.lays105.z75
  v75 := Tryd.lays105.v75
  t164 := Tryd.lays105.t164
  a164 := Tryd.lays105.a164
  z164 := Tryd.lays105.z164
  v164 := Tryd.lays105.v164 }
theorem extra167 : Builder.Extra Tryd.prog wb_ren := {
  sizeBuilder := by kernel_rfl
  liesBuilder := by kernel_rfl
  t5 := Tryd.underlying5
  a5 := Tryd.isAgg5
  z5 := Tryd.sizeOf5
  v5 := Tryd.zeroValue5
  infoByte := by kernel_rfl
  cellsByte := by kernel_rfl
  sizeByte := by kernel_rfl
  neB5 := by decide }
/-- A Builder in block b that holds a text. -/
def Bld (B b : Nat) (l : List UInt8) (w : World) : Prop := Lib.IsBuilderF 78 5 B b (Lib.byteCells l) w
theorem writeByte_any (B b : Nat) (l : List UInt8) (c : UInt8) (w : World) (h : Bld B b l w) (hl : l.length + 1 ≤ 140737488355328) (hB : B ≤ w.heap.size) :
    Calls Tryd.prog 63 #[.pointer (some ⟨b, 0, none⟩), .int .u8 (c.toNat : Int)] w fun e w' => e = .returned .nilIface ∧ Bld B b (l ++ [c]) w' ∧ Below B w w' ∧ Lib.OthersKept 5 (some b) w w' :=
  (Any.Builder_WriteByte_k lays167 extra167 B b (Lib.byteCells l) c.toNat w h (by rw [Lib.byteCells_length]; exact hl) hB).mono fun e w' ⟨he, hb, hbe, hk⟩ =>
    ⟨he, .inr (by have : Lib.byteCells (l ++ [c]) = Lib.byteCells l ++ [Value.int .u8 (c.toNat : Int)] := by simp [Lib.byteCells]
                  rw [this]; exact hb), hbe, hk⟩
theorem writeString_any (B b : Nat) (l s : List UInt8) (w : World) (h : Bld B b l w) (hl : l.length + s.length ≤ 140737488355328) (hB : B ≤ w.heap.size) :
    Calls Tryd.prog 66 #[.pointer (some ⟨b, 0, none⟩), .string ⟨s.toArray⟩] w fun e w' => (∃ v, e = .returned v) ∧ Bld B b (l ++ s) w' ∧ Below B w w' ∧ Lib.OthersKept 5 (some b) w w' :=
  (Any.Builder_WriteString_k { Tryd.lays105 with } Tryd.Builder_Extra_105 B b (Lib.byteCells l) ⟨s.toArray⟩ w h (by rw [Lib.byteCells_length]; simpa [ByteArray.size] using hl) hB).mono fun e w' ⟨he, hb, hbe, hk⟩ =>
    ⟨⟨_, he⟩, .inr (by have : Lib.byteCells (l ++ s) = Lib.byteCells l ++ Lib.strCells ⟨s.toArray⟩ := by simp [Lib.byteCells, Lib.strCells]
                       rw [this]; exact hb), hbe, hk⟩
theorem bstring_any (B b : Nat) (l : List UInt8) (w : World) (h : Bld B b l w) (hB : B ≤ w.heap.size) :
    Calls Tryd.prog 67 #[.pointer (some ⟨b, 0, none⟩)] w fun e w' => e = .returned (.string ⟨l.toArray⟩) ∧ Below B w w' ∧ Lib.OthersKept 5 (some b) w w' :=
  (Tryd.Builder_String_any_k B b l w h hB).mono fun e w' ⟨he, _, hbe, hk⟩ => ⟨he, hbe, hk⟩
end Go.Proofs.YteiipiomcbohnaaDoor
