/-
  demoticref06.Swap of whatever node
-/
import Derived.Test.YtnmebgiiajnnjaaRefD
namespace Go.Proofs.Ytnmebgiiajnnjaa
set_option linter.unusedSimpArgs false
set_option linter.unusedVariables false
open Go.RowKit

theorem rswap_any (y : Nd) (ay : Option Addr) (cy : Nat) (kind : Int) (text : List UInt8) (Zo : Nat → Prop) (hfy : Fits y cy) :
    ∀ (d : Nat), d ≤ 101 → ∀ (t : Nd) (a : Option Addr) (c : Nat) (w : World), KidsZ w Zo a t.kids → KidsZ w Zo ay y.kids → (∀ b, Zo b → b < w.heap.size) → Fits t c →
      Calls Try.prog 15 #[.agg #[.int .i64 t.kind, .string ⟨t.text.toArray⟩, .slice a t.kids.length c, .int .i64 t.pos], .int .i64 kind, .string ⟨text.toArray⟩, .agg #[.int .i64 y.kind, .string ⟨y.text.toArray⟩, .slice ay y.kids.length cy, .int .i64 y.pos], .int .i64 d] w (Copied Zo (copyL (swapF kind text y) d t) w)
  | 0, _, t, a, c, w, hk, _, hZ, hf => rswap_zero t y a ay c cy kind text Zo w hk hZ hf
  | d + 1, hd, t, a, c, w, hk, hky, hZ, hf => by
    cases hm : (t.kind == kind && (t.text == text && t.kids.isEmpty)) with
    | true =>
      have e : copyL (swapF kind text y) (d + 1) t = y := by rw [copyL, swapF, hm]; rfl
      rw [e]
      exact rswap_some d (by omega) t y a ay c cy kind text Zo w hm hky hZ hf hfy
    | false =>
      have e : copyL (swapF kind text y) (d + 1) t = .mk t.kind t.text (t.kids.map (copyL (swapF kind text y) d)) t.pos := by rw [copyL, swapF_no hm]
      rw [e]
      exact rswap_none d (by omega) t y a ay c cy kind text Zo w hm hk hky hZ hf hfy (fun k _ a' c' W hW hk' hky' hf' =>
        rswap_any y ay cy kind text Zo hfy d (by omega) k a' c' W hk' hky' (fun b hb => Nat.lt_of_lt_of_le (hZ b hb) hW.size) hf')

/-- The reference's Swap: a node comes back; its kids lie in memory. -/
theorem rSwap_any (t y : Nd) (a ay : Option Addr) (c cy : Nat) (kind : Int) (text : List UInt8) (w : World) (hk : Kids w w.heap.size a t.kids) (hf : Fits t c) (hky : Kids w w.heap.size ay y.kids) (hfy : Fits y cy) :
    Calls Try.prog 15 #[.agg #[.int .i64 t.kind, .string ⟨t.text.toArray⟩, .slice a t.kids.length c, .int .i64 t.pos], .int .i64 kind, .string ⟨text.toArray⟩, .agg #[.int .i64 y.kind, .string ⟨y.text.toArray⟩, .slice ay y.kids.length cy, .int .i64 y.pos], .int .i64 100] w (Gives (copyL (swapF kind text y) 100 t) w) :=
  (rswap_any y ay cy kind text (· < w.heap.size) hfy 100 (by omega) t a c w hk.toZ hky.toZ (fun b h => h) hf).mono (fun e w' ⟨hb, a', c', he, hfit, hz⟩ => ⟨hb, a', c', he, hfit, hz.kids (fun b h => by have := hb.size; omega)⟩)
end Go.Proofs.Ytnmebgiiajnnjaa
