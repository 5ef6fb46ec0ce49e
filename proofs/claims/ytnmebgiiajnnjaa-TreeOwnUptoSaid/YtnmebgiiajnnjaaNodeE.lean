/-
  tree.of behind tree.named; signature's own closures, walked.
-/
import Derived.Test.YtnmebgiiajnnjaaNodeD
namespace Go.Proofs.Ytnmebgiiajnnjaa
set_option linter.unusedSimpArgs false
set_option linter.unusedVariables false
open Go.RowKit

set_option maxHeartbeats 400000 in
theorem ofz (kind : Int) (h : (37 == kind) = false) (h' : (37 != kind) = true) (bs : Option Addr) (m cc : Nat) (w : World) :
    Calls Try.prog 42 #[.agg #[.int .i64 37, .string ⟨#[]⟩, .slice none 0 0, .int .i64 0], .int .i64 kind, .slice bs m cc] w fun e w' => e = .returned (.bool false) ∧ Below w.heap.size w w' := by
  go_enter Try.func42, Try.ntmps42
  go_wp2_with fail
  go_ret
  exact ⟨rfl, below_alloc _ _⟩

theorem Fits.bare {t : Nd} {c : Nat} (h : Fits t c) : Fits (.mk t.kind [] t.kids t.pos) c := by
  obtain ⟨h1, h2, h3, h4, h5, h6, h7⟩ := h
  exact ⟨h1, h2, h3, h4, by simp, h6, h7⟩
section
variable (t : Nd) (a : Option Addr) (c : Nat) (kind : Int) (w : World)
/-- tree.of at what tree.named tells of a node whose text is so. -/
theorem of0e (hk : Kids w w.heap.size a t.kids) (hf : Fits t c) :
    Calls Try.prog 42 #[.agg #[.int .i64 t.kind, .string ⟨#[]⟩, .slice a t.kids.length c, .int .i64 t.pos], .int .i64 kind, .slice none 0 0] w fun e w' =>
      e = .returned (.bool (t.kind == kind && kids0 t.kids)) ∧ Below w.heap.size w w' := by
  have H := of0 (.mk t.kind [] t.kids t.pos) a c kind w hk hf.bare
  exact H
theorem of1e {b off cc g1 : Nat} {lb1 : Array Value} {f1 : Nd → Bool} (hb : b < w.heap.size) (c1 : w.cell? ⟨b, off, none⟩ = some (.func (.func g1) #[] lb1)) (e1 : Enters Try.prog g1)
    (s1 : ∀ k, k ∈ t.kids → SaysNd Try.prog g1 lb1 k (f1 k) w) (hk : Kids w w.heap.size a t.kids) (hf : Fits t c) :
    Calls Try.prog 42 #[.agg #[.int .i64 t.kind, .string ⟨#[]⟩, .slice a t.kids.length c, .int .i64 t.pos], .int .i64 kind, .slice (some ⟨b, off, none⟩) 1 cc] w fun e w' =>
      e = .returned (.bool (t.kind == kind && kids1 f1 t.kids)) ∧ Below w.heap.size w w' := by
  have H := of1 (.mk t.kind [] t.kids t.pos) a c kind w hb c1 e1 s1 hk hf.bare (cc := cc)
  exact H
theorem of2e {b off cc g1 g2 : Nat} {lb1 lb2 : Array Value} {f1 f2 : Nd → Bool} (hb : b < w.heap.size) (c1 : w.cell? ⟨b, off, none⟩ = some (.func (.func g1) #[] lb1)) (e1 : Enters Try.prog g1)
    (s1 : ∀ k, k ∈ t.kids → SaysNd Try.prog g1 lb1 k (f1 k) w) (c2 : w.cell? ⟨b, off + 1, none⟩ = some (.func (.func g2) #[] lb2)) (e2 : Enters Try.prog g2)
    (s2 : ∀ k, k ∈ t.kids → SaysNd Try.prog g2 lb2 k (f2 k) w) (hk : Kids w w.heap.size a t.kids) (hf : Fits t c) :
    Calls Try.prog 42 #[.agg #[.int .i64 t.kind, .string ⟨#[]⟩, .slice a t.kids.length c, .int .i64 t.pos], .int .i64 kind, .slice (some ⟨b, off, none⟩) 2 cc] w fun e w' =>
      e = .returned (.bool (t.kind == kind && kids2 f1 f2 t.kids)) ∧ Below w.heap.size w w' := by
  have H := of2 (.mk t.kind [] t.kids t.pos) a c kind w hb c1 e1 s1 c2 e2 s2 hk hf.bare (cc := cc)
  exact H
theorem of3e {b off cc g1 g2 g3 : Nat} {lb1 lb2 lb3 : Array Value} {f1 f2 f3 : Nd → Bool} (hb : b < w.heap.size) (c1 : w.cell? ⟨b, off, none⟩ = some (.func (.func g1) #[] lb1)) (e1 : Enters Try.prog g1)
    (s1 : ∀ k, k ∈ t.kids → SaysNd Try.prog g1 lb1 k (f1 k) w) (c2 : w.cell? ⟨b, off + 1, none⟩ = some (.func (.func g2) #[] lb2)) (e2 : Enters Try.prog g2)
    (s2 : ∀ k, k ∈ t.kids → SaysNd Try.prog g2 lb2 k (f2 k) w) (c3 : w.cell? ⟨b, off + 2, none⟩ = some (.func (.func g3) #[] lb3)) (e3 : Enters Try.prog g3)
    (s3 : ∀ k, k ∈ t.kids → SaysNd Try.prog g3 lb3 k (f3 k) w) (hk : Kids w w.heap.size a t.kids) (hf : Fits t c) :
    Calls Try.prog 42 #[.agg #[.int .i64 t.kind, .string ⟨#[]⟩, .slice a t.kids.length c, .int .i64 t.pos], .int .i64 kind, .slice (some ⟨b, off, none⟩) 3 cc] w fun e w' =>
      e = .returned (.bool (t.kind == kind && kids3 f1 f2 f3 t.kids)) ∧ Below w.heap.size w w' := by
  have H := of3 (.mk t.kind [] t.kids t.pos) a c kind w hb c1 e1 s1 c2 e2 s2 c3 e3 s3 hk hf.bare (cc := cc)
  exact H
end

theorem says_name (l : List UInt8) (hl : l.length ≤ 140737488351232) (w : World) : SaysTx Try.prog 32 #[] l (nameL l) w :=
  fun W _ => by simpa using name_any l W (by omega)
theorem says_bound (l : List UInt8) (hl : l.length ≤ 140737488351232) (w : World) : SaysTx Try.prog 78 #[] l (boundL l) w :=
  fun W _ => by simpa using bound_any l W (by omega)
theorem says_unary (l : List UInt8) (w : World) : SaysTx Try.prog 54 #[] l (unaryL l) w :=
  fun W _ => by simpa using unary_any l W
theorem says_ranged (l : List UInt8) (hl : l.length ≤ 140737488351232) (w : World) : SaysTx Try.prog 63 #[] l (rangedL l) w :=
  fun W _ => by simpa using ranged_any l W (by omega)
theorem says_binary (l : List UInt8) (hl : l.length ≤ 140737488351232) (w : World) (hg : Glob w) : SaysTx Try.prog 55 #[] l (binaryL l) w :=
  fun W hW => by simpa using binary_any l W (hg.on hW) hl

/-- signature's parameter. -/
def paramB (ty : Nd → Bool) (so : List UInt8 → Bool) (t : Nd) : Bool := so t.text && (t.kind == 8 && kids1 ty t.kids)
def sigB (ty : Nd → Bool) (so : List UInt8 → Bool) (t : Nd) : Bool :=
  ofB 12 (kids2 (fun l => l.kind == 6 && (l.text.isEmpty && l.kids.all (paramB ty so))) (fun r => (r.kind == 0 && (r.text.isEmpty && r.kids.isEmpty)) || ty r)) t

set_option maxHeartbeats 400000 in
theorem sig1_any (ty : Nd → Bool) (so : List UInt8 → Bool) (n : Nat) (hty : Ok 35 ty n) (t : Nd) (a : Option Addr) (c b g : Nat) (lb : Array Value) (w : World) (ht : t.height ≤ n + 1) (hg : Glob w)
    (hc : w.cell? ⟨b, 0, none⟩ = some (.func (.func g) #[] lb)) (eg : Enters Try.prog g) (hs : SaysTx Try.prog g lb t.text (so t.text) w) (hk : Kids w w.heap.size a t.kids) (hf : Fits t c) :
    Calls Try.prog 75 #[.agg #[.int .i64 t.kind, .string ⟨t.text.toArray⟩, .slice a t.kids.length c, .int .i64 t.pos], .pointer (some ⟨b, 0, none⟩)] w fun e w' => e = .returned (.bool (paramB ty so t)) ∧ Below w.heap.size w w' := by
  have hlt := cell_lt hc
  have hb0 := below_alloc w (.cells #[.int .i64 t.kind, .string ⟨t.text.toArray⟩, .slice a t.kids.length c, .int .i64 t.pos] 24)
  have HB0 := Lib.hid hb0
  have HS := Lib.hid hs
  have HT := Lib.hid hty
  have HK := Lib.hid hk
  have HF := Lib.hid hf
  have HG := Lib.hid hg
  clear hb0 hs hty hk hf hg
  go_enter Try.func75, Try.ntmps75
  cases hso : so t.text with
  | true =>
    have hs1 := HS.out.on HB0.out
    rw [hso] at hs1
    have HS1 := Lib.hid hs1
    have Hso := Lib.hid hso
    clear hs1 hso
    go_wp2_with fail
    refine (named_yes t a c g lb _ eg HS1.out).mono ?_
    rintro e w1 ⟨rfl, hb1⟩
    go_wp2_with fail
    have hB := bext HB0.out hb1
    have hB' := bext hB (below_alloc w1 (.cells #[.func (.func 35) #[] #[]] 30))
    refine (of1e t a c 8 _ (f1 := ty) (by simp) (by simp) (enters_of Try.func35 (by kernel_rfl) rfl) (HT.out.kids ht (HG.out.on hB')) (HK.out.on hB') HF.out).mono ?_
    rintro e w2 ⟨rfl, hb2⟩
    go_wp2_with fail
    go_ret
    exact ⟨ret_bool (by simp [paramB, Hso.out]), bext hB' hb2⟩
  | false =>
    have hs1 := HS.out.on HB0.out
    rw [hso] at hs1
    have HS1 := Lib.hid hs1
    have Hso := Lib.hid hso
    clear hs1 hso
    go_wp2_with fail
    refine (named_no t a c g lb _ eg HS1.out).mono ?_
    rintro e w1 ⟨rfl, hb1⟩
    go_wp2_with fail
    have hB := bext HB0.out hb1
    have hB' := bext hB (below_alloc w1 (.cells #[.func (.func 35) #[] #[]] 30))
    refine (ofz 8 rfl rfl _ _ _ _).mono ?_
    rintro e w2 ⟨rfl, hb2⟩
    go_wp2_with fail
    go_ret
    exact ⟨ret_bool (by simp [paramB, Hso.out]), bext hB' hb2⟩

set_option maxHeartbeats 400000 in
theorem sig2_any (p : Nd → Bool) (t : Nd) (a : Option Addr) (c b g : Nat) (lb : Array Value) (w : World)
    (hc : w.cell? ⟨b, 0, none⟩ = some (.func (.func g) #[] lb)) (eg : Enters Try.prog g) (hs : ∀ k, k ∈ t.kids → SaysNd Try.prog g lb k (p k) w) (hk : Kids w w.heap.size a t.kids) (hf : Fits t c) :
    Calls Try.prog 76 #[.agg #[.int .i64 t.kind, .string ⟨t.text.toArray⟩, .slice a t.kids.length c, .int .i64 t.pos], .pointer (some ⟨b, 0, none⟩)] w fun e w' => e = .returned (.bool (t.kind == 6 && (t.text.isEmpty && t.kids.all p))) ∧ Below w.heap.size w w' := by
  have hlt := cell_lt hc
  have hb0 := below_alloc w (.cells #[.int .i64 t.kind, .string ⟨t.text.toArray⟩, .slice a t.kids.length c, .int .i64 t.pos] 24)
  have H := list_any t a c g lb p _ eg (hk.on hb0) hf (fun k h => (hs k h).on hb0)
  have HB0 := Lib.hid hb0
  clear hb0 hs hk hf
  go_enter Try.func76, Try.ntmps76
  go_wp2_with fail
  refine H.mono ?_
  rintro e w1 ⟨rfl, hb1⟩
  go_wp2_with fail
  go_ret
  exact ⟨rfl, bext HB0.out hb1⟩
end Go.Proofs.Ytnmebgiiajnnjaa
