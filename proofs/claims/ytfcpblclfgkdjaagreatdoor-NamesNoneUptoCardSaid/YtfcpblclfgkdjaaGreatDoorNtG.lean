/-
  names: scope.node, walked: loops; node whole. (printed by gen_node4.py)
-/
import Derived.Test.YtfcpblclfgkdjaaGreatDoorNtF
import Derived.Deep.CutBlock
import Derived.Deep.CutRange
namespace Go.Proofs.YtfcpblclfgkdjaaGreatDoor
set_option linter.unusedSimpArgs false
set_option linter.unusedVariables false
open Go.RowKit Go.Maps
theorem own_one (w : World) (y : Nd) (a : Option Addr) (c : Nat) {base : Nat} (hb : base ≤ w.heap.size) : (w.alloc (.cells #[.int .i64 y.kind, .string ⟨y.text.toArray⟩, .slice a y.kids.length c, .int .i64 y.pos] 25)).ownsRow base 25 4 (.slice (some ⟨w.heap.size, 0, none⟩) 1 1) 1 (node4 (y, a, c)) :=
  ⟨rfl, .inr ⟨w.heap.size, 1, #[.int .i64 y.kind, .string ⟨y.text.toArray⟩, .slice a y.kids.length c, .int .i64 y.pos], rfl, hb, heap_alloc_new w _, by simp, by unfold maxLen; omega, rfl, rfl⟩⟩
theorem NRz.lies {Bz base : Nat} {L : List (Nd × Option Addr × Nat)} {v : Value} {W : World} (h : NRz Bz base L v W) (hne : 0 < L.length) :
    ∃ g cap, v = .slice (some ⟨g, 0, none⟩) L.length cap ∧ base ≤ g ∧ g < W.heap.size ∧ ∀ j u, (L.flatMap node4)[j]? = some u → W.cell? ((⟨g, 0, none⟩ : Addr).add j) = some u := by
  rcases h.1.2 with ⟨_, h0⟩ | ⟨g, cap, cur, hv, hb, hg, hcap, hmax, hcs, htk⟩
  · omega
  · refine ⟨g, cap, hv, hb, (Array.getElem?_eq_some_iff.1 hg).1, fun j u hj => ?_⟩
    rw [add_zero, cell_of_row W g j cur _ (0, 0) hg]
    rw [← htk, List.getElem?_take] at hj
    by_cases hlt : j < L.length * 4
    · rw [if_pos hlt] at hj; simpa using hj
    · rw [if_neg hlt] at hj; cases hj
/-- One node and a row behind it, appended. -/
theorem for_row {Bz base : Nat} {WX w9 : World} {y1 : Nd} {a6 : Option Addr} {c6 gg cap A : Nat} {L : List (Nd × Option Addr × Nat)} {ys : List Nd} (hL : L.map (·.1) = ys) (hA : base ≤ A)
    (h1 : KidsZ WX (fun b => Zn Bz base WX b ∧ b ≠ A) a6 y1.kids) (f1 : Fits y1 c6) (hx : ∀ x, x ∈ L → Fits x.1 x.2.2 ∧ KidsZ WX (fun b => Zn Bz base WX b ∧ b ≠ A) x.2.1 x.1.kids) (hBA : Bz ≤ base) (hbw : base ≤ WX.heap.size)
    (hown : w9.ownsRow base 25 4 (.slice (some ⟨gg, 0, none⟩) (1 + L.length) cap) (1 + L.length) (node4 (y1, a6, c6) ++ L.flatMap node4)) (hgrow : WX.grownBy w9 (some A)) (hat : some A = some gg ∨ gg = WX.heap.size) :
    KidsZ w9 (Zn Bz base w9) (some ⟨gg, 0, none⟩) (y1 :: ys) ∧ 1 + ys.length ≤ cap ∧ cap ≤ 9223372036854775807 := by
  have hkeep : ∀ {aa : Option Addr} {ll : List Nd}, KidsZ WX (fun b => Zn Bz base WX b ∧ b ≠ A) aa ll → KidsZ w9 (fun b => Zn Bz base w9 b ∧ some b ≠ (Value.slice (some ⟨gg, 0, none⟩) (1 + L.length) cap).ownBlock) aa ll := fun h => by
    have hs := hgrow.size
    refine h.move (fun b hb => ⟨hb.1.imp id (fun h => ⟨h.1, by omega⟩), fun e => ?_⟩) (fun p u hp hu => ?_)
    · have e' : b = gg := by simpa [Value.ownBlock] using e
      rcases hat with hat | hat
      · exact hb.2 (e'.trans (Option.some.inj hat).symm)
      · rcases hb.1 with h | h <;> omega
    · exact (hgrow.cell_far p (cell_lt' hu) (fun e => hp.2 (Option.some.inj e))).trans hu
  have hr : NRz Bz base ((y1, a6, c6) :: L) (.slice (some ⟨gg, 0, none⟩) (1 + L.length) cap) w9 := by
    refine ⟨by rw [List.length_cons, List.flatMap_cons, Nat.add_comm L.length 1]; exact hown, fun q hq => ?_⟩
    rcases List.mem_cons.1 hq with rfl | hq
    · exact ⟨f1, hkeep h1⟩
    · exact ⟨(hx q hq).1, hkeep (hx q hq).2⟩
  obtain ⟨a', c', hv, hz, h2, h3⟩ := hr.kids (ys := y1 :: ys) (by simp [hL])
  simp only [Value.slice.injEq] at hv
  obtain ⟨rfl, -, rfl⟩ := hv
  exact ⟨hz, by rw [List.length_cons] at h2; omega, h3⟩
theorem names1 (w : World) (a : ByteArray) : (w.alloc (.cells #[.string a] 9)).cell? ⟨w.heap.size, 0, none⟩ = some (.string a) := by simp [go_sem]
section
variable {G : Nat} {LB : Array Value} {f : Nd → Nd} {M : Option Nat} {nS : Nat} {St : List (List UInt8) → World → Prop}
theorem for_done (C : FreeC G LB f M nS St) {Bz base n8 A gg cap : Nat} {wa w6 w8 WX w9 : World} {y1 : Nd} {a6 : Option Addr} {c6 : Nat} {L : List (Nd × Option Addr × Nat)} {ys : List Nd} {l2 : List (List UInt8)} (hna : nS ≤ wa.heap.size) (hwb : wa.heap.size ≤ base) (hBb : Bz ≤ wa.heap.size)
    (hz6 : KidsZ w6 (Zn Bz base w6) a6 y1.kids) (f1 : Fits y1 c6) (g68 : w6.grownBy w8 M) (noc6 : NoC M w6) (hx8 : ∀ x, x ∈ L → Fits x.1 x.2.2 ∧ KidsZ w8 (Zn Bz n8 w8) x.2.1 x.1.kids) (hn8 : base ≤ n8)
    (hL : L.map (·.1) = ys) (hv8 : Nv St M wa l2 w8) (hX : Below w8.heap.size w8 WX) (hbA : w6.heap.size ≤ A) (h6 : base ≤ w6.heap.size) (hA3 : ∀ b, Zn Bz n8 w8 b → b ≠ A)
    (hown9 : w9.ownsRow base 25 4 (.slice (some ⟨gg, 0, none⟩) (1 + L.length) cap) (1 + L.length) (node4 (y1, a6, c6) ++ L.flatMap node4)) (hgrow9 : WX.grownBy w9 (some A)) (hat9 : some A = some gg ∨ gg = WX.heap.size) :
    KidsZ w9 (Zn Bz wa.heap.size w9) (some ⟨gg, 0, none⟩) (y1 :: ys) ∧ 1 + ys.length ≤ cap ∧ cap ≤ 9223372036854775807 ∧ Nv St M wa l2 w9 := by
  have s8 := g68.size
  have sX := hX.size
  have mv : ∀ {aa : Option Addr} {ll : List Nd} {Z Z' : Nat → Prop}, KidsZ w8 Z aa ll → (∀ b, Z b → Z' b) → KidsZ WX Z' aa ll := fun h hz => kidsZ_gb h (gb none hX) (fun r e => by cases e) hz
  have h1 : KidsZ w8 (fun b => Zn Bz base w6 b) a6 y1.kids := kidsZ_gb hz6 g68 noc6 (fun b h => h)
  obtain ⟨hz, h2, h3⟩ := for_row (Bz := Bz) (base := base) hL (by omega) (mv h1 (fun b hb => ⟨hb.imp id (fun h => ⟨h.1, by omega⟩), fun e => by rcases hb with h | h <;> omega⟩)) f1
    (fun x hx => ⟨(hx8 x hx).1, mv (hx8 x hx).2 (fun b hb => ⟨hb.imp id (fun h => ⟨by omega, by omega⟩), hA3 b hb⟩)⟩) (by omega) (by omega) hown9 hgrow9 hat9
  refine ⟨hz.mono (fun b hb => hb.imp id (fun h => ⟨by omega, h.2⟩)), h2, h3, ?_, ?_⟩
  · exact (hv8.1.trans (gb M hX)).andThen hgrow9 (fun j e => .inl (by have := Option.some.inj e; omega))
  · have hvX := hv8.below C hna hX
    exact C.on l2 WX w9 hvX.2 (by have := hvX.1.size; omega) hgrow9.size (fun b hb => hgrow9.block b (by have := hvX.1.size; omega) (fun e => by have := Option.some.inj e; omega))

set_option maxRecDepth 100000 in
set_option maxHeartbeats 16000000 in
theorem node_for (C : FreeC G LB f M nS St) (d : Nat) (ih : NodeAt G LB f M nS St d) (b : List (List UInt8)) (mb : Nat) (l : List (List UInt8)) (t : Nd) (a : Option Addr) (c : Nat) (w : World) (Bz : Nat) (hkind : t.kind = 31)
    (hh : t.height ≤ d + 1) (hloc : InAll Loc t) (hst : St l w) (hn : nS ≤ w.heap.size) (hown : w.ownsMap Tryz.prog 9 (plainElem Tryz.prog 4) mb b.length (bD b)) (hmb : some mb ≠ M)
    (hb : b.length + (d + 1) * 3000000000000 ≤ 2305843009213693952) (hl : l.length + (walkL (d + 1) t).length ≤ 1125899906842624) (hBz : Bz ≤ w.heap.size) (hk : Kids w Bz a t.kids) (hf : Fits t c) :
    Calls Tryz.prog 41 #[.agg #[.func (.func G) #[] LB, .map (some mb)], .agg #[.int .i64 t.kind, .string ⟨t.text.toArray⟩, .slice a t.kids.length c, .int .i64 t.pos]] w (NodePost (nodeP f (d + 1) b t) (l ++ freeP (d + 1) b t) M St Bz w) := by
  obtain ⟨wa, hwa⟩ : ∃ wa, ((w.alloc (.cells #[.func (.func G) #[] LB, .map (some mb)] 41)).alloc (.cells #[.int .i64 t.kind, .string ⟨t.text.toArray⟩, .slice a t.kids.length c, .int .i64 t.pos] 25)).alloc (.cells #[.int .i64 0, .string ⟨#[]⟩, .slice none 0 0, .int .i64 0] 25) = wa := ⟨_, rfl⟩
  have hba : Below w.heap.size w wa := by rw [← hwa]; exact (((Below.refl _ _).alloc (Nat.le_refl _) _).alloc (by simp) _).alloc (by simp; omega) _
  have hsz : wa.heap.size = w.heap.size + 3 := by rw [← hwa]; simp
  have s0 : wa.cell? ⟨w.heap.size, 0, none⟩ = some (.func (.func G) #[] LB) := by rw [← hwa]; simp [go_sem]
  have s1 : wa.cell? ⟨w.heap.size, 1, none⟩ = some (.map (some mb)) := by rw [← hwa]; simp [go_sem]
  have n0 : wa.cell? ⟨w.heap.size + 1, 0, none⟩ = some (.int .i64 t.kind) := by rw [← hwa]; simp [go_sem]
  have n1 : wa.cell? ⟨w.heap.size + 1, 1, none⟩ = some (.string ⟨t.text.toArray⟩) := by rw [← hwa]; simp [go_sem]
  have n2 : wa.cell? ⟨w.heap.size + 1, 2, none⟩ = some (.slice a t.kids.length c) := by rw [← hwa]; simp [go_sem]
  have n3 : wa.cell? ⟨w.heap.size + 1, 3, none⟩ = some (.int .i64 t.pos) := by rw [← hwa]; simp [go_sem]
  have zn : wa.frozen? ⟨w.heap.size + 1, 2, none⟩ = false := by rw [← hwa]; simp [go_sem]
  have r0 : wa.cell? ⟨w.heap.size + 1 + 1, 0, none⟩ = some (.int .i64 0) := by rw [← hwa]; simp [go_sem]
  have r1 : wa.cell? ⟨w.heap.size + 1 + 1, 1, none⟩ = some (.string ⟨#[]⟩) := by rw [← hwa]; simp [go_sem]
  have r2 : wa.cell? ⟨w.heap.size + 1 + 1, 2, none⟩ = some (.slice none 0 0) := by rw [← hwa]; simp [go_sem]
  have r3 : wa.cell? ⟨w.heap.size + 1 + 1, 3, none⟩ = some (.int .i64 0) := by rw [← hwa]; simp [go_sem]
  have z0 : wa.frozen? ⟨w.heap.size + 1 + 1, 0, none⟩ = false := by rw [← hwa]; simp [go_sem]
  have z1 : wa.frozen? ⟨w.heap.size + 1 + 1, 1, none⟩ = false := by rw [← hwa]; simp [go_sem]
  have z2 : wa.frozen? ⟨w.heap.size + 1 + 1, 2, none⟩ = false := by rw [← hwa]; simp [go_sem]
  have z3 : wa.frozen? ⟨w.heap.size + 1 + 1, 3, none⟩ = false := by rw [← hwa]; simp [go_sem]
  have hsta : St l wa := C.below hst hn hba
  have hgwa : w.grownBy wa M := gb M hba
  have howna := hown.kept hgwa hmb
  have hka : Kids wa Bz a t.kids := hk.below (hba.mono hBz) (Nat.le_refl _)
  have hl63 : t.kids.length ≤ 9223372036854775807 := by have := hf.2.2.2.2.2.1; have := hf.2.2.2.2.2.2.1; omega
  have hcap : t.kids.length ≤ c := hf.2.2.2.2.2.1
  have hna : nS ≤ wa.heap.size := by omega
  have hBa : Bz ≤ wa.heap.size := by omega
  have hnoca : NoC M wa := C.noc hsta
  have hwl : l.length + (t.kids.flatMap (walkL d)).length ≤ 1125899906842624 := by rw [walkL, List.length_cons] at hl; omega
  have hbd0 : b.length + d * 3000000000000 ≤ 2305843009213693952 := by have := fuel_step hb; clear hb; omega
  have hbd1 : b.length + t.kids.length + d * 3000000000000 ≤ 2305843009213693952 := by have := hf.2.2.2.2.2.2.2; have := fuel_step hb; clear hb; omega
  have k18 : (t.kind == 18) = false := by rw [hkind]; rfl
  have k36 : (t.kind == 36) = false := by rw [hkind]; rfl
  have k25 : (t.kind == 25) = false := by rw [hkind]; rfl
  have k32 : (t.kind == 32) = false := by rw [hkind]; rfl
  have k31 : (t.kind == 31) = true := by rw [hkind]; rfl
  obtain ⟨x, q, r, hxy⟩ := hloc.self.2.1 hkind
  have hE : nodeP f (d + 1) b t = t.with (nodeP f d b x :: (q :: r).map (nodeP f d (forB2 b x))) := by rw [nodeP, if_neg (by rw [hkind]; decide), if_neg (by rw [hkind]; decide), if_neg (by rw [hkind]; decide), if_neg (by rw [hkind]; decide), if_pos hkind, hxy]
  have hF : freeP (d + 1) b t = freeP d b x ++ (q :: r).flatMap (freeP d (forB2 b x)) := by rw [freeP, if_neg (by rw [hkind]; decide), if_neg (by rw [hkind]; decide), if_neg (by rw [hkind]; decide), if_neg (by rw [hkind]; decide), if_pos hkind, hxy]
  rw [hE, hF, ← List.append_assoc]
  obtain ⟨g, off, ax, cx, hax, hgB, ⟨p0, p1, p2, p3⟩, hfx, hkx⟩ := hka.get (j := 0) (by rw [hxy]; simp)
  have hkt : Kids wa Bz (some ⟨g, off + 4, none⟩) (q :: r) := by rw [hxy, hax] at hka; exact hka.tail
  simp only [hxy, List.getElem_cons_zero, Nat.zero_mul, Nat.add_zero] at p0 p1 p2 p3 hfx hkx
  have hxm : x ∈ t.kids := by rw [hxy]; simp
  have hqm : ∀ k, k ∈ q :: r → k ∈ t.kids := fun k hk => by rw [hxy]; exact List.mem_cons_of_mem _ hk
  have hhx : x.height ≤ d := by have := Nd.height_kid hxm; omega
  obtain ⟨rs, hrs⟩ : ∃ rs, q :: r = rs := ⟨_, rfl⟩
  have hrl : rs.length = t.kids.length - 1 := by rw [← hrs, hxy]; simp
  have hr0 : 0 < rs.length := by rw [← hrs]; simp
  rw [hrs] at hkt hqm ⊢
  have hwl2 : l.length + (walkL d x).length + (rs.flatMap (walkL d)).length ≤ 1125899906842624 := by
    rw [hxy, hrs, List.flatMap_cons, List.length_append] at hwl
    omega
  have hfl := freeP_len d b x
  have hi0 : 0 < t.kids.length := by omega
  have hi1 : 1 ≤ t.kids.length := by omega
  have hj0 : (0 : Int) < (t.kids.length : Int) := by omega
  have hj1 : (1 : Int) ≤ (t.kids.length : Int) := by omega
  have hjc : (t.kids.length : Int) ≤ (c : Int) := by omega
  have hge : (g = w.heap.size + 1) = False := by simp; omega
  have hge2 : (w.heap.size + 1 = g) = False := by simp; omega
  have hgi : (g = wa.heap.size) = False := by simp; omega
  have hgi2 : (wa.heap.size = g) = False := by simp; omega
  have hgw1 : (w.heap.size = wa.heap.size) = False := by simp; omega
  have hgw2 : (wa.heap.size = w.heap.size) = False := by simp; omega
  have hni : (wa.heap.size = w.heap.size + 1) = False := by simp; omega
  have hni2 : (w.heap.size + 1 = wa.heap.size) = False := by simp; omega
  have htx : x.text.length ≤ 140737488351232 := hfx.2.2.2.2.1
  have hnv : Nv St M wa l wa := ⟨World.grownBy.refl _ _, hsta⟩
  have HNB := Lib.hid (show ∀ l W, Nv St M wa l W → ((W.cell? ⟨w.heap.size + 1, 0, none⟩ = some (.int .i64 t.kind) ∧ W.cell? ⟨w.heap.size + 1, 1, none⟩ = some (.string ⟨t.text.toArray⟩) ∧ W.cell? ⟨w.heap.size + 1, 2, none⟩ = some (.slice a t.kids.length c) ∧ W.cell? ⟨w.heap.size + 1, 3, none⟩ = some (.int .i64 t.pos)) ∧ W.frozen? ⟨w.heap.size + 1, 2, none⟩ = false ∧ (W.cell? ⟨w.heap.size + 1 + 1, 0, none⟩ = some (.int .i64 0) ∧ W.cell? ⟨w.heap.size + 1 + 1, 1, none⟩ = some (.string ⟨#[]⟩) ∧ W.cell? ⟨w.heap.size + 1 + 1, 2, none⟩ = some (.slice none 0 0) ∧ W.cell? ⟨w.heap.size + 1 + 1, 3, none⟩ = some (.int .i64 0)) ∧ W.frozen? ⟨w.heap.size + 1 + 1, 0, none⟩ = false ∧ W.frozen? ⟨w.heap.size + 1 + 1, 1, none⟩ = false ∧ W.frozen? ⟨w.heap.size + 1 + 1, 2, none⟩ = false ∧ W.frozen? ⟨w.heap.size + 1 + 1, 3, none⟩ = false) from fun l W h => ⟨⟨h.cell hnoca n0, h.cell hnoca n1, h.cell hnoca n2, h.cell hnoca n3⟩, (h.frozen hnoca n2).trans zn, ⟨h.cell hnoca r0, h.cell hnoca r1, h.cell hnoca r2, h.cell hnoca r3⟩, (h.frozen hnoca r0).trans z0, (h.frozen hnoca r1).trans z1, (h.frozen hnoca r2).trans z2, (h.frozen hnoca r3).trans z3⟩)
  have hSA : ∀ l W', Nv St M wa l W' → ((W'.cell? ⟨w.heap.size, 0, none⟩ = some (.func (.func G) #[] LB) ∧ W'.cell? ⟨w.heap.size, 1, none⟩ = some (.map (some mb))) ∧ (W'.cell? ⟨g, off, none⟩ = some (.int .i64 x.kind) ∧ W'.cell? ⟨g, off + 1, none⟩ = some (.string ⟨x.text.toArray⟩) ∧ W'.cell? ⟨g, off + 2, none⟩ = some (.slice ax x.kids.length cx) ∧ W'.cell? ⟨g, off + 3, none⟩ = some (.int .i64 x.pos))) := fun l W' h => ⟨⟨h.cell hnoca s0, h.cell hnoca s1⟩, h.cell hnoca p0, h.cell hnoca p1, h.cell hnoca p2, h.cell hnoca p3⟩
  have HSA := Lib.hid hSA
  obtain ⟨wi, hwi⟩ : ∃ wi, wa.alloc (.cells #[.func (.func G) #[] LB, .map (some mb)] 41) = wi := ⟨_, rfl⟩
  have hbi : Below wa.heap.size wa wi := by rw [← hwi]; exact below_alloc _ _
  have hsi : wi.heap.size = wa.heap.size + 1 := by rw [← hwi]; simp
  have i0 : wi.cell? ⟨wa.heap.size, 0, none⟩ = some (.func (.func G) #[] LB) := by rw [← hwi]; simp [go_sem]
  have i1 : wi.cell? ⟨wa.heap.size, 1, none⟩ = some (.map (some mb)) := by rw [← hwi]; simp [go_sem]
  have zi0 : wi.frozen? ⟨wa.heap.size, 0, none⟩ = false := by rw [← hwi]; simp [go_sem]
  have zi1 : wi.frozen? ⟨wa.heap.size, 1, none⟩ = false := by rw [← hwi]; simp [go_sem]
  have hvi := hnv.below C hna hbi
  have howni := howna.kept (gb M hbi) hmb
  obtain ⟨⟨s0i, s1i⟩, p0i, p1i, p2i, p3i⟩ := hSA l wi hvi
  have HBD := Lib.hid (nv_bind (wa := wa) (ns := [x.text]) (g := wi.heap.size) (cn := 1) (W0 := wi) (W := wi.drew.alloc (.cells #[.string ⟨x.text.toArray⟩] 9)) C hSA hna hvi (below_da _ _) howni (by simp; clear hb; omega)
      (fun j hj => match j, hj with | 0, _ => names1 wi.drew _) (fun s hs => by rw [List.mem_singleton] at hs; subst hs; unfold maxLen; omega) (Nat.le_refl _) (by omega) (fun _ => cell_lt (names1 wi.drew _)))
  have HVI := Lib.hid hvi
  have HOI := Lib.hid howni
  have HC := Lib.hid C
  have HI := Lib.hid ih
  have HF := Lib.hid hf
  have HG := Lib.hid hgwa
  have HN := Lib.hid hnoca
  have HKX := Lib.hid hkx
  have HFX := Lib.hid hfx
  have HHX := Lib.hid hhx
  have HLX := Lib.hid (hloc.kid hxm)
  have HKT := Lib.hid hkt
  have HHT := Lib.hid (show ∀ k, k ∈ rs → k.height ≤ d from fun k hkm => by have := Nd.height_kid (hqm k hkm); omega)
  have HLT := Lib.hid (show ∀ k, k ∈ rs → InAll Loc k from fun k hkm => hloc.kid (hqm k hkm))
  have HWL := Lib.hid hwl2
  have HFL := Lib.hid hfl
  have HBE := Lib.hid (show b.length + 1 + d * 3000000000000 ≤ 2305843009213693952 by have := fuel_step hb; clear hb; omega)
  have HRL := Lib.hid hrl
  have HR0 := Lib.hid hr0
  have HMB := Lib.hid hmb
  have HSZ := Lib.hid hsz
  have HGE := Lib.hid hgB
  have HOA := Lib.hid howna
  obtain ⟨y1, hy1⟩ : ∃ y1, nodeP f d b x = y1 := ⟨_, rfl⟩
  obtain ⟨ys, hys⟩ : ∃ ys, rs.map (nodeP f d (forB2 b x)) = ys := ⟨_, rfl⟩
  obtain ⟨l1, hl1⟩ : ∃ l1, l ++ freeP d b x = l1 := ⟨_, rfl⟩
  obtain ⟨l2, hl2⟩ : ∃ l2, l1 ++ rs.flatMap (freeP d (forB2 b x)) = l2 := ⟨_, rfl⟩
  rw [hy1, hys, hl1, hl2]
  have HY := Lib.hid (show nodeP f d b x = y1 ∧ rs.map (nodeP f d (forB2 b x)) = ys ∧ l ++ freeP d b x = l1 ∧ l1 ++ rs.flatMap (freeP d (forB2 b x)) = l2 from ⟨hy1, hys, hl1, hl2⟩)
  subst hax
  clear hy1 hys hl1 hl2 hkind hwl hwl2 hbd0 hbd1 C ih hE hF hf hgwa hnoca hst hown hk hba howna hka hsta hh hloc hl hb hmb hnv hxy hxm hqm hhx hfx hkx hkt hrs hfl hsz hgB hSA hvi howni hbi hsi htx
  go_enter Tryz.func41, Tryz.ntmps41
  go_upto_if 103 with fail
  go_cut [103] from 103 to 110 (fun p wd => ∃ (bb : Bool) (mbi : Nat), p = .bool bb ∧ Hid ((wd.cell? ⟨wa.heap.size, 0, none⟩ = some (.func (.func G) #[] LB) ∧ wd.cell? ⟨wa.heap.size, 1, none⟩ = some (.map (some mbi))) ∧ wd.ownsMap Tryz.prog 9 (plainElem Tryz.prog 4) mbi (forB2 b x).length (bD (forB2 b x)) ∧ some mbi ≠ M ∧ Nv St M wa l wd))
  case first =>
    cases k26 : (x.kind == 26) with
    | false =>
      have HB2 := Lib.hid (show forB2 b x = b by rw [forB2, k26]; rfl)
      have HII := Lib.hid (And.intro i0 i1)
      go_wp2_with fail
      go_meet
      exact ⟨_, mb, rfl, Lib.hid ⟨HII.out, by rw [HB2.out]; exact HOI.out, HMB.out, HVI.out⟩⟩
    | true =>
      have HB2 := Lib.hid (show forB2 b x = pushAll b [x.text] by rw [forB2, k26]; rfl)
      have lwi : wa.heap.size < wi.heap.size := cell_lt i0
      go_wp2_with fail
      go_region_held3 (fun W' => ((W'.cell? ⟨w.heap.size, 0, none⟩ = some (.func (.func G) #[] LB) ∧ W'.cell? ⟨w.heap.size, 1, none⟩ = some (.map (some mb))) ∧ (W'.cell? ⟨g, off, none⟩ = some (.int .i64 x.kind) ∧ W'.cell? ⟨g, off + 1, none⟩ = some (.string ⟨x.text.toArray⟩) ∧ W'.cell? ⟨g, off + 2, none⟩ = some (.slice ax x.kids.length cx) ∧ W'.cell? ⟨g, off + 3, none⟩ = some (.int .i64 x.pos)))) (go_keep)
        (first
          | (go_at_call 42
             refine HBD.out.mono ?_
             rintro e w5 ⟨mb5, rfl, ⟨⟨s0i, s1i⟩, p0i, p1i, p2i, p3i⟩, hr5⟩
             obtain ⟨hcc5, hff5⟩ := bcell hr5.out.2.2.2
             have i0 := (hcc5 _ 0 lwi).trans i0
             have i1 := (hcc5 _ 1 lwi).trans i1
             have zi0 := (hff5 _ 0 lwi).trans zi0
             have zi1 := (hff5 _ 1 lwi).trans zi1
             clear hcc5 hff5))
      have hne5 : mb5 ≠ wa.heap.size := fun e => by
        obtain ⟨es, clk, hh, _⟩ := hr5.out.2.1
        rw [e] at hh
        unfold World.cell? at i0
        rw [hh] at i0
        cases i0
      have HF5 := Lib.hid (show ((((w5.setCell ⟨wa.heap.size, 0, none⟩ (.func (.func G) #[] LB)).setCell ⟨wa.heap.size, 1, none⟩ (.map (some mb5))).cell? ⟨wa.heap.size, 0, none⟩ = some (.func (.func G) #[] LB) ∧ ((w5.setCell ⟨wa.heap.size, 0, none⟩ (.func (.func G) #[] LB)).setCell ⟨wa.heap.size, 1, none⟩ (.map (some mb5))).cell? ⟨wa.heap.size, 1, none⟩ = some (.map (some mb5))) ∧ ((w5.setCell ⟨wa.heap.size, 0, none⟩ (.func (.func G) #[] LB)).setCell ⟨wa.heap.size, 1, none⟩ (.map (some mb5))).ownsMap Tryz.prog 9 (plainElem Tryz.prog 4) mb5 (forB2 b x).length (bD (forB2 b x)) ∧ some mb5 ≠ M ∧ Nv St M wa l ((w5.setCell ⟨wa.heap.size, 0, none⟩ (.func (.func G) #[] LB)).setCell ⟨wa.heap.size, 1, none⟩ (.map (some mb5)))) from
        ⟨⟨by simp [go_sem, i0, i1], by simp [go_sem, i0, i1]⟩, by rw [HB2.out]; exact (hr5.out.2.1.setCell (a := ⟨wa.heap.size, 0, none⟩) hne5 _).setCell (a := ⟨wa.heap.size, 1, none⟩) hne5 _, hr5.out.2.2.1, nv_set HC.out (nv_set HC.out hr5.out.1 hna 0 _) hna 1 _⟩)
      clear hne5 hr5
      go_wp2_with fail
      go_meet
      exact ⟨_, mb5, rfl, HF5⟩
  case rest =>
    obtain ⟨bb, mbi, rfl, HH⟩ := hcut
    have hv := HH.out.2.2.2
    have hnocr := HC.out.noc hv.2
    have hsr := hv.1.size
    have hnvr : Nv St M wc l wc := ⟨World.grownBy.refl _ _, hv.2⟩
    clear s0i s1i p0i p1i p2i p3i i0 i1 zi0 zi1 s0 s1 n0 n1 n2 n3 zn r0 r1 r2 r3 z0 z1 z2 z3 p0 p1 p2 p3
    obtain ⟨⟨s0, s1⟩, p0, p1, p2, p3⟩ := HSA.out _ _ hv
    obtain ⟨i0, i1⟩ := HH.out.1
    have hS : ∀ l W', Nv St M wc l W' → ((W'.cell? ⟨w.heap.size, 0, none⟩ = some (.func (.func G) #[] LB) ∧ W'.cell? ⟨w.heap.size, 1, none⟩ = some (.map (some mb))) ∧ (W'.cell? ⟨wa.heap.size, 0, none⟩ = some (.func (.func G) #[] LB) ∧ W'.cell? ⟨wa.heap.size, 1, none⟩ = some (.map (some mbi))) ∧ (W'.cell? ⟨g, off, none⟩ = some (.int .i64 x.kind) ∧ W'.cell? ⟨g, off + 1, none⟩ = some (.string ⟨x.text.toArray⟩) ∧ W'.cell? ⟨g, off + 2, none⟩ = some (.slice ax x.kids.length cx) ∧ W'.cell? ⟨g, off + 3, none⟩ = some (.int .i64 x.pos))) := fun l W' h => ⟨⟨h.cell hnocr s0, h.cell hnocr s1⟩, ⟨h.cell hnocr i0, h.cell hnocr i1⟩, h.cell hnocr p0, h.cell hnocr p1, h.cell hnocr p2, h.cell hnocr p3⟩
    have hnc : nS ≤ wc.heap.size := by omega
    have hBc : Bz ≤ wc.heap.size := by omega
    have hfl := HFL.out
    have hwl := HWL.out
    have hbe := HBE.out
    have hfb : (forB2 b x).length ≤ b.length + 1 := by unfold forB2; split <;> simp
    have H1 := Lib.hid (show ∀ W, Nv St M wc l W → _ from fun W h => nv_node (wa := wc) HC.out HI.out hS hnc (Bz := Bz) hBc hnocr (kids_gb HKX.out hv.1 HN.out) HFX.out HHX.out HLX.out (b := b) (by omega) (by omega) (mb := mb) h (HOA.out.kept (hv.1.trans h.1) HMB.out) HMB.out)
    have hrl := HRL.out
    have hr0 := HR0.out
    have hcf := HF.out.2.2.2.2.2.2
    have h2 : ∀ W, Nv St M wc (l ++ freeP d b x) W → Calls Tryz.prog 53 #[.agg #[.func (.func G) #[] LB, .map (some mbi)], .slice (some ⟨g, off + 4, none⟩) (t.kids.length - 1) (c - 1)] W (fun e W' => ∃ (g9 cap9 : Nat) (L9 : List (Nd × Option Addr × Nat)), e = .returned (.slice (some ⟨g9, 0, none⟩) (t.kids.length - 1) cap9) ∧ ((W'.cell? ⟨w.heap.size, 0, none⟩ = some (.func (.func G) #[] LB) ∧ W'.cell? ⟨w.heap.size, 1, none⟩ = some (.map (some mb))) ∧ (W'.cell? ⟨wa.heap.size, 0, none⟩ = some (.func (.func G) #[] LB) ∧ W'.cell? ⟨wa.heap.size, 1, none⟩ = some (.map (some mbi))) ∧ (W'.cell? ⟨g, off, none⟩ = some (.int .i64 x.kind) ∧ W'.cell? ⟨g, off + 1, none⟩ = some (.string ⟨x.text.toArray⟩) ∧ W'.cell? ⟨g, off + 2, none⟩ = some (.slice ax x.kids.length cx) ∧ W'.cell? ⟨g, off + 3, none⟩ = some (.int .i64 x.pos))) ∧
        Hid (L9.map (·.1) = rs.map (nodeP f d (forB2 b x)) ∧ L9.length = t.kids.length - 1 ∧ (∀ x, x ∈ L9 → Fits x.1 x.2.2 ∧ KidsZ W' (Zn Bz W.heap.size W') x.2.1 x.1.kids) ∧ (∀ j u, (L9.flatMap node4)[j]? = some u → W'.cell? ((⟨g9, 0, none⟩ : Addr).add j) = some u) ∧ Nv St M wc (l ++ freeP d b x ++ rs.flatMap (freeP d (forB2 b x))) W' ∧ W.grownBy W' M ∧ W.heap.size ≤ W'.heap.size)) := fun W h => by
      have hsz := h.1.size
      have ha := all_any HC.out d HI.out (forB2 b x) mbi (l ++ freeP d b x) rs (some ⟨g, off + 4, none⟩) (c - 1) W Bz HHT.out HLT.out h.2 (by omega) (HH.out.2.1.kept h.1 HH.out.2.2.1) HH.out.2.2.1 (by omega) (by rw [List.length_append]; omega) (by omega) (kids_gb (kids_gb HKT.out hv.1 HN.out) h.1 hnocr) (by omega) (by omega) (by omega)
      rw [hrl] at ha
      refine ha.mono (fun e W' hp => ?_)
      obtain ⟨v, L, he, hL, hr, hg, hs⟩ := hp
      have hLl : L.length = t.kids.length - 1 := by have := congrArg List.length hL; simp at this; omega
      obtain ⟨g9, cap9, rfl, -, -, hcl⟩ := hr.lies (by omega)
      have hv' : Nv St M wc (l ++ freeP d b x ++ rs.flatMap (freeP d (forB2 b x))) W' := ⟨h.1.trans hg, hs⟩
      exact ⟨g9, cap9, L, by rw [he, hLl], hS _ _ hv', Lib.hid ⟨hL, hLl, fun x hx => ⟨(hr.2 x hx).1, (hr.2 x hx).2.mono (fun b hb => hb.1)⟩, hcl, hv', hg, hg.size⟩⟩
    have H2 := Lib.hid h2
    have HNR := Lib.hid (show ∀ l W, Nv St M wc l W → Nv St M wa l W from fun l W h => ⟨hv.1.trans h.1, h.2⟩)
    have HR9 := Lib.hid (show 0 < t.kids.length - 1 by omega)
    have HR63 := Lib.hid (show 1 + (t.kids.length - 1) ≤ maxLen by unfold maxLen; omega)
    have HR56 := Lib.hid (show (1 + (t.kids.length - 1)) * 56 ≤ 140737488355328 by omega)
    have HSR := Lib.hid hsr
    have HBC := Lib.hid hBc
    have HNVR := Lib.hid (hnvr.below HC.out hnc (Below.refl _ _).drew)
    have HMR := Lib.hid (show ∀ r, M = some r → r < wc.heap.size from fun r e => by have := (HC.out.mine _ _ hv.2 r e).1; omega)
    have hyl : ys.length = t.kids.length - 1 := by rw [← HY.out.2.1, List.length_map]; exact hrl
    rw [HY.out.1, HY.out.2.2.1] at H1
    rw [HY.out.2.2.1, HY.out.2.2.2, HY.out.2.1] at H2
    obtain ⟨i9, hi9, hz90, hz91, hz92⟩ := info_parts info24
    obtain ⟨⟨n0, n1, n2, n3⟩, zn, ⟨r0, r1, r2, r3⟩, z0, z1, z2, z3⟩ := HNB.out _ _ hv
    have HYL := Lib.hid hyl
    have HNC := Lib.hid hnc
    clear hv hnocr hsr hnvr hS hfl hwl hbe hfb hrl hr0 hcf h2 hyl hnc HH
    go_wp2_with fail
    go_region_held3 (fun W' => ((W'.cell? ⟨w.heap.size, 0, none⟩ = some (.func (.func G) #[] LB) ∧ W'.cell? ⟨w.heap.size, 1, none⟩ = some (.map (some mb))) ∧ (W'.cell? ⟨wa.heap.size, 0, none⟩ = some (.func (.func G) #[] LB) ∧ W'.cell? ⟨wa.heap.size, 1, none⟩ = some (.map (some mbi))) ∧ (W'.cell? ⟨g, off, none⟩ = some (.int .i64 x.kind) ∧ W'.cell? ⟨g, off + 1, none⟩ = some (.string ⟨x.text.toArray⟩) ∧ W'.cell? ⟨g, off + 2, none⟩ = some (.slice ax x.kids.length cx) ∧ W'.cell? ⟨g, off + 3, none⟩ = some (.int .i64 x.pos)))) (go_keep)
      (first
        | (go_at_call 41
           refine (H1.out _ HNVR.out).mono ?_
           rintro e w6 ⟨a6, c6, rfl, ⟨⟨s0, s1⟩, ⟨i0, i1⟩, p0, p1, p2, p3⟩, hr6⟩
           obtain ⟨⟨n0, n1, n2, n3⟩, zn, ⟨r0, r1, r2, r3⟩, z0, z1, z2, z3⟩ := HNB.out _ _ (HNR.out _ _ hr6.out.1)
           have l6 := cell_lt s0
           have li6 := cell_lt i0
           have lp6 := cell_lt p0
           have ln6 := cell_lt n0
           have lr6 := cell_lt r0)
        | (go_at_call 53
           first
             | (refine (H2.out w6 hr6.out.1).mono ?_
                rintro e w8 ⟨g9, cap9, L9, rfl, ⟨⟨s0, s1⟩, ⟨i0, i1⟩, p0, p1, p2, p3⟩, hr8⟩
                obtain ⟨⟨n0, n1, n2, n3⟩, zn, ⟨r0, r1, r2, r3⟩, z0, z1, z2, z3⟩ := HNB.out _ _ (HNR.out _ _ hr8.out.2.2.2.2.1)
                have HG8 := Lib.hid hr8.out.2.2.2.2.2.1
                have HN8 := Lib.hid (show wc.heap.size ≤ w6.heap.size from hr6.out.1.1.size)
                have OB := Lib.hid (show wc.heap.size ≤ w8.heap.size from hr8.out.2.2.2.2.1.1.size)
                have l8 := cell_lt s0
                have li8 := cell_lt i0
                have lp8 := cell_lt p0
                have ln8 := cell_lt n0
                have lr8 := cell_lt r0)
             | (refine (H2.out (w6.alloc (.cells #[.int .i64 y1.kind, .string ⟨y1.text.toArray⟩, .slice a6 y1.kids.length c6, .int .i64 y1.pos] 25)) (hr6.out.1.below HC.out HNC.out (below_alloc _ _))).mono ?_
                rintro e w8 ⟨g9, cap9, L9, rfl, ⟨⟨s0, s1⟩, ⟨i0, i1⟩, p0, p1, p2, p3⟩, hr8⟩
                obtain ⟨⟨n0, n1, n2, n3⟩, zn, ⟨r0, r1, r2, r3⟩, z0, z1, z2, z3⟩ := HNB.out _ _ (HNR.out _ _ hr8.out.2.2.2.2.1)
                have OW8 := Lib.hid (ownsRow_of (own_one w6 y1 a6 c6 (base := wc.heap.size) hr6.out.1.1.size) (w' := w8) (fun q hq => by
                  obtain rfl : w6.heap.size = q := by simpa [Value.ownBlock] using hq
                  exact hr8.out.2.2.2.2.2.1.block _ (by simp) (fun e => by have := HMR.out _ e.symm; have := hr6.out.1.1.size; omega)))
                have HSA8 := Lib.hid (show (w6.alloc (.cells #[.int .i64 y1.kind, .string ⟨y1.text.toArray⟩, .slice a6 y1.kids.length c6, .int .i64 y1.pos] 25)).heap.size = w6.heap.size + 1 by simp)
                have HG8 := Lib.hid ((gb M (below_alloc w6 _)).trans hr8.out.2.2.2.2.2.1)
                have HN8 := Lib.hid (Nat.le_trans hr6.out.1.1.size (below_alloc w6 (.cells #[.int .i64 y1.kind, .string ⟨y1.text.toArray⟩, .slice a6 y1.kids.length c6, .int .i64 y1.pos] 25)).size)
                have OB := Lib.hid (show wc.heap.size ≤ w8.heap.size from hr8.out.2.2.2.2.1.1.size)
                have l8 := cell_lt s0
                have li8 := cell_lt i0
                have lp8 := cell_lt p0
                have ln8 := cell_lt n0
                have lr8 := cell_lt r0))
        | (refine step_append_lies _ (by rfl) _ _ _ (by rfl) wc.heap.size 25 i9 _ 4 56 und22 hi9 hz90 hz91 hz92 rfl (by omega) (.slice (some ⟨w6.heap.size, 0, none⟩) 1 1) 1 (node4 (y1, a6, c6)) (by rfl) OW8.out ⟨g9, 0, none⟩ (t.kids.length - 1) cap9 (L9.flatMap node4) (by rfl) (by rw [cells_len, hr8.out.2.1]) hr8.out.2.2.2.1 (one_all L9) HR9.out HR63.out HR56.out OB.out _ (by rfl) ?_
           intro gg cap w9 hown9 hgrow9 hat9 hlt9
           have K9 : ∀ p u, w8.cell? p = some u → p.block < w6.heap.size → w9.cell? p = some u ∧ w9.frozen? p = w8.frozen? p := fun p u hu hp => ⟨(hgrow9.cell_far p (cell_lt' hu) (fun e => by have e' : p.block = (w6.heap.size) := Option.some.inj e; have := hr8.out.2.2.2.2.2.2; omega)).trans hu, hgrow9.frozen_far p (cell_lt' hu) (fun e => by have e' : p.block = (w6.heap.size) := Option.some.inj e; have := hr8.out.2.2.2.2.2.2; omega)⟩
           have zn := (K9 ⟨w.heap.size + 1, 2, none⟩ _ n2 ln6).2.trans zn
           have z0 := (K9 ⟨w.heap.size + 1 + 1, 0, none⟩ _ r0 lr6).2.trans z0
           have z1 := (K9 ⟨w.heap.size + 1 + 1, 1, none⟩ _ r1 lr6).2.trans z1
           have z2 := (K9 ⟨w.heap.size + 1 + 1, 2, none⟩ _ r2 lr6).2.trans z2
           have z3 := (K9 ⟨w.heap.size + 1 + 1, 3, none⟩ _ r3 lr6).2.trans z3
           have s0 := (K9 ⟨w.heap.size, 0, none⟩ _ s0 l6).1
           have s1 := (K9 ⟨w.heap.size, 1, none⟩ _ s1 l6).1
           have i0 := (K9 ⟨wa.heap.size, 0, none⟩ _ i0 li6).1
           have i1 := (K9 ⟨wa.heap.size, 1, none⟩ _ i1 li6).1
           have p0 := (K9 ⟨g, off, none⟩ _ p0 lp6).1
           have p1 := (K9 ⟨g, off + 1, none⟩ _ p1 lp6).1
           have p2 := (K9 ⟨g, off + 2, none⟩ _ p2 lp6).1
           have p3 := (K9 ⟨g, off + 3, none⟩ _ p3 lp6).1
           have n0 := (K9 ⟨w.heap.size + 1, 0, none⟩ _ n0 ln6).1
           have n1 := (K9 ⟨w.heap.size + 1, 1, none⟩ _ n1 ln6).1
           have n2 := (K9 ⟨w.heap.size + 1, 2, none⟩ _ n2 ln6).1
           have n3 := (K9 ⟨w.heap.size + 1, 3, none⟩ _ n3 ln6).1
           have r0 := (K9 ⟨w.heap.size + 1 + 1, 0, none⟩ _ r0 lr6).1
           have r1 := (K9 ⟨w.heap.size + 1 + 1, 1, none⟩ _ r1 lr6).1
           have r2 := (K9 ⟨w.heap.size + 1 + 1, 2, none⟩ _ r2 lr6).1
           have r3 := (K9 ⟨w.heap.size + 1 + 1, 3, none⟩ _ r3 lr6).1
           have k9 := cell_lt n0
           have j9 := cell_lt r0
           have l9 := cell_lt s0
           have li9 := cell_lt i0
           have lp9 := cell_lt p0
           have HZ9 := Lib.hid (for_done HC.out hna HSR.out hBa hr6.out.2.2.1 hr6.out.2.1 HG8.out (HC.out.noc hr6.out.1.2) hr8.out.2.2.1 (HN8.out) hr8.out.1 (HNR.out _ _ hr8.out.2.2.2.2.1) (Below.refl _ _) (Nat.le_refl _) hr6.out.1.1.size (fun b hb e => by have h9 := hr6.out.1.1.size; have := HBC.out; have h8 := HSA8.out; rcases hb with h | h <;> omega) (by rw [hr8.out.2.1]; exact hown9) hgrow9 hat9)
           )
        | (refine step_append_lies _ (by rfl) _ _ _ (by rfl) wc.heap.size 25 i9 _ 4 56 und22 hi9 hz90 hz91 hz92 rfl (by omega) (.slice (some ⟨w8.heap.size, 0, none⟩) 1 1) 1 (node4 (y1, a6, c6)) (by rfl) (own_one w8 y1 a6 c6 (base := wc.heap.size) OB.out) ⟨g9, 0, none⟩ (t.kids.length - 1) cap9 (L9.flatMap node4) (by rfl) (by rw [cells_len, hr8.out.2.1]) (fun j u h => cell_alloc' _ (hr8.out.2.2.2.1 j u h)) (one_all L9) HR9.out HR63.out HR56.out (by have := OB.out; simp; omega) _ (by rfl) ?_
           intro gg cap w9 hown9 hgrow9 hat9 hlt9
           have K9 : ∀ p u, (w8.alloc (.cells #[.int .i64 y1.kind, .string ⟨y1.text.toArray⟩, .slice a6 y1.kids.length c6, .int .i64 y1.pos] 25)).cell? p = some u → p.block < w6.heap.size → w9.cell? p = some u ∧ w9.frozen? p = (w8.alloc (.cells #[.int .i64 y1.kind, .string ⟨y1.text.toArray⟩, .slice a6 y1.kids.length c6, .int .i64 y1.pos] 25)).frozen? p := fun p u hu hp => ⟨(hgrow9.cell_far p (cell_lt' hu) (fun e => by have e' : p.block = (w8.heap.size) := Option.some.inj e; have := hr8.out.2.2.2.2.2.2; omega)).trans hu, hgrow9.frozen_far p (cell_lt' hu) (fun e => by have e' : p.block = (w8.heap.size) := Option.some.inj e; have := hr8.out.2.2.2.2.2.2; omega)⟩
           have zn := (K9 ⟨w.heap.size + 1, 2, none⟩ _ (cell_alloc' _ n2) ln6).2.trans ((World.frozen?_of_block ((below_alloc w8 _).block _ (cell_lt n2))).trans zn)
           have z0 := (K9 ⟨w.heap.size + 1 + 1, 0, none⟩ _ (cell_alloc' _ r0) lr6).2.trans ((World.frozen?_of_block ((below_alloc w8 _).block _ (cell_lt r0))).trans z0)
           have z1 := (K9 ⟨w.heap.size + 1 + 1, 1, none⟩ _ (cell_alloc' _ r1) lr6).2.trans ((World.frozen?_of_block ((below_alloc w8 _).block _ (cell_lt r1))).trans z1)
           have z2 := (K9 ⟨w.heap.size + 1 + 1, 2, none⟩ _ (cell_alloc' _ r2) lr6).2.trans ((World.frozen?_of_block ((below_alloc w8 _).block _ (cell_lt r2))).trans z2)
           have z3 := (K9 ⟨w.heap.size + 1 + 1, 3, none⟩ _ (cell_alloc' _ r3) lr6).2.trans ((World.frozen?_of_block ((below_alloc w8 _).block _ (cell_lt r3))).trans z3)
           have s0 := (K9 ⟨w.heap.size, 0, none⟩ _ (cell_alloc' _ s0) l6).1
           have s1 := (K9 ⟨w.heap.size, 1, none⟩ _ (cell_alloc' _ s1) l6).1
           have i0 := (K9 ⟨wa.heap.size, 0, none⟩ _ (cell_alloc' _ i0) li6).1
           have i1 := (K9 ⟨wa.heap.size, 1, none⟩ _ (cell_alloc' _ i1) li6).1
           have p0 := (K9 ⟨g, off, none⟩ _ (cell_alloc' _ p0) lp6).1
           have p1 := (K9 ⟨g, off + 1, none⟩ _ (cell_alloc' _ p1) lp6).1
           have p2 := (K9 ⟨g, off + 2, none⟩ _ (cell_alloc' _ p2) lp6).1
           have p3 := (K9 ⟨g, off + 3, none⟩ _ (cell_alloc' _ p3) lp6).1
           have n0 := (K9 ⟨w.heap.size + 1, 0, none⟩ _ (cell_alloc' _ n0) ln6).1
           have n1 := (K9 ⟨w.heap.size + 1, 1, none⟩ _ (cell_alloc' _ n1) ln6).1
           have n2 := (K9 ⟨w.heap.size + 1, 2, none⟩ _ (cell_alloc' _ n2) ln6).1
           have n3 := (K9 ⟨w.heap.size + 1, 3, none⟩ _ (cell_alloc' _ n3) ln6).1
           have r0 := (K9 ⟨w.heap.size + 1 + 1, 0, none⟩ _ (cell_alloc' _ r0) lr6).1
           have r1 := (K9 ⟨w.heap.size + 1 + 1, 1, none⟩ _ (cell_alloc' _ r1) lr6).1
           have r2 := (K9 ⟨w.heap.size + 1 + 1, 2, none⟩ _ (cell_alloc' _ r2) lr6).1
           have r3 := (K9 ⟨w.heap.size + 1 + 1, 3, none⟩ _ (cell_alloc' _ r3) lr6).1
           have k9 := cell_lt n0
           have j9 := cell_lt r0
           have l9 := cell_lt s0
           have li9 := cell_lt i0
           have lp9 := cell_lt p0
           have HZ9 := Lib.hid (for_done HC.out hna HSR.out hBa hr6.out.2.2.1 hr6.out.2.1 HG8.out (HC.out.noc hr6.out.1.2) hr8.out.2.2.1 (HN8.out) hr8.out.1 (HNR.out _ _ hr8.out.2.2.2.2.1) (below_alloc w8 _) (HG8.out.size) hr6.out.1.1.size (fun b hb e => by have h9 := hr8.out.2.2.2.2.1.1.size; have := HBC.out; rcases hb with h | h <;> omega) (by rw [hr8.out.2.1]; exact hown9) hgrow9 hat9)
           ))
    all_goals
      have HP := Lib.hid (show ∀ W6, Sets w.heap.size w9 W6 → NodePost (t.with (y1 :: ys)) l2 M St Bz w (.returned (.agg #[.int .i64 t.kind, .string ⟨t.text.toArray⟩, .slice (some ⟨gg, 0, none⟩) (y1 :: ys).length cap, .int .i64 t.pos])) W6 from fun W6 hset =>
        node_end HC.out hn hBz HF.out (HG.out.trans HZ9.out.2.2.2.1) HZ9.out.2.2.2.2 (by have := HZ9.out.1; rw [HSZ.out] at this; exact this) (by rw [List.length_cons]; have := HZ9.out.2.1; omega) HZ9.out.2.2.1 (by have := HF.out.2.2.2.2.2.2.2; have := HYL.out; have := HR9.out; rw [List.length_cons]; omega) hset)
      have hy9 : ys.length + 1 = 1 + (t.kids.length - 1) := by have := HYL.out; omega
      go_wp2_with fail
      refine bodyPost_ret (v := .agg #[.int .i64 t.kind, .string ⟨t.text.toArray⟩, .slice (some ⟨gg, 0, none⟩) (y1 :: ys).length cap, .int .i64 t.pos]) (by simp [results, Tryz.results41, go_sem, r0, r1, r2, r3, j9, k9, hy9]; omega) rfl ?_
      exact HP.out _ (by repeat first | (with_reducible exact Sets.refl _ _) | (with_reducible refine Sets.set ?_ _ _ (by omega) _) | (with_reducible refine Sets.al ?_ _))

theorem node_zero (C : FreeC G LB f M nS St) : NodeAt G LB f M nS St 0 := fun b mb l t a c W Bz hh => by have := Nd.height_eq t; omega
theorem node_step (C : FreeC G LB f M nS St) (d : Nat) (ih : NodeAt G LB f M nS St d) : NodeAt G LB f M nS St (d + 1) := by
  intro b mb l t a c W Bz hh hloc hst hn hown hmb hb hl hBz hk hf
  by_cases h18 : t.kind = 18
  · cases hbd : b.contains t.text with
    | true => exact node_bound C d b mb l t a c W Bz h18 hbd hh hloc hst hn hown hmb hb hl hBz hk hf
    | false => exact node_free C d b mb l t a c W Bz h18 hbd hh hloc hst hn hown hmb hb hl hBz hk hf
  by_cases h36 : t.kind = 36
  · exact node_block C d ih b mb l t a c W Bz h36 hh hloc hst hn hown hmb hb hl hBz hk hf
  by_cases h25 : t.kind = 25
  · exact node_func C d ih b mb l t a c W Bz h25 hh hloc hst hn hown hmb hb hl hBz hk hf
  by_cases h32 : t.kind = 32
  · exact node_range C d ih b mb l t a c W Bz h32 hh hloc hst hn hown hmb hb hl hBz hk hf
  by_cases h31 : t.kind = 31
  · exact node_for C d ih b mb l t a c W Bz h31 hh hloc hst hn hown hmb hb hl hBz hk hf
  · exact node_other C d ih b mb l t a c W Bz h18 h36 h25 h32 h31 hh hloc hst hn hown hmb hb hl hBz hk hf
/-- scope.node, of whatever node. -/
theorem node_any (C : FreeC G LB f M nS St) : ∀ d, NodeAt G LB f M nS St d
  | 0 => node_zero C
  | d + 1 => node_step C d (node_any C d)
end
end Go.Proofs.YtfcpblclfgkdjaaGreatDoor
