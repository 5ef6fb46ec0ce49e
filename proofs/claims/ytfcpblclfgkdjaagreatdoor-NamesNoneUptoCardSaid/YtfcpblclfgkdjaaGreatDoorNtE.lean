/-
  names: scope.node, walked: ranges. (printed by gen_node2.py)
-/
import Derived.Test.YtfcpblclfgkdjaaGreatDoorNtD
import Derived.Deep.RegionHeld3
namespace Go.Proofs.YtfcpblclfgkdjaaGreatDoor
set_option linter.unusedSimpArgs false
set_option linter.unusedVariables false
open Go.RowKit Go.Maps

theorem takeWhile_all : ∀ {l : List UInt8}, 44 ∉ l → l.takeWhile (fun c => !(c == 44)) = l
  | [], _ => rfl
  | x :: r, h => by
    have h1 : (!(x == 44)) = true := by simp; intro e; exact h (by simp [e])
    rw [List.takeWhile_cons, h1]
    simp only [if_true]
    rw [takeWhile_all (fun hm => h (List.mem_cons_of_mem _ hm))]
theorem dropWhile_all : ∀ {l : List UInt8}, 44 ∉ l → l.dropWhile (fun c => !(c == 44)) = []
  | [], _ => rfl
  | x :: r, h => by
    have h1 : (!(x == 44)) = true := by simp; intro e; exact h (by simp [e])
    rw [List.dropWhile_cons, h1]
    simp only [if_true]
    exact dropWhile_all (fun hm => h (List.mem_cons_of_mem _ hm))
theorem cut_rn (s : List UInt8) (W : World) (hl : s.length ≤ 9223372036854775807) : Calls Tryz.prog 52 #[.string ⟨s.toArray⟩, .string ⟨#[44]⟩] W fun e w' => ∃ bl, e = .returned (.tuple #[.string ⟨(rn1 s).toArray⟩, .string ⟨(rn2 s).toArray⟩, .bool bl]) ∧ Below W.heap.size W w' := by
  by_cases h : 44 ∈ s
  · obtain ⟨pre, post, e, hp⟩ := parts_of h
    have e1 : rn1 s = pre := by rw [rn1, e]; exact takeWhile_parts pre post hp
    have e2 : rn2 s = post := by rw [rn2, e, dropWhile_parts pre post hp]; rfl
    rw [e1, e2]
    exact (cut_yes pre post 44 W hp s e hl).mono fun e w' ⟨he, hb⟩ => ⟨true, he, hb⟩
  · have e1 : rn1 s = s := by
      unfold rn1
      exact takeWhile_all h
    have e2 : rn2 s = [] := by
      unfold rn2
      rw [dropWhile_all h]; rfl
    rw [e1, e2]
    exact (cut_no s 44 W h).mono fun e w' ⟨he, hb⟩ => ⟨false, he, hb⟩
theorem rn1_len (s : List UInt8) : (rn1 s).length ≤ s.length := (List.takeWhile_sublist _).length_le
theorem rn2_len (s : List UInt8) : (rn2 s).length ≤ s.length := by
  unfold rn2
  rw [List.length_drop]
  have := (List.dropWhile_sublist (fun c : UInt8 => !(c == 44)) (l := s)).length_le
  omega
theorem below_da (w : World) (o : Obj) : Below w.heap.size w (w.drew.alloc o) := bext (Below.refl _ _).drew (below_alloc _ _)
theorem names2 (w : World) (a b : ByteArray) : (w.alloc (.cells #[.string a, .string b] 9)).cell? ⟨w.heap.size, 0, none⟩ = some (.string a) ∧ (w.alloc (.cells #[.string a, .string b] 9)).cell? ⟨w.heap.size, 1, none⟩ = some (.string b) := by constructor <;> simp [go_sem]
/-- Two nodes in a row of their own. -/
theorem pair_kids {Bz n : Nat} {W : World} {y1 y2 : Nd} {a1 a2 : Option Addr} {c1 c2 : Nat} (h1 : KidsZ W (Zn Bz n W) a1 y1.kids) (f1 : Fits y1 c1) (h2 : KidsZ W (Zn Bz n W) a2 y2.kids) (f2 : Fits y2 c2) (hn : n ≤ W.heap.size) :
    KidsZ (W.alloc (.cells #[.int .i64 y1.kind, .string ⟨y1.text.toArray⟩, .slice a1 y1.kids.length c1, .int .i64 y1.pos, .int .i64 y2.kind, .string ⟨y2.text.toArray⟩, .slice a2 y2.kids.length c2, .int .i64 y2.pos] 25)) (Zn Bz n (W.alloc (.cells #[.int .i64 y1.kind, .string ⟨y1.text.toArray⟩, .slice a1 y1.kids.length c1, .int .i64 y1.pos, .int .i64 y2.kind, .string ⟨y2.text.toArray⟩, .slice a2 y2.kids.length c2, .int .i64 y2.pos] 25))) (some ⟨W.heap.size, 0, none⟩) [y1, y2] := by
  have hz : ∀ {a : Option Addr} {l : List Nd} (o : Obj), KidsZ W (Zn Bz n W) a l → KidsZ (W.alloc o) (Zn Bz n (W.alloc o)) a l := fun o h => h.move (fun b hb => hb.imp id (fun h => ⟨h.1, by simp; omega⟩)) (fun p u _ hu => cell_alloc' o hu)
  rw [kidsZ_iff]
  intro j hj
  match j, hj with
  | 0, _ => exact ⟨W.heap.size, 0, a1, c1, rfl, .inr ⟨hn, by simp⟩, ⟨by simp [go_sem], by simp [go_sem], by simp [go_sem], by simp [go_sem]⟩, f1, hz _ h1⟩
  | 1, _ => exact ⟨W.heap.size, 0, a2, c2, rfl, .inr ⟨hn, by simp⟩, ⟨by simp [go_sem], by simp [go_sem], by simp [go_sem], by simp [go_sem]⟩, f2, hz _ h2⟩

theorem Sets.al {n : Nat} {w W : World} (h : Sets n w W) (o : Obj) : Sets n (w.alloc o) (W.alloc o) := by
  obtain ⟨h1, h2, h3, h4, h5⟩ := h
  refine ⟨h1, h2, h3, by simp [h4], fun k hk => ?_⟩
  simp only [World.alloc, Array.getElem?_push, h4]
  split
  · rfl
  · exact h5 k hk
/-- A world behind the boxes of the call. -/
def Nv (St : List (List UInt8) → World → Prop) (M : Option Nat) (wa : World) (l : List (List UInt8)) (W : World) : Prop := wa.grownBy W M ∧ St l W
section
variable {G : Nat} {LB : Array Value} {f : Nd → Nd} {M : Option Nat} {nS : Nat} {St : List (List UInt8) → World → Prop} {wa W W' : World} {l : List (List UInt8)}
theorem Nv.below (C : FreeC G LB f M nS St) (h : Nv St M wa l W) (hna : nS ≤ wa.heap.size) (hb : Below W.heap.size W W') : Nv St M wa l W' := ⟨h.1.trans (gb M hb), C.below h.2 (by have := h.1.size; omega) hb⟩
theorem Nv.cell (h : Nv St M wa l W) (hnoc : NoC M wa) {p : Addr} {v : Value} (hv : wa.cell? p = some v) : W.cell? p = some v := cell_kept hv h.1 hnoc
theorem Nv.frozen (h : Nv St M wa l W) (hnoc : NoC M wa) {p : Addr} {v : Value} (hv : wa.cell? p = some v) : W.frozen? p = wa.frozen? p := frozen_kept hv h.1 hnoc

/-- node of a kid, at whatever world behind the boxes. -/
theorem nv_node (C : FreeC G LB f M nS St) {d : Nat} (ih : NodeAt G LB f M nS St d) {S : World → Prop} (hS : ∀ l W, Nv St M wa l W → S W) (hna : nS ≤ wa.heap.size) {Bz : Nat} (hBa : Bz ≤ wa.heap.size) (hnoc : NoC M wa) {x : Nd} {ax : Option Addr} {cx : Nat} (hk : Kids wa Bz ax x.kids) (hf : Fits x cx) (hh : x.height ≤ d) (hloc : InAll Loc x)
    {b : List (List UInt8)} (hb : b.length + d * 3000000000000 ≤ 2305843009213693952) (hl : l.length + (walkL d x).length ≤ 1125899906842624) {mb : Nat} (h : Nv St M wa l W) (hown : W.ownsMap Tryz.prog 9 (plainElem Tryz.prog 4) mb b.length (bD b)) (hmb : some mb ≠ M) :
    Calls Tryz.prog 41 #[.agg #[.func (.func G) #[] LB, .map (some mb)], .agg #[.int .i64 x.kind, .string ⟨x.text.toArray⟩, .slice ax x.kids.length cx, .int .i64 x.pos]] W (fun e W' => ∃ a' c', e = .returned (.agg #[.int .i64 (nodeP f d b x).kind, .string ⟨(nodeP f d b x).text.toArray⟩, .slice a' (nodeP f d b x).kids.length c', .int .i64 (nodeP f d b x).pos]) ∧ S W' ∧
      Hid (Nv St M wa (l ++ freeP d b x) W' ∧ Fits (nodeP f d b x) c' ∧ KidsZ W' (Zn Bz wa.heap.size W') a' (nodeP f d b x).kids ∧ W.grownBy W' M)) :=
  (ih b mb l x ax cx W Bz hh hloc h.2 (by have := h.1.size; omega) hown hmb hb hl (by have := h.1.size; omega) (kids_gb hk h.1 hnoc) hf).mono fun e W' ⟨a', c', he, hf', hz, hg, hs⟩ => by
    have hv : Nv St M wa (l ++ freeP d b x) W' := ⟨h.1.trans hg, hs⟩
    exact ⟨a', c', he, hS _ _ hv, Lib.hid ⟨hv, hf', hz.mono (fun q hq => hq.imp id (fun h1 => ⟨by have := h.1.size; omega, h1.2⟩)), hg⟩⟩
/-- binding, at whatever world behind the boxes. -/
theorem nv_bind (C : FreeC G LB f M nS St) {S : World → Prop} (hS : ∀ l W, Nv St M wa l W → S W) (hna : nS ≤ wa.heap.size) {b : List (List UInt8)} {mb : Nat} {ns : List (List UInt8)} {g cn : Nat} {W0 : World} (h : Nv St M wa l W0) (hb0 : Below W0.heap.size W0 W)
    (hown : W0.ownsMap Tryz.prog 9 (plainElem Tryz.prog 4) mb b.length (bD b)) (hlen : b.length + ns.length < 4611686018427387904)
    (hns : ∀ j (h : j < ns.length), W.cell? ⟨g, j, none⟩ = some (.string ⟨ns[j].toArray⟩)) (hl : ∀ s, s ∈ ns → s.length ≤ maxLen) (hc : ns.length ≤ cn) (hc2 : cn ≤ 9223372036854775807) (hgl : ns ≠ [] → g < W.heap.size) :
    Calls Tryz.prog 42 #[.agg #[.func (.func G) #[] LB, .map (some mb)], .slice (some ⟨g, 0, none⟩) ns.length cn] W (fun e W' => ∃ mb', e = .returned (.agg #[.func (.func G) #[] LB, .map (some mb')]) ∧ S W' ∧
      Hid (Nv St M wa l W' ∧ W'.ownsMap Tryz.prog 9 (plainElem Tryz.prog 4) mb' (pushAll b ns).length (bD (pushAll b ns)) ∧ some mb' ≠ M ∧ Below W0.heap.size W0 W')) :=
  (binding_any G LB b mb ns g cn W (hown.kept (gb none hb0) (by simp)) hlen hns hl hc hc2 hgl).mono fun e W' ⟨mb', he, hm, ho, hb⟩ => by
    have hb1 := bext hb0 hb
    have hv := h.below C hna hb1
    exact ⟨mb', he, hS _ _ hv, Lib.hid ⟨hv, ho, fun e => by have := (C.mine _ _ h.2 _ e.symm).1; have := h.1.size; have := hb0.size; omega, hb1⟩⟩

set_option maxRecDepth 100000 in
set_option maxHeartbeats 16000000 in
theorem node_range (C : FreeC G LB f M nS St) (d : Nat) (ih : NodeAt G LB f M nS St d) (b : List (List UInt8)) (mb : Nat) (l : List (List UInt8)) (t : Nd) (a : Option Addr) (c : Nat) (w : World) (Bz : Nat) (hkind : t.kind = 32)
    (hh : t.height ≤ d + 1) (hloc : InAll Loc t) (hst : St l w) (hn : nS ≤ w.heap.size) (hown : w.ownsMap Tryz.prog 9 (plainElem Tryz.prog 4) mb b.length (bD b)) (hmb : some mb ≠ M)
    (hb : b.length + (d + 1) * 3000000000000 ≤ 2305843009213693952) (hl : l.length + (walkL (d + 1) t).length ≤ 1125899906842624) (hBz : Bz ≤ w.heap.size) (hk : Kids w Bz a t.kids) (hf : Fits t c) :
    Calls Tryz.prog 41 #[.agg #[.func (.func G) #[] LB, .map (some mb)], .agg #[.int .i64 t.kind, .string ⟨t.text.toArray⟩, .slice a t.kids.length c, .int .i64 t.pos]] w (NodePost (nodeP f (d + 1) b t) (l ++ freeP (d + 1) b t) M St Bz w) := by
  obtain ⟨wa, hwa⟩ : ∃ wa, ((w.alloc (.cells #[.func (.func G) #[] LB, .map (some mb)] 41)).alloc (.cells #[.int .i64 t.kind, .string ⟨t.text.toArray⟩, .slice a t.kids.length c, .int .i64 t.pos] 25)).alloc (.cells #[.int .i64 0, .string ⟨#[]⟩, .slice none 0 0, .int .i64 0] 25) = wa := ⟨_, rfl⟩
  have hba : Below w.heap.size w wa := by rw [← hwa]; exact (((Below.refl _ _).alloc (Nat.le_refl _) _).alloc (by simp) _).alloc (by simp; omega) _
  have hsz : wa.heap.size = w.heap.size + 3 := by rw [← hwa]; simp
  have s0 : wa.cell? ⟨w.heap.size, 0, none⟩ = some (.func (.func G) #[] LB) := by rw [← hwa]; simp [go_sem]
  have s1 : wa.cell? ⟨w.heap.size, 1, none⟩ = some (.map (some mb)) := by rw [← hwa]; simp [go_sem]
  have n0 : wa.cell? ⟨w.heap.size + 1, 0, none⟩ = some (.int .i64 t.kind) := by rw [← hwa]; simp [go_sem]
  have n1 : wa.cell? ⟨w.heap.size + 1, 1, none⟩ = some (.string ⟨t.text.toArray⟩) := by rw [← hwa]; simp [go_sem]
  have n2 : wa.cell? ⟨w.heap.size + 1, 2, none⟩ = some (.slice a t.kids.length c) := by rw [← hwa]; simp [go_sem]
  have n3 : wa.cell? ⟨w.heap.size + 1, 3, none⟩ = some (.int .i64 t.pos) := by rw [← hwa]; simp [go_sem]
  have zn : wa.frozen? ⟨w.heap.size + 1, 2, none⟩ = false := by rw [← hwa]; simp [go_sem]
  have r0 : wa.cell? ⟨w.heap.size + 1 + 1, 0, none⟩ = some (.int .i64 0) := by rw [← hwa]; simp [go_sem]
  have r1 : wa.cell? ⟨w.heap.size + 1 + 1, 1, none⟩ = some (.string ⟨#[]⟩) := by rw [← hwa]; simp [go_sem]
  have r2 : wa.cell? ⟨w.heap.size + 1 + 1, 2, none⟩ = some (.slice none 0 0) := by rw [← hwa]; simp [go_sem]
  have r3 : wa.cell? ⟨w.heap.size + 1 + 1, 3, none⟩ = some (.int .i64 0) := by rw [← hwa]; simp [go_sem]
  have z0 : wa.frozen? ⟨w.heap.size + 1 + 1, 0, none⟩ = false := by rw [← hwa]; simp [go_sem]
  have z1 : wa.frozen? ⟨w.heap.size + 1 + 1, 1, none⟩ = false := by rw [← hwa]; simp [go_sem]
  have z2 : wa.frozen? ⟨w.heap.size + 1 + 1, 2, none⟩ = false := by rw [← hwa]; simp [go_sem]
  have z3 : wa.frozen? ⟨w.heap.size + 1 + 1, 3, none⟩ = false := by rw [← hwa]; simp [go_sem]
  have hsta : St l wa := C.below hst hn hba
  have hgwa : w.grownBy wa M := gb M hba
  have howna := hown.kept hgwa hmb
  have hka : Kids wa Bz a t.kids := hk.below (hba.mono hBz) (Nat.le_refl _)
  have hl63 : t.kids.length ≤ 9223372036854775807 := by have := hf.2.2.2.2.2.1; have := hf.2.2.2.2.2.2.1; omega
  have hcap : t.kids.length ≤ c := hf.2.2.2.2.2.1
  have hna : nS ≤ wa.heap.size := by omega
  have hBa : Bz ≤ wa.heap.size := by omega
  have hnoca : NoC M wa := C.noc hsta
  have hwl : l.length + (t.kids.flatMap (walkL d)).length ≤ 1125899906842624 := by rw [walkL, List.length_cons] at hl; omega
  have hbd0 : b.length + d * 3000000000000 ≤ 2305843009213693952 := by have := fuel_step hb; clear hb; omega
  have hbd1 : b.length + t.kids.length + d * 3000000000000 ≤ 2305843009213693952 := by have := hf.2.2.2.2.2.2.2; have := fuel_step hb; clear hb; omega
  have k18 : (t.kind == 18) = false := by rw [hkind]; rfl
  have k36 : (t.kind == 36) = false := by rw [hkind]; rfl
  have k25 : (t.kind == 25) = false := by rw [hkind]; rfl
  have k32 : (t.kind == 32) = true := by rw [hkind]; rfl
  obtain ⟨x, y, hxy⟩ := hloc.self.2.2 hkind
  have hE : nodeP f (d + 1) b t = t.with [nodeP f d b x, nodeP f d (rn2 t.text :: rn1 t.text :: b) y] := by rw [nodeP, if_neg (by rw [hkind]; decide), if_neg (by rw [hkind]; decide), if_neg (by rw [hkind]; decide), if_pos hkind, hxy]
  have hF : freeP (d + 1) b t = freeP d b x ++ freeP d (rn2 t.text :: rn1 t.text :: b) y := by rw [freeP, if_neg (by rw [hkind]; decide), if_neg (by rw [hkind]; decide), if_neg (by rw [hkind]; decide), if_pos hkind, hxy]
  rw [hE, hF, ← List.append_assoc]
  obtain ⟨g, off, ax, cx, hax, hgB, ⟨p0, p1, p2, p3⟩, hfx, hkx⟩ := hka.get (j := 0) (by rw [hxy]; simp)
  obtain ⟨g', off', ay, cy, hay, -, ⟨q0, q1, q2, q3⟩, hfy, hky⟩ := hka.get (j := 1) (by rw [hxy]; simp)
  rw [hax] at hay
  injection hay with hay
  injection hay with hg1 ho1 _
  subst hg1 ho1
  simp only [hxy, List.getElem_cons_zero, List.getElem_cons_succ, Nat.zero_mul, Nat.add_zero, Nat.one_mul] at p0 p1 p2 p3 q0 q1 q2 q3 hfx hkx hfy hky
  have hl2 : t.kids.length = 2 := by rw [hxy]; rfl
  have hxm : x ∈ t.kids := by rw [hxy]; simp
  have hym : y ∈ t.kids := by rw [hxy]; simp
  have hhx : x.height ≤ d := by have := Nd.height_kid hxm; omega
  have hhy : y.height ≤ d := by have := Nd.height_kid hym; omega
  have hwl2 : l.length + (walkL d x).length + (walkL d y).length ≤ 1125899906842624 := by
    rw [hxy] at hwl
    simp only [List.flatMap_cons, List.flatMap_nil, List.append_nil, List.length_append] at hwl
    omega
  have hfl := freeP_len d b x
  have hi0 : 0 < t.kids.length := by omega
  have hi1 : 1 < t.kids.length := by omega
  have hj0 : (0 : Int) < (t.kids.length : Int) := by omega
  have hj1 : (1 : Int) < (t.kids.length : Int) := by omega
  have hge : (g = w.heap.size + 1) = False := by simp; omega
  have hge2 : (w.heap.size + 1 = g) = False := by simp; omega
  have hge3 : (g = w.heap.size) = False := by simp; omega
  have hge4 : (w.heap.size = g) = False := by simp; omega
  have HNB := Lib.hid (show ∀ l W, Nv St M wa l W → ((W.cell? ⟨w.heap.size + 1, 0, none⟩ = some (.int .i64 t.kind) ∧ W.cell? ⟨w.heap.size + 1, 1, none⟩ = some (.string ⟨t.text.toArray⟩) ∧ W.cell? ⟨w.heap.size + 1, 2, none⟩ = some (.slice a t.kids.length c) ∧ W.cell? ⟨w.heap.size + 1, 3, none⟩ = some (.int .i64 t.pos)) ∧ W.frozen? ⟨w.heap.size + 1, 2, none⟩ = false ∧ (W.cell? ⟨w.heap.size + 1 + 1, 0, none⟩ = some (.int .i64 0) ∧ W.cell? ⟨w.heap.size + 1 + 1, 1, none⟩ = some (.string ⟨#[]⟩) ∧ W.cell? ⟨w.heap.size + 1 + 1, 2, none⟩ = some (.slice none 0 0) ∧ W.cell? ⟨w.heap.size + 1 + 1, 3, none⟩ = some (.int .i64 0)) ∧ W.frozen? ⟨w.heap.size + 1 + 1, 0, none⟩ = false ∧ W.frozen? ⟨w.heap.size + 1 + 1, 1, none⟩ = false ∧ W.frozen? ⟨w.heap.size + 1 + 1, 2, none⟩ = false ∧ W.frozen? ⟨w.heap.size + 1 + 1, 3, none⟩ = false) from fun l W h => ⟨⟨h.cell hnoca n0, h.cell hnoca n1, h.cell hnoca n2, h.cell hnoca n3⟩, (h.frozen hnoca n2).trans zn, ⟨h.cell hnoca r0, h.cell hnoca r1, h.cell hnoca r2, h.cell hnoca r3⟩, (h.frozen hnoca r0).trans z0, (h.frozen hnoca r1).trans z1, (h.frozen hnoca r2).trans z2, (h.frozen hnoca r3).trans z3⟩)
  have htx : t.text.length ≤ 140737488351232 := hf.2.2.2.2.1
  have hnv : Nv St M wa l wa := ⟨World.grownBy.refl _ _, hsta⟩
  have hS : ∀ l W', Nv St M wa l W' → ((W'.cell? ⟨w.heap.size, 0, none⟩ = some (.func (.func G) #[] LB) ∧ W'.cell? ⟨w.heap.size, 1, none⟩ = some (.map (some mb))) ∧ (W'.cell? ⟨g, off, none⟩ = some (.int .i64 x.kind) ∧ W'.cell? ⟨g, off + 1, none⟩ = some (.string ⟨x.text.toArray⟩) ∧ W'.cell? ⟨g, off + 2, none⟩ = some (.slice ax x.kids.length cx) ∧ W'.cell? ⟨g, off + 3, none⟩ = some (.int .i64 x.pos)) ∧ (W'.cell? ⟨g, off + 4, none⟩ = some (.int .i64 y.kind) ∧ W'.cell? ⟨g, off + 4 + 1, none⟩ = some (.string ⟨y.text.toArray⟩) ∧ W'.cell? ⟨g, off + 4 + 2, none⟩ = some (.slice ay y.kids.length cy) ∧ W'.cell? ⟨g, off + 4 + 3, none⟩ = some (.int .i64 y.pos))) := fun l W' h =>
    ⟨⟨h.cell hnoca s0, h.cell hnoca s1⟩, ⟨h.cell hnoca p0, h.cell hnoca p1, h.cell hnoca p2, h.cell hnoca p3⟩, h.cell hnoca q0, h.cell hnoca q1, h.cell hnoca q2, h.cell hnoca q3⟩
  have H1 := Lib.hid (show ∀ W, Nv St M wa l W → _ from fun W h => nv_node C ih hS hna hBa hnoca hkx hfx hhx (hloc.kid hxm) hbd0 (by omega) h (howna.kept h.1 hmb) hmb)
  have HBD := Lib.hid (show ∀ W0 W g1, Nv St M wa (l ++ freeP d b x) W0 → Below W0.heap.size W0 W → (W.cell? ⟨g1, 0, none⟩ = some (.string ⟨(rn1 t.text).toArray⟩) ∧ W.cell? ⟨g1, 1, none⟩ = some (.string ⟨(rn2 t.text).toArray⟩)) → _ from fun W0 W g1 h hb0 hn2 =>
    nv_bind (ns := [rn1 t.text, rn2 t.text]) (g := g1) (cn := 2) C hS hna h hb0 (howna.kept h.1 hmb) (by simp; clear hb; omega)
      (fun j hj => match j, hj with | 0, _ => hn2.1 | 1, _ => hn2.2) (fun s hs => by
        have h1 := rn1_len t.text
        have h2 := rn2_len t.text
        simp only [List.mem_cons, List.not_mem_nil, or_false] at hs
        unfold maxLen
        rcases hs with rfl | rfl <;> omega) (Nat.le_refl _) (by omega) (fun _ => cell_lt hn2.1))
  have H2 := Lib.hid (show ∀ W mb', Nv St M wa (l ++ freeP d b x) W → W.ownsMap Tryz.prog 9 (plainElem Tryz.prog 4) mb' (pushAll b [rn1 t.text, rn2 t.text]).length (bD (pushAll b [rn1 t.text, rn2 t.text])) → some mb' ≠ M → _ from fun W mb' h ho hm =>
    nv_node (b := rn2 t.text :: rn1 t.text :: b) C ih hS hna hBa hnoca hky hfy hhy (hloc.kid hym) (by have := fuel_step hb; clear hb; simp only [List.length_cons]; omega) (by rw [List.length_append]; omega) h ho hm)
  have HCUT := Lib.hid (cut_rn t.text wa (by omega))
  have hlen2 : [rn1 t.text, rn2 t.text].length = 2 := rfl
  simp only [hlen2] at HBD
  clear hlen2
  obtain ⟨y1, hy1⟩ : ∃ y1, nodeP f d b x = y1 := ⟨_, rfl⟩
  obtain ⟨y2, hy2⟩ : ∃ y2, nodeP f d (rn2 t.text :: rn1 t.text :: b) y = y2 := ⟨_, rfl⟩
  obtain ⟨l1, hl1⟩ : ∃ l1, l ++ freeP d b x = l1 := ⟨_, rfl⟩
  obtain ⟨l2, hl2'⟩ : ∃ l2, l1 ++ freeP d (rn2 t.text :: rn1 t.text :: b) y = l2 := ⟨_, rfl⟩
  rw [hy1, hl1] at H1
  rw [hl1] at HBD
  rw [hl1, hl2', hy2] at H2
  rw [hy1, hy2, hl1, hl2']
  obtain ⟨r1', hr1'⟩ : ∃ r, rn1 t.text = r := ⟨_, rfl⟩
  obtain ⟨r2', hr2'⟩ : ∃ r, rn2 t.text = r := ⟨_, rfl⟩
  rw [hr1', hr2'] at HBD HCUT H2
  have HC := Lib.hid C
  have HF := Lib.hid hf
  have HG := Lib.hid hgwa
  have HN := Lib.hid hnoca
  have HNV := Lib.hid hnv
  have HS := Lib.hid hS
  subst hax
  have T1 : True := trivial
  clear hkind hwl hwl2 hbd0 hbd1 C ih hE hF hf hgwa hnoca hst hown hk hba howna hka hsta hh hloc hl hb hmb hnv hS hfl hxy hl2 hxm hym hhx hhy hfx hkx hfy hky hy1 hy2 hl1 hl2' hr1' hr2' htx
  go_enter Tryz.func41, Tryz.ntmps41
  go_wp2_with fail
  refine HCUT.out.mono ?_
  rintro e w5 ⟨bl, rfl, hb5⟩
  have hv5 := HNV.out.below HC.out hna hb5
  obtain ⟨⟨s0, s1⟩, ⟨p0, p1, p2, p3⟩, q0, q1, q2, q3⟩ := HS.out _ _ hv5
  clear n0 n1 n2 n3 zn r0 r1 r2 r3 z0 z1 z2 z3
  obtain ⟨⟨n0, n1, n2, n3⟩, zn, ⟨r0, r1, r2, r3⟩, z0, z1, z2, z3⟩ := HNB.out _ _ hv5
  have HV5 := Lib.hid hv5
  clear hv5 hb5 HCUT HNV hwa
  go_wp2_with fail
  go_region_held3 (fun W' => ((W'.cell? ⟨w.heap.size, 0, none⟩ = some (.func (.func G) #[] LB) ∧ W'.cell? ⟨w.heap.size, 1, none⟩ = some (.map (some mb))) ∧ (W'.cell? ⟨g, off, none⟩ = some (.int .i64 x.kind) ∧ W'.cell? ⟨g, off + 1, none⟩ = some (.string ⟨x.text.toArray⟩) ∧ W'.cell? ⟨g, off + 2, none⟩ = some (.slice ax x.kids.length cx) ∧ W'.cell? ⟨g, off + 3, none⟩ = some (.int .i64 x.pos)) ∧ (W'.cell? ⟨g, off + 4, none⟩ = some (.int .i64 y.kind) ∧ W'.cell? ⟨g, off + 4 + 1, none⟩ = some (.string ⟨y.text.toArray⟩) ∧ W'.cell? ⟨g, off + 4 + 2, none⟩ = some (.slice ay y.kids.length cy) ∧ W'.cell? ⟨g, off + 4 + 3, none⟩ = some (.int .i64 y.pos)))) (go_keep)
    (first
      | (go_at_call 41
         clear T1
         first
           | (refine (H1.out _ (HV5.out.below HC.out hna (Below.refl _ _).drew)).mono ?_
              rintro e w6 ⟨a6, c6, rfl, ⟨⟨s0, s1⟩, ⟨p0, p1, p2, p3⟩, q0, q1, q2, q3⟩, hr6⟩
              have l6 := cell_lt s0
              have m6 := cell_lt p0)
           | (refine (H1.out _ (HV5.out.below HC.out hna (below_da _ (.cells #[.string ⟨r1'.toArray⟩, .string ⟨r2'.toArray⟩] 9)))).mono ?_
              rintro e w6 ⟨a6, c6, rfl, ⟨⟨s0, s1⟩, ⟨p0, p1, p2, p3⟩, q0, q1, q2, q3⟩, hr6⟩
              have l6 := cell_lt s0
              have m6 := cell_lt p0
              have hnc := HC.out.noc (HV5.out.below HC.out hna (below_da _ (.cells #[.string ⟨r1'.toArray⟩, .string ⟨r2'.toArray⟩] 9))).2
              have g0 : w6.cell? ⟨w5.heap.size, 0, none⟩ = some (.string ⟨r1'.toArray⟩) := cell_kept (names2 w5.drew _ _).1 hr6.out.2.2.2 hnc
              have g1 : w6.cell? ⟨w5.heap.size, 1, none⟩ = some (.string ⟨r2'.toArray⟩) := cell_kept (names2 w5.drew _ _).2 hr6.out.2.2.2 hnc))
      | (go_at_call 42
         first
           | (refine (HBD.out w6 w6 w5.heap.size hr6.out.1 (Below.refl _ _) ⟨g0, g1⟩).mono ?_
              rintro e w7 ⟨mb7, rfl, ⟨⟨s0, s1⟩, ⟨p0, p1, p2, p3⟩, q0, q1, q2, q3⟩, hr7⟩
              have l7 := cell_lt s0
              have m7 := cell_lt p0)
           | (refine (HBD.out w6 _ w6.heap.size hr6.out.1 (below_alloc _ (.cells #[.string ⟨r1'.toArray⟩, .string ⟨r2'.toArray⟩] 9)) (names2 w6 _ _)).mono ?_
              rintro e w7 ⟨mb7, rfl, ⟨⟨s0, s1⟩, ⟨p0, p1, p2, p3⟩, q0, q1, q2, q3⟩, hr7⟩
              have l7 := cell_lt s0
              have m7 := cell_lt p0))
      | (go_at_call 41
         refine (H2.out w7 mb7 hr7.out.1 hr7.out.2.1 hr7.out.2.2.1).mono ?_
         rintro e w8 ⟨a8, c8, rfl, ⟨⟨s0, s1⟩, ⟨p0, p1, p2, p3⟩, q0, q1, q2, q3⟩, hr8⟩
         have l8 := cell_lt s0
         have m8 := cell_lt p0
         obtain ⟨⟨n0, n1, n2, n3⟩, zn, ⟨r0, r1, r2, r3⟩, z0, z1, z2, z3⟩ := HNB.out _ _ hr8.out.1
         have k8 := cell_lt n0
         have j8 := cell_lt r0))
  all_goals
    have hz7 : KidsZ w7 (Zn Bz wa.heap.size w7) a6 y1.kids := kidsZ_gb hr6.out.2.2.1 (gb none hr7.out.2.2.2) (fun r e => by cases e) (fun b hb => hb.imp id (fun h => ⟨h.1, Nat.lt_of_lt_of_le h.2 hr7.out.2.2.2.size⟩))
    have hz8 : KidsZ w8 (Zn Bz wa.heap.size w8) a6 y1.kids := kidsZ_gb hz7 hr8.out.2.2.2 (HC.out.noc hr7.out.1.2) (fun b hb => hb.imp id (fun h => ⟨h.1, Nat.lt_of_lt_of_le h.2 hr8.out.2.2.2.size⟩))
    have hpk := pair_kids hz8 hr6.out.2.1 hr8.out.2.2.1 hr8.out.2.1 hr8.out.1.1.size
    have hv9 := hr8.out.1.below HC.out hna (below_alloc w8 (.cells #[.int .i64 y1.kind, .string ⟨y1.text.toArray⟩, .slice a6 y1.kids.length c6, .int .i64 y1.pos, .int .i64 y2.kind, .string ⟨y2.text.toArray⟩, .slice a8 y2.kids.length c8, .int .i64 y2.pos] 25))
    rw [hsz] at hpk
    have HP := Lib.hid (show ∀ W6, Sets w.heap.size (w8.alloc (.cells #[.int .i64 y1.kind, .string ⟨y1.text.toArray⟩, .slice a6 y1.kids.length c6, .int .i64 y1.pos, .int .i64 y2.kind, .string ⟨y2.text.toArray⟩, .slice a8 y2.kids.length c8, .int .i64 y2.pos] 25)) W6 → NodePost (t.with [y1, y2]) l2 M St Bz w (.returned (.agg #[.int .i64 (t.with [y1, y2]).kind, .string ⟨(t.with [y1, y2]).text.toArray⟩, .slice (some ⟨w8.heap.size, 0, none⟩) (t.with [y1, y2]).kids.length 2, .int .i64 (t.with [y1, y2]).pos])) W6 from fun W6 hset =>
      node_end HC.out hn hBz HF.out (HG.out.trans hv9.1) hv9.2 hpk (Nat.le_refl _) (by omega) (by simp) hset)
    clear hz7 hz8 hpk hv9
    go_wp2_with fail
    refine bodyPost_ret (v := .agg #[.int .i64 (t.with [y1, y2]).kind, .string ⟨(t.with [y1, y2]).text.toArray⟩, .slice (some ⟨w8.heap.size, 0, none⟩) (t.with [y1, y2]).kids.length 2, .int .i64 (t.with [y1, y2]).pos]) (by simp [results, Tryz.results41, go_sem, r0, r1, r2, r3, j8, k8]) rfl ?_
    exact HP.out _ (by repeat first | (with_reducible exact Sets.refl _ _) | (with_reducible refine Sets.set ?_ _ _ (by omega) _) | (with_reducible refine Sets.al ?_ _))
end
end Go.Proofs.YtfcpblclfgkdjaaGreatDoor
