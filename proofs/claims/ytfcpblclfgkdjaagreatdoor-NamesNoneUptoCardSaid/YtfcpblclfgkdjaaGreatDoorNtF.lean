/-
  names: scope.node, walked: function literals. (printed by gen_node3.py)
-/
import Derived.Test.YtfcpblclfgkdjaaGreatDoorNtE
namespace Go.Proofs.YtfcpblclfgkdjaaGreatDoor
set_option linter.unusedSimpArgs false
set_option linter.unusedVariables false
open Go.RowKit Go.Maps
theorem nv_set {G : Nat} {LB : Array Value} {f : Nd → Nd} {M : Option Nat} {nS : Nat} {St : List (List UInt8) → World → Prop} {wa W : World} {l : List (List UInt8)} (C : FreeC G LB f M nS St) (h : Nv St M wa l W) (hna : nS ≤ wa.heap.size) (o : Nat) (u : Value) : Nv St M wa l (W.setCell ⟨wa.heap.size, o, none⟩ u) := by
  have hs : (W.setCell ⟨wa.heap.size, o, none⟩ u).heap.size = W.heap.size := by simp
  have hz := h.1.size
  exact ⟨⟨h.1.os, h.1.tape, h.1.output, by omega, fun k hk hne => (Below.heap_setCell W ⟨wa.heap.size, o, none⟩ u k (by show k ≠ wa.heap.size; omega)).trans (h.1.block k hk hne)⟩, C.on l W _ h.2 (by omega) (by omega) (fun b hb => Below.heap_setCell W ⟨wa.heap.size, o, none⟩ u b (by show b ≠ wa.heap.size; omega))⟩
section
variable {G : Nat} {LB : Array Value} {f : Nd → Nd} {M : Option Nat} {nS : Nat} {St : List (List UInt8) → World → Prop}

set_option maxRecDepth 100000 in
set_option maxHeartbeats 16000000 in
theorem node_func (C : FreeC G LB f M nS St) (d : Nat) (ih : NodeAt G LB f M nS St d) (b : List (List UInt8)) (mb : Nat) (l : List (List UInt8)) (t : Nd) (a : Option Addr) (c : Nat) (w : World) (Bz : Nat) (hkind : t.kind = 25)
    (hh : t.height ≤ d + 1) (hloc : InAll Loc t) (hst : St l w) (hn : nS ≤ w.heap.size) (hown : w.ownsMap Tryz.prog 9 (plainElem Tryz.prog 4) mb b.length (bD b)) (hmb : some mb ≠ M)
    (hb : b.length + (d + 1) * 3000000000000 ≤ 2305843009213693952) (hl : l.length + (walkL (d + 1) t).length ≤ 1125899906842624) (hBz : Bz ≤ w.heap.size) (hk : Kids w Bz a t.kids) (hf : Fits t c) :
    Calls Tryz.prog 41 #[.agg #[.func (.func G) #[] LB, .map (some mb)], .agg #[.int .i64 t.kind, .string ⟨t.text.toArray⟩, .slice a t.kids.length c, .int .i64 t.pos]] w (NodePost (nodeP f (d + 1) b t) (l ++ freeP (d + 1) b t) M St Bz w) := by
  obtain ⟨wa, hwa⟩ : ∃ wa, ((w.alloc (.cells #[.func (.func G) #[] LB, .map (some mb)] 41)).alloc (.cells #[.int .i64 t.kind, .string ⟨t.text.toArray⟩, .slice a t.kids.length c, .int .i64 t.pos] 25)).alloc (.cells #[.int .i64 0, .string ⟨#[]⟩, .slice none 0 0, .int .i64 0] 25) = wa := ⟨_, rfl⟩
  have hba : Below w.heap.size w wa := by rw [← hwa]; exact (((Below.refl _ _).alloc (Nat.le_refl _) _).alloc (by simp) _).alloc (by simp; omega) _
  have hsz : wa.heap.size = w.heap.size + 3 := by rw [← hwa]; simp
  have s0 : wa.cell? ⟨w.heap.size, 0, none⟩ = some (.func (.func G) #[] LB) := by rw [← hwa]; simp [go_sem]
  have s1 : wa.cell? ⟨w.heap.size, 1, none⟩ = some (.map (some mb)) := by rw [← hwa]; simp [go_sem]
  have n0 : wa.cell? ⟨w.heap.size + 1, 0, none⟩ = some (.int .i64 t.kind) := by rw [← hwa]; simp [go_sem]
  have n1 : wa.cell? ⟨w.heap.size + 1, 1, none⟩ = some (.string ⟨t.text.toArray⟩) := by rw [← hwa]; simp [go_sem]
  have n2 : wa.cell? ⟨w.heap.size + 1, 2, none⟩ = some (.slice a t.kids.length c) := by rw [← hwa]; simp [go_sem]
  have n3 : wa.cell? ⟨w.heap.size + 1, 3, none⟩ = some (.int .i64 t.pos) := by rw [← hwa]; simp [go_sem]
  have zn : wa.frozen? ⟨w.heap.size + 1, 2, none⟩ = false := by rw [← hwa]; simp [go_sem]
  have r0 : wa.cell? ⟨w.heap.size + 1 + 1, 0, none⟩ = some (.int .i64 0) := by rw [← hwa]; simp [go_sem]
  have r1 : wa.cell? ⟨w.heap.size + 1 + 1, 1, none⟩ = some (.string ⟨#[]⟩) := by rw [← hwa]; simp [go_sem]
  have r2 : wa.cell? ⟨w.heap.size + 1 + 1, 2, none⟩ = some (.slice none 0 0) := by rw [← hwa]; simp [go_sem]
  have r3 : wa.cell? ⟨w.heap.size + 1 + 1, 3, none⟩ = some (.int .i64 0) := by rw [← hwa]; simp [go_sem]
  have z0 : wa.frozen? ⟨w.heap.size + 1 + 1, 0, none⟩ = false := by rw [← hwa]; simp [go_sem]
  have z1 : wa.frozen? ⟨w.heap.size + 1 + 1, 1, none⟩ = false := by rw [← hwa]; simp [go_sem]
  have z2 : wa.frozen? ⟨w.heap.size + 1 + 1, 2, none⟩ = false := by rw [← hwa]; simp [go_sem]
  have z3 : wa.frozen? ⟨w.heap.size + 1 + 1, 3, none⟩ = false := by rw [← hwa]; simp [go_sem]
  have hsta : St l wa := C.below hst hn hba
  have hgwa : w.grownBy wa M := gb M hba
  have howna := hown.kept hgwa hmb
  have hka : Kids wa Bz a t.kids := hk.below (hba.mono hBz) (Nat.le_refl _)
  have hl63 : t.kids.length ≤ 9223372036854775807 := by have := hf.2.2.2.2.2.1; have := hf.2.2.2.2.2.2.1; omega
  have hcap : t.kids.length ≤ c := hf.2.2.2.2.2.1
  have hna : nS ≤ wa.heap.size := by omega
  have hBa : Bz ≤ wa.heap.size := by omega
  have hnoca : NoC M wa := C.noc hsta
  have hwl : l.length + (t.kids.flatMap (walkL d)).length ≤ 1125899906842624 := by rw [walkL, List.length_cons] at hl; omega
  have hbd0 : b.length + d * 3000000000000 ≤ 2305843009213693952 := by have := fuel_step hb; clear hb; omega
  have hbd1 : b.length + t.kids.length + d * 3000000000000 ≤ 2305843009213693952 := by have := hf.2.2.2.2.2.2.2; have := fuel_step hb; clear hb; omega
  have k18 : (t.kind == 18) = false := by rw [hkind]; rfl
  have k36 : (t.kind == 36) = false := by rw [hkind]; rfl
  have k25 : (t.kind == 25) = true := by rw [hkind]; rfl
  obtain ⟨x, y, pl, pq, hxy, hxk⟩ := hloc.self.1 hkind
  have hE : nodeP f (d + 1) b t = t.with [x, nodeP f d (bindAll b pl.kids) y] := by
    rw [nodeP, if_neg (by rw [hkind]; decide), if_neg (by rw [hkind]; decide), if_pos hkind]
    have hp : prms t = pl.kids := by rw [prms, hxy]; simp only []; rw [hxk]
    rw [hp, hxy]
  have hF : freeP (d + 1) b t = freeP d (bindAll b pl.kids) y := by
    rw [freeP, if_neg (by rw [hkind]; decide), if_neg (by rw [hkind]; decide), if_pos hkind]
    have hp : prms t = pl.kids := by rw [prms, hxy]; simp only []; rw [hxk]
    rw [hp, hxy]
  rw [hE, hF]
  obtain ⟨g, off, ax, cx, hax, hgB, ⟨p0, p1, p2, p3⟩, hfx, hkx⟩ := hka.get (j := 0) (by rw [hxy]; simp)
  obtain ⟨g', off', ay, cy, hay, -, ⟨q0, q1, q2, q3⟩, hfy, hky⟩ := hka.get (j := 1) (by rw [hxy]; simp)
  rw [hax] at hay
  injection hay with hay
  injection hay with hg1 ho1 _
  subst hg1 ho1
  simp only [hxy, List.getElem_cons_zero, List.getElem_cons_succ, Nat.zero_mul, Nat.add_zero, Nat.one_mul] at p0 p1 p2 p3 q0 q1 q2 q3 hfx hkx hfy hky
  obtain ⟨gs, offs, ap, cp, haxs, -, ⟨u0, u1, u2, u3⟩, hfp, hkp⟩ := hkx.get (j := 0) (by rw [hxk]; simp)
  simp only [hxk, List.getElem_cons_zero, Nat.zero_mul, Nat.add_zero] at u0 u1 u2 u3 hfp hkp
  have hl2 : t.kids.length = 2 := by rw [hxy]; rfl
  have hlx : 0 < x.kids.length := by rw [hxk]; simp
  have hxm : x ∈ t.kids := by rw [hxy]; simp
  have hym : y ∈ t.kids := by rw [hxy]; simp
  have hhy : y.height ≤ d := by have := Nd.height_kid hym; omega
  have hwl2 : l.length + (walkL d y).length ≤ 1125899906842624 := by
    rw [hxy] at hwl
    simp only [List.flatMap_cons, List.flatMap_nil, List.append_nil, List.length_append] at hwl
    omega
  have hi0 : 0 < t.kids.length := by omega
  have hi1 : 1 < t.kids.length := by omega
  have hj0 : (0 : Int) < (t.kids.length : Int) := by omega
  have hj1 : (1 : Int) < (t.kids.length : Int) := by omega
  have hx0 : (0 : Int) < (x.kids.length : Int) := by omega
  have hxc : x.kids.length ≤ cx := hfx.2.2.2.2.2.1
  have hpc : pl.kids.length ≤ cp := hfp.2.2.2.2.2.1
  have hp63 : pl.kids.length ≤ 9223372036854775807 := by have := hfp.2.2.2.2.2.2.1; omega
  have hp56 := hfp.2.2.2.2.2.2.2
  have hge : (g = w.heap.size + 1) = False := by simp; omega
  have hge2 : (w.heap.size + 1 = g) = False := by simp; omega
  have hnv : Nv St M wa l wa := ⟨World.grownBy.refl _ _, hsta⟩
  have HNB := Lib.hid (show ∀ l W, Nv St M wa l W → ((W.cell? ⟨w.heap.size + 1, 0, none⟩ = some (.int .i64 t.kind) ∧ W.cell? ⟨w.heap.size + 1, 1, none⟩ = some (.string ⟨t.text.toArray⟩) ∧ W.cell? ⟨w.heap.size + 1, 2, none⟩ = some (.slice a t.kids.length c) ∧ W.cell? ⟨w.heap.size + 1, 3, none⟩ = some (.int .i64 t.pos)) ∧ W.frozen? ⟨w.heap.size + 1, 2, none⟩ = false ∧ (W.cell? ⟨w.heap.size + 1 + 1, 0, none⟩ = some (.int .i64 0) ∧ W.cell? ⟨w.heap.size + 1 + 1, 1, none⟩ = some (.string ⟨#[]⟩) ∧ W.cell? ⟨w.heap.size + 1 + 1, 2, none⟩ = some (.slice none 0 0) ∧ W.cell? ⟨w.heap.size + 1 + 1, 3, none⟩ = some (.int .i64 0)) ∧ W.frozen? ⟨w.heap.size + 1 + 1, 0, none⟩ = false ∧ W.frozen? ⟨w.heap.size + 1 + 1, 1, none⟩ = false ∧ W.frozen? ⟨w.heap.size + 1 + 1, 2, none⟩ = false ∧ W.frozen? ⟨w.heap.size + 1 + 1, 3, none⟩ = false) from fun l W h => ⟨⟨h.cell hnoca n0, h.cell hnoca n1, h.cell hnoca n2, h.cell hnoca n3⟩, (h.frozen hnoca n2).trans zn, ⟨h.cell hnoca r0, h.cell hnoca r1, h.cell hnoca r2, h.cell hnoca r3⟩, (h.frozen hnoca r0).trans z0, (h.frozen hnoca r1).trans z1, (h.frozen hnoca r2).trans z2, (h.frozen hnoca r3).trans z3⟩)
  have HPQ := Lib.hid (show ∀ l W, Nv St M wa l W → (Four W g off x ax cx ∧ Four W g (off + 4) y ay cy) from fun l W h => ⟨⟨h.cell hnoca p0, h.cell hnoca p1, h.cell hnoca p2, h.cell hnoca p3⟩, h.cell hnoca q0, h.cell hnoca q1, h.cell hnoca q2, h.cell hnoca q3⟩)
  have lg0 := cell_lt p0
  have ls0 := cell_lt u0
  have lw0 := cell_lt s0
  have HKP := Lib.hid hkp
  have HC := Lib.hid C
  have HF := Lib.hid hf
  have HG := Lib.hid hgwa
  have HN := Lib.hid hnoca
  have HBE := Lib.hid (show b.length + pl.kids.length + d * 3000000000000 ≤ 2305843009213693952 by have := fuel_step hb; clear hb; omega)
  have HI := Lib.hid ih
  have HKX := Lib.hid hkx
  have HFX := Lib.hid hfx
  have HKY := Lib.hid hky
  have HFY := Lib.hid hfy
  have HHY := Lib.hid hhy
  have HLY := Lib.hid (hloc.kid hym)
  have HWY := Lib.hid hwl2
  have HSZ := Lib.hid hsz
  have HGE := Lib.hid hgB
  have HM0 := Lib.hid (show (wa.alloc (.cells #[.func (.func G) #[] LB, .map (some mb)] 41)).ownsMap Tryz.prog 9 (plainElem Tryz.prog 4) mb b.length (bD b) ∧ some mb ≠ M from ⟨howna.alloc _, hmb⟩)
  have HV0 := Lib.hid (hnv.below C hna (below_alloc wa (.cells #[.func (.func G) #[] LB, .map (some mb)] 41)))
  obtain ⟨y2, hy2⟩ : ∃ y2, nodeP f d (bindAll b pl.kids) y = y2 := ⟨_, rfl⟩
  obtain ⟨l2, hl2'⟩ : ∃ l2, l ++ freeP d (bindAll b pl.kids) y = l2 := ⟨_, rfl⟩
  rw [hy2, hl2']
  have HY2 := Lib.hid (And.intro hy2 hl2')
  subst hax haxs
  clear hkind hwl hwl2 hbd0 hbd1 C ih hE hF hf hgwa hnoca hst hown hk hba howna hka hsta hh hloc hl hb hmb hnv hxy hxk hl2 hxm hym hhy hfx hkx hfy hky hy2 hl2' hfp hkp hsz hgB
  go_enter Tryz.func41, Tryz.ntmps41
  go_wp2_with fail
  go_loopw [51] (fun i wr => ∃ k mbk : Nat, k ≤ pl.kids.length ∧ i = .int .i64 k ∧ (wr.cell? ⟨wa.heap.size, 0, none⟩ = some (.func (.func G) #[] LB) ∧ wr.cell? ⟨wa.heap.size, 1, none⟩ = some (.map (some mbk)) ∧ wr.frozen? ⟨wa.heap.size, 0, none⟩ = false ∧ wr.frozen? ⟨wa.heap.size, 1, none⟩ = false) ∧
    Hid (wr.ownsMap Tryz.prog 9 (plainElem Tryz.prog 4) mbk (bindAll b (pl.kids.take k)).length (bD (bindAll b (pl.kids.take k))) ∧ some mbk ≠ M) ∧ Hid (Nv St M wa l wr)) (fun i _ => pl.kids.length - (intOf i).toNat)
  case atStart =>
    refine ⟨0, mb, by omega, rfl, ⟨?_, ?_, ?_, ?_⟩, by simpa [bindAll] using HM0, HV0⟩ <;> simp [go_sem]
  case round =>
    clear HM0 HV0 s0 s1 n0 n1 n2 n3 zn r0 r1 r2 r3 z0 z1 z2 z3 p0 p1 p2 p3 q0 q1 q2 q3 u0 u1 u2 u3
    obtain ⟨k, mbk, hk1, rfl, ⟨s0, s1, z0, z1⟩, HO, HV⟩ := hrel
    have HL := Lib.hid (show ∀ W, Below wr.heap.size wr W → W.cell? ⟨wa.heap.size, 0, none⟩ = some (.func (.func G) #[] LB) ∧ W.cell? ⟨wa.heap.size, 1, none⟩ = some (.map (some mbk)) ∧ W.frozen? ⟨wa.heap.size, 0, none⟩ = false ∧ W.frozen? ⟨wa.heap.size, 1, none⟩ = false from fun W hb => by
      obtain ⟨hcc, hff⟩ := bcell hb
      have hl := cell_lt s0
      exact ⟨(hcc _ _ hl).trans s0, (hcc _ _ hl).trans s1, (hff _ _ hl).trans z0, (hff _ _ hl).trans z1⟩)
    by_cases hlt : k < pl.kids.length
    · obtain ⟨bb, off2, a', c', ha, hbB, ⟨v0, v1, v2, v3⟩, hf', hn'⟩ := (kids_gb HKP.out HV.out.1 HN.out).get hlt
      subst ha
      have e4 := bindAll_take hlt b
      have hbl := bindAll_len (pl.kids.take k) b
      rw [List.length_take] at hbl
      obtain ⟨bk, hbk⟩ : ∃ bk, bindAll b (pl.kids.take k) = bk := ⟨_, rfl⟩
      rw [hbk] at e4 HO hbl
      obtain ⟨q, hq⟩ : ∃ q, pl.kids[k] = q := ⟨_, rfl⟩
      rw [hq] at v0 v1 v2 v3 hf' e4
      have hb1 : Below wr.heap.size wr (wr.alloc (.cells #[.int .i64 q.kind, .string ⟨q.text.toArray⟩, .slice a' q.kids.length c', .int .i64 q.pos] 25)) := below_alloc _ _
      have hb2 : Below wr.heap.size wr ((wr.alloc (.cells #[.int .i64 q.kind, .string ⟨q.text.toArray⟩, .slice a' q.kids.length c', .int .i64 q.pos] 25)).alloc (.cells #[.string ⟨q.text.toArray⟩] 9)) := bext hb1 (below_alloc _ _)
      have hbd := nv_bind (S := fun _ => True) (b := bk) (mb := mbk) (ns := [q.text]) (g := wr.heap.size + 1) (cn := 1) HC.out (fun _ _ _ => trivial) hna HV.out hb2 HO.out.1 (by have := HBE.out; simp; omega)
        (fun j hj => by have : j = 0 := (by simpa using hj); subst this; simp [go_sem]) (fun s hs => by rw [List.mem_singleton] at hs; subst hs; have := hf'.2.2.2.2.1; unfold maxLen; omega) (Nat.le_refl _) (by omega) (fun _ => by simp)
      have HBD := Lib.hid hbd
      have HE4 := Lib.hid e4
      have hsn := cell_lt s0
      clear hb1 hb2 hbd hf' hn' e4 hbl hbk hq
      go_wp2_with fail
      refine HBD.out.mono ?_
      rintro e w5 ⟨mb5, rfl, -, hr5⟩
      obtain ⟨s0, s1, z0, z1⟩ := HL.out w5 hr5.out.2.2.2
      have hne5 : mb5 ≠ wa.heap.size := fun e => by
        obtain ⟨es, clk, hh, _⟩ := hr5.out.2.1
        rw [e] at hh
        unfold World.cell? at s0
        rw [hh] at s0
        cases s0
      have HO2 : Hid (((w5.setCell ⟨wa.heap.size, 0, none⟩ (.func (.func G) #[] LB)).setCell ⟨wa.heap.size, 1, none⟩ (.map (some mb5))).ownsMap Tryz.prog 9 (plainElem Tryz.prog 4) mb5 (bindAll b (pl.kids.take (k + 1))).length (bD (bindAll b (pl.kids.take (k + 1)))) ∧ some mb5 ≠ M) :=
        Lib.hid ⟨by rw [HE4.out]; exact (hr5.out.2.1.setCell (a := ⟨wa.heap.size, 0, none⟩) hne5 _).setCell (a := ⟨wa.heap.size, 1, none⟩) hne5 _, hr5.out.2.2.1⟩
      have HV2 : Hid (Nv St M wa l ((w5.setCell ⟨wa.heap.size, 0, none⟩ (.func (.func G) #[] LB)).setCell ⟨wa.heap.size, 1, none⟩ (.map (some mb5)))) := Lib.hid (nv_set HC.out (nv_set HC.out hr5.out.1 hna 0 _) hna 1 _)
      have y0 : ((w5.setCell ⟨wa.heap.size, 0, none⟩ (.func (.func G) #[] LB)).setCell ⟨wa.heap.size, 1, none⟩ (.map (some mb5))).cell? ⟨wa.heap.size, 0, none⟩ = some (.func (.func G) #[] LB) := by simp [go_sem, s0, s1]
      have y1 : ((w5.setCell ⟨wa.heap.size, 0, none⟩ (.func (.func G) #[] LB)).setCell ⟨wa.heap.size, 1, none⟩ (.map (some mb5))).cell? ⟨wa.heap.size, 1, none⟩ = some (.map (some mb5)) := by simp [go_sem, s0, s1]
      have x0 : ((w5.setCell ⟨wa.heap.size, 0, none⟩ (.func (.func G) #[] LB)).setCell ⟨wa.heap.size, 1, none⟩ (.map (some mb5))).frozen? ⟨wa.heap.size, 0, none⟩ = false := by simp [go_sem, z0]
      have x1 : ((w5.setCell ⟨wa.heap.size, 0, none⟩ (.func (.func G) #[] LB)).setCell ⟨wa.heap.size, 1, none⟩ (.map (some mb5))).frozen? ⟨wa.heap.size, 1, none⟩ = false := by simp [go_sem, z1]
      have HYX := Lib.hid (And.intro (And.intro y0 y1) (And.intro x0 x1))
      clear y0 y1 x0 x1 hne5 HE4 hr5
      go_wp2_with fail
      go_roundw
      case rel =>
        first
          | exact ⟨k + 1, mb5, by omega, by go_num, ⟨HYX.out.1.1, HYX.out.1.2, HYX.out.2.1, HYX.out.2.2⟩, HO2, HV2⟩
          | ((repeat apply Exists.intro); exact ⟨⟨k + 1, mb5, by omega, by go_num, ⟨HYX.out.1.1, HYX.out.1.2, HYX.out.2.1, HYX.out.2.2⟩, HO2, HV2⟩, rfl⟩)
      case measure => simp [intOf]; omega
    · obtain rfl : k = pl.kids.length := by omega
      rw [List.take_length] at HO
      have hv := HV.out
      have hnocr := HC.out.noc hv.2
      have hsr := hv.1.size
      have hnvr : Nv St M wr l wr := ⟨World.grownBy.refl _ _, hv.2⟩
      obtain ⟨⟨p0, p1, p2, p3⟩, q0, q1, q2, q3⟩ := HPQ.out _ _ hv
      have hS : ∀ l W', Nv St M wr l W' → ((W'.cell? ⟨wa.heap.size, 0, none⟩ = some (.func (.func G) #[] LB) ∧ W'.cell? ⟨wa.heap.size, 1, none⟩ = some (.map (some mbk))) ∧ (W'.cell? ⟨g, off, none⟩ = some (.int .i64 x.kind) ∧ W'.cell? ⟨g, off + 1, none⟩ = some (.string ⟨x.text.toArray⟩) ∧ W'.cell? ⟨g, off + 2, none⟩ = some (.slice (some ⟨gs, offs, none⟩) x.kids.length cx) ∧ W'.cell? ⟨g, off + 3, none⟩ = some (.int .i64 x.pos)) ∧ (W'.cell? ⟨g, off + 4, none⟩ = some (.int .i64 y.kind) ∧ W'.cell? ⟨g, off + 4 + 1, none⟩ = some (.string ⟨y.text.toArray⟩) ∧ W'.cell? ⟨g, off + 4 + 2, none⟩ = some (.slice ay y.kids.length cy) ∧ W'.cell? ⟨g, off + 4 + 3, none⟩ = some (.int .i64 y.pos))) := fun l W' h =>
        ⟨⟨h.cell hnocr s0, h.cell hnocr s1⟩, ⟨h.cell hnocr p0, h.cell hnocr p1, h.cell hnocr p2, h.cell hnocr p3⟩, h.cell hnocr q0, h.cell hnocr q1, h.cell hnocr q2, h.cell hnocr q3⟩
      have hbl := bindAll_len pl.kids b
      have h2 := nv_node HC.out HI.out hS (W := wr.drew) (l := l) (wa := wr) (by omega) (Bz := Bz) (by omega) hnocr (kids_gb HKY.out hv.1 HN.out) HFY.out HHY.out HLY.out (b := bindAll b pl.kids) (by have := HBE.out; omega) HWY.out (mb := mbk) (hnvr.below HC.out (by omega) (Below.refl _ _).drew) (HO.out.1.kept (gb none (Below.refl _ _).drew) (by simp)) HO.out.2
      rw [HY2.out.1, HY2.out.2] at h2
      have H2 := Lib.hid h2
      have HNR := Lib.hid (show ∀ l W, Nv St M wr l W → Nv St M wa l W from fun l W h => ⟨hv.1.trans h.1, h.2⟩)
      have HKXR := Lib.hid (kids_gb HKX.out hv.1 HN.out)
      have HSR := Lib.hid hsr
      have HNCR := Lib.hid hnocr
      have hgB2 := HGE.out
      have hsz2 := HSZ.out
      have hgi : (g = wa.heap.size) = False := by simp; omega
      have hgi2 : (wa.heap.size = g) = False := by simp; omega
      have hni : (wa.heap.size = w.heap.size + 1) = False := by simp; omega
      have hni2 : (w.heap.size + 1 = wa.heap.size) = False := by simp; omega
      clear hnvr hS hbl h2 hsr hnocr hgB2 hsz2 HL
      obtain ⟨⟨n0, n1, n2, n3⟩, zn, ⟨r0, r1, r2, r3⟩, zr0, zr1, zr2, zr3⟩ := HNB.out _ _ hv
      have li := cell_lt s0
      have lg := cell_lt p0
      have ln := cell_lt n0
      have lrr := cell_lt r0
      clear hv
      go_wp2_with fail
      go_region_held3 (fun W' => ((W'.cell? ⟨wa.heap.size, 0, none⟩ = some (.func (.func G) #[] LB) ∧ W'.cell? ⟨wa.heap.size, 1, none⟩ = some (.map (some mbk))) ∧ (W'.cell? ⟨g, off, none⟩ = some (.int .i64 x.kind) ∧ W'.cell? ⟨g, off + 1, none⟩ = some (.string ⟨x.text.toArray⟩) ∧ W'.cell? ⟨g, off + 2, none⟩ = some (.slice (some ⟨gs, offs, none⟩) x.kids.length cx) ∧ W'.cell? ⟨g, off + 3, none⟩ = some (.int .i64 x.pos)) ∧ (W'.cell? ⟨g, off + 4, none⟩ = some (.int .i64 y.kind) ∧ W'.cell? ⟨g, off + 4 + 1, none⟩ = some (.string ⟨y.text.toArray⟩) ∧ W'.cell? ⟨g, off + 4 + 2, none⟩ = some (.slice ay y.kids.length cy) ∧ W'.cell? ⟨g, off + 4 + 3, none⟩ = some (.int .i64 y.pos)))) (go_keep)
        (first
         | (go_at_call 41
            refine H2.out.mono ?_
            rintro e w8 ⟨a8, c8, rfl, ⟨⟨s0, s1⟩, ⟨p0, p1, p2, p3⟩, q0, q1, q2, q3⟩, hr8⟩
            have l8 := cell_lt s0
            have m8 := cell_lt p0
            obtain ⟨⟨n0, n1, n2, n3⟩, zn, ⟨r0, r1, r2, r3⟩, zr0, zr1, zr2, zr3⟩ := HNB.out _ _ (HNR.out _ _ hr8.out.1)
            have k8 := cell_lt n0
            have j8 := cell_lt r0))
      have hz1 : KidsZ w8 (Zn Bz (w.heap.size + 3) w8) (some ⟨gs, offs, none⟩) x.kids := (kids_gb HKXR.out hr8.out.1.1 HNCR.out).toZ.mono (fun b hb => .inl hb)
      have hz2 : KidsZ w8 (Zn Bz (w.heap.size + 3) w8) a8 y2.kids := hr8.out.2.2.1.mono (fun b hb => hb.imp id (fun h => ⟨by have := HSR.out; have := HSZ.out; omega, h.2⟩))
      have hpk := pair_kids hz1 HFX.out hz2 hr8.out.2.1 (by have := hr8.out.1.1.size; have := HSR.out; have := HSZ.out; omega)
      have hv9 := (HNR.out _ _ hr8.out.1).below HC.out hna (below_alloc w8 (.cells #[.int .i64 x.kind, .string ⟨x.text.toArray⟩, .slice (some ⟨gs, offs, none⟩) x.kids.length cx, .int .i64 x.pos, .int .i64 y2.kind, .string ⟨y2.text.toArray⟩, .slice a8 y2.kids.length c8, .int .i64 y2.pos] 25))
      have HP := Lib.hid (show ∀ W6, Sets w.heap.size (w8.alloc (.cells #[.int .i64 x.kind, .string ⟨x.text.toArray⟩, .slice (some ⟨gs, offs, none⟩) x.kids.length cx, .int .i64 x.pos, .int .i64 y2.kind, .string ⟨y2.text.toArray⟩, .slice a8 y2.kids.length c8, .int .i64 y2.pos] 25)) W6 → NodePost (t.with [x, y2]) l2 M St Bz w (.returned (.agg #[.int .i64 (t.with [x, y2]).kind, .string ⟨(t.with [x, y2]).text.toArray⟩, .slice (some ⟨w8.heap.size, 0, none⟩) (t.with [x, y2]).kids.length 2, .int .i64 (t.with [x, y2]).pos])) W6 from fun W6 hset =>
        node_end HC.out hn hBz HF.out (HG.out.trans hv9.1) hv9.2 hpk (Nat.le_refl _) (by omega) (by simp) hset)
      clear hz1 hz2 hpk hv9
      go_wp2_with fail
      refine bodyPost_ret (v := .agg #[.int .i64 (t.with [x, y2]).kind, .string ⟨(t.with [x, y2]).text.toArray⟩, .slice (some ⟨w8.heap.size, 0, none⟩) (t.with [x, y2]).kids.length 2, .int .i64 (t.with [x, y2]).pos]) (by simp [results, Tryz.results41, go_sem, r0, r1, r2, r3, j8, k8]) rfl ?_
      exact HP.out _ (by repeat first | (with_reducible exact Sets.refl _ _) | (with_reducible refine Sets.set ?_ _ _ (by omega) _) | (with_reducible refine Sets.al ?_ _))
end
end Go.Proofs.YtfcpblclfgkdjaaGreatDoor
