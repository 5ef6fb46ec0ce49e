/-
  the document's small questions (layer 6), walked; what a walk over a node carries from call to call.
  the document's signature and type, walked.
-/
import Derived.Test.YtnmebgiiajnnjaaGreatRrA
import Derived.Test.YtnmebgiiajnnjaaGreatNodeS
import Derived.Test.YtnmebgiiajnnjaaGreatRefA
namespace Go.Proofs.YtnmebgiiajnnjaaGreat
set_option linter.unusedSimpArgs false
set_option linter.unusedVariables false
open Go.RowKit

set_option maxHeartbeats 400000 in
theorem rname6_any (l : List UInt8) (w : World) (hl : l.length ≤ 140737488351232) :
    Calls Tryz.prog 17 #[.string ⟨l.toArray⟩] w fun e w' => e = .returned (.bool (nameL l)) ∧ Below w.heap.size w w' := by
  have HN := Lib.hid (rname_any l w (by omega))
  by_cases h : l.length ≤ 100
  · have hn : nameL l = nameT l := by simp [nameL, h]
    have Hn := Lib.hid hn
    clear hn
    go_enter Tryz.func17, Tryz.ntmps17
    go_wp2_with fail
    refine HN.out.mono ?_
    rintro e w1 ⟨rfl, hb⟩
    go_wp2_with fail
    go_ret
    exact ⟨ret_bool Hn.out.symm, hb⟩
  · have hn : nameL l = false := by simp [nameL, h]
    have Hn := Lib.hid hn
    clear hn
    go_enter Tryz.func17, Tryz.ntmps17
    go_wp2_with fail
    go_ret
    exact ⟨ret_bool Hn.out.symm, Below.refl _ _⟩

set_option maxHeartbeats 400000 in
theorem rbound_any (l : List UInt8) (w : World) (hl : l.length ≤ 140737488351232) :
    Calls Tryz.prog 44 #[.string ⟨l.toArray⟩] w fun e w' => e = .returned (.bool (boundL l)) ∧ Below w.heap.size w w' := by
  go_enter Tryz.func44, Tryz.ntmps44
  go_wp2_with (go_at_call 17; refine (rname6_any _ _ hl).mono ?_; rintro e w' ⟨rfl, hb⟩)
  all_goals
    go_ret
    refine ⟨ret_bool ?_, hb⟩
    simp_all [boundL, bne]

set_option maxHeartbeats 400000 in
theorem rnothing_any (t : Nd) (a : Option Addr) (c : Nat) (w : World) :
    Calls Tryz.prog 45 #[.agg #[.int .i64 t.kind, .string ⟨t.text.toArray⟩, .slice a t.kids.length c, .int .i64 t.pos]] w fun e w' => e = .returned (.bool (emptyB t)) ∧ Below w.heap.size w w' := by
  go_enter Tryz.func45, Tryz.ntmps45
  go_wp2
  all_goals
    go_ret
    refine ⟨ret_bool ?_, (Below.refl _ _).alloc (Nat.le_refl _) _⟩
    unfold emptyB
  · simp_all [len_zero]
  · simp_all
  · simp_all

set_option maxHeartbeats 1000000 in
theorem rranged_any (l : List UInt8) (w : World) (hl : l.length ≤ 140737488351232) :
    Calls Tryz.prog 47 #[.string ⟨l.toArray⟩] w fun e w' => e = .returned (.bool (rangedL l)) ∧ Below w.heap.size w w' := by
  by_cases hm : 44 ∈ l
  · obtain ⟨pre, post, e, hp⟩ := parts_of hm
    have hb : rangedL l = (nameL pre && boundL post) := by rw [e, ranged_two hp]
    have hlen : l.length = pre.length + (post.length + 1) := by rw [e]; simp
    have x1 : (⟨l.toArray⟩ : ByteArray).extract 0 pre.length = ⟨pre.toArray⟩ := by rw [e, ByteArray.extract_mk]; simp
    have x2 : (⟨l.toArray⟩ : ByteArray).extract (pre.length + 1) l.length = ⟨post.toArray⟩ := by
      rw [ByteArray.extract_mk]
      congr 1
      rw [← Array.toList_inj]
      simp [e]
      exact List.take_of_length_le (by omega)
    have HAT := Lib.hid (fun (k : Nat) (h : k < pre.length) (h2 : k < l.length) => show l[k]'h2 ≠ 44 by
      intro e2
      apply hp
      rw [← e2]
      simp only [e, List.getElem_append_left h]
      exact List.getElem_mem h)
    have HB := Lib.hid hb
    have HN := Lib.hid (fun W => rname6_any pre W (by omega))
    have HD := Lib.hid (fun W => rbound_any post W (by omega))
    obtain ⟨P, hP⟩ : ∃ P, pre.length = P := ⟨_, rfl⟩
    obtain ⟨L, hL⟩ : ∃ L, l.length = L := ⟨_, rfl⟩
    have hPL : P < L := by omega
    rw [hP] at x1 x2 HAT
    have hPl : P < l.length := by omega
    have eC := byte_at l P hPl
    rw [show l[P]'hPl = 44 by subst hP; simp [e]] at eC
    rw [hL] at x2 hl
    have HL := Lib.hid hL
    clear hb e hp hm hP hlen
    go_enter Tryz.func47, Tryz.ntmps47
    go_wp2_with fail
    go_loopw [3] (fun i wr => ∃ k : Nat, k ≤ P ∧ i = .int .i64 k ∧ w = wr) (fun i _ => P - (intOf i).toNat)
    case atStart => exact ⟨0, by omega, rfl, rfl⟩
    case round =>
      obtain ⟨k, hk, rfl, rfl⟩ := hrel
      by_cases hlt : k < P
      · have hkl : k < l.length := by rw [hL]; omega
        have e2 := byte_at l k hkl
        have hne := HAT.out k hlt hkl
        obtain ⟨d, hd⟩ : ∃ d, l[k] = d := ⟨_, rfl⟩
        rw [hd] at e2 hne
        have hq : ((d.toNat : Int) == 44) = false := by
          rw [← Bool.not_eq_true]
          intro h
          exact hne (UInt8.toNat_inj.1 (by show d.toNat = 44; have : (d.toNat : Int) = 44 := by simpa using h
                                           omega))
        clear hd hne
        go_wp2_with fail
        go_roundw
        case rel => exact ⟨k + 1, by omega, by go_num, by first | trivial | rfl⟩
        case measure => simp [intOf]; omega
      · obtain rfl : k = P := by omega
        have hkl : k < l.length := by rw [hL]; omega
        clear hlt
        obtain ⟨r, hr⟩ : ∃ r, nameL pre = r := ⟨_, rfl⟩
        have HR := Lib.hid hr
        have HN' := Lib.hid (show ∀ W, Calls Tryz.prog 17 #[.string ⟨pre.toArray⟩] W fun e w' => e = .returned (.bool r) ∧ Below W.heap.size W w' from fun W => by have := HN.out W; rw [hr] at this; exact this)
        clear hr
        go_wp2_with fail
        refine (HN'.out _).mono ?_
        rintro e w1 ⟨rfl, hb1⟩
        cases r with
        | false =>
          go_wp2_with fail
          go_ret
          exact ⟨ret_bool (by rw [HB.out, HR.out]; rfl), hb1⟩
        | true =>
          go_wp2_with fail
          refine (HD.out _).mono ?_
          rintro e w2 ⟨rfl, hb2⟩
          go_wp2_with fail
          go_ret
          exact ⟨ret_bool (by rw [HB.out, HR.out]; rfl), bext hb1 hb2⟩
  · have HAT := Lib.hid (fun (k : Nat) (h : k < l.length) => show l[k] ≠ 44 from fun e => hm (by rw [← e]; exact List.getElem_mem h))
    have HB := Lib.hid (ranged_one hm)
    have HD := Lib.hid (fun W => rbound_any l W (by omega))
    clear hm
    go_enter Tryz.func47, Tryz.ntmps47
    go_wp2_with fail
    go_loopw [3] (fun i wr => ∃ k : Nat, k ≤ l.length ∧ i = .int .i64 k ∧ w = wr) (fun i _ => l.length - (intOf i).toNat)
    case atStart => exact ⟨0, by omega, rfl, rfl⟩
    case round =>
      obtain ⟨k, hk, rfl, rfl⟩ := hrel
      by_cases hlt : k < l.length
      · have e2 := byte_at l k hlt
        have hne := HAT.out k hlt
        obtain ⟨d, hd⟩ : ∃ d, l[k] = d := ⟨_, rfl⟩
        rw [hd] at e2 hne
        have hq : ((d.toNat : Int) == 44) = false := by
          rw [← Bool.not_eq_true]
          intro h
          exact hne (UInt8.toNat_inj.1 (by show d.toNat = 44; have : (d.toNat : Int) = 44 := by simpa using h
                                           omega))
        clear hd hne
        go_wp2_with fail
        go_roundw
        case rel => exact ⟨k + 1, by omega, by go_num, by first | trivial | rfl⟩
        case measure => simp [intOf]; omega
      · obtain rfl : k = l.length := by omega
        clear hlt
        cases he : l.isEmpty with
        | true =>
          have HR := Lib.hid (show rangedL l = true by rw [HB.out, he]; rfl)
          go_wp2_with fail
          go_ret
          exact ⟨ret_bool HR.out.symm, Below.refl _ _⟩
        | false =>
          have HR := Lib.hid (show rangedL l = boundL l by rw [HB.out, he]; rfl)
          go_wp2_with fail
          refine (HD.out _).mono ?_
          rintro e w1 ⟨rfl, hb1⟩
          go_wp2_with fail
          go_ret
          exact ⟨ret_bool HR.out.symm, hb1⟩

/-! What a walk over a node carries from call to call. -/
def Keep (B : World → Prop) : Prop := ∀ W W', Below W.heap.size W W' → B W → B W'
theorem keep_cell (p : Addr) (v : Value) : Keep (fun W => W.cell? p = some v) := fun W W' hb h => (hb.cell (by
  unfold World.cell? at h
  rcases Nat.lt_or_ge p.block W.heap.size with hl | hl
  · exact hl
  · simp only [Array.getElem?_eq_none hl] at h
    cases h)).trans h
theorem keep_and {A B : World → Prop} (hA : Keep A) (hB : Keep B) : Keep (fun W => A W ∧ B W) := fun W W' hb h => ⟨hA W W' hb h.1, hB W W' hb h.2⟩
theorem keep_true : Keep (fun _ => True) := fun _ _ _ h => h
theorem keep_four (b off : Nat) (t : Nd) (a : Option Addr) (c : Nat) : Keep (fun W => Four W b off t a c) := keep_and (keep_cell _ _) (keep_and (keep_cell _ _) (keep_and (keep_cell _ _) (keep_cell _ _)))
/-- Behind w0: the library's number, cells, known nodes of at most n within one another. -/
structure Nk (w0 : World) (n : Nat) (B : World → Prop) (K : List (Nd × Option Addr × Nat)) (W : World) : Prop where
  below : Below w0.heap.size w0 W
  glob : Glob W
  cells : B W
  known : ∀ y, y ∈ K → y.1.height ≤ n ∧ Kids W W.heap.size y.2.1 y.1.kids ∧ Fits y.1 y.2.2
section
variable {w0 : World} {n : Nat} {B : World → Prop} {K : List (Nd × Option Addr × Nat)} {W W' : World}
theorem Nk.on (h : Nk w0 n B K W) (hB : Keep B) (hb : Below W.heap.size W W') : Nk w0 n B K W' :=
  ⟨bext h.below hb, h.glob.on hb, hB W W' hb h.cells, fun y hy => ⟨(h.known y hy).1, (h.known y hy).2.1.on hb, (h.known y hy).2.2⟩⟩
abbrev NkPost (w0 : World) (n : Nat) (B : World → Prop) (K : List (Nd × Option Addr × Nat)) (v : Value) (e : Ending) (w' : World) : Prop := e = .returned v ∧ B w' ∧ Hid (Nk w0 n B K w')
theorem nk_post (h : Nk w0 n B K W) (hB : Keep B) {f : Nat} {args : Array Value} {v : Value} (hc : Calls Tryz.prog f args W fun e w' => e = .returned v ∧ Below W.heap.size W w') : Calls Tryz.prog f args W (NkPost w0 n B K v) :=
  hc.mono fun e w' ⟨he, hb⟩ => have h' := h.on hB hb; ⟨he, h'.cells, Lib.hid h'⟩
theorem nk_ok (h : Nk w0 n B K W) (hB : Keep B) {F : Nat} {f : Nd → Bool} (ho : Ok F f n) (t : Nd) (a : Option Addr) (c : Nat) (hm : (t, a, c) ∈ K) : Calls Tryz.prog F #[.agg #[.int .i64 t.kind, .string ⟨t.text.toArray⟩, .slice a t.kids.length c, .int .i64 t.pos]] W (NkPost w0 n B K (.bool (f t))) :=
  nk_post h hB (ho t a c W (h.known _ hm).1 h.glob (h.known _ hm).2.1 (h.known _ hm).2.2)
theorem nk_name (h : Nk w0 n B K W) (hB : Keep B) (l : List UInt8) (hl : l.length ≤ 140737488351232) : Calls Tryz.prog 17 #[.string ⟨l.toArray⟩] W (NkPost w0 n B K (.bool (nameL l))) :=
  nk_post h hB (rname6_any l W hl)
theorem nk_bound (h : Nk w0 n B K W) (hB : Keep B) (l : List UInt8) (hl : l.length ≤ 140737488351232) : Calls Tryz.prog 44 #[.string ⟨l.toArray⟩] W (NkPost w0 n B K (.bool (boundL l))) :=
  nk_post h hB (rbound_any l W hl)
theorem nk_ranged (h : Nk w0 n B K W) (hB : Keep B) (l : List UInt8) (hl : l.length ≤ 140737488351232) : Calls Tryz.prog 47 #[.string ⟨l.toArray⟩] W (NkPost w0 n B K (.bool (rangedL l))) :=
  nk_post h hB (rranged_any l W hl)
theorem nk_plain (h : Nk w0 n B K W) (hB : Keep B) (l : List UInt8) (hl : l.length ≤ 140737488351232) : Calls Tryz.prog 42 #[.string ⟨l.toArray⟩] W (NkPost w0 n B K (.bool (plainL l))) :=
  nk_post h hB (rplain_any l W (by omega))
theorem nk_nothing (h : Nk w0 n B K W) (hB : Keep B) (t : Nd) (a : Option Addr) (c : Nat) : Calls Tryz.prog 45 #[.agg #[.int .i64 t.kind, .string ⟨t.text.toArray⟩, .slice a t.kids.length c, .int .i64 t.pos]] W (NkPost w0 n B K (.bool (emptyB t))) :=
  nk_post h hB (rnothing_any t a c W)
/-- Cells more, nodes more. -/
theorem Nk.more (h : Nk w0 n B K W) {B' : World → Prop} {K' : List (Nd × Option Addr × Nat)} (hB : B' W) (hK : ∀ y, y ∈ K' → y ∈ K ∨ (y.1.height ≤ n ∧ Kids W W.heap.size y.2.1 y.1.kids ∧ Fits y.1 y.2.2)) : Nk w0 n B' K' W :=
  ⟨h.below, h.glob, hB, fun y hy => (hK y hy).elim (h.known y) id⟩
theorem Nk.less (h : Nk w0 n B K W) {B' : World → Prop} {K' : List (Nd × Option Addr × Nat)} (hB : B W → B' W) (hK : ∀ y, y ∈ K' → y ∈ K) : Nk w0 n B' K' W :=
  ⟨h.below, h.glob, hB h.cells, fun y hy => h.known y (hK y hy)⟩
end
theorem alls_no {α : Type} {f : α → Bool} {l : List α} {j : Nat} (hj : j < l.length) (h : f l[j] = false) : l.all f = false := by
  rw [← Bool.not_eq_true, List.all_eq_true]
  intro ha
  rw [ha _ (List.getElem_mem hj)] at h
  cases h
theorem alls_next {α : Type} {f : α → Bool} {l : List α} {j : Nat} (hj : j < l.length) (h0 : (l.take j).all f = true) (h : f l[j] = true) : (l.take (j + 1)).all f = true := by
  rw [List.take_succ_eq_append_getElem hj, List.all_append, h0]; simp [h]
theorem alls_end {α : Type} {f : α → Bool} {l : List α} (h0 : (l.take l.length).all f = true) : l.all f = true := by rwa [List.take_length] at h0
end Go.Proofs.YtnmebgiiajnnjaaGreat

namespace Go.Proofs.YtnmebgiiajnnjaaGreat
set_option linter.unusedSimpArgs false
set_option linter.unusedVariables false
open Go.RowKit

theorem Kids.one1 {w : World} {B : Nat} {a : Option Addr} {x : Nd} (h : Kids w B a [x]) : ∃ b off a1 c1, a = some ⟨b, off, none⟩ ∧ Four w b off x a1 c1 ∧ Fits x c1 ∧ Kids w B a1 x.kids := by
  obtain ⟨b, off, a1, c1, e, -, h1, h2, h3⟩ := h.get (j := 0) (by simp)
  exact ⟨b, off, a1, c1, e, by simpa using h1, by simpa using h2, by simpa using h3⟩
theorem Kids.two2 {w : World} {B : Nat} {a : Option Addr} {x y : Nd} (h : Kids w B a [x, y]) : ∃ b off a1 c1 a2 c2, a = some ⟨b, off, none⟩ ∧ (Four w b off x a1 c1 ∧ Fits x c1 ∧ Kids w B a1 x.kids) ∧ (Four w b (off + 4) y a2 c2 ∧ Fits y c2 ∧ Kids w B a2 y.kids) := by
  obtain ⟨b, off, a1, c1, e, -, h1, h2, h3⟩ := h.get (j := 0) (by simp)
  obtain ⟨b', off', a2, c2, e', -, h4, h5, h6⟩ := h.get (j := 1) (by simp)
  rw [e] at e'
  injection e' with e'
  injection e' with e1 e2
  subst e1 e2
  exact ⟨b, off, a1, c1, a2, c2, e, ⟨by simpa using h1, by simpa using h2, by simpa using h3⟩, by simpa using h4, by simpa using h5, by simpa using h6⟩

theorem laid4 (w : World) (v0 v1 v2 v3 : Value) (i : TypeId) : ∃ wa, w.alloc (.cells #[v0, v1, v2, v3] i) = wa ∧ Below w.heap.size w wa ∧
    wa.cell? ⟨w.heap.size, 0, none⟩ = some v0 ∧ wa.cell? ⟨w.heap.size, 1, none⟩ = some v1 ∧ wa.cell? ⟨w.heap.size, 2, none⟩ = some v2 ∧ wa.cell? ⟨w.heap.size, 3, none⟩ = some v3 :=
  ⟨_, rfl, below_alloc _ _, by simp [go_sem], by simp [go_sem], by simp [go_sem], by simp [go_sem]⟩
theorem Four.on {w w' : World} {b off : Nat} {t : Nd} {a : Option Addr} {c : Nat} (h : Four w b off t a c) (hb : Below w.heap.size w w') : Four w' b off t a c := keep_four b off t a c w w' hb h

/-- What the names of a signature's parameters must be. -/
def soOf (names : Bool) (l : List UInt8) : Bool := if names then nameL l else l.isEmpty
theorem sig_two (ty : Nd → Bool) (so : List UInt8 → Bool) (k : Int) (s : List UInt8) (x y : Nd) (p : Int) :
    sigB ty so (.mk k s [x, y] p) = (k == 12 && (s.isEmpty && ((x.kind == 6 && (x.text.isEmpty && x.kids.all (paramB ty so))) && (emptyB y || ty y)))) := by
  simp [sigB, ofB, kids2, emptyB]
theorem sig_not (ty : Nd → Bool) (so : List UInt8 → Bool) (k : Int) (s : List UInt8) (l : List Nd) (p : Int) (h : l.length ≠ 2) : sigB ty so (.mk k s l p) = false := by
  unfold sigB ofB
  match l, h with
  | [], _ => simp [kids2]
  | [_], _ => simp [kids2]
  | [_, _], h => simp at h
  | _ :: _ :: _ :: _, _ => simp [kids2]

set_option maxRecDepth 100000 in
set_option maxHeartbeats 8000000 in
theorem rsig_any (ty : Nd → Bool) (n : Nat) (h : Ok 19 ty n) (names : Bool) (t : Nd) (a : Option Addr) (c : Nat) (w : World) (ht : t.height ≤ n + 1) (hg : Glob w) (hk : Kids w w.heap.size a t.kids) (hf : Fits t c) :
    Calls Tryz.prog 22 #[.agg #[.int .i64 t.kind, .string ⟨t.text.toArray⟩, .slice a t.kids.length c, .int .i64 t.pos], .bool names] w fun e w' => e = .returned (.bool (sigB ty (soOf names) t)) ∧ Below w.heap.size w w' := by
  have hkid : ∀ x, x ∈ t.kids → x.height ≤ n := fun x hx => by have := Nd.height_kid hx; omega
  have hl2 : t.kids.length ≤ 9223372036854775807 := by have := hf.2.2.2.2.2.1; have := hf.2.2.2.2.2.2; omega
  obtain ⟨k, s, l, p⟩ := t
  simp only [Nd.kind_mk, Nd.text_mk, Nd.kids_mk, Nd.pos_mk] at *
  by_cases hlen : l.length = 2
  · obtain ⟨x, y, rfl⟩ : ∃ x y, l = [x, y] := by
      match l, hlen with
      | [x, y], _ => exact ⟨x, y, rfl⟩
    obtain ⟨b, off, a1, c1, a2, c2, rfl, ⟨⟨x0, x1, x2, x3⟩, fx, kx⟩, ⟨y0, y1, y2, y3⟩, fy, ky⟩ := hk.two2
    have hx := hkid x (by simp)
    have hy := hkid y (by simp)
    have hxl : x.kids.length ≤ 9223372036854775807 := by have := fx.2.2.2.2.2.1; have := fx.2.2.2.2.2.2; omega
    rw [sig_two]
    obtain ⟨PB, hPB⟩ : ∃ PB : Nd → Bool, PB = paramB ty (soOf names) := ⟨_, rfl⟩
    rw [← hPB]
    have HPB := Lib.hid (fun q => show PB q = (soOf names q.text && (q.kind == 8 && kids1 ty q.kids)) by rw [hPB]; rfl)
    clear hPB
    obtain ⟨wa, hwa, hba, c0, c1', c2', c3⟩ := laid4 w (.int .i64 k) (.string ⟨s.toArray⟩) (.slice (some ⟨b, off, none⟩) 2 c) (.int .i64 p) 24
    have fx' := Four.on ⟨x0, x1, x2, x3⟩ hba
    have fy' := Four.on ⟨y0, y1, y2, y3⟩ hba
    obtain ⟨S, hS⟩ : ∃ S : World → Prop, S = fun W => (W.cell? ⟨w.heap.size, 0, none⟩ = some (.int .i64 k) ∧ W.cell? ⟨w.heap.size, 1, none⟩ = some (.string ⟨s.toArray⟩) ∧ W.cell? ⟨w.heap.size, 2, none⟩ = some (.slice (some ⟨b, off, none⟩) 2 c) ∧ W.cell? ⟨w.heap.size, 3, none⟩ = some (.int .i64 p)) ∧
      Four W b off x a1 c1 ∧ Four W b (off + 4) y a2 c2 := ⟨_, rfl⟩
    have HKB := Lib.hid (show Keep S by rw [hS]; exact keep_and (keep_and (keep_cell _ _) (keep_and (keep_cell _ _) (keep_and (keep_cell _ _) (keep_cell _ _)))) (keep_and (keep_four _ _ _ _ _) (keep_four _ _ _ _ _)))
    have HP := Lib.hid (show Nk w n S [(x, a1, c1), (y, a2, c2)] wa from ⟨hba, hg.on hba, by rw [hS]; exact ⟨⟨c0, c1', c2', c3⟩, fx', fy'⟩, fun q hq => by
      simp only [List.mem_cons, List.not_mem_nil, or_false] at hq
      rcases hq with rfl | rfl
      · exact ⟨hx, kx.on hba, fx⟩
      · exact ⟨hy, ky.on hba, fy⟩⟩)
    have HT := Lib.hid h
    obtain ⟨x0, x1, x2, x3⟩ := fx'
    obtain ⟨y0, y1, y2, y3⟩ := fy'
    have HS := Lib.hid hS
    clear h hg hk hf hkid ht hlen fx kx fy ky hba hx hy hS
    cases names
    all_goals
      go_enter Tryz.func22, Tryz.ntmps22
      go_wp2_with (first
        | (go_at_call 45
           refine (nk_nothing HP.out HKB.out _ _ _).mono ?_
           rintro e w1 ⟨rfl, h1, HP⟩
           rw [HS.out] at h1
           obtain ⟨⟨c0, c1', c2', c3⟩, ⟨x0, x1, x2, x3⟩, y0, y1, y2, y3⟩ := h1)
        | (go_at_call 19
           refine (nk_ok HP.out HKB.out HT.out _ _ _ ?_).mono ?_
           focus (simp)
           rintro e w1 ⟨rfl, h1, HP⟩
           rw [HS.out] at h1
           obtain ⟨⟨c0, c1', c2', c3⟩, ⟨x0, x1, x2, x3⟩, y0, y1, y2, y3⟩ := h1))
      all_goals first
        | (go_ret
           exact ⟨ret_bool (by simp_all), HP.out.below⟩)
        | (have hy2 : (emptyB y || ty y) = true := by simp_all
           have e12 : k = 12 := by assumption
           have e0 : s = [] := by assumption
           have e6 : x.kind = 6 := by assumption
           have e00 : x.text = [] := by assumption
           have EX := Lib.hid (And.intro e6 e00)
           subst e12 e0
           clear e6 e00
           have HY2 := Lib.hid hy2
           clear hy2
           go_wp2_with fail
           go_loopw [6] (fun i wr => ∃ j : Nat, j ≤ x.kids.length ∧ i = .int .i64 j ∧ Hid ((x.kids.take j).all PB = true) ∧ Hid (Nk w n S [(x, a1, c1), (y, a2, c2)] wr)) (fun i _ => x.kids.length - (intOf i).toNat)
           case atStart => exact ⟨0, by omega, rfl, Lib.hid rfl, HP⟩
           case round =>
             obtain ⟨j, hj1, rfl, HALL, HP⟩ := hrel
             by_cases hlt : j < x.kids.length
             · obtain ⟨b', off', a', c', ha, -, hq4, hfq, hkq⟩ := (HP.out.known (x, a1, c1) (by simp)).2.1.get hlt
               have hqh := Nd.height_kid (List.getElem_mem hlt)
               have hxh := (HP.out.known (x, a1, c1) (by simp)).1
               have HNX := Lib.hid (fun e => alls_next (f := PB) hlt HALL.out e)
               have HNO := Lib.hid (fun e => alls_no (f := PB) hlt e)
               obtain ⟨q, hq⟩ : ∃ q, x.kids[j] = q := ⟨_, rfl⟩
               rw [hq] at hq4 hfq hkq hqh HNX HNO
               simp only at ha hxh
               subst ha
               clear hq
               obtain ⟨qk, qs, ql, qp⟩ := q
               simp only [Nd.kind_mk, Nd.text_mk, Nd.kids_mk, Nd.pos_mk] at hkq
               have hqs : qs.length ≤ 140737488351232 := hfq.2.2.2.2.1
               have hql2 : ql.length ≤ 9223372036854775807 := by have := hfq.2.2.2.2.2.1; have := hfq.2.2.2.2.2.2; simp only [Nd.kids_mk] at *; omega
               obtain ⟨d0, d1, d2, d3⟩ := hq4
               simp only [Nd.kind_mk, Nd.text_mk, Nd.kids_mk, Nd.pos_mk] at d0 d1 d2 d3
               by_cases hlen : ql.length = 1
               · obtain ⟨z, rfl⟩ : ∃ z, ql = [z] := by
                   match ql, hlen with
                   | [z], _ => exact ⟨z, rfl⟩
                 obtain ⟨bz, oz, az, cz, rfl, hz4, fz, kz⟩ := hkq.one1
                 have hzh := Nd.height_kid (t := .mk qk qs [z] qp) (k := z) (by simp)
                 have HPQ := Lib.hid (HPB.out (.mk qk qs [z] qp))
                 obtain ⟨S2, hS2⟩ : ∃ S2 : World → Prop, S2 = fun W => S W ∧ (W.cell? ⟨b', off' + j * 4, none⟩ = some (.int .i64 qk) ∧ W.cell? ⟨b', off' + j * 4 + 1, none⟩ = some (.string ⟨qs.toArray⟩) ∧ W.cell? ⟨b', off' + j * 4 + 2, none⟩ = some (.slice (some ⟨bz, oz, none⟩) 1 c')) ∧ Four W bz oz z az cz := ⟨_, rfl⟩
                 have HKB2 := Lib.hid (show Keep S2 by rw [hS2]; exact keep_and HKB.out (keep_and (keep_and (keep_cell _ _) (keep_and (keep_cell _ _) (keep_cell _ _))) (keep_four _ _ _ _ _)))
                 have HP2 := Lib.hid (show Nk w n S2 [(x, some ⟨b', off', none⟩, c1), (y, a2, c2), (z, az, cz)] wr from HP.out.more (by rw [hS2]; exact ⟨HP.out.cells, ⟨d0, d1, d2⟩, hz4⟩) (fun r hr => by
                   simp only [List.mem_cons, List.not_mem_nil, or_false] at hr ⊢
                   rcases hr with rfl | rfl | rfl
                   · exact .inl (.inl rfl)
                   · exact .inl (.inr rfl)
                   · exact .inr ⟨by show z.height ≤ n; omega, kz, fz⟩))
                 obtain ⟨z0, z1, z2, z3⟩ := hz4
                 have HS2 := Lib.hid hS2
                 clear hqh hxh hfq hkq fz kz hzh hlen hS2 d3
                 go_wp2_with (first
                   | (go_at_call 17
                      refine (nk_name HP2.out HKB2.out _ hqs).mono ?_
                      rintro e w1 ⟨rfl, h1, HP2⟩
                      rw [HS2.out] at h1
                      obtain ⟨-, ⟨d0, d1, d2⟩, z0, z1, z2, z3⟩ := h1)
                   | (go_at_call 19
                      refine (nk_ok HP2.out HKB2.out HT.out _ _ _ ?_).mono ?_
                      focus (simp)
                      rintro e w1 ⟨rfl, h1, HP2⟩
                      rw [HS2.out] at h1
                      obtain ⟨-, ⟨d0, d1, d2⟩, z0, z1, z2, z3⟩ := h1))
                 all_goals first
                   | (go_ret
                      exact ⟨ret_bool (by rw [HNO.out (by rw [HPQ.out]; simp_all [soOf, kids1])]; simp), HP2.out.below⟩)
                   | (have HA2 := Lib.hid (HNX.out (by rw [HPQ.out]; simp_all [soOf, kids1]))
                      have HN2 := Lib.hid (show Nk w n S [(x, some ⟨b', off', none⟩, c1), (y, a2, c2)] _ from HP2.out.less (fun h => by rw [HS2.out] at h; exact h.1) (by simp))
                      go_roundw
                      case rel =>
                        exact ⟨j + 1, by omega, by go_num, HA2, HN2⟩
                      case measure => simp [intOf]; omega)
               · have hn1 : ((ql.length : Int) != 1) = true := by simp; omega
                 have HV := Lib.hid (show x.kids.all PB = false from HNO.out (by
                   rw [HPB.out]
                   match ql, hlen with
                   | [], _ => simp [kids1]
                   | [_], h => simp at h
                   | _ :: _ :: _, _ => simp [kids1]))
                 clear hqh hxh hfq hkq hlen
                 go_wp2_with fail
                 all_goals
                   go_ret
                   exact ⟨ret_bool (by rw [HV.out]; simp), HP.out.below⟩
             · obtain rfl : j = x.kids.length := by omega
               have HV := Lib.hid (alls_end HALL.out)
               go_wp2_with fail
               go_ret
               exact ⟨ret_bool (by rw [HV.out, HY2.out, EX.out.1, EX.out.2]; rfl), HP.out.below⟩)
  · have hn : ((l.length : Int) != 2) = true := by simp; omega
    have HV := Lib.hid (sig_not ty (soOf names) k s l p hlen)
    clear hlen hkid h hg hk hf ht
    go_enter Tryz.func22, Tryz.ntmps22
    go_wp2_with fail
    all_goals
      go_ret
      exact ⟨ret_bool HV.out.symm, below_alloc _ _⟩
end Go.Proofs.YtnmebgiiajnnjaaGreat
