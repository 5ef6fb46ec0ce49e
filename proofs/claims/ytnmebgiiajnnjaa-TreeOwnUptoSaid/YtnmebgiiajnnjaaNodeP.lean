/-
  tree.isExpr, walked.
-/
import Derived.Test.YtnmebgiiajnnjaaNodeO
namespace Go.Proofs.Ytnmebgiiajnnjaa
set_option linter.unusedSimpArgs false
set_option linter.unusedVariables false
open Go.RowKit

def partB (ex ty : Nd → Bool) (k : Nd) : Bool := ex k || (!(k.kind == 10) && ty k)

set_option maxHeartbeats 400000 in
theorem part_ok (ex ty : Nd → Bool) (n : Nat) (h1 : Ok 36 ex n) (h2 : Ok 35 ty n) : Ok 56 (partB ex ty) n := by
  intro t a c w ht hg hk hf
  have hm := mid0 t a c w 24
  have H1 := h1 t a c _ ht (hg.on hm.on) (hk.on hm.on) hf
  have H2 := Lib.hid (fun W (hW : Mid t a c w w.heap.size W) => h2 t a c W ht (hg.on hW.on) (hk.on hW.on) hf)
  have HM := Lib.hid hm
  clear h1 h2 hg hk hf hm
  go_enter Try.func56, Try.ntmps56
  cases hx : ex t with
  | true =>
    rw [hx] at H1
    have HX := Lib.hid hx
    clear hx
    go_wp2_with fail
    refine H1.mono ?_
    rintro e w1 ⟨rfl, hb1⟩
    go_wp2_with fail
    go_ret
    exact ⟨ret_bool (by simp [partB, HX.out]), bext HM.out.on hb1⟩
  | false =>
    rw [hx] at H1
    have HX := Lib.hid hx
    clear hx
    by_cases hkd : t.kind = 10
    · have e1 : (t.kind == 10) = true := by simp [hkd]
      have e2 : (t.kind != 10) = false := by simp [hkd]
      have HKD := Lib.hid hkd
      clear hkd
      go_wp2_with fail
      refine H1.mono ?_
      rintro e w1 ⟨rfl, hb1⟩
      have HM1 := Lib.hid (HM.out.next hb1)
      obtain ⟨a0, a1, a2, a3⟩ := HM1.out.four
      clear hb1
      go_wp2_with fail
      go_ret
      exact ⟨ret_bool (by simp [partB, HX.out, HKD.out]), HM1.out.on⟩
    · have e1 : (t.kind == 10) = false := by simp [hkd]
      have e2 : (t.kind != 10) = true := by simp [hkd]
      have HKD := Lib.hid hkd
      clear hkd
      go_wp2_with fail
      refine H1.mono ?_
      rintro e w1 ⟨rfl, hb1⟩
      have HM1 := Lib.hid (HM.out.next hb1)
      obtain ⟨a0, a1, a2, a3⟩ := HM1.out.four
      clear hb1
      go_wp2_with fail
      refine (H2.out _ HM1.out).mono ?_
      rintro e w2 ⟨rfl, hb2⟩
      go_wp2_with fail
      go_ret
      exact ⟨ret_bool (by simp [partB, HX.out, HKD.out]), bext HM1.out.on hb2⟩

def callB (ex : Nd → Bool) (t : Nd) : Bool := t.text.isEmpty && (!t.kids.isEmpty && t.kids.all ex)
set_option maxHeartbeats 400000 in
theorem expr_call (ex : Nd → Bool) (n : Nat) (h1 : Ok 36 ex n) (t : Nd) (a : Option Addr) (c : Nat) (w : World) (hkind : t.kind = 21) (ht : t.height ≤ n + 1) (hg : Glob w) (hk : Kids w w.heap.size a t.kids) (hf : Fits t c) :
    Calls Try.prog 36 #[.agg #[.int .i64 t.kind, .string ⟨t.text.toArray⟩, .slice a t.kids.length c, .int .i64 t.pos]] w fun e w' => e = .returned (.bool (callB ex t)) ∧ Below w.heap.size w w' := by
  have e16 : (t.kind == 16) = false := by simp [hkind]
  have e17 : (t.kind == 17) = false := by simp [hkind]
  have e18 : (t.kind == 18) = false := by simp [hkind]
  have e19 : (t.kind == 19) = false := by simp [hkind]
  have e20 : (t.kind == 20) = false := by simp [hkind]
  have e21 : (t.kind == 21) = true := by simp [hkind]
  have HB0 := Lib.hid (below_alloc w (.cells #[.int .i64 t.kind, .string ⟨t.text.toArray⟩, .slice a t.kids.length c, .int .i64 t.pos] 24))
  have hl2 : t.kids.length ≤ 9223372036854775807 := by have := hf.2.2.2.2.2.1; have := hf.2.2.2.2.2.2; omega
  have H := all_any t.kids a c 36 #[] ex _ enExpr hl2 (hk.on HB0.out) (h1.kids ht (hg.on HB0.out))
  clear h1 hg hk hf hkind
  go_enter Try.func36, Try.ntmps36
  unfold callB
  cases h2 : t.text.isEmpty with
  | true =>
    by_cases h3 : 0 < t.kids.length
    · have h4 : t.kids.isEmpty = false := by cases h : t.kids <;> simp_all
      rw [h4]
      have H4 := Lib.hid h4
      clear h4
      go_wp2_with fail
      refine H.mono ?_
      rintro e w1 ⟨rfl, hb1⟩
      go_wp2_with fail
      go_ret
      exact ⟨ret_bool (by rfl), bext HB0.out hb1⟩
    · have h4 : t.kids.isEmpty = true := by cases h : t.kids <;> simp_all
      rw [h4]
      clear H h4
      go_wp2_with fail
      go_ret
      exact ⟨ret_bool (by rfl), HB0.out⟩
  | false =>
    clear H
    go_wp2_with fail
    go_ret
    exact ⟨ret_bool (by rfl), HB0.out⟩

def indexKids (ex ty : Nd → Bool) : List Nd → Bool
  | x :: y :: r => ex x && (y :: r).all (partB ex ty)
  | _ => false
theorem enPart : Enters Try.prog 56 := enters_of Try.func56 (by kernel_rfl) rfl

set_option maxHeartbeats 400000 in
theorem expr_index (ex ty : Nd → Bool) (n : Nat) (h1 : Ok 36 ex n) (h2 : Ok 35 ty n) (t : Nd) (a : Option Addr) (c : Nat) (w : World) (hkind : t.kind = 22) (ht : t.height ≤ n + 1) (hg : Glob w) (hk : Kids w w.heap.size a t.kids) (hf : Fits t c) :
    Calls Try.prog 36 #[.agg #[.int .i64 t.kind, .string ⟨t.text.toArray⟩, .slice a t.kids.length c, .int .i64 t.pos]] w fun e w' => e = .returned (.bool (t.text.isEmpty && indexKids ex ty t.kids)) ∧ Below w.heap.size w w' := by
  have e16 : (t.kind == 16) = false := by simp [hkind]
  have e17 : (t.kind == 17) = false := by simp [hkind]
  have e18 : (t.kind == 18) = false := by simp [hkind]
  have e19 : (t.kind == 19) = false := by simp [hkind]
  have e20 : (t.kind == 20) = false := by simp [hkind]
  have e21 : (t.kind == 21) = false := by simp [hkind]
  have e22 : (t.kind == 22) = true := by simp [hkind]
  have hm := mid0 t a c w 24
  have hl2 : t.kids.length ≤ c := hf.2.2.2.2.2.1
  have hl3 : c ≤ 9223372036854775807 := hf.2.2.2.2.2.2.1
  have HM := Lib.hid hm
  have HK := Lib.hid hk
  have HG := Lib.hid hg
  have HP := Lib.hid (part_ok ex ty n h1 h2)
  have H1 := Lib.hid h1
  clear h1 h2 hg hk hf hkind hm
  go_enter Try.func36, Try.ntmps36
  cases h2 : t.text.isEmpty with
  | true =>
    by_cases h3 : 1 < t.kids.length
    · obtain ⟨x, y, r, hxy⟩ : ∃ x y r, t.kids = x :: y :: r := by
        rcases h : t.kids with _ | ⟨x, _ | ⟨y, r⟩⟩
        · rw [h] at h3; simp at h3
        · rw [h] at h3; simp at h3
        · exact ⟨x, y, r, rfl⟩
      obtain ⟨b, off, xa, xc, rfl, hkB, ⟨k0, k1, k2, k3⟩, hxf, hxn⟩ := (HK.out.on HM.out.on).get (j := 0) (by omega)
      have ex0 : t.kids[0] = x := by simp [hxy]
      rw [ex0] at k0 k1 k2 k3 hxf hxn
      have HX := Lib.hid (H1.out x xa xc _ (by have := Nd.height_kid (t := t) (k := x) (by simp [hxy]); omega) (HG.out.on HM.out.on) hxn hxf)
      have HXY := Lib.hid hxy
      have HXN := Lib.hid hxn
      clear hxy ex0 hxn hxf
      simp only [Nat.zero_mul, Nat.add_zero] at k0 k1 k2 k3
      go_wp2_with fail
      cases hex : ex x with
      | false =>
        have hx0 := HX.out
        rw [hex] at hx0
        have HX0 := Lib.hid hx0
        have HEX := Lib.hid hex
        clear hex hx0
        refine HX0.out.mono ?_
        rintro e w1 ⟨rfl, hb1⟩
        have HM1 := Lib.hid (HM.out.next hb1)
        clear hb1
        go_wp2_with fail
        go_ret
        exact ⟨ret_bool (by rw [HXY.out]; simp [indexKids, HEX.out]), HM1.out.on⟩
      | true =>
        have hx0 := HX.out
        rw [hex] at hx0
        have HX0 := Lib.hid hx0
        have HEX := Lib.hid hex
        clear hex hx0
        refine HX0.out.mono ?_
        rintro e w1 ⟨rfl, hb1⟩
        have HM1 := Lib.hid (HM.out.next hb1)
        obtain ⟨a0, a1, a2, a3⟩ := HM1.out.four
        clear hb1
        go_wp2_with fail
        have hlen : (y :: r).length = t.kids.length - 1 := by rw [HXY.out]; simp
        have hkt := HK.out.on HM1.out.on
        rw [HXY.out] at hkt
        have H := all_any (y :: r) (some ⟨b, off + 4, none⟩) (c - 1) 56 #[] (partB ex ty) w1 enPart (by rw [hlen]; omega) hkt.tail
          (fun k hk => HP.out.says (by have := Nd.height_kid (t := t) (k := k) (by rw [HXY.out]; exact List.mem_cons_of_mem _ hk); omega) (HG.out.on HM1.out.on))
        rw [hlen] at H
        refine H.mono ?_
        rintro e w2 ⟨rfl, hb2⟩
        go_wp2_with fail
        go_ret
        exact ⟨ret_bool (by rw [HXY.out]; simp [indexKids, HEX.out]), bext HM1.out.on hb2⟩
    · have hx : indexKids ex ty t.kids = false := by
        rcases h : t.kids with _ | ⟨x, _ | ⟨y, r⟩⟩
        · rfl
        · rfl
        · rw [h] at h3; simp at h3
      have HX := Lib.hid hx
      clear hx
      go_wp2_with fail
      go_ret
      exact ⟨ret_bool (by simp [HX.out]), HM.out.on⟩
  | false =>
    go_wp2_with fail
    go_ret
    exact ⟨ret_bool (by rfl), HM.out.on⟩

def litKids (ty ex : Nd → Bool) : List Nd → Bool
  | x :: r => !(x.kind == 12) && (ty x && r.all ex)
  | _ => false

set_option maxHeartbeats 1000000 in
theorem expr_lit (ty ex : Nd → Bool) (n : Nat) (h2 : Ok 35 ty n) (h1 : Ok 36 ex n) (t : Nd) (a : Option Addr) (c : Nat) (w : World) (hkind : t.kind = 24) (ht : t.height ≤ n + 1) (hg : Glob w) (hk : Kids w w.heap.size a t.kids) (hf : Fits t c) :
    Calls Try.prog 36 #[.agg #[.int .i64 t.kind, .string ⟨t.text.toArray⟩, .slice a t.kids.length c, .int .i64 t.pos]] w fun e w' => e = .returned (.bool (t.text.isEmpty && litKids ty ex t.kids)) ∧ Below w.heap.size w w' := by
  have e16 : (t.kind == 16) = false := by simp [hkind]
  have e17 : (t.kind == 17) = false := by simp [hkind]
  have e18 : (t.kind == 18) = false := by simp [hkind]
  have e19 : (t.kind == 19) = false := by simp [hkind]
  have e20 : (t.kind == 20) = false := by simp [hkind]
  have e21 : (t.kind == 21) = false := by simp [hkind]
  have e22 : (t.kind == 22) = false := by simp [hkind]
  have e23 : (t.kind == 23) = false := by simp [hkind]
  have e24 : (t.kind == 24) = true := by simp [hkind]
  have hm := mid0 t a c w 24
  have hl2 : t.kids.length ≤ c := hf.2.2.2.2.2.1
  have hl3 : c ≤ 9223372036854775807 := hf.2.2.2.2.2.2.1
  have HM := Lib.hid hm
  have HK := Lib.hid hk
  have HG := Lib.hid hg
  have H1 := Lib.hid h1
  have H2 := Lib.hid h2
  clear h1 h2 hg hk hf hkind hm
  go_enter Try.func36, Try.ntmps36
  cases h2 : t.text.isEmpty with
  | true =>
    by_cases h3 : 0 < t.kids.length
    · obtain ⟨x, r, hxy⟩ : ∃ x r, t.kids = x :: r := by
        rcases h : t.kids with _ | ⟨x, r⟩
        · rw [h] at h3; simp at h3
        · exact ⟨x, r, rfl⟩
      obtain ⟨b, off, xa, xc, rfl, hkB, ⟨k0, k1, k2, k3⟩, hxf, hxn⟩ := (HK.out.on HM.out.on).get (j := 0) (by omega)
      have ex0 : t.kids[0] = x := by simp [hxy]
      rw [ex0] at k0 k1 k2 k3 hxf hxn
      have HX := Lib.hid (H2.out x xa xc _ (by have := Nd.height_kid (t := t) (k := x) (by simp [hxy]); omega) (HG.out.on HM.out.on) hxn hxf)
      have HXY := Lib.hid hxy
      clear hxy ex0 hxn hxf
      simp only [Nat.zero_mul, Nat.add_zero] at k0 k1 k2 k3
      by_cases h12 : x.kind = 12
      · have x1 : (x.kind == 12) = true := by simp [h12]
        have x2 : (x.kind != 12) = false := by simp [h12]
        have H12 := Lib.hid h12
        clear h12
        go_wp2_with fail
        go_ret
        exact ⟨ret_bool (by rw [HXY.out]; simp [litKids, H12.out]), HM.out.on⟩
      · have x1 : (x.kind == 12) = false := by simp [h12]
        have x2 : (x.kind != 12) = true := by simp [h12]
        have H12 := Lib.hid h12
        clear h12
        go_wp2_with fail
        cases hex : ty x with
        | false =>
          have hx0 := HX.out
          rw [hex] at hx0
          have HX0 := Lib.hid hx0
          have HEX := Lib.hid hex
          clear hex hx0
          refine HX0.out.mono ?_
          rintro e w1 ⟨rfl, hb1⟩
          have HM1 := Lib.hid (HM.out.next hb1)
          clear hb1
          go_wp2_with fail
          go_ret
          exact ⟨ret_bool (by rw [HXY.out]; simp [litKids, HEX.out]), HM1.out.on⟩
        | true =>
          have hx0 := HX.out
          rw [hex] at hx0
          have HX0 := Lib.hid hx0
          have HEX := Lib.hid hex
          clear hex hx0
          refine HX0.out.mono ?_
          rintro e w1 ⟨rfl, hb1⟩
          have HM1 := Lib.hid (HM.out.next hb1)
          obtain ⟨a0, a1, a2, a3⟩ := HM1.out.four
          clear hb1
          have hlen : r.length = t.kids.length - 1 := by rw [HXY.out]; simp
          have hkt := HK.out.on HM1.out.on
          rw [HXY.out] at hkt
          by_cases hc1 : c = 1
          · have hr : r = [] := by have := congrArg List.length HXY.out; simp at this; exact List.eq_nil_of_length_eq_zero (by omega)
            have H := all_any [] (some ⟨b, off, none⟩) 0 36 #[] ex w1 enExpr (by simp) (Kids.nil _ _ _) (fun k hk => absurd hk (by simp))
            have hl1 : t.kids.length = 1 := by omega
            have HR := Lib.hid hr
            clear hkt hlen hr
            subst hc1
            rw [hl1] at a2
            go_wp2_with fail
            refine H.mono ?_
            rintro e w2 ⟨rfl, hb2⟩
            go_wp2_with fail
            go_ret
            exact ⟨ret_bool (by rw [HXY.out, HR.out]; simp [litKids, HEX.out, H12.out]), bext HM1.out.on hb2⟩
          · have H := all_any r (some ⟨b, off + 4, none⟩) (c - 1) 36 #[] ex w1 enExpr (by rw [hlen]; omega) hkt.tail
              (fun k hk => H1.out.says (by have := Nd.height_kid (t := t) (k := k) (by rw [HXY.out]; exact List.mem_cons_of_mem _ hk); omega) (HG.out.on HM1.out.on))
            rw [hlen] at H
            clear hkt hlen
            go_wp2_with fail
            refine H.mono ?_
            rintro e w2 ⟨rfl, hb2⟩
            go_wp2_with fail
            go_ret
            exact ⟨ret_bool (by rw [HXY.out]; simp [litKids, HEX.out, H12.out]), bext HM1.out.on hb2⟩
    · have hx : litKids ty ex t.kids = false := by
        rcases h : t.kids with _ | ⟨x, r⟩
        · rfl
        · rw [h] at h3; simp at h3
      have HX := Lib.hid hx
      clear hx
      go_wp2_with fail
      go_ret
      exact ⟨ret_bool (by simp [HX.out]), HM.out.on⟩
  | false =>
    go_wp2_with fail
    go_ret
    exact ⟨ret_bool (by rfl), HM.out.on⟩

def exprB (ex ty sg bl : Nd → Bool) (t : Nd) : Bool :=
  if t.kind = 16 then plainL t.text && kids0 t.kids else
  if t.kind = 17 then shortL t.text && kids0 t.kids else
  if t.kind = 18 then nameL t.text && kids0 t.kids else
  if t.kind = 19 then unaryL t.text && kids1 ex t.kids else
  if t.kind = 20 then binaryL t.text && kids2 ex ex t.kids else
  if t.kind = 21 then callB ex t else
  if t.kind = 22 then t.text.isEmpty && indexKids ex ty t.kids else
  if t.kind = 23 then nameL t.text && kids1 ex t.kids else
  if t.kind = 24 then t.text.isEmpty && litKids ty ex t.kids else
  ofB 25 (kids2 sg bl) t

theorem expr_ok (ex ty sg bl : Nd → Bool) (n : Nat) (h1 : Ok 36 ex n) (h2 : Ok 35 ty n) (h3 : Ok 38 sg n) (h4 : Ok 45 bl n) :
    Ok 36 (exprB ex ty sg bl) (n + 1) := by
  intro t a c w ht hg hk hf
  unfold exprB
  by_cases k16 : t.kind = 16
  · simp only [if_pos k16]; exact expr_int n t a c w k16 ht hg hk hf
  simp only [if_neg k16]
  by_cases k17 : t.kind = 17
  · simp only [if_pos k17]; exact expr_str n t a c w k17 ht hg hk hf
  simp only [if_neg k17]
  by_cases k18 : t.kind = 18
  · simp only [if_pos k18]; exact expr_name n t a c w k18 ht hg hk hf
  simp only [if_neg k18]
  by_cases k19 : t.kind = 19
  · simp only [if_pos k19]; exact expr_unary ex n h1 t a c w k19 ht hg hk hf
  simp only [if_neg k19]
  by_cases k20 : t.kind = 20
  · simp only [if_pos k20]; exact expr_binary ex n h1 t a c w k20 ht hg hk hf
  simp only [if_neg k20]
  by_cases k21 : t.kind = 21
  · simp only [if_pos k21]; exact expr_call ex n h1 t a c w k21 ht hg hk hf
  simp only [if_neg k21]
  by_cases k22 : t.kind = 22
  · simp only [if_pos k22]; exact expr_index ex ty n h1 h2 t a c w k22 ht hg hk hf
  simp only [if_neg k22]
  by_cases k23 : t.kind = 23
  · simp only [if_pos k23]; exact expr_field ex n h1 t a c w k23 ht hg hk hf
  simp only [if_neg k23]
  by_cases k24 : t.kind = 24
  · simp only [if_pos k24]; exact expr_lit ty ex n h2 h1 t a c w k24 ht hg hk hf
  simp only [if_neg k24]
  exact expr_func sg bl n h3 h4 t a c w ⟨k16, k17, k18, k19, k20, k21, k22, k23, k24⟩ ht hg hk hf
end Go.Proofs.Ytnmebgiiajnnjaa
