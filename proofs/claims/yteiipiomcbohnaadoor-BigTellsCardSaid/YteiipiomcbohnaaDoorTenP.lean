/-
  the document's Do, walked over what its calls give.
-/
import Derived.Test.YteiipiomcbohnaaDoorTenO
import Derived.Test.YteiipiomcbohnaaDoorTenM
namespace Go.Proofs.YteiipiomcbohnaaDoor.Ten
set_option linter.unusedSimpArgs false
set_option linter.unusedVariables false
open Go.RowKit

/-- A call that changes nothing. -/
def Qt (f : Nat) (args : Array Value) (v : Value) : Prop := ∀ w, Calls Tryd.prog f args w fun e w' => e = .returned v ∧ w = w'
/-- A call that only lays new cells. -/
def Gr (f : Nat) (args : Array Value) (v : Value) : Prop := ∀ w, Calls Tryd.prog f args w fun e w' => e = .returned v ∧ Hid (Below w.heap.size w w')
set_option maxRecDepth 100000 in
set_option maxHeartbeats 4000000 in
theorem do_bad1 (op a b X Y : List UInt8) (mx my ox oy : Bool) (HA : Hid (Qt 39 #[.string ⟨a.toArray⟩] (.tuple #[.string ⟨X.toArray⟩, .bool mx, .bool ox]))) (HB : Hid (Qt 39 #[.string ⟨b.toArray⟩] (.tuple #[.string ⟨Y.toArray⟩, .bool my, .bool oy])))
    (HRA : Hid (Gr 24 #[.string ⟨a.toArray⟩] (.bool false))) :
    Gr 35 #[.string ⟨op.toArray⟩, .string ⟨a.toArray⟩, .string ⟨b.toArray⟩] (.tuple #[.string ⟨([] : List UInt8).toArray⟩, .int .i64 1]) := by
  intro w
  go_enter Tryd.func35, Tryd.ntmps35
  go_wp2_with fail
  refine (HA.out w).mono ?_
  rintro e w' ⟨rfl, h9⟩
  obtain rfl := h9
  go_wp2_with fail
  refine (HB.out w).mono ?_
  rintro e w' ⟨rfl, h9⟩
  obtain rfl := h9
  go_wp2_with fail
  refine (HRA.out w).mono ?_
  rintro e v1 ⟨rfl, hv1⟩
  go_wp2
  refine bodyPost_ret (v := .tuple #[.string ⟨([] : List UInt8).toArray⟩, .int .i64 1]) (by simp [results, Tryd.results35, go_sem]) rfl ?_
  exact ⟨rfl, Lib.hid hv1.out⟩
set_option maxRecDepth 100000 in
set_option maxHeartbeats 4000000 in
theorem do_bad2 (op a b X Y : List UInt8) (mx my ox oy : Bool) (HA : Hid (Qt 39 #[.string ⟨a.toArray⟩] (.tuple #[.string ⟨X.toArray⟩, .bool mx, .bool ox]))) (HB : Hid (Qt 39 #[.string ⟨b.toArray⟩] (.tuple #[.string ⟨Y.toArray⟩, .bool my, .bool oy])))
    (HRA : Hid (Gr 24 #[.string ⟨a.toArray⟩] (.bool true))) (HRB : Hid (Gr 24 #[.string ⟨b.toArray⟩] (.bool false))) :
    Gr 35 #[.string ⟨op.toArray⟩, .string ⟨a.toArray⟩, .string ⟨b.toArray⟩] (.tuple #[.string ⟨([] : List UInt8).toArray⟩, .int .i64 1]) := by
  intro w
  go_enter Tryd.func35, Tryd.ntmps35
  go_wp2_with fail
  refine (HA.out w).mono ?_
  rintro e w' ⟨rfl, h9⟩
  obtain rfl := h9
  go_wp2_with fail
  refine (HB.out w).mono ?_
  rintro e w' ⟨rfl, h9⟩
  obtain rfl := h9
  go_wp2_with fail
  refine (HRA.out w).mono ?_
  rintro e v1 ⟨rfl, hv1⟩
  go_wp2_with fail
  refine (HRB.out v1).mono ?_
  rintro e v2 ⟨rfl, hv2⟩
  go_wp2
  refine bodyPost_ret (v := .tuple #[.string ⟨([] : List UInt8).toArray⟩, .int .i64 1]) (by simp [results, Tryd.results35, go_sem]) rfl ?_
  exact ⟨rfl, Lib.hid (bext hv1.out hv2.out)⟩
set_option maxRecDepth 100000 in
set_option maxHeartbeats 4000000 in
theorem do_quo0 (a b X Y : List UInt8) (mx my ox oy : Bool) (HA : Hid (Qt 39 #[.string ⟨a.toArray⟩] (.tuple #[.string ⟨X.toArray⟩, .bool mx, .bool ox]))) (HB : Hid (Qt 39 #[.string ⟨b.toArray⟩] (.tuple #[.string ⟨Y.toArray⟩, .bool my, .bool oy])))
    (HRA : Hid (Gr 24 #[.string ⟨a.toArray⟩] (.bool true))) (HRB : Hid (Gr 24 #[.string ⟨b.toArray⟩] (.bool true))) (hY : Y = [48]) :
    Gr 35 #[.string ⟨[47].toArray⟩, .string ⟨a.toArray⟩, .string ⟨b.toArray⟩] (.tuple #[.string ⟨([] : List UInt8).toArray⟩, .int .i64 1]) := by
  intro w
  subst hY
  go_enter Tryd.func35, Tryd.ntmps35
  go_wp2_with fail
  refine (HA.out w).mono ?_
  rintro e w' ⟨rfl, h9⟩
  obtain rfl := h9
  go_wp2_with fail
  refine (HB.out w).mono ?_
  rintro e w' ⟨rfl, h9⟩
  obtain rfl := h9
  go_wp2_with fail
  refine (HRA.out w).mono ?_
  rintro e v1 ⟨rfl, hv1⟩
  go_wp2_with fail
  refine (HRB.out v1).mono ?_
  rintro e v2 ⟨rfl, hv2⟩
  go_wp2
  refine bodyPost_ret (v := .tuple #[.string ⟨([] : List UInt8).toArray⟩, .int .i64 1]) (by simp [results, Tryd.results35, go_sem]) rfl ?_
  exact ⟨rfl, Lib.hid (bext hv1.out hv2.out)⟩
set_option maxRecDepth 100000 in
set_option maxHeartbeats 4000000 in
theorem do_rem0 (a b X Y : List UInt8) (mx my ox oy : Bool) (HA : Hid (Qt 39 #[.string ⟨a.toArray⟩] (.tuple #[.string ⟨X.toArray⟩, .bool mx, .bool ox]))) (HB : Hid (Qt 39 #[.string ⟨b.toArray⟩] (.tuple #[.string ⟨Y.toArray⟩, .bool my, .bool oy])))
    (HRA : Hid (Gr 24 #[.string ⟨a.toArray⟩] (.bool true))) (HRB : Hid (Gr 24 #[.string ⟨b.toArray⟩] (.bool true))) (hY : Y = [48]) :
    Gr 35 #[.string ⟨[37].toArray⟩, .string ⟨a.toArray⟩, .string ⟨b.toArray⟩] (.tuple #[.string ⟨([] : List UInt8).toArray⟩, .int .i64 1]) := by
  intro w
  subst hY
  go_enter Tryd.func35, Tryd.ntmps35
  go_wp2_with fail
  refine (HA.out w).mono ?_
  rintro e w' ⟨rfl, h9⟩
  obtain rfl := h9
  go_wp2_with fail
  refine (HB.out w).mono ?_
  rintro e w' ⟨rfl, h9⟩
  obtain rfl := h9
  go_wp2_with fail
  refine (HRA.out w).mono ?_
  rintro e v1 ⟨rfl, hv1⟩
  go_wp2_with fail
  refine (HRB.out v1).mono ?_
  rintro e v2 ⟨rfl, hv2⟩
  go_wp2
  refine bodyPost_ret (v := .tuple #[.string ⟨([] : List UInt8).toArray⟩, .int .i64 1]) (by simp [results, Tryd.results35, go_sem]) rfl ?_
  exact ⟨rfl, Lib.hid (bext hv1.out hv2.out)⟩
set_option maxRecDepth 100000 in
set_option maxHeartbeats 4000000 in
theorem do_add_eq_ok (a b X Y Z T : List UInt8) (mx my ox oy : Bool) (HA : Hid (Qt 39 #[.string ⟨a.toArray⟩] (.tuple #[.string ⟨X.toArray⟩, .bool mx, .bool ox]))) (HB : Hid (Qt 39 #[.string ⟨b.toArray⟩] (.tuple #[.string ⟨Y.toArray⟩, .bool my, .bool oy])))
    (HRA : Hid (Gr 24 #[.string ⟨a.toArray⟩] (.bool true))) (HRB : Hid (Gr 24 #[.string ⟨b.toArray⟩] (.bool true))) (HO : Hid (Gr 52 #[.string ⟨X.toArray⟩, .string ⟨Y.toArray⟩] (.string ⟨Z.toArray⟩))) (HS : Hid (Qt 51 #[.string ⟨Z.toArray⟩, .bool mx] (.string ⟨T.toArray⟩))) (hm : mx = my) (HRT : Hid (Gr 24 #[.string ⟨T.toArray⟩] (.bool true))) :
    Gr 35 #[.string ⟨[43].toArray⟩, .string ⟨a.toArray⟩, .string ⟨b.toArray⟩] (.tuple #[.string ⟨T.toArray⟩, .int .i64 0]) := by
  intro w
  subst hm
  go_enter Tryd.func35, Tryd.ntmps35
  go_wp2_with fail
  refine (HA.out w).mono ?_
  rintro e w' ⟨rfl, h9⟩
  obtain rfl := h9
  go_wp2_with fail
  refine (HB.out w).mono ?_
  rintro e w' ⟨rfl, h9⟩
  obtain rfl := h9
  go_wp2_with fail
  refine (HRA.out w).mono ?_
  rintro e v1 ⟨rfl, hv1⟩
  go_wp2_with fail
  refine (HRB.out v1).mono ?_
  rintro e v2 ⟨rfl, hv2⟩
  go_wp2_with fail
  refine (HO.out v2).mono ?_
  rintro e v3 ⟨rfl, hv3⟩
  go_wp2_with fail
  refine (HS.out v3).mono ?_
  rintro e w' ⟨rfl, h9⟩
  obtain rfl := h9
  go_wp2_with fail
  refine (HRT.out v3).mono ?_
  rintro e v4 ⟨rfl, hv4⟩
  go_wp2
  refine bodyPost_ret (v := .tuple #[.string ⟨T.toArray⟩, .int .i64 0]) (by simp [results, Tryd.results35, go_sem]) rfl ?_
  exact ⟨rfl, Lib.hid (bext (bext (bext hv1.out hv2.out) hv3.out) hv4.out)⟩
set_option maxRecDepth 100000 in
set_option maxHeartbeats 4000000 in
theorem do_add_eq_big (a b X Y Z T : List UInt8) (mx my ox oy : Bool) (HA : Hid (Qt 39 #[.string ⟨a.toArray⟩] (.tuple #[.string ⟨X.toArray⟩, .bool mx, .bool ox]))) (HB : Hid (Qt 39 #[.string ⟨b.toArray⟩] (.tuple #[.string ⟨Y.toArray⟩, .bool my, .bool oy])))
    (HRA : Hid (Gr 24 #[.string ⟨a.toArray⟩] (.bool true))) (HRB : Hid (Gr 24 #[.string ⟨b.toArray⟩] (.bool true))) (HO : Hid (Gr 52 #[.string ⟨X.toArray⟩, .string ⟨Y.toArray⟩] (.string ⟨Z.toArray⟩))) (HS : Hid (Qt 51 #[.string ⟨Z.toArray⟩, .bool mx] (.string ⟨T.toArray⟩))) (hm : mx = my) (HRT : Hid (Gr 24 #[.string ⟨T.toArray⟩] (.bool false))) :
    Gr 35 #[.string ⟨[43].toArray⟩, .string ⟨a.toArray⟩, .string ⟨b.toArray⟩] (.tuple #[.string ⟨([] : List UInt8).toArray⟩, .int .i64 10]) := by
  intro w
  subst hm
  go_enter Tryd.func35, Tryd.ntmps35
  go_wp2_with fail
  refine (HA.out w).mono ?_
  rintro e w' ⟨rfl, h9⟩
  obtain rfl := h9
  go_wp2_with fail
  refine (HB.out w).mono ?_
  rintro e w' ⟨rfl, h9⟩
  obtain rfl := h9
  go_wp2_with fail
  refine (HRA.out w).mono ?_
  rintro e v1 ⟨rfl, hv1⟩
  go_wp2_with fail
  refine (HRB.out v1).mono ?_
  rintro e v2 ⟨rfl, hv2⟩
  go_wp2_with fail
  refine (HO.out v2).mono ?_
  rintro e v3 ⟨rfl, hv3⟩
  go_wp2_with fail
  refine (HS.out v3).mono ?_
  rintro e w' ⟨rfl, h9⟩
  obtain rfl := h9
  go_wp2_with fail
  refine (HRT.out v3).mono ?_
  rintro e v4 ⟨rfl, hv4⟩
  go_wp2
  refine bodyPost_ret (v := .tuple #[.string ⟨([] : List UInt8).toArray⟩, .int .i64 10]) (by simp [results, Tryd.results35, go_sem]) rfl ?_
  exact ⟨rfl, Lib.hid (bext (bext (bext hv1.out hv2.out) hv3.out) hv4.out)⟩
set_option maxRecDepth 100000 in
set_option maxHeartbeats 4000000 in
theorem do_add_lt_ok (a b X Y Z T : List UInt8) (mx my ox oy : Bool) (HA : Hid (Qt 39 #[.string ⟨a.toArray⟩] (.tuple #[.string ⟨X.toArray⟩, .bool mx, .bool ox]))) (HB : Hid (Qt 39 #[.string ⟨b.toArray⟩] (.tuple #[.string ⟨Y.toArray⟩, .bool my, .bool oy])))
    (HRA : Hid (Gr 24 #[.string ⟨a.toArray⟩] (.bool true))) (HRB : Hid (Gr 24 #[.string ⟨b.toArray⟩] (.bool true))) (HL : Hid (Qt 40 #[.string ⟨X.toArray⟩, .string ⟨Y.toArray⟩] (.bool true))) (HO : Hid (Gr 53 #[.string ⟨Y.toArray⟩, .string ⟨X.toArray⟩] (.string ⟨Z.toArray⟩))) (HS : Hid (Qt 51 #[.string ⟨Z.toArray⟩, .bool (my)] (.string ⟨T.toArray⟩))) (hm : (mx == my) = false) (HRT : Hid (Gr 24 #[.string ⟨T.toArray⟩] (.bool true))) :
    Gr 35 #[.string ⟨[43].toArray⟩, .string ⟨a.toArray⟩, .string ⟨b.toArray⟩] (.tuple #[.string ⟨T.toArray⟩, .int .i64 0]) := by
  intro w
  go_enter Tryd.func35, Tryd.ntmps35
  go_wp2_with fail
  refine (HA.out w).mono ?_
  rintro e w' ⟨rfl, h9⟩
  obtain rfl := h9
  go_wp2_with fail
  refine (HB.out w).mono ?_
  rintro e w' ⟨rfl, h9⟩
  obtain rfl := h9
  go_wp2_with fail
  refine (HRA.out w).mono ?_
  rintro e v1 ⟨rfl, hv1⟩
  go_wp2_with fail
  refine (HRB.out v1).mono ?_
  rintro e v2 ⟨rfl, hv2⟩
  go_wp2_with fail
  refine (HL.out v2).mono ?_
  rintro e w' ⟨rfl, h9⟩
  obtain rfl := h9
  go_wp2_with fail
  refine (HO.out v2).mono ?_
  rintro e v3 ⟨rfl, hv3⟩
  go_wp2_with fail
  refine (HS.out v3).mono ?_
  rintro e w' ⟨rfl, h9⟩
  obtain rfl := h9
  go_wp2_with fail
  refine (HRT.out v3).mono ?_
  rintro e v4 ⟨rfl, hv4⟩
  go_wp2
  refine bodyPost_ret (v := .tuple #[.string ⟨T.toArray⟩, .int .i64 0]) (by simp [results, Tryd.results35, go_sem]) rfl ?_
  exact ⟨rfl, Lib.hid (bext (bext (bext hv1.out hv2.out) hv3.out) hv4.out)⟩
set_option maxRecDepth 100000 in
set_option maxHeartbeats 4000000 in
theorem do_add_lt_big (a b X Y Z T : List UInt8) (mx my ox oy : Bool) (HA : Hid (Qt 39 #[.string ⟨a.toArray⟩] (.tuple #[.string ⟨X.toArray⟩, .bool mx, .bool ox]))) (HB : Hid (Qt 39 #[.string ⟨b.toArray⟩] (.tuple #[.string ⟨Y.toArray⟩, .bool my, .bool oy])))
    (HRA : Hid (Gr 24 #[.string ⟨a.toArray⟩] (.bool true))) (HRB : Hid (Gr 24 #[.string ⟨b.toArray⟩] (.bool true))) (HL : Hid (Qt 40 #[.string ⟨X.toArray⟩, .string ⟨Y.toArray⟩] (.bool true))) (HO : Hid (Gr 53 #[.string ⟨Y.toArray⟩, .string ⟨X.toArray⟩] (.string ⟨Z.toArray⟩))) (HS : Hid (Qt 51 #[.string ⟨Z.toArray⟩, .bool (my)] (.string ⟨T.toArray⟩))) (hm : (mx == my) = false) (HRT : Hid (Gr 24 #[.string ⟨T.toArray⟩] (.bool false))) :
    Gr 35 #[.string ⟨[43].toArray⟩, .string ⟨a.toArray⟩, .string ⟨b.toArray⟩] (.tuple #[.string ⟨([] : List UInt8).toArray⟩, .int .i64 10]) := by
  intro w
  go_enter Tryd.func35, Tryd.ntmps35
  go_wp2_with fail
  refine (HA.out w).mono ?_
  rintro e w' ⟨rfl, h9⟩
  obtain rfl := h9
  go_wp2_with fail
  refine (HB.out w).mono ?_
  rintro e w' ⟨rfl, h9⟩
  obtain rfl := h9
  go_wp2_with fail
  refine (HRA.out w).mono ?_
  rintro e v1 ⟨rfl, hv1⟩
  go_wp2_with fail
  refine (HRB.out v1).mono ?_
  rintro e v2 ⟨rfl, hv2⟩
  go_wp2_with fail
  refine (HL.out v2).mono ?_
  rintro e w' ⟨rfl, h9⟩
  obtain rfl := h9
  go_wp2_with fail
  refine (HO.out v2).mono ?_
  rintro e v3 ⟨rfl, hv3⟩
  go_wp2_with fail
  refine (HS.out v3).mono ?_
  rintro e w' ⟨rfl, h9⟩
  obtain rfl := h9
  go_wp2_with fail
  refine (HRT.out v3).mono ?_
  rintro e v4 ⟨rfl, hv4⟩
  go_wp2
  refine bodyPost_ret (v := .tuple #[.string ⟨([] : List UInt8).toArray⟩, .int .i64 10]) (by simp [results, Tryd.results35, go_sem]) rfl ?_
  exact ⟨rfl, Lib.hid (bext (bext (bext hv1.out hv2.out) hv3.out) hv4.out)⟩
set_option maxRecDepth 100000 in
set_option maxHeartbeats 4000000 in
theorem do_add_ge_ok (a b X Y Z T : List UInt8) (mx my ox oy : Bool) (HA : Hid (Qt 39 #[.string ⟨a.toArray⟩] (.tuple #[.string ⟨X.toArray⟩, .bool mx, .bool ox]))) (HB : Hid (Qt 39 #[.string ⟨b.toArray⟩] (.tuple #[.string ⟨Y.toArray⟩, .bool my, .bool oy])))
    (HRA : Hid (Gr 24 #[.string ⟨a.toArray⟩] (.bool true))) (HRB : Hid (Gr 24 #[.string ⟨b.toArray⟩] (.bool true))) (HL : Hid (Qt 40 #[.string ⟨X.toArray⟩, .string ⟨Y.toArray⟩] (.bool false))) (HO : Hid (Gr 53 #[.string ⟨X.toArray⟩, .string ⟨Y.toArray⟩] (.string ⟨Z.toArray⟩))) (HS : Hid (Qt 51 #[.string ⟨Z.toArray⟩, .bool mx] (.string ⟨T.toArray⟩))) (hm : (mx == my) = false) (HRT : Hid (Gr 24 #[.string ⟨T.toArray⟩] (.bool true))) :
    Gr 35 #[.string ⟨[43].toArray⟩, .string ⟨a.toArray⟩, .string ⟨b.toArray⟩] (.tuple #[.string ⟨T.toArray⟩, .int .i64 0]) := by
  intro w
  go_enter Tryd.func35, Tryd.ntmps35
  go_wp2_with fail
  refine (HA.out w).mono ?_
  rintro e w' ⟨rfl, h9⟩
  obtain rfl := h9
  go_wp2_with fail
  refine (HB.out w).mono ?_
  rintro e w' ⟨rfl, h9⟩
  obtain rfl := h9
  go_wp2_with fail
  refine (HRA.out w).mono ?_
  rintro e v1 ⟨rfl, hv1⟩
  go_wp2_with fail
  refine (HRB.out v1).mono ?_
  rintro e v2 ⟨rfl, hv2⟩
  go_wp2_with fail
  refine (HL.out v2).mono ?_
  rintro e w' ⟨rfl, h9⟩
  obtain rfl := h9
  go_wp2_with fail
  refine (HO.out v2).mono ?_
  rintro e v3 ⟨rfl, hv3⟩
  go_wp2_with fail
  refine (HS.out v3).mono ?_
  rintro e w' ⟨rfl, h9⟩
  obtain rfl := h9
  go_wp2_with fail
  refine (HRT.out v3).mono ?_
  rintro e v4 ⟨rfl, hv4⟩
  go_wp2
  refine bodyPost_ret (v := .tuple #[.string ⟨T.toArray⟩, .int .i64 0]) (by simp [results, Tryd.results35, go_sem]) rfl ?_
  exact ⟨rfl, Lib.hid (bext (bext (bext hv1.out hv2.out) hv3.out) hv4.out)⟩
set_option maxRecDepth 100000 in
set_option maxHeartbeats 4000000 in
theorem do_add_ge_big (a b X Y Z T : List UInt8) (mx my ox oy : Bool) (HA : Hid (Qt 39 #[.string ⟨a.toArray⟩] (.tuple #[.string ⟨X.toArray⟩, .bool mx, .bool ox]))) (HB : Hid (Qt 39 #[.string ⟨b.toArray⟩] (.tuple #[.string ⟨Y.toArray⟩, .bool my, .bool oy])))
    (HRA : Hid (Gr 24 #[.string ⟨a.toArray⟩] (.bool true))) (HRB : Hid (Gr 24 #[.string ⟨b.toArray⟩] (.bool true))) (HL : Hid (Qt 40 #[.string ⟨X.toArray⟩, .string ⟨Y.toArray⟩] (.bool false))) (HO : Hid (Gr 53 #[.string ⟨X.toArray⟩, .string ⟨Y.toArray⟩] (.string ⟨Z.toArray⟩))) (HS : Hid (Qt 51 #[.string ⟨Z.toArray⟩, .bool mx] (.string ⟨T.toArray⟩))) (hm : (mx == my) = false) (HRT : Hid (Gr 24 #[.string ⟨T.toArray⟩] (.bool false))) :
    Gr 35 #[.string ⟨[43].toArray⟩, .string ⟨a.toArray⟩, .string ⟨b.toArray⟩] (.tuple #[.string ⟨([] : List UInt8).toArray⟩, .int .i64 10]) := by
  intro w
  go_enter Tryd.func35, Tryd.ntmps35
  go_wp2_with fail
  refine (HA.out w).mono ?_
  rintro e w' ⟨rfl, h9⟩
  obtain rfl := h9
  go_wp2_with fail
  refine (HB.out w).mono ?_
  rintro e w' ⟨rfl, h9⟩
  obtain rfl := h9
  go_wp2_with fail
  refine (HRA.out w).mono ?_
  rintro e v1 ⟨rfl, hv1⟩
  go_wp2_with fail
  refine (HRB.out v1).mono ?_
  rintro e v2 ⟨rfl, hv2⟩
  go_wp2_with fail
  refine (HL.out v2).mono ?_
  rintro e w' ⟨rfl, h9⟩
  obtain rfl := h9
  go_wp2_with fail
  refine (HO.out v2).mono ?_
  rintro e v3 ⟨rfl, hv3⟩
  go_wp2_with fail
  refine (HS.out v3).mono ?_
  rintro e w' ⟨rfl, h9⟩
  obtain rfl := h9
  go_wp2_with fail
  refine (HRT.out v3).mono ?_
  rintro e v4 ⟨rfl, hv4⟩
  go_wp2
  refine bodyPost_ret (v := .tuple #[.string ⟨([] : List UInt8).toArray⟩, .int .i64 10]) (by simp [results, Tryd.results35, go_sem]) rfl ?_
  exact ⟨rfl, Lib.hid (bext (bext (bext hv1.out hv2.out) hv3.out) hv4.out)⟩
set_option maxRecDepth 100000 in
set_option maxHeartbeats 4000000 in
theorem do_sub_eq_ok (a b X Y Z T : List UInt8) (mx my ox oy : Bool) (HA : Hid (Qt 39 #[.string ⟨a.toArray⟩] (.tuple #[.string ⟨X.toArray⟩, .bool mx, .bool ox]))) (HB : Hid (Qt 39 #[.string ⟨b.toArray⟩] (.tuple #[.string ⟨Y.toArray⟩, .bool my, .bool oy])))
    (HRA : Hid (Gr 24 #[.string ⟨a.toArray⟩] (.bool true))) (HRB : Hid (Gr 24 #[.string ⟨b.toArray⟩] (.bool true))) (HO : Hid (Gr 52 #[.string ⟨X.toArray⟩, .string ⟨Y.toArray⟩] (.string ⟨Z.toArray⟩))) (HS : Hid (Qt 51 #[.string ⟨Z.toArray⟩, .bool mx] (.string ⟨T.toArray⟩))) (hm : mx = !my) (HRT : Hid (Gr 24 #[.string ⟨T.toArray⟩] (.bool true))) :
    Gr 35 #[.string ⟨[45].toArray⟩, .string ⟨a.toArray⟩, .string ⟨b.toArray⟩] (.tuple #[.string ⟨T.toArray⟩, .int .i64 0]) := by
  intro w
  subst hm
  go_enter Tryd.func35, Tryd.ntmps35
  go_wp2_with fail
  refine (HA.out w).mono ?_
  rintro e w' ⟨rfl, h9⟩
  obtain rfl := h9
  go_wp2_with fail
  refine (HB.out w).mono ?_
  rintro e w' ⟨rfl, h9⟩
  obtain rfl := h9
  go_wp2_with fail
  refine (HRA.out w).mono ?_
  rintro e v1 ⟨rfl, hv1⟩
  go_wp2_with fail
  refine (HRB.out v1).mono ?_
  rintro e v2 ⟨rfl, hv2⟩
  go_wp2_with fail
  refine (HO.out v2).mono ?_
  rintro e v3 ⟨rfl, hv3⟩
  go_wp2_with fail
  refine (HS.out v3).mono ?_
  rintro e w' ⟨rfl, h9⟩
  obtain rfl := h9
  go_wp2_with fail
  refine (HRT.out v3).mono ?_
  rintro e v4 ⟨rfl, hv4⟩
  go_wp2
  refine bodyPost_ret (v := .tuple #[.string ⟨T.toArray⟩, .int .i64 0]) (by simp [results, Tryd.results35, go_sem]) rfl ?_
  exact ⟨rfl, Lib.hid (bext (bext (bext hv1.out hv2.out) hv3.out) hv4.out)⟩
set_option maxRecDepth 100000 in
set_option maxHeartbeats 4000000 in
theorem do_sub_eq_big (a b X Y Z T : List UInt8) (mx my ox oy : Bool) (HA : Hid (Qt 39 #[.string ⟨a.toArray⟩] (.tuple #[.string ⟨X.toArray⟩, .bool mx, .bool ox]))) (HB : Hid (Qt 39 #[.string ⟨b.toArray⟩] (.tuple #[.string ⟨Y.toArray⟩, .bool my, .bool oy])))
    (HRA : Hid (Gr 24 #[.string ⟨a.toArray⟩] (.bool true))) (HRB : Hid (Gr 24 #[.string ⟨b.toArray⟩] (.bool true))) (HO : Hid (Gr 52 #[.string ⟨X.toArray⟩, .string ⟨Y.toArray⟩] (.string ⟨Z.toArray⟩))) (HS : Hid (Qt 51 #[.string ⟨Z.toArray⟩, .bool mx] (.string ⟨T.toArray⟩))) (hm : mx = !my) (HRT : Hid (Gr 24 #[.string ⟨T.toArray⟩] (.bool false))) :
    Gr 35 #[.string ⟨[45].toArray⟩, .string ⟨a.toArray⟩, .string ⟨b.toArray⟩] (.tuple #[.string ⟨([] : List UInt8).toArray⟩, .int .i64 10]) := by
  intro w
  subst hm
  go_enter Tryd.func35, Tryd.ntmps35
  go_wp2_with fail
  refine (HA.out w).mono ?_
  rintro e w' ⟨rfl, h9⟩
  obtain rfl := h9
  go_wp2_with fail
  refine (HB.out w).mono ?_
  rintro e w' ⟨rfl, h9⟩
  obtain rfl := h9
  go_wp2_with fail
  refine (HRA.out w).mono ?_
  rintro e v1 ⟨rfl, hv1⟩
  go_wp2_with fail
  refine (HRB.out v1).mono ?_
  rintro e v2 ⟨rfl, hv2⟩
  go_wp2_with fail
  refine (HO.out v2).mono ?_
  rintro e v3 ⟨rfl, hv3⟩
  go_wp2_with fail
  refine (HS.out v3).mono ?_
  rintro e w' ⟨rfl, h9⟩
  obtain rfl := h9
  go_wp2_with fail
  refine (HRT.out v3).mono ?_
  rintro e v4 ⟨rfl, hv4⟩
  go_wp2
  refine bodyPost_ret (v := .tuple #[.string ⟨([] : List UInt8).toArray⟩, .int .i64 10]) (by simp [results, Tryd.results35, go_sem]) rfl ?_
  exact ⟨rfl, Lib.hid (bext (bext (bext hv1.out hv2.out) hv3.out) hv4.out)⟩
set_option maxRecDepth 100000 in
set_option maxHeartbeats 4000000 in
theorem do_sub_lt_ok (a b X Y Z T : List UInt8) (mx my ox oy : Bool) (HA : Hid (Qt 39 #[.string ⟨a.toArray⟩] (.tuple #[.string ⟨X.toArray⟩, .bool mx, .bool ox]))) (HB : Hid (Qt 39 #[.string ⟨b.toArray⟩] (.tuple #[.string ⟨Y.toArray⟩, .bool my, .bool oy])))
    (HRA : Hid (Gr 24 #[.string ⟨a.toArray⟩] (.bool true))) (HRB : Hid (Gr 24 #[.string ⟨b.toArray⟩] (.bool true))) (HL : Hid (Qt 40 #[.string ⟨X.toArray⟩, .string ⟨Y.toArray⟩] (.bool true))) (HO : Hid (Gr 53 #[.string ⟨Y.toArray⟩, .string ⟨X.toArray⟩] (.string ⟨Z.toArray⟩))) (HS : Hid (Qt 51 #[.string ⟨Z.toArray⟩, .bool (!my)] (.string ⟨T.toArray⟩))) (hm : (mx == !my) = false) (HRT : Hid (Gr 24 #[.string ⟨T.toArray⟩] (.bool true))) :
    Gr 35 #[.string ⟨[45].toArray⟩, .string ⟨a.toArray⟩, .string ⟨b.toArray⟩] (.tuple #[.string ⟨T.toArray⟩, .int .i64 0]) := by
  intro w
  go_enter Tryd.func35, Tryd.ntmps35
  go_wp2_with fail
  refine (HA.out w).mono ?_
  rintro e w' ⟨rfl, h9⟩
  obtain rfl := h9
  go_wp2_with fail
  refine (HB.out w).mono ?_
  rintro e w' ⟨rfl, h9⟩
  obtain rfl := h9
  go_wp2_with fail
  refine (HRA.out w).mono ?_
  rintro e v1 ⟨rfl, hv1⟩
  go_wp2_with fail
  refine (HRB.out v1).mono ?_
  rintro e v2 ⟨rfl, hv2⟩
  go_wp2_with fail
  refine (HL.out v2).mono ?_
  rintro e w' ⟨rfl, h9⟩
  obtain rfl := h9
  go_wp2_with fail
  refine (HO.out v2).mono ?_
  rintro e v3 ⟨rfl, hv3⟩
  go_wp2_with fail
  refine (HS.out v3).mono ?_
  rintro e w' ⟨rfl, h9⟩
  obtain rfl := h9
  go_wp2_with fail
  refine (HRT.out v3).mono ?_
  rintro e v4 ⟨rfl, hv4⟩
  go_wp2
  refine bodyPost_ret (v := .tuple #[.string ⟨T.toArray⟩, .int .i64 0]) (by simp [results, Tryd.results35, go_sem]) rfl ?_
  exact ⟨rfl, Lib.hid (bext (bext (bext hv1.out hv2.out) hv3.out) hv4.out)⟩
set_option maxRecDepth 100000 in
set_option maxHeartbeats 4000000 in
theorem do_sub_lt_big (a b X Y Z T : List UInt8) (mx my ox oy : Bool) (HA : Hid (Qt 39 #[.string ⟨a.toArray⟩] (.tuple #[.string ⟨X.toArray⟩, .bool mx, .bool ox]))) (HB : Hid (Qt 39 #[.string ⟨b.toArray⟩] (.tuple #[.string ⟨Y.toArray⟩, .bool my, .bool oy])))
    (HRA : Hid (Gr 24 #[.string ⟨a.toArray⟩] (.bool true))) (HRB : Hid (Gr 24 #[.string ⟨b.toArray⟩] (.bool true))) (HL : Hid (Qt 40 #[.string ⟨X.toArray⟩, .string ⟨Y.toArray⟩] (.bool true))) (HO : Hid (Gr 53 #[.string ⟨Y.toArray⟩, .string ⟨X.toArray⟩] (.string ⟨Z.toArray⟩))) (HS : Hid (Qt 51 #[.string ⟨Z.toArray⟩, .bool (!my)] (.string ⟨T.toArray⟩))) (hm : (mx == !my) = false) (HRT : Hid (Gr 24 #[.string ⟨T.toArray⟩] (.bool false))) :
    Gr 35 #[.string ⟨[45].toArray⟩, .string ⟨a.toArray⟩, .string ⟨b.toArray⟩] (.tuple #[.string ⟨([] : List UInt8).toArray⟩, .int .i64 10]) := by
  intro w
  go_enter Tryd.func35, Tryd.ntmps35
  go_wp2_with fail
  refine (HA.out w).mono ?_
  rintro e w' ⟨rfl, h9⟩
  obtain rfl := h9
  go_wp2_with fail
  refine (HB.out w).mono ?_
  rintro e w' ⟨rfl, h9⟩
  obtain rfl := h9
  go_wp2_with fail
  refine (HRA.out w).mono ?_
  rintro e v1 ⟨rfl, hv1⟩
  go_wp2_with fail
  refine (HRB.out v1).mono ?_
  rintro e v2 ⟨rfl, hv2⟩
  go_wp2_with fail
  refine (HL.out v2).mono ?_
  rintro e w' ⟨rfl, h9⟩
  obtain rfl := h9
  go_wp2_with fail
  refine (HO.out v2).mono ?_
  rintro e v3 ⟨rfl, hv3⟩
  go_wp2_with fail
  refine (HS.out v3).mono ?_
  rintro e w' ⟨rfl, h9⟩
  obtain rfl := h9
  go_wp2_with fail
  refine (HRT.out v3).mono ?_
  rintro e v4 ⟨rfl, hv4⟩
  go_wp2
  refine bodyPost_ret (v := .tuple #[.string ⟨([] : List UInt8).toArray⟩, .int .i64 10]) (by simp [results, Tryd.results35, go_sem]) rfl ?_
  exact ⟨rfl, Lib.hid (bext (bext (bext hv1.out hv2.out) hv3.out) hv4.out)⟩
set_option maxRecDepth 100000 in
set_option maxHeartbeats 4000000 in
theorem do_sub_ge_ok (a b X Y Z T : List UInt8) (mx my ox oy : Bool) (HA : Hid (Qt 39 #[.string ⟨a.toArray⟩] (.tuple #[.string ⟨X.toArray⟩, .bool mx, .bool ox]))) (HB : Hid (Qt 39 #[.string ⟨b.toArray⟩] (.tuple #[.string ⟨Y.toArray⟩, .bool my, .bool oy])))
    (HRA : Hid (Gr 24 #[.string ⟨a.toArray⟩] (.bool true))) (HRB : Hid (Gr 24 #[.string ⟨b.toArray⟩] (.bool true))) (HL : Hid (Qt 40 #[.string ⟨X.toArray⟩, .string ⟨Y.toArray⟩] (.bool false))) (HO : Hid (Gr 53 #[.string ⟨X.toArray⟩, .string ⟨Y.toArray⟩] (.string ⟨Z.toArray⟩))) (HS : Hid (Qt 51 #[.string ⟨Z.toArray⟩, .bool mx] (.string ⟨T.toArray⟩))) (hm : (mx == !my) = false) (HRT : Hid (Gr 24 #[.string ⟨T.toArray⟩] (.bool true))) :
    Gr 35 #[.string ⟨[45].toArray⟩, .string ⟨a.toArray⟩, .string ⟨b.toArray⟩] (.tuple #[.string ⟨T.toArray⟩, .int .i64 0]) := by
  intro w
  go_enter Tryd.func35, Tryd.ntmps35
  go_wp2_with fail
  refine (HA.out w).mono ?_
  rintro e w' ⟨rfl, h9⟩
  obtain rfl := h9
  go_wp2_with fail
  refine (HB.out w).mono ?_
  rintro e w' ⟨rfl, h9⟩
  obtain rfl := h9
  go_wp2_with fail
  refine (HRA.out w).mono ?_
  rintro e v1 ⟨rfl, hv1⟩
  go_wp2_with fail
  refine (HRB.out v1).mono ?_
  rintro e v2 ⟨rfl, hv2⟩
  go_wp2_with fail
  refine (HL.out v2).mono ?_
  rintro e w' ⟨rfl, h9⟩
  obtain rfl := h9
  go_wp2_with fail
  refine (HO.out v2).mono ?_
  rintro e v3 ⟨rfl, hv3⟩
  go_wp2_with fail
  refine (HS.out v3).mono ?_
  rintro e w' ⟨rfl, h9⟩
  obtain rfl := h9
  go_wp2_with fail
  refine (HRT.out v3).mono ?_
  rintro e v4 ⟨rfl, hv4⟩
  go_wp2
  refine bodyPost_ret (v := .tuple #[.string ⟨T.toArray⟩, .int .i64 0]) (by simp [results, Tryd.results35, go_sem]) rfl ?_
  exact ⟨rfl, Lib.hid (bext (bext (bext hv1.out hv2.out) hv3.out) hv4.out)⟩
set_option maxRecDepth 100000 in
set_option maxHeartbeats 4000000 in
theorem do_sub_ge_big (a b X Y Z T : List UInt8) (mx my ox oy : Bool) (HA : Hid (Qt 39 #[.string ⟨a.toArray⟩] (.tuple #[.string ⟨X.toArray⟩, .bool mx, .bool ox]))) (HB : Hid (Qt 39 #[.string ⟨b.toArray⟩] (.tuple #[.string ⟨Y.toArray⟩, .bool my, .bool oy])))
    (HRA : Hid (Gr 24 #[.string ⟨a.toArray⟩] (.bool true))) (HRB : Hid (Gr 24 #[.string ⟨b.toArray⟩] (.bool true))) (HL : Hid (Qt 40 #[.string ⟨X.toArray⟩, .string ⟨Y.toArray⟩] (.bool false))) (HO : Hid (Gr 53 #[.string ⟨X.toArray⟩, .string ⟨Y.toArray⟩] (.string ⟨Z.toArray⟩))) (HS : Hid (Qt 51 #[.string ⟨Z.toArray⟩, .bool mx] (.string ⟨T.toArray⟩))) (hm : (mx == !my) = false) (HRT : Hid (Gr 24 #[.string ⟨T.toArray⟩] (.bool false))) :
    Gr 35 #[.string ⟨[45].toArray⟩, .string ⟨a.toArray⟩, .string ⟨b.toArray⟩] (.tuple #[.string ⟨([] : List UInt8).toArray⟩, .int .i64 10]) := by
  intro w
  go_enter Tryd.func35, Tryd.ntmps35
  go_wp2_with fail
  refine (HA.out w).mono ?_
  rintro e w' ⟨rfl, h9⟩
  obtain rfl := h9
  go_wp2_with fail
  refine (HB.out w).mono ?_
  rintro e w' ⟨rfl, h9⟩
  obtain rfl := h9
  go_wp2_with fail
  refine (HRA.out w).mono ?_
  rintro e v1 ⟨rfl, hv1⟩
  go_wp2_with fail
  refine (HRB.out v1).mono ?_
  rintro e v2 ⟨rfl, hv2⟩
  go_wp2_with fail
  refine (HL.out v2).mono ?_
  rintro e w' ⟨rfl, h9⟩
  obtain rfl := h9
  go_wp2_with fail
  refine (HO.out v2).mono ?_
  rintro e v3 ⟨rfl, hv3⟩
  go_wp2_with fail
  refine (HS.out v3).mono ?_
  rintro e w' ⟨rfl, h9⟩
  obtain rfl := h9
  go_wp2_with fail
  refine (HRT.out v3).mono ?_
  rintro e v4 ⟨rfl, hv4⟩
  go_wp2
  refine bodyPost_ret (v := .tuple #[.string ⟨([] : List UInt8).toArray⟩, .int .i64 10]) (by simp [results, Tryd.results35, go_sem]) rfl ?_
  exact ⟨rfl, Lib.hid (bext (bext (bext hv1.out hv2.out) hv3.out) hv4.out)⟩
set_option maxRecDepth 100000 in
set_option maxHeartbeats 4000000 in
theorem do_mul_ok (a b X Y Z T : List UInt8) (mx my ox oy : Bool) (HA : Hid (Qt 39 #[.string ⟨a.toArray⟩] (.tuple #[.string ⟨X.toArray⟩, .bool mx, .bool ox]))) (HB : Hid (Qt 39 #[.string ⟨b.toArray⟩] (.tuple #[.string ⟨Y.toArray⟩, .bool my, .bool oy])))
    (HRA : Hid (Gr 24 #[.string ⟨a.toArray⟩] (.bool true))) (HRB : Hid (Gr 24 #[.string ⟨b.toArray⟩] (.bool true))) (HO : Hid (Gr 54 #[.string ⟨X.toArray⟩, .string ⟨Y.toArray⟩] (.string ⟨Z.toArray⟩))) (HS : Hid (Qt 51 #[.string ⟨Z.toArray⟩, .bool (mx != my)] (.string ⟨T.toArray⟩))) (HRT : Hid (Gr 24 #[.string ⟨T.toArray⟩] (.bool true))) :
    Gr 35 #[.string ⟨[42].toArray⟩, .string ⟨a.toArray⟩, .string ⟨b.toArray⟩] (.tuple #[.string ⟨T.toArray⟩, .int .i64 0]) := by
  intro w
  go_enter Tryd.func35, Tryd.ntmps35
  go_wp2_with fail
  refine (HA.out w).mono ?_
  rintro e w' ⟨rfl, h9⟩
  obtain rfl := h9
  go_wp2_with fail
  refine (HB.out w).mono ?_
  rintro e w' ⟨rfl, h9⟩
  obtain rfl := h9
  go_wp2_with fail
  refine (HRA.out w).mono ?_
  rintro e v1 ⟨rfl, hv1⟩
  go_wp2_with fail
  refine (HRB.out v1).mono ?_
  rintro e v2 ⟨rfl, hv2⟩
  go_wp2_with fail
  refine (HO.out v2).mono ?_
  rintro e v3 ⟨rfl, hv3⟩
  go_wp2_with fail
  refine (HS.out v3).mono ?_
  rintro e w' ⟨rfl, h9⟩
  obtain rfl := h9
  go_wp2_with fail
  refine (HRT.out v3).mono ?_
  rintro e v4 ⟨rfl, hv4⟩
  go_wp2
  refine bodyPost_ret (v := .tuple #[.string ⟨T.toArray⟩, .int .i64 0]) (by simp [results, Tryd.results35, go_sem]) rfl ?_
  exact ⟨rfl, Lib.hid (bext (bext (bext hv1.out hv2.out) hv3.out) hv4.out)⟩
set_option maxRecDepth 100000 in
set_option maxHeartbeats 4000000 in
theorem do_quo_ok (a b X Y Z Z2 T : List UInt8) (mx my ox oy : Bool) (HA : Hid (Qt 39 #[.string ⟨a.toArray⟩] (.tuple #[.string ⟨X.toArray⟩, .bool mx, .bool ox]))) (HB : Hid (Qt 39 #[.string ⟨b.toArray⟩] (.tuple #[.string ⟨Y.toArray⟩, .bool my, .bool oy])))
    (HRA : Hid (Gr 24 #[.string ⟨a.toArray⟩] (.bool true))) (HRB : Hid (Gr 24 #[.string ⟨b.toArray⟩] (.bool true))) (HO : Hid (Gr 55 #[.string ⟨X.toArray⟩, .string ⟨Y.toArray⟩] (.tuple #[.string ⟨Z.toArray⟩, .string ⟨Z2.toArray⟩]))) (HS : Hid (Qt 51 #[.string ⟨Z.toArray⟩, .bool (mx != my)] (.string ⟨T.toArray⟩))) (HRT : Hid (Gr 24 #[.string ⟨T.toArray⟩] (.bool true))) (hY : (Y == [48]) = false) :
    Gr 35 #[.string ⟨[47].toArray⟩, .string ⟨a.toArray⟩, .string ⟨b.toArray⟩] (.tuple #[.string ⟨T.toArray⟩, .int .i64 0]) := by
  intro w
  go_enter Tryd.func35, Tryd.ntmps35
  go_wp2_with fail
  refine (HA.out w).mono ?_
  rintro e w' ⟨rfl, h9⟩
  obtain rfl := h9
  go_wp2_with fail
  refine (HB.out w).mono ?_
  rintro e w' ⟨rfl, h9⟩
  obtain rfl := h9
  go_wp2_with fail
  refine (HRA.out w).mono ?_
  rintro e v1 ⟨rfl, hv1⟩
  go_wp2_with fail
  refine (HRB.out v1).mono ?_
  rintro e v2 ⟨rfl, hv2⟩
  go_wp2_with fail
  refine (HO.out v2).mono ?_
  rintro e v3 ⟨rfl, hv3⟩
  go_wp2_with fail
  refine (HS.out v3).mono ?_
  rintro e w' ⟨rfl, h9⟩
  obtain rfl := h9
  go_wp2_with fail
  refine (HRT.out v3).mono ?_
  rintro e v4 ⟨rfl, hv4⟩
  go_wp2
  refine bodyPost_ret (v := .tuple #[.string ⟨T.toArray⟩, .int .i64 0]) (by simp [results, Tryd.results35, go_sem]) rfl ?_
  exact ⟨rfl, Lib.hid (bext (bext (bext hv1.out hv2.out) hv3.out) hv4.out)⟩
set_option maxRecDepth 100000 in
set_option maxHeartbeats 4000000 in
theorem do_rem_ok (a b X Y Z Z2 T : List UInt8) (mx my ox oy : Bool) (HA : Hid (Qt 39 #[.string ⟨a.toArray⟩] (.tuple #[.string ⟨X.toArray⟩, .bool mx, .bool ox]))) (HB : Hid (Qt 39 #[.string ⟨b.toArray⟩] (.tuple #[.string ⟨Y.toArray⟩, .bool my, .bool oy])))
    (HRA : Hid (Gr 24 #[.string ⟨a.toArray⟩] (.bool true))) (HRB : Hid (Gr 24 #[.string ⟨b.toArray⟩] (.bool true))) (HO : Hid (Gr 55 #[.string ⟨X.toArray⟩, .string ⟨Y.toArray⟩] (.tuple #[.string ⟨Z2.toArray⟩, .string ⟨Z.toArray⟩]))) (HS : Hid (Qt 51 #[.string ⟨Z.toArray⟩, .bool mx] (.string ⟨T.toArray⟩))) (HRT : Hid (Gr 24 #[.string ⟨T.toArray⟩] (.bool true))) (hY : (Y == [48]) = false) :
    Gr 35 #[.string ⟨[37].toArray⟩, .string ⟨a.toArray⟩, .string ⟨b.toArray⟩] (.tuple #[.string ⟨T.toArray⟩, .int .i64 0]) := by
  intro w
  go_enter Tryd.func35, Tryd.ntmps35
  go_wp2_with fail
  refine (HA.out w).mono ?_
  rintro e w' ⟨rfl, h9⟩
  obtain rfl := h9
  go_wp2_with fail
  refine (HB.out w).mono ?_
  rintro e w' ⟨rfl, h9⟩
  obtain rfl := h9
  go_wp2_with fail
  refine (HRA.out w).mono ?_
  rintro e v1 ⟨rfl, hv1⟩
  go_wp2_with fail
  refine (HRB.out v1).mono ?_
  rintro e v2 ⟨rfl, hv2⟩
  go_wp2_with fail
  refine (HO.out v2).mono ?_
  rintro e v3 ⟨rfl, hv3⟩
  go_wp2_with fail
  refine (HS.out v3).mono ?_
  rintro e w' ⟨rfl, h9⟩
  obtain rfl := h9
  go_wp2_with fail
  refine (HRT.out v3).mono ?_
  rintro e v4 ⟨rfl, hv4⟩
  go_wp2
  refine bodyPost_ret (v := .tuple #[.string ⟨T.toArray⟩, .int .i64 0]) (by simp [results, Tryd.results35, go_sem]) rfl ?_
  exact ⟨rfl, Lib.hid (bext (bext (bext hv1.out hv2.out) hv3.out) hv4.out)⟩
set_option maxRecDepth 100000 in
set_option maxHeartbeats 4000000 in
theorem do_mul_big (a b X Y Z T : List UInt8) (mx my ox oy : Bool) (HA : Hid (Qt 39 #[.string ⟨a.toArray⟩] (.tuple #[.string ⟨X.toArray⟩, .bool mx, .bool ox]))) (HB : Hid (Qt 39 #[.string ⟨b.toArray⟩] (.tuple #[.string ⟨Y.toArray⟩, .bool my, .bool oy])))
    (HRA : Hid (Gr 24 #[.string ⟨a.toArray⟩] (.bool true))) (HRB : Hid (Gr 24 #[.string ⟨b.toArray⟩] (.bool true))) (HO : Hid (Gr 54 #[.string ⟨X.toArray⟩, .string ⟨Y.toArray⟩] (.string ⟨Z.toArray⟩))) (HS : Hid (Qt 51 #[.string ⟨Z.toArray⟩, .bool (mx != my)] (.string ⟨T.toArray⟩))) (HRT : Hid (Gr 24 #[.string ⟨T.toArray⟩] (.bool false))) :
    Gr 35 #[.string ⟨[42].toArray⟩, .string ⟨a.toArray⟩, .string ⟨b.toArray⟩] (.tuple #[.string ⟨([] : List UInt8).toArray⟩, .int .i64 10]) := by
  intro w
  go_enter Tryd.func35, Tryd.ntmps35
  go_wp2_with fail
  refine (HA.out w).mono ?_
  rintro e w' ⟨rfl, h9⟩
  obtain rfl := h9
  go_wp2_with fail
  refine (HB.out w).mono ?_
  rintro e w' ⟨rfl, h9⟩
  obtain rfl := h9
  go_wp2_with fail
  refine (HRA.out w).mono ?_
  rintro e v1 ⟨rfl, hv1⟩
  go_wp2_with fail
  refine (HRB.out v1).mono ?_
  rintro e v2 ⟨rfl, hv2⟩
  go_wp2_with fail
  refine (HO.out v2).mono ?_
  rintro e v3 ⟨rfl, hv3⟩
  go_wp2_with fail
  refine (HS.out v3).mono ?_
  rintro e w' ⟨rfl, h9⟩
  obtain rfl := h9
  go_wp2_with fail
  refine (HRT.out v3).mono ?_
  rintro e v4 ⟨rfl, hv4⟩
  go_wp2
  refine bodyPost_ret (v := .tuple #[.string ⟨([] : List UInt8).toArray⟩, .int .i64 10]) (by simp [results, Tryd.results35, go_sem]) rfl ?_
  exact ⟨rfl, Lib.hid (bext (bext (bext hv1.out hv2.out) hv3.out) hv4.out)⟩
set_option maxRecDepth 100000 in
set_option maxHeartbeats 4000000 in
theorem do_quo_big (a b X Y Z Z2 T : List UInt8) (mx my ox oy : Bool) (HA : Hid (Qt 39 #[.string ⟨a.toArray⟩] (.tuple #[.string ⟨X.toArray⟩, .bool mx, .bool ox]))) (HB : Hid (Qt 39 #[.string ⟨b.toArray⟩] (.tuple #[.string ⟨Y.toArray⟩, .bool my, .bool oy])))
    (HRA : Hid (Gr 24 #[.string ⟨a.toArray⟩] (.bool true))) (HRB : Hid (Gr 24 #[.string ⟨b.toArray⟩] (.bool true))) (HO : Hid (Gr 55 #[.string ⟨X.toArray⟩, .string ⟨Y.toArray⟩] (.tuple #[.string ⟨Z.toArray⟩, .string ⟨Z2.toArray⟩]))) (HS : Hid (Qt 51 #[.string ⟨Z.toArray⟩, .bool (mx != my)] (.string ⟨T.toArray⟩))) (HRT : Hid (Gr 24 #[.string ⟨T.toArray⟩] (.bool false))) (hY : (Y == [48]) = false) :
    Gr 35 #[.string ⟨[47].toArray⟩, .string ⟨a.toArray⟩, .string ⟨b.toArray⟩] (.tuple #[.string ⟨([] : List UInt8).toArray⟩, .int .i64 10]) := by
  intro w
  go_enter Tryd.func35, Tryd.ntmps35
  go_wp2_with fail
  refine (HA.out w).mono ?_
  rintro e w' ⟨rfl, h9⟩
  obtain rfl := h9
  go_wp2_with fail
  refine (HB.out w).mono ?_
  rintro e w' ⟨rfl, h9⟩
  obtain rfl := h9
  go_wp2_with fail
  refine (HRA.out w).mono ?_
  rintro e v1 ⟨rfl, hv1⟩
  go_wp2_with fail
  refine (HRB.out v1).mono ?_
  rintro e v2 ⟨rfl, hv2⟩
  go_wp2_with fail
  refine (HO.out v2).mono ?_
  rintro e v3 ⟨rfl, hv3⟩
  go_wp2_with fail
  refine (HS.out v3).mono ?_
  rintro e w' ⟨rfl, h9⟩
  obtain rfl := h9
  go_wp2_with fail
  refine (HRT.out v3).mono ?_
  rintro e v4 ⟨rfl, hv4⟩
  go_wp2
  refine bodyPost_ret (v := .tuple #[.string ⟨([] : List UInt8).toArray⟩, .int .i64 10]) (by simp [results, Tryd.results35, go_sem]) rfl ?_
  exact ⟨rfl, Lib.hid (bext (bext (bext hv1.out hv2.out) hv3.out) hv4.out)⟩
set_option maxRecDepth 100000 in
set_option maxHeartbeats 4000000 in
theorem do_rem_big (a b X Y Z Z2 T : List UInt8) (mx my ox oy : Bool) (HA : Hid (Qt 39 #[.string ⟨a.toArray⟩] (.tuple #[.string ⟨X.toArray⟩, .bool mx, .bool ox]))) (HB : Hid (Qt 39 #[.string ⟨b.toArray⟩] (.tuple #[.string ⟨Y.toArray⟩, .bool my, .bool oy])))
    (HRA : Hid (Gr 24 #[.string ⟨a.toArray⟩] (.bool true))) (HRB : Hid (Gr 24 #[.string ⟨b.toArray⟩] (.bool true))) (HO : Hid (Gr 55 #[.string ⟨X.toArray⟩, .string ⟨Y.toArray⟩] (.tuple #[.string ⟨Z2.toArray⟩, .string ⟨Z.toArray⟩]))) (HS : Hid (Qt 51 #[.string ⟨Z.toArray⟩, .bool mx] (.string ⟨T.toArray⟩))) (HRT : Hid (Gr 24 #[.string ⟨T.toArray⟩] (.bool false))) (hY : (Y == [48]) = false) :
    Gr 35 #[.string ⟨[37].toArray⟩, .string ⟨a.toArray⟩, .string ⟨b.toArray⟩] (.tuple #[.string ⟨([] : List UInt8).toArray⟩, .int .i64 10]) := by
  intro w
  go_enter Tryd.func35, Tryd.ntmps35
  go_wp2_with fail
  refine (HA.out w).mono ?_
  rintro e w' ⟨rfl, h9⟩
  obtain rfl := h9
  go_wp2_with fail
  refine (HB.out w).mono ?_
  rintro e w' ⟨rfl, h9⟩
  obtain rfl := h9
  go_wp2_with fail
  refine (HRA.out w).mono ?_
  rintro e v1 ⟨rfl, hv1⟩
  go_wp2_with fail
  refine (HRB.out v1).mono ?_
  rintro e v2 ⟨rfl, hv2⟩
  go_wp2_with fail
  refine (HO.out v2).mono ?_
  rintro e v3 ⟨rfl, hv3⟩
  go_wp2_with fail
  refine (HS.out v3).mono ?_
  rintro e w' ⟨rfl, h9⟩
  obtain rfl := h9
  go_wp2_with fail
  refine (HRT.out v3).mono ?_
  rintro e v4 ⟨rfl, hv4⟩
  go_wp2
  refine bodyPost_ret (v := .tuple #[.string ⟨([] : List UInt8).toArray⟩, .int .i64 10]) (by simp [results, Tryd.results35, go_sem]) rfl ?_
  exact ⟨rfl, Lib.hid (bext (bext (bext hv1.out hv2.out) hv3.out) hv4.out)⟩
end Go.Proofs.YteiipiomcbohnaaDoor.Ten
