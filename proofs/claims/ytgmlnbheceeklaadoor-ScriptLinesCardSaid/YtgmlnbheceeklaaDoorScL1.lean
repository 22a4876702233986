/- Walks: sane, parses. -/
import Derived.Test.YtgmlnbheceeklaaDoorScR4
set_option linter.unusedVariables false
set_option linter.unusedSimpArgs false
set_option linter.unusedSectionVars false
namespace Go.Proofs.YtgmlnbheceeklaaDoor
open Go.RowKit
variable [Base]

theorem parse_to {B : Nat} {l : Str} {o : POp} {e : Int} (h : takeO l (candP l) = (o, e)) (hl : l.length ≤ 281474976710656) (w : World) (hV : VarsIn B w) (hB : B ≤ w.heap.size) : Calls Tryd.prog 9 #[qs l] w (POpE (o, e) w) := h ▸ parse_any l hl w hV hB
theorem rparse_to {l : Str} {o : POp} {e : Int} (h : takeO l (candP l) = (o, e)) (hl : l.length ≤ 281474976710656) (w : World) : Calls Tryd.prog 34 #[qs l] w (POpE (o, e) w) := by
  rw [← h, take_eq]
  exact rparse_any l hl w
set_option maxHeartbeats 1000000 in
theorem parses_any {B : Nat} (l : Str) (hl : l.length ≤ 281474976710656) (w : World) (hV : VarsIn B w) (hB : B ≤ w.heap.size) : Calls Tryd.prog 15 #[qs l] w (BoolQ true w) := by
  have hud : ∀ b : Bool, (undef = Value.bool b) = False := fun b => by simp [undef]
  obtain ⟨⟨⟨k, id, text, ana, node, n⟩, er⟩, hq⟩ : ∃ q, takeO l (candP l) = q := ⟨_, rfl⟩
  have HQ := Lib.hid hq
  have HV := Lib.hid hV
  clear hq hV
  go_enter Tryd.func15, Tryd.ntmps15
  go_wp2_with fail
  refine (parse_to HQ.out hl w HV.out hB).mono ?_
  rintro e w1 ⟨rfl, b1⟩
  have B1 := Lib.hid b1
  clear b1
  obtain ⟨W, hW⟩ : ∃ W, w1.alloc (.cells #[.int .i64 k, qs id, qs text, .int .i64 ana, .int .i64 node, .int .i64 n] 24) = W := ⟨_, rfl⟩
  have L1 := Lib.hid (show W.heap[w1.heap.size]? = some (.cells #[.int .i64 k, qs id, qs text, .int .i64 ana, .int .i64 node, .int .i64 n] 24 (0, 0)) by rw [← hW]; exact heap_alloc_new _ _)
  have B2 := Lib.hid (show Below w.heap.size w W by rw [← hW]; exact B1.out.alloc B1.out.size _)
  have HW := Lib.hid hW
  clear hW
  go_upto_region 2 with fail
  rw [show w1.alloc (.cells #[.int .i64 k, qs id, qs text, .int .i64 ana, .int .i64 node, .int .i64 n] 24) = W from HW.out]
  go_wp2_with fail
  refine (rparse_to HQ.out hl W).mono ?_
  rintro e w2 ⟨rfl, b2⟩
  have L2 := Lib.hid (lies_below L1.out b2 (lt_heap L1.out))
  have B3 := Lib.hid (B2.out.trans (b2.mono B2.out.size))
  clear b2
  have hlt : w1.heap.size < w2.heap.size := lt_heap L2.out
  obtain ⟨V, hV⟩ : ∃ V, w2.alloc (.cells #[.int .i64 k, qs id, qs text, .int .i64 ana, .int .i64 node, .int .i64 n] 24) = V := ⟨_, rfl⟩
  have L3 := Lib.hid (show V.heap[w2.heap.size]? = some (.cells #[.int .i64 k, qs id, qs text, .int .i64 ana, .int .i64 node, .int .i64 n] 24 (0, 0)) by rw [← hV]; exact heap_alloc_new _ _)
  have L4 := Lib.hid (show V.heap[w1.heap.size]? = some (.cells #[.int .i64 k, qs id, qs text, .int .i64 ana, .int .i64 node, .int .i64 n] 24 (0, 0)) by rw [← hV]; exact lies_alloc _ L2.out)
  have B4 := Lib.hid (show Below w.heap.size w V by rw [← hV]; exact B3.out.alloc B3.out.size _)
  have HVV := Lib.hid hV
  clear hV
  go_upto_region 3 with fail
  rw [show w2.alloc (.cells #[.int .i64 k, qs id, qs text, .int .i64 ana, .int .i64 node, .int .i64 n] 24) = V from HVV.out]
  have x0 := (lies_cells L3.out).1 0
  have x1 := (lies_cells L3.out).1 1
  have x2 := (lies_cells L3.out).1 2
  have x3 := (lies_cells L3.out).1 3
  have x4 := (lies_cells L3.out).1 4
  have x5 := (lies_cells L3.out).1 5
  have y0 := (lies_cells L4.out).1 0
  have y1 := (lies_cells L4.out).1 1
  have y2 := (lies_cells L4.out).1 2
  have y3 := (lies_cells L4.out).1 3
  have y4 := (lies_cells L4.out).1 4
  have y5 := (lies_cells L4.out).1 5
  simp only [List.getElem?_toArray, List.getElem?_cons_zero, List.getElem?_cons_succ] at x0 x1 x2 x3 x4 x5 y0 y1 y2 y3 y4 y5
  go_wp2
  go_ret
  exact ⟨ret_bool (by simp), B4.out⟩
theorem sane1 : takeO [115, 117, 98, 109, 105, 116, 32, 113, 32, 112, 32, 114, 101, 97, 99, 104, 32, 51, 32, 48] (candP [115, 117, 98, 109, 105, 116, 32, 113, 32, 112, 32, 114, 101, 97, 99, 104, 32, 51, 32, 48]) = (⟨3, [113], [112], 1, 3, 0⟩, 0) := take_text (o := ⟨3, [113], [112], 1, 3, 0⟩) (by decide)
theorem sane2 : takeO [103, 114, 97, 110, 116, 32, 48, 53] (candP [103, 114, 97, 110, 116, 32, 48, 53]) = (⟨0, [], [], 0, 0, 0⟩, 4) := by decide
theorem sane3 : takeO [108, 111, 97, 100, 32, 112, 32, 102, 117, 110, 99, 32, 109, 59, 32, 98, 108, 111, 99, 107, 32, 98, 59, 32, 114, 101, 116, 117, 114, 110, 59, 32, 101, 110, 100] (candP [108, 111, 97, 100, 32, 112, 32, 102, 117, 110, 99, 32, 109, 59, 32, 98, 108, 111, 99, 107, 32, 98, 59, 32, 114, 101, 116, 117, 114, 110, 59, 32, 101, 110, 100]) = (⟨1, [112], [102, 117, 110, 99, 32, 109, 59, 32, 98, 108, 111, 99, 107, 32, 98, 59, 32, 114, 101, 116, 117, 114, 110, 59, 32, 101, 110, 100], 0, 0, 0⟩, 0) :=
  take_text (o := ⟨1, [112], [102, 117, 110, 99, 32, 109, 59, 32, 98, 108, 111, 99, 107, 32, 98, 59, 32, 114, 101, 116, 117, 114, 110, 59, 32, 101, 110, 100], 0, 0, 0⟩) (by decide)
set_option maxHeartbeats 1000000 in
theorem sane_any {B : Nat} (w : World) (hV : VarsIn B w) (hB : B ≤ w.heap.size) : Calls Tryd.prog 13 #[] w (BoolQ true w) := by
  have hud : ∀ b : Bool, (undef = Value.bool b) = False := fun b => by simp [undef]
  have HV := Lib.hid (show ∀ w', Below w.heap.size w w' → VarsIn B w' from fun w' hb => hV.below (hb.mono hB))
  clear hV
  go_enter Tryd.func13, Tryd.ntmps13
  go_wp2_with fail
  refine (parse_to (B := B) sane1 (by decide) w (HV.out _ (Below.refl _ _)) hB).mono ?_
  rintro e w1 ⟨rfl, b1⟩
  have B1 := Lib.hid b1
  clear b1
  obtain ⟨W, hW⟩ : ∃ W, w1.alloc (.cells #[.int .i64 3, qs [113], qs [112], .int .i64 1, .int .i64 3, .int .i64 0] 24) = W := ⟨_, rfl⟩
  have L1 := Lib.hid (show W.heap[w1.heap.size]? = some (.cells #[.int .i64 3, qs [113], qs [112], .int .i64 1, .int .i64 3, .int .i64 0] 24 (0, 0)) by rw [← hW]; exact heap_alloc_new _ _)
  have B2 := Lib.hid (show Below w.heap.size w W by rw [← hW]; exact B1.out.alloc B1.out.size _)
  have HW := Lib.hid hW
  clear hW
  go_upto_region 2 with fail
  rw [show w1.alloc (.cells #[.int .i64 3, qs [113], qs [112], .int .i64 1, .int .i64 3, .int .i64 0] 24) = W from HW.out]
  go_wp2_with fail
  refine (parse_to (B := B) sane2 (by decide) W (HV.out _ B2.out) (Nat.le_trans hB B2.out.size)).mono ?_
  rintro e w2 ⟨rfl, b2⟩
  have L2 := Lib.hid (lies_below L1.out b2 (lt_heap L1.out))
  have B3 := Lib.hid (B2.out.trans (b2.mono B2.out.size))
  clear b2
  obtain ⟨V, hV⟩ : ∃ V, w2.alloc (.cells #[.int .i64 0, qs [], qs [], .int .i64 0, .int .i64 0, .int .i64 0] 24) = V := ⟨_, rfl⟩
  have L4 := Lib.hid (show V.heap[w1.heap.size]? = some (.cells #[.int .i64 3, qs [113], qs [112], .int .i64 1, .int .i64 3, .int .i64 0] 24 (0, 0)) by rw [← hV]; exact lies_alloc _ L2.out)
  have B4 := Lib.hid (show Below w.heap.size w V by rw [← hV]; exact B3.out.alloc B3.out.size _)
  have HVV := Lib.hid hV
  clear hV
  go_upto_region 3 with fail
  rw [show w2.alloc (.cells #[.int .i64 0, qs [], qs [], .int .i64 0, .int .i64 0, .int .i64 0] 24) = V from HVV.out]
  go_wp2_with fail
  refine (parse_to (B := B) sane3 (by decide) V (HV.out _ B4.out) (Nat.le_trans hB B4.out.size)).mono ?_
  rintro e w3 ⟨rfl, b3⟩
  have L5 := Lib.hid (lies_below L4.out b3 (lt_heap L4.out))
  have B5 := Lib.hid (B4.out.trans (b3.mono B4.out.size))
  clear b3
  obtain ⟨X, hX⟩ : ∃ X, w3.alloc (.cells #[.int .i64 1, qs [112], qs [102, 117, 110, 99, 32, 109, 59, 32, 98, 108, 111, 99, 107, 32, 98, 59, 32, 114, 101, 116, 117, 114, 110, 59, 32, 101, 110, 100], .int .i64 0, .int .i64 0, .int .i64 0] 24) = X := ⟨_, rfl⟩
  have L6 := Lib.hid (show X.heap[w1.heap.size]? = some (.cells #[.int .i64 3, qs [113], qs [112], .int .i64 1, .int .i64 3, .int .i64 0] 24 (0, 0)) by rw [← hX]; exact lies_alloc _ L5.out)
  have L7 := Lib.hid (show X.heap[w3.heap.size]? = some (.cells #[.int .i64 1, qs [112], qs [102, 117, 110, 99, 32, 109, 59, 32, 98, 108, 111, 99, 107, 32, 98, 59, 32, 114, 101, 116, 117, 114, 110, 59, 32, 101, 110, 100], .int .i64 0, .int .i64 0, .int .i64 0] 24 (0, 0)) by rw [← hX]; exact heap_alloc_new _ _)
  have B6 := Lib.hid (show Below w.heap.size w X by rw [← hX]; exact B5.out.alloc B5.out.size _)
  have HX := Lib.hid hX
  clear hX
  go_upto_region 4 with fail
  rw [show w3.alloc (.cells #[.int .i64 1, qs [112], qs [102, 117, 110, 99, 32, 109, 59, 32, 98, 108, 111, 99, 107, 32, 98, 59, 32, 114, 101, 116, 117, 114, 110, 59, 32, 101, 110, 100], .int .i64 0, .int .i64 0, .int .i64 0] 24) = X from HX.out]
  have x2 := (lies_cells L7.out).1 2
  have y0 := (lies_cells L6.out).1 0
  have y1 := (lies_cells L6.out).1 1
  have y2 := (lies_cells L6.out).1 2
  have y3 := (lies_cells L6.out).1 3
  have y4 := (lies_cells L6.out).1 4
  have y5 := (lies_cells L6.out).1 5
  simp only [List.getElem?_toArray, List.getElem?_cons_zero, List.getElem?_cons_succ] at x2 y0 y1 y2 y3 y4 y5
  go_wp2
  go_ret
  exact ⟨ret_bool (by simp), B6.out⟩
end Go.Proofs.YtgmlnbheceeklaaDoor
