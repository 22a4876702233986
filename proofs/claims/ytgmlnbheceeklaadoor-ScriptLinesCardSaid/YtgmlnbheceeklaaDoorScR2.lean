/- Walk: the reference's ValidOp. Printed by wip/gen_scr2.py. -/
import Derived.Test.YtgmlnbheceeklaaDoorScR1
set_option linter.unusedVariables false
set_option linter.unusedSimpArgs false
set_option linter.unusedSectionVars false
namespace Go.Proofs.YtgmlnbheceeklaaDoor
open Go.RowKit
variable [Base]

theorem rname_to {l : Str} {d : Bool} (h : nameB l = d) (w : World) : Calls Tryd.prog 24 #[qs l] w (fun e w' => e = .returned (.bool d) ∧ Below w.heap.size w w') := h ▸ rname_any ⟨l.toArray⟩ w
theorem rtext_to {l : Str} {d : Bool} (h : textB l = d) (hl : l.length ≤ 9223372036854775807) (w : World) : Calls Tryd.prog 25 #[qs l] w (fun e w' => e = .returned (.bool d) ∧ Below w.heap.size w w') :=
  h ▸ (rtext_any ⟨l.toArray⟩ (by rw [size_str]; exact hl) w).mono fun _ _ k => ⟨k.1, by rw [k.2]; exact Below.refl _ _⟩
theorem only_load_to {o : POp} {d : Bool} (h : onlyB o true true false false = d) (w : World) : Calls Tryd.prog 26 #[opV o, .bool true, .bool true, .bool false, .bool false] w (fun e w' => e = .returned (.bool d) ∧ Below w.heap.size w w') := h ▸ only_load o.kind o.id o.text o.ana o.node o.n w
theorem only_id_to {o : POp} {d : Bool} (h : onlyB o true false false false = d) (w : World) : Calls Tryd.prog 26 #[opV o, .bool true, .bool false, .bool false, .bool false] w (fun e w' => e = .returned (.bool d) ∧ Below w.heap.size w w') := h ▸ only_id o.kind o.id o.text o.ana o.node o.n w
theorem only_n_to {o : POp} {d : Bool} (h : onlyB o false false false true = d) (w : World) : Calls Tryd.prog 26 #[opV o, .bool false, .bool false, .bool false, .bool true] w (fun e w' => e = .returned (.bool d) ∧ Below w.heap.size w w') := h ▸ only_n o.kind o.id o.text o.ana o.node o.n w
theorem only_none_to {o : POp} {d : Bool} (h : onlyB o false false false false = d) (w : World) : Calls Tryd.prog 26 #[opV o, .bool false, .bool false, .bool false, .bool false] w (fun e w' => e = .returned (.bool d) ∧ Below w.heap.size w w') := h ▸ only_none o.kind o.id o.text o.ana o.node o.n w
set_option maxHeartbeats 2000000 in
theorem rvalid1 (id text : Str) (ana node n : Int) (ht : text.length ≤ 9223372036854775807) (w : World) :
    Calls Tryd.prog 10 #[.agg #[.int .i64 1, qs id, qs text, .int .i64 ana, .int .i64 node, .int .i64 n]] w (fun e w' => e = .returned (.bool (nameB id && textB text && onlyB ⟨1, id, text, ana, node, n⟩ true true false false)) ∧ Below w.heap.size w w') := by
  have hud : ∀ b : Bool, (undef = Value.bool b) = False := fun b => by simp [undef]
  obtain ⟨d0, hd0⟩ : ∃ d, nameB id = d := ⟨_, rfl⟩
  obtain ⟨d1, hd1⟩ : ∃ d, textB text = d := ⟨_, rfl⟩
  obtain ⟨d2, hd2⟩ : ∃ d, onlyB ⟨1, id, text, ana, node, n⟩ true true false false = d := ⟨_, rfl⟩
  rw [hd0, hd1, hd2]
  have HD0 := Lib.hid hd0
  clear hd0
  have HD1 := Lib.hid hd1
  clear hd1
  have HD2 := Lib.hid hd2
  clear hd2
  obtain ⟨W, hW⟩ : ∃ W, w.alloc (.cells #[.int .i64 1, qs id, qs text, .int .i64 ana, .int .i64 node, .int .i64 n] 24) = W := ⟨_, rfl⟩
  have b0 : Below w.heap.size w W := by rw [← hW]; exact (Below.refl _ _).alloc (Nat.le_refl _) _
  have L0 := Lib.hid (show W.heap[w.heap.size]? = some (.cells #[.int .i64 1, qs id, qs text, .int .i64 ana, .int .i64 node, .int .i64 n] 24 (0, 0)) by rw [← hW]; exact heap_alloc_new _ _)
  have B0 := Lib.hid b0
  have HW := Lib.hid hW
  clear hW b0
  go_enter Tryd.func10, Tryd.ntmps10
  go_wp2_with fail
  rw [show w.alloc (.cells #[.int .i64 1, qs id, qs text, .int .i64 ana, .int .i64 node, .int .i64 n] 24) = W from HW.out]
  refine (rname_to (l := id) HD0.out W).mono ?_
  rintro e y1 ⟨rfl, c1⟩
  have B1 := Lib.hid (B0.out.trans (c1.mono B0.out.size))
  have L1 := Lib.hid (lies_below L0.out c1 (lt_heap L0.out))
  clear c1
  have x0 := (lies_cells L1.out).1 0
  have x1 := (lies_cells L1.out).1 1
  have x2 := (lies_cells L1.out).1 2
  have x3 := (lies_cells L1.out).1 3
  have x4 := (lies_cells L1.out).1 4
  have x5 := (lies_cells L1.out).1 5
  simp only [List.getElem?_toArray, List.getElem?_cons_zero, List.getElem?_cons_succ] at x0 x1 x2 x3 x4 x5
  cases d0
  · go_wp2_with fail
    go_ret
    first | exact ⟨rfl, B1.out⟩ | exact ⟨rfl, (Below.refl _ _).alloc (Nat.le_refl _) _⟩
  go_wp2_with fail
  refine (rtext_to (l := text) HD1.out ht y1).mono ?_
  rintro e y2 ⟨rfl, c2⟩
  have B2 := Lib.hid (B1.out.trans (c2.mono B1.out.size))
  have L2 := Lib.hid (lies_below L1.out c2 (lt_heap L1.out))
  clear c2
  clear x0 x1 x2 x3 x4 x5
  have x0 := (lies_cells L2.out).1 0
  have x1 := (lies_cells L2.out).1 1
  have x2 := (lies_cells L2.out).1 2
  have x3 := (lies_cells L2.out).1 3
  have x4 := (lies_cells L2.out).1 4
  have x5 := (lies_cells L2.out).1 5
  simp only [List.getElem?_toArray, List.getElem?_cons_zero, List.getElem?_cons_succ] at x0 x1 x2 x3 x4 x5
  cases d1
  · go_wp2_with fail
    go_ret
    first | exact ⟨rfl, B2.out⟩ | exact ⟨rfl, (Below.refl _ _).alloc (Nat.le_refl _) _⟩
  go_wp2_with fail
  refine (only_load_to (o := ⟨1, id, text, ana, node, n⟩) HD2.out y2).mono ?_
  rintro e y3 ⟨rfl, c3⟩
  have B3 := Lib.hid (B2.out.trans (c3.mono B2.out.size))
  have L3 := Lib.hid (lies_below L2.out c3 (lt_heap L2.out))
  clear c3
  clear x0 x1 x2 x3 x4 x5
  have x0 := (lies_cells L3.out).1 0
  have x1 := (lies_cells L3.out).1 1
  have x2 := (lies_cells L3.out).1 2
  have x3 := (lies_cells L3.out).1 3
  have x4 := (lies_cells L3.out).1 4
  have x5 := (lies_cells L3.out).1 5
  simp only [List.getElem?_toArray, List.getElem?_cons_zero, List.getElem?_cons_succ] at x0 x1 x2 x3 x4 x5
  go_wp2_with fail
  go_ret
  first | exact ⟨rfl, B3.out⟩ | exact ⟨rfl, (Below.refl _ _).alloc (Nat.le_refl _) _⟩
set_option maxHeartbeats 2000000 in
theorem rvalid2 (id text : Str) (ana node n : Int) (ht : text.length ≤ 9223372036854775807) (w : World) :
    Calls Tryd.prog 10 #[.agg #[.int .i64 2, qs id, qs text, .int .i64 ana, .int .i64 node, .int .i64 n]] w (fun e w' => e = .returned (.bool (nameB id && onlyB ⟨2, id, text, ana, node, n⟩ true false false false)) ∧ Below w.heap.size w w') := by
  have hud : ∀ b : Bool, (undef = Value.bool b) = False := fun b => by simp [undef]
  obtain ⟨d0, hd0⟩ : ∃ d, nameB id = d := ⟨_, rfl⟩
  obtain ⟨d1, hd1⟩ : ∃ d, onlyB ⟨2, id, text, ana, node, n⟩ true false false false = d := ⟨_, rfl⟩
  rw [hd0, hd1]
  have HD0 := Lib.hid hd0
  clear hd0
  have HD1 := Lib.hid hd1
  clear hd1
  obtain ⟨W, hW⟩ : ∃ W, w.alloc (.cells #[.int .i64 2, qs id, qs text, .int .i64 ana, .int .i64 node, .int .i64 n] 24) = W := ⟨_, rfl⟩
  have b0 : Below w.heap.size w W := by rw [← hW]; exact (Below.refl _ _).alloc (Nat.le_refl _) _
  have L0 := Lib.hid (show W.heap[w.heap.size]? = some (.cells #[.int .i64 2, qs id, qs text, .int .i64 ana, .int .i64 node, .int .i64 n] 24 (0, 0)) by rw [← hW]; exact heap_alloc_new _ _)
  have B0 := Lib.hid b0
  have HW := Lib.hid hW
  clear hW b0
  go_enter Tryd.func10, Tryd.ntmps10
  go_wp2_with fail
  rw [show w.alloc (.cells #[.int .i64 2, qs id, qs text, .int .i64 ana, .int .i64 node, .int .i64 n] 24) = W from HW.out]
  refine (rname_to (l := id) HD0.out W).mono ?_
  rintro e y1 ⟨rfl, c1⟩
  have B1 := Lib.hid (B0.out.trans (c1.mono B0.out.size))
  have L1 := Lib.hid (lies_below L0.out c1 (lt_heap L0.out))
  clear c1
  have x0 := (lies_cells L1.out).1 0
  have x1 := (lies_cells L1.out).1 1
  have x2 := (lies_cells L1.out).1 2
  have x3 := (lies_cells L1.out).1 3
  have x4 := (lies_cells L1.out).1 4
  have x5 := (lies_cells L1.out).1 5
  simp only [List.getElem?_toArray, List.getElem?_cons_zero, List.getElem?_cons_succ] at x0 x1 x2 x3 x4 x5
  cases d0
  · go_wp2_with fail
    go_ret
    first | exact ⟨rfl, B1.out⟩ | exact ⟨rfl, (Below.refl _ _).alloc (Nat.le_refl _) _⟩
  go_wp2_with fail
  refine (only_id_to (o := ⟨2, id, text, ana, node, n⟩) HD1.out y1).mono ?_
  rintro e y2 ⟨rfl, c2⟩
  have B2 := Lib.hid (B1.out.trans (c2.mono B1.out.size))
  have L2 := Lib.hid (lies_below L1.out c2 (lt_heap L1.out))
  clear c2
  clear x0 x1 x2 x3 x4 x5
  have x0 := (lies_cells L2.out).1 0
  have x1 := (lies_cells L2.out).1 1
  have x2 := (lies_cells L2.out).1 2
  have x3 := (lies_cells L2.out).1 3
  have x4 := (lies_cells L2.out).1 4
  have x5 := (lies_cells L2.out).1 5
  simp only [List.getElem?_toArray, List.getElem?_cons_zero, List.getElem?_cons_succ] at x0 x1 x2 x3 x4 x5
  go_wp2_with fail
  go_ret
  first | exact ⟨rfl, B2.out⟩ | exact ⟨rfl, (Below.refl _ _).alloc (Nat.le_refl _) _⟩
set_option maxHeartbeats 2000000 in
theorem rvalid4 (id text : Str) (ana node n : Int) (ht : text.length ≤ 9223372036854775807) (w : World) :
    Calls Tryd.prog 10 #[.agg #[.int .i64 4, qs id, qs text, .int .i64 ana, .int .i64 node, .int .i64 n]] w (fun e w' => e = .returned (.bool (nameB id && onlyB ⟨4, id, text, ana, node, n⟩ true false false false)) ∧ Below w.heap.size w w') := by
  have hud : ∀ b : Bool, (undef = Value.bool b) = False := fun b => by simp [undef]
  obtain ⟨d0, hd0⟩ : ∃ d, nameB id = d := ⟨_, rfl⟩
  obtain ⟨d1, hd1⟩ : ∃ d, onlyB ⟨4, id, text, ana, node, n⟩ true false false false = d := ⟨_, rfl⟩
  rw [hd0, hd1]
  have HD0 := Lib.hid hd0
  clear hd0
  have HD1 := Lib.hid hd1
  clear hd1
  obtain ⟨W, hW⟩ : ∃ W, w.alloc (.cells #[.int .i64 4, qs id, qs text, .int .i64 ana, .int .i64 node, .int .i64 n] 24) = W := ⟨_, rfl⟩
  have b0 : Below w.heap.size w W := by rw [← hW]; exact (Below.refl _ _).alloc (Nat.le_refl _) _
  have L0 := Lib.hid (show W.heap[w.heap.size]? = some (.cells #[.int .i64 4, qs id, qs text, .int .i64 ana, .int .i64 node, .int .i64 n] 24 (0, 0)) by rw [← hW]; exact heap_alloc_new _ _)
  have B0 := Lib.hid b0
  have HW := Lib.hid hW
  clear hW b0
  go_enter Tryd.func10, Tryd.ntmps10
  go_wp2_with fail
  rw [show w.alloc (.cells #[.int .i64 4, qs id, qs text, .int .i64 ana, .int .i64 node, .int .i64 n] 24) = W from HW.out]
  refine (rname_to (l := id) HD0.out W).mono ?_
  rintro e y1 ⟨rfl, c1⟩
  have B1 := Lib.hid (B0.out.trans (c1.mono B0.out.size))
  have L1 := Lib.hid (lies_below L0.out c1 (lt_heap L0.out))
  clear c1
  have x0 := (lies_cells L1.out).1 0
  have x1 := (lies_cells L1.out).1 1
  have x2 := (lies_cells L1.out).1 2
  have x3 := (lies_cells L1.out).1 3
  have x4 := (lies_cells L1.out).1 4
  have x5 := (lies_cells L1.out).1 5
  simp only [List.getElem?_toArray, List.getElem?_cons_zero, List.getElem?_cons_succ] at x0 x1 x2 x3 x4 x5
  cases d0
  · go_wp2_with fail
    go_ret
    first | exact ⟨rfl, B1.out⟩ | exact ⟨rfl, (Below.refl _ _).alloc (Nat.le_refl _) _⟩
  go_wp2_with fail
  refine (only_id_to (o := ⟨4, id, text, ana, node, n⟩) HD1.out y1).mono ?_
  rintro e y2 ⟨rfl, c2⟩
  have B2 := Lib.hid (B1.out.trans (c2.mono B1.out.size))
  have L2 := Lib.hid (lies_below L1.out c2 (lt_heap L1.out))
  clear c2
  clear x0 x1 x2 x3 x4 x5
  have x0 := (lies_cells L2.out).1 0
  have x1 := (lies_cells L2.out).1 1
  have x2 := (lies_cells L2.out).1 2
  have x3 := (lies_cells L2.out).1 3
  have x4 := (lies_cells L2.out).1 4
  have x5 := (lies_cells L2.out).1 5
  simp only [List.getElem?_toArray, List.getElem?_cons_zero, List.getElem?_cons_succ] at x0 x1 x2 x3 x4 x5
  go_wp2_with fail
  go_ret
  first | exact ⟨rfl, B2.out⟩ | exact ⟨rfl, (Below.refl _ _).alloc (Nat.le_refl _) _⟩
set_option maxHeartbeats 2000000 in
theorem rvalid6 (id text : Str) (ana node n : Int) (ht : text.length ≤ 9223372036854775807) (w : World) :
    Calls Tryd.prog 10 #[.agg #[.int .i64 6, qs id, qs text, .int .i64 ana, .int .i64 node, .int .i64 n]] w (fun e w' => e = .returned (.bool (nameB id && onlyB ⟨6, id, text, ana, node, n⟩ true false false false)) ∧ Below w.heap.size w w') := by
  have hud : ∀ b : Bool, (undef = Value.bool b) = False := fun b => by simp [undef]
  obtain ⟨d0, hd0⟩ : ∃ d, nameB id = d := ⟨_, rfl⟩
  obtain ⟨d1, hd1⟩ : ∃ d, onlyB ⟨6, id, text, ana, node, n⟩ true false false false = d := ⟨_, rfl⟩
  rw [hd0, hd1]
  have HD0 := Lib.hid hd0
  clear hd0
  have HD1 := Lib.hid hd1
  clear hd1
  obtain ⟨W, hW⟩ : ∃ W, w.alloc (.cells #[.int .i64 6, qs id, qs text, .int .i64 ana, .int .i64 node, .int .i64 n] 24) = W := ⟨_, rfl⟩
  have b0 : Below w.heap.size w W := by rw [← hW]; exact (Below.refl _ _).alloc (Nat.le_refl _) _
  have L0 := Lib.hid (show W.heap[w.heap.size]? = some (.cells #[.int .i64 6, qs id, qs text, .int .i64 ana, .int .i64 node, .int .i64 n] 24 (0, 0)) by rw [← hW]; exact heap_alloc_new _ _)
  have B0 := Lib.hid b0
  have HW := Lib.hid hW
  clear hW b0
  go_enter Tryd.func10, Tryd.ntmps10
  go_wp2_with fail
  rw [show w.alloc (.cells #[.int .i64 6, qs id, qs text, .int .i64 ana, .int .i64 node, .int .i64 n] 24) = W from HW.out]
  refine (rname_to (l := id) HD0.out W).mono ?_
  rintro e y1 ⟨rfl, c1⟩
  have B1 := Lib.hid (B0.out.trans (c1.mono B0.out.size))
  have L1 := Lib.hid (lies_below L0.out c1 (lt_heap L0.out))
  clear c1
  have x0 := (lies_cells L1.out).1 0
  have x1 := (lies_cells L1.out).1 1
  have x2 := (lies_cells L1.out).1 2
  have x3 := (lies_cells L1.out).1 3
  have x4 := (lies_cells L1.out).1 4
  have x5 := (lies_cells L1.out).1 5
  simp only [List.getElem?_toArray, List.getElem?_cons_zero, List.getElem?_cons_succ] at x0 x1 x2 x3 x4 x5
  cases d0
  · go_wp2_with fail
    go_ret
    first | exact ⟨rfl, B1.out⟩ | exact ⟨rfl, (Below.refl _ _).alloc (Nat.le_refl _) _⟩
  go_wp2_with fail
  refine (only_id_to (o := ⟨6, id, text, ana, node, n⟩) HD1.out y1).mono ?_
  rintro e y2 ⟨rfl, c2⟩
  have B2 := Lib.hid (B1.out.trans (c2.mono B1.out.size))
  have L2 := Lib.hid (lies_below L1.out c2 (lt_heap L1.out))
  clear c2
  clear x0 x1 x2 x3 x4 x5
  have x0 := (lies_cells L2.out).1 0
  have x1 := (lies_cells L2.out).1 1
  have x2 := (lies_cells L2.out).1 2
  have x3 := (lies_cells L2.out).1 3
  have x4 := (lies_cells L2.out).1 4
  have x5 := (lies_cells L2.out).1 5
  simp only [List.getElem?_toArray, List.getElem?_cons_zero, List.getElem?_cons_succ] at x0 x1 x2 x3 x4 x5
  go_wp2_with fail
  go_ret
  first | exact ⟨rfl, B2.out⟩ | exact ⟨rfl, (Below.refl _ _).alloc (Nat.le_refl _) _⟩
set_option maxHeartbeats 2000000 in
theorem rvalid7 (id text : Str) (ana node n : Int) (ht : text.length ≤ 9223372036854775807) (w : World) :
    Calls Tryd.prog 10 #[.agg #[.int .i64 7, qs id, qs text, .int .i64 ana, .int .i64 node, .int .i64 n]] w (fun e w' => e = .returned (.bool (nameB id && onlyB ⟨7, id, text, ana, node, n⟩ true false false false)) ∧ Below w.heap.size w w') := by
  have hud : ∀ b : Bool, (undef = Value.bool b) = False := fun b => by simp [undef]
  obtain ⟨d0, hd0⟩ : ∃ d, nameB id = d := ⟨_, rfl⟩
  obtain ⟨d1, hd1⟩ : ∃ d, onlyB ⟨7, id, text, ana, node, n⟩ true false false false = d := ⟨_, rfl⟩
  rw [hd0, hd1]
  have HD0 := Lib.hid hd0
  clear hd0
  have HD1 := Lib.hid hd1
  clear hd1
  obtain ⟨W, hW⟩ : ∃ W, w.alloc (.cells #[.int .i64 7, qs id, qs text, .int .i64 ana, .int .i64 node, .int .i64 n] 24) = W := ⟨_, rfl⟩
  have b0 : Below w.heap.size w W := by rw [← hW]; exact (Below.refl _ _).alloc (Nat.le_refl _) _
  have L0 := Lib.hid (show W.heap[w.heap.size]? = some (.cells #[.int .i64 7, qs id, qs text, .int .i64 ana, .int .i64 node, .int .i64 n] 24 (0, 0)) by rw [← hW]; exact heap_alloc_new _ _)
  have B0 := Lib.hid b0
  have HW := Lib.hid hW
  clear hW b0
  go_enter Tryd.func10, Tryd.ntmps10
  go_wp2_with fail
  rw [show w.alloc (.cells #[.int .i64 7, qs id, qs text, .int .i64 ana, .int .i64 node, .int .i64 n] 24) = W from HW.out]
  refine (rname_to (l := id) HD0.out W).mono ?_
  rintro e y1 ⟨rfl, c1⟩
  have B1 := Lib.hid (B0.out.trans (c1.mono B0.out.size))
  have L1 := Lib.hid (lies_below L0.out c1 (lt_heap L0.out))
  clear c1
  have x0 := (lies_cells L1.out).1 0
  have x1 := (lies_cells L1.out).1 1
  have x2 := (lies_cells L1.out).1 2
  have x3 := (lies_cells L1.out).1 3
  have x4 := (lies_cells L1.out).1 4
  have x5 := (lies_cells L1.out).1 5
  simp only [List.getElem?_toArray, List.getElem?_cons_zero, List.getElem?_cons_succ] at x0 x1 x2 x3 x4 x5
  cases d0
  · go_wp2_with fail
    go_ret
    first | exact ⟨rfl, B1.out⟩ | exact ⟨rfl, (Below.refl _ _).alloc (Nat.le_refl _) _⟩
  go_wp2_with fail
  refine (only_id_to (o := ⟨7, id, text, ana, node, n⟩) HD1.out y1).mono ?_
  rintro e y2 ⟨rfl, c2⟩
  have B2 := Lib.hid (B1.out.trans (c2.mono B1.out.size))
  have L2 := Lib.hid (lies_below L1.out c2 (lt_heap L1.out))
  clear c2
  clear x0 x1 x2 x3 x4 x5
  have x0 := (lies_cells L2.out).1 0
  have x1 := (lies_cells L2.out).1 1
  have x2 := (lies_cells L2.out).1 2
  have x3 := (lies_cells L2.out).1 3
  have x4 := (lies_cells L2.out).1 4
  have x5 := (lies_cells L2.out).1 5
  simp only [List.getElem?_toArray, List.getElem?_cons_zero, List.getElem?_cons_succ] at x0 x1 x2 x3 x4 x5
  go_wp2_with fail
  go_ret
  first | exact ⟨rfl, B2.out⟩ | exact ⟨rfl, (Below.refl _ _).alloc (Nat.le_refl _) _⟩
set_option maxHeartbeats 2000000 in
theorem rvalid3 (id text : Str) (ana node n : Int) (ht : text.length ≤ 9223372036854775807) (w : World) :
    Calls Tryd.prog 10 #[.agg #[.int .i64 3, qs id, qs text, .int .i64 ana, .int .i64 node, .int .i64 n]] w (fun e w' => e = .returned (.bool (nameB id && nameB text && decide (1 ≤ ana) && decide (ana ≤ 4) && decide (0 ≤ node) && decide (node < 256) && decide (0 ≤ n) && decide (n ≤ 3))) ∧ Below w.heap.size w w') := by
  have hud : ∀ b : Bool, (undef = Value.bool b) = False := fun b => by simp [undef]
  obtain ⟨d0, hd0⟩ : ∃ d, nameB id = d := ⟨_, rfl⟩
  obtain ⟨d1, hd1⟩ : ∃ d, nameB text = d := ⟨_, rfl⟩
  obtain ⟨d2, hd2⟩ : ∃ d, decide (1 ≤ ana) = d := ⟨_, rfl⟩
  obtain ⟨d3, hd3⟩ : ∃ d, decide (ana ≤ 4) = d := ⟨_, rfl⟩
  obtain ⟨d4, hd4⟩ : ∃ d, decide (0 ≤ node) = d := ⟨_, rfl⟩
  obtain ⟨d5, hd5⟩ : ∃ d, decide (node < 256) = d := ⟨_, rfl⟩
  obtain ⟨d6, hd6⟩ : ∃ d, decide (0 ≤ n) = d := ⟨_, rfl⟩
  obtain ⟨d7, hd7⟩ : ∃ d, decide (n ≤ 3) = d := ⟨_, rfl⟩
  rw [hd0, hd1, hd2, hd3, hd4, hd5, hd6, hd7]
  have HD0 := Lib.hid hd0
  clear hd0
  have HD1 := Lib.hid hd1
  clear hd1
  obtain ⟨W, hW⟩ : ∃ W, w.alloc (.cells #[.int .i64 3, qs id, qs text, .int .i64 ana, .int .i64 node, .int .i64 n] 24) = W := ⟨_, rfl⟩
  have b0 : Below w.heap.size w W := by rw [← hW]; exact (Below.refl _ _).alloc (Nat.le_refl _) _
  have L0 := Lib.hid (show W.heap[w.heap.size]? = some (.cells #[.int .i64 3, qs id, qs text, .int .i64 ana, .int .i64 node, .int .i64 n] 24 (0, 0)) by rw [← hW]; exact heap_alloc_new _ _)
  have B0 := Lib.hid b0
  have HW := Lib.hid hW
  clear hW b0
  go_enter Tryd.func10, Tryd.ntmps10
  go_wp2_with fail
  rw [show w.alloc (.cells #[.int .i64 3, qs id, qs text, .int .i64 ana, .int .i64 node, .int .i64 n] 24) = W from HW.out]
  refine (rname_to (l := id) HD0.out W).mono ?_
  rintro e y1 ⟨rfl, c1⟩
  have B1 := Lib.hid (B0.out.trans (c1.mono B0.out.size))
  have L1 := Lib.hid (lies_below L0.out c1 (lt_heap L0.out))
  clear c1
  have x0 := (lies_cells L1.out).1 0
  have x1 := (lies_cells L1.out).1 1
  have x2 := (lies_cells L1.out).1 2
  have x3 := (lies_cells L1.out).1 3
  have x4 := (lies_cells L1.out).1 4
  have x5 := (lies_cells L1.out).1 5
  simp only [List.getElem?_toArray, List.getElem?_cons_zero, List.getElem?_cons_succ] at x0 x1 x2 x3 x4 x5
  cases d0
  · go_wp2_with fail
    go_ret
    first | exact ⟨rfl, B1.out⟩ | exact ⟨rfl, (Below.refl _ _).alloc (Nat.le_refl _) _⟩
  go_wp2_with fail
  refine (rname_to (l := text) HD1.out y1).mono ?_
  rintro e y2 ⟨rfl, c2⟩
  have B2 := Lib.hid (B1.out.trans (c2.mono B1.out.size))
  have L2 := Lib.hid (lies_below L1.out c2 (lt_heap L1.out))
  clear c2
  clear x0 x1 x2 x3 x4 x5
  have x0 := (lies_cells L2.out).1 0
  have x1 := (lies_cells L2.out).1 1
  have x2 := (lies_cells L2.out).1 2
  have x3 := (lies_cells L2.out).1 3
  have x4 := (lies_cells L2.out).1 4
  have x5 := (lies_cells L2.out).1 5
  simp only [List.getElem?_toArray, List.getElem?_cons_zero, List.getElem?_cons_succ] at x0 x1 x2 x3 x4 x5
  cases d1
  · go_wp2_with fail
    go_ret
    first | exact ⟨rfl, B2.out⟩ | exact ⟨rfl, (Below.refl _ _).alloc (Nat.le_refl _) _⟩
  cases d2
  · go_wp2_with fail
    go_ret
    first | exact ⟨rfl, B2.out⟩ | exact ⟨rfl, (Below.refl _ _).alloc (Nat.le_refl _) _⟩
  cases d3
  · go_wp2_with fail
    go_ret
    first | exact ⟨rfl, B2.out⟩ | exact ⟨rfl, (Below.refl _ _).alloc (Nat.le_refl _) _⟩
  cases d4
  · go_wp2_with fail
    go_ret
    first | exact ⟨rfl, B2.out⟩ | exact ⟨rfl, (Below.refl _ _).alloc (Nat.le_refl _) _⟩
  cases d5
  · go_wp2_with fail
    go_ret
    first | exact ⟨rfl, B2.out⟩ | exact ⟨rfl, (Below.refl _ _).alloc (Nat.le_refl _) _⟩
  cases d6
  · go_wp2_with fail
    go_ret
    first | exact ⟨rfl, B2.out⟩ | exact ⟨rfl, (Below.refl _ _).alloc (Nat.le_refl _) _⟩
  cases d7
  · go_wp2_with fail
    go_ret
    first | exact ⟨rfl, B2.out⟩ | exact ⟨rfl, (Below.refl _ _).alloc (Nat.le_refl _) _⟩
  go_wp2_with fail
  go_ret
  first | exact ⟨rfl, B2.out⟩ | exact ⟨rfl, (Below.refl _ _).alloc (Nat.le_refl _) _⟩
set_option maxHeartbeats 2000000 in
theorem rvalid5 (id text : Str) (ana node n : Int) (ht : text.length ≤ 9223372036854775807) (w : World) :
    Calls Tryd.prog 10 #[.agg #[.int .i64 5, qs id, qs text, .int .i64 ana, .int .i64 node, .int .i64 n]] w (fun e w' => e = .returned (.bool (decide (0 ≤ n) && decide (n ≤ 1048576) && onlyB ⟨5, id, text, ana, node, n⟩ false false false true)) ∧ Below w.heap.size w w') := by
  have hud : ∀ b : Bool, (undef = Value.bool b) = False := fun b => by simp [undef]
  obtain ⟨d0, hd0⟩ : ∃ d, decide (0 ≤ n) = d := ⟨_, rfl⟩
  obtain ⟨d1, hd1⟩ : ∃ d, decide (n ≤ 1048576) = d := ⟨_, rfl⟩
  obtain ⟨d2, hd2⟩ : ∃ d, onlyB ⟨5, id, text, ana, node, n⟩ false false false true = d := ⟨_, rfl⟩
  rw [hd0, hd1, hd2]
  have HD2 := Lib.hid hd2
  clear hd2
  obtain ⟨W, hW⟩ : ∃ W, w.alloc (.cells #[.int .i64 5, qs id, qs text, .int .i64 ana, .int .i64 node, .int .i64 n] 24) = W := ⟨_, rfl⟩
  have b0 : Below w.heap.size w W := by rw [← hW]; exact (Below.refl _ _).alloc (Nat.le_refl _) _
  have L0 := Lib.hid (show W.heap[w.heap.size]? = some (.cells #[.int .i64 5, qs id, qs text, .int .i64 ana, .int .i64 node, .int .i64 n] 24 (0, 0)) by rw [← hW]; exact heap_alloc_new _ _)
  have B0 := Lib.hid b0
  have HW := Lib.hid hW
  clear hW b0
  go_enter Tryd.func10, Tryd.ntmps10
  cases d0
  · go_wp2_with fail
    go_ret
    first | exact ⟨rfl, B0.out⟩ | exact ⟨rfl, (Below.refl _ _).alloc (Nat.le_refl _) _⟩
  cases d1
  · go_wp2_with fail
    go_ret
    first | exact ⟨rfl, B0.out⟩ | exact ⟨rfl, (Below.refl _ _).alloc (Nat.le_refl _) _⟩
  go_wp2_with fail
  rw [show w.alloc (.cells #[.int .i64 5, qs id, qs text, .int .i64 ana, .int .i64 node, .int .i64 n] 24) = W from HW.out]
  refine (only_n_to (o := ⟨5, id, text, ana, node, n⟩) HD2.out W).mono ?_
  rintro e y1 ⟨rfl, c1⟩
  have B1 := Lib.hid (B0.out.trans (c1.mono B0.out.size))
  have L1 := Lib.hid (lies_below L0.out c1 (lt_heap L0.out))
  clear c1
  have x0 := (lies_cells L1.out).1 0
  have x1 := (lies_cells L1.out).1 1
  have x2 := (lies_cells L1.out).1 2
  have x3 := (lies_cells L1.out).1 3
  have x4 := (lies_cells L1.out).1 4
  have x5 := (lies_cells L1.out).1 5
  simp only [List.getElem?_toArray, List.getElem?_cons_zero, List.getElem?_cons_succ] at x0 x1 x2 x3 x4 x5
  go_wp2_with fail
  go_ret
  first | exact ⟨rfl, B1.out⟩ | exact ⟨rfl, (Below.refl _ _).alloc (Nat.le_refl _) _⟩
set_option maxHeartbeats 2000000 in
theorem rvalid8 (id text : Str) (ana node n : Int) (ht : text.length ≤ 9223372036854775807) (w : World) :
    Calls Tryd.prog 10 #[.agg #[.int .i64 8, qs id, qs text, .int .i64 ana, .int .i64 node, .int .i64 n]] w (fun e w' => e = .returned (.bool (decide (0 ≤ n) && decide (n ≤ 512) && onlyB ⟨8, id, text, ana, node, n⟩ false false false true)) ∧ Below w.heap.size w w') := by
  have hud : ∀ b : Bool, (undef = Value.bool b) = False := fun b => by simp [undef]
  obtain ⟨d0, hd0⟩ : ∃ d, decide (0 ≤ n) = d := ⟨_, rfl⟩
  obtain ⟨d1, hd1⟩ : ∃ d, decide (n ≤ 512) = d := ⟨_, rfl⟩
  obtain ⟨d2, hd2⟩ : ∃ d, onlyB ⟨8, id, text, ana, node, n⟩ false false false true = d := ⟨_, rfl⟩
  rw [hd0, hd1, hd2]
  have HD2 := Lib.hid hd2
  clear hd2
  obtain ⟨W, hW⟩ : ∃ W, w.alloc (.cells #[.int .i64 8, qs id, qs text, .int .i64 ana, .int .i64 node, .int .i64 n] 24) = W := ⟨_, rfl⟩
  have b0 : Below w.heap.size w W := by rw [← hW]; exact (Below.refl _ _).alloc (Nat.le_refl _) _
  have L0 := Lib.hid (show W.heap[w.heap.size]? = some (.cells #[.int .i64 8, qs id, qs text, .int .i64 ana, .int .i64 node, .int .i64 n] 24 (0, 0)) by rw [← hW]; exact heap_alloc_new _ _)
  have B0 := Lib.hid b0
  have HW := Lib.hid hW
  clear hW b0
  go_enter Tryd.func10, Tryd.ntmps10
  cases d0
  · go_wp2_with fail
    go_ret
    first | exact ⟨rfl, B0.out⟩ | exact ⟨rfl, (Below.refl _ _).alloc (Nat.le_refl _) _⟩
  cases d1
  · go_wp2_with fail
    go_ret
    first | exact ⟨rfl, B0.out⟩ | exact ⟨rfl, (Below.refl _ _).alloc (Nat.le_refl _) _⟩
  go_wp2_with fail
  rw [show w.alloc (.cells #[.int .i64 8, qs id, qs text, .int .i64 ana, .int .i64 node, .int .i64 n] 24) = W from HW.out]
  refine (only_n_to (o := ⟨8, id, text, ana, node, n⟩) HD2.out W).mono ?_
  rintro e y1 ⟨rfl, c1⟩
  have B1 := Lib.hid (B0.out.trans (c1.mono B0.out.size))
  have L1 := Lib.hid (lies_below L0.out c1 (lt_heap L0.out))
  clear c1
  have x0 := (lies_cells L1.out).1 0
  have x1 := (lies_cells L1.out).1 1
  have x2 := (lies_cells L1.out).1 2
  have x3 := (lies_cells L1.out).1 3
  have x4 := (lies_cells L1.out).1 4
  have x5 := (lies_cells L1.out).1 5
  simp only [List.getElem?_toArray, List.getElem?_cons_zero, List.getElem?_cons_succ] at x0 x1 x2 x3 x4 x5
  go_wp2_with fail
  go_ret
  first | exact ⟨rfl, B1.out⟩ | exact ⟨rfl, (Below.refl _ _).alloc (Nat.le_refl _) _⟩
set_option maxHeartbeats 2000000 in
theorem rvalid9 (id text : Str) (ana node n : Int) (ht : text.length ≤ 9223372036854775807) (w : World) :
    Calls Tryd.prog 10 #[.agg #[.int .i64 9, qs id, qs text, .int .i64 ana, .int .i64 node, .int .i64 n]] w (fun e w' => e = .returned (.bool (onlyB ⟨9, id, text, ana, node, n⟩ false false false false)) ∧ Below w.heap.size w w') := by
  have hud : ∀ b : Bool, (undef = Value.bool b) = False := fun b => by simp [undef]
  obtain ⟨d0, hd0⟩ : ∃ d, onlyB ⟨9, id, text, ana, node, n⟩ false false false false = d := ⟨_, rfl⟩
  rw [hd0]
  have HD0 := Lib.hid hd0
  clear hd0
  obtain ⟨W, hW⟩ : ∃ W, w.alloc (.cells #[.int .i64 9, qs id, qs text, .int .i64 ana, .int .i64 node, .int .i64 n] 24) = W := ⟨_, rfl⟩
  have b0 : Below w.heap.size w W := by rw [← hW]; exact (Below.refl _ _).alloc (Nat.le_refl _) _
  have L0 := Lib.hid (show W.heap[w.heap.size]? = some (.cells #[.int .i64 9, qs id, qs text, .int .i64 ana, .int .i64 node, .int .i64 n] 24 (0, 0)) by rw [← hW]; exact heap_alloc_new _ _)
  have B0 := Lib.hid b0
  have HW := Lib.hid hW
  clear hW b0
  go_enter Tryd.func10, Tryd.ntmps10
  go_wp2_with fail
  rw [show w.alloc (.cells #[.int .i64 9, qs id, qs text, .int .i64 ana, .int .i64 node, .int .i64 n] 24) = W from HW.out]
  refine (only_none_to (o := ⟨9, id, text, ana, node, n⟩) HD0.out W).mono ?_
  rintro e y1 ⟨rfl, c1⟩
  have B1 := Lib.hid (B0.out.trans (c1.mono B0.out.size))
  have L1 := Lib.hid (lies_below L0.out c1 (lt_heap L0.out))
  clear c1
  have x0 := (lies_cells L1.out).1 0
  have x1 := (lies_cells L1.out).1 1
  have x2 := (lies_cells L1.out).1 2
  have x3 := (lies_cells L1.out).1 3
  have x4 := (lies_cells L1.out).1 4
  have x5 := (lies_cells L1.out).1 5
  simp only [List.getElem?_toArray, List.getElem?_cons_zero, List.getElem?_cons_succ] at x0 x1 x2 x3 x4 x5
  go_wp2_with fail
  go_ret
  first | exact ⟨rfl, B1.out⟩ | exact ⟨rfl, (Below.refl _ _).alloc (Nat.le_refl _) _⟩
set_option maxHeartbeats 1000000 in
theorem rvalidx (k : Int) (hk : ¬ (1 ≤ k ∧ k ≤ 9)) (id text : Str) (ana node n : Int) (w : World) :
    Calls Tryd.prog 10 #[.agg #[.int .i64 k, qs id, qs text, .int .i64 ana, .int .i64 node, .int .i64 n]] w (fun e w' => e = .returned (.bool false) ∧ Below w.heap.size w w') := by
  have e1 : (k == 1) = false := by simp; omega
  have e2 : (k == 2) = false := by simp; omega
  have e3 : (k == 3) = false := by simp; omega
  have e4 : (k == 4) = false := by simp; omega
  have e5 : (k == 5) = false := by simp; omega
  have e6 : (k == 6) = false := by simp; omega
  have e7 : (k == 7) = false := by simp; omega
  have e8 : (k == 8) = false := by simp; omega
  have e9 : (k == 9) = false := by simp; omega
  clear hk
  go_enter Tryd.func10, Tryd.ntmps10
  go_wp2
  go_ret
  exact ⟨rfl, (Below.refl _ _).alloc (Nat.le_refl _) _⟩
/-- Which operations are valid, says the reference. -/
theorem rvalid_any (o : POp) (ht : o.text.length ≤ 9223372036854775807) (w : World) : Calls Tryd.prog 10 #[opV o] w (fun e w' => e = .returned (.bool (opB o)) ∧ Below w.heap.size w w') := by
  obtain ⟨k, id, text, ana, node, n⟩ := o
  by_cases hk : 1 ≤ k ∧ k ≤ 9
  · have hc : k = 1 ∨ k = 2 ∨ k = 3 ∨ k = 4 ∨ k = 5 ∨ k = 6 ∨ k = 7 ∨ k = 8 ∨ k = 9 := by omega
    rcases hc with rfl | rfl | rfl | rfl | rfl | rfl | rfl | rfl | rfl
    · rw [show opB ⟨1, id, text, ana, node, n⟩ = _ by simp only [opB, rangeB, Int.reduceEq, if_true, if_false, or_true, true_or, or_false, false_or, or_self, reduceIte]; rfl]
      exact rvalid1 id text ana node n ht w
    · rw [show opB ⟨2, id, text, ana, node, n⟩ = _ by simp only [opB, rangeB, Int.reduceEq, if_true, if_false, or_true, true_or, or_false, false_or, or_self, reduceIte]; rfl]
      exact rvalid2 id text ana node n ht w
    · rw [show opB ⟨3, id, text, ana, node, n⟩ = (nameB id && nameB text && decide (1 ≤ ana) && decide (ana ≤ 4) && decide (0 ≤ node) && decide (node < 256) && decide (0 ≤ n) && decide (n ≤ 3)) by
        rw [show decide (node < 256) = decide (node ≤ 255) by rw [Bool.eq_iff_iff]; simp; omega]
        simp [opB, rangeB, Bool.and_assoc]]
      exact rvalid3 id text ana node n ht w
    · rw [show opB ⟨4, id, text, ana, node, n⟩ = _ by simp only [opB, rangeB, Int.reduceEq, if_true, if_false, or_true, true_or, or_false, false_or, or_self, reduceIte]; rfl]
      exact rvalid4 id text ana node n ht w
    · rw [show opB ⟨5, id, text, ana, node, n⟩ = _ by simp only [opB, rangeB, Int.reduceEq, if_true, if_false, or_true, true_or, or_false, false_or, or_self, reduceIte]; rfl]
      exact rvalid5 id text ana node n ht w
    · rw [show opB ⟨6, id, text, ana, node, n⟩ = _ by simp only [opB, rangeB, Int.reduceEq, if_true, if_false, or_true, true_or, or_false, false_or, or_self, reduceIte]; rfl]
      exact rvalid6 id text ana node n ht w
    · rw [show opB ⟨7, id, text, ana, node, n⟩ = _ by simp only [opB, rangeB, Int.reduceEq, if_true, if_false, or_true, true_or, or_false, false_or, or_self, reduceIte]; rfl]
      exact rvalid7 id text ana node n ht w
    · rw [show opB ⟨8, id, text, ana, node, n⟩ = _ by simp only [opB, rangeB, Int.reduceEq, if_true, if_false, or_true, true_or, or_false, false_or, or_self, reduceIte]; rfl]
      exact rvalid8 id text ana node n ht w
    · rw [show opB ⟨9, id, text, ana, node, n⟩ = _ by simp only [opB, rangeB, Int.reduceEq, if_true, if_false, or_true, true_or, or_false, false_or, or_self, reduceIte]; rfl]
      exact rvalid9 id text ana node n ht w
  · rw [show opB ⟨k, id, text, ana, node, n⟩ = false by
      unfold opB
      dsimp only
      rw [if_neg (by omega), if_neg (by omega), if_neg (by omega), if_neg (by omega), if_neg (by omega), if_neg (by omega)]]
    exact rvalidx k hk id text ana node n w
end Go.Proofs.YtgmlnbheceeklaaDoor
