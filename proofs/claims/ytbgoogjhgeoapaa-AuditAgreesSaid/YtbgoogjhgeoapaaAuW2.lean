/- Walks: the reference's valid configurations. Printed by wip/gen_auw1.py. -/
import Derived.Test.YtbgoogjhgeoapaaAuW1
set_option linter.unusedVariables false
set_option linter.unusedSimpArgs false
set_option linter.unusedSectionVars false
namespace Go.Proofs.Ytbgoogjhgeoapaa
open Go.RowKit
variable [Base]

theorem cells7 {b : Nat} {w : World} {v0 v1 v2 v3 v4 v5 v6 : Value} {t : TypeId} (h : w.heap[b]? = some (.cells #[v0, v1, v2, v3, v4, v5, v6] t (0, 0))) :
    w.cell? ⟨b, 0, none⟩ = some v0 ∧ w.cell? ⟨b, 1, none⟩ = some v1 ∧ w.cell? ⟨b, 2, none⟩ = some v2 ∧ w.cell? ⟨b, 3, none⟩ = some v3 ∧ w.cell? ⟨b, 4, none⟩ = some v4 ∧ w.cell? ⟨b, 5, none⟩ = some v5 ∧ w.cell? ⟨b, 6, none⟩ = some v6 := by
  have := (lies_cells h).1
  exact ⟨this 0, this 1, this 2, this 3, this 4, this 5, this 6⟩
set_option maxRecDepth 100000 in
set_option maxHeartbeats 2000000 in
theorem rcv_0 (c : CV) (w : World)  (b0 : ¬ 1 ≤ c.p) : Calls Try.prog 38 #[cfgV c] w (BoolQ false w) := by
  unfold cfgV
  obtain ⟨W, hW⟩ : ∃ W, w.alloc (.cells #[iv c.p, iv c.pe, iv c.me, iv c.no, iv c.ed, iv c.ba, iv c.ag] 26) = W := ⟨_, rfl⟩
  have B0 : Below w.heap.size w W := by rw [← hW]; exact (Below.refl _ _).alloc (Nat.le_refl _) _
  have HB0 : W.heap[w.heap.size]? = some (.cells #[iv c.p, iv c.pe, iv c.me, iv c.no, iv c.ed, iv c.ba, iv c.ag] 26 (0, 0)) := by rw [← hW]; exact heap_alloc_new _ _
  obtain ⟨x0, x1, x2, x3, x4, x5, x6⟩ := cells7 HB0
  have HW := Lib.hid hW
  have BB := Lib.hid B0
  have hud : ∀ b : Bool, (undef = Value.bool b) = False := fun b => by simp [undef]
  clear hW HB0 B0
  go_enter Try.func38, Try.ntmps38
  go_wp2_with fail
  try rw [show w.alloc (.cells #[iv c.p, iv c.pe, iv c.me, iv c.no, iv c.ed, iv c.ba, iv c.ag] 26) = W from HW.out]
  go_wp2
  go_ret
  exact ⟨rfl, BB.out⟩
set_option maxRecDepth 100000 in
set_option maxHeartbeats 2000000 in
theorem rcv_1 (c : CV) (w : World) (b0 : 1 ≤ c.p) (b1 : ¬ c.p ≤ 8) : Calls Try.prog 38 #[cfgV c] w (BoolQ false w) := by
  unfold cfgV
  obtain ⟨W, hW⟩ : ∃ W, w.alloc (.cells #[iv c.p, iv c.pe, iv c.me, iv c.no, iv c.ed, iv c.ba, iv c.ag] 26) = W := ⟨_, rfl⟩
  have B0 : Below w.heap.size w W := by rw [← hW]; exact (Below.refl _ _).alloc (Nat.le_refl _) _
  have HB0 : W.heap[w.heap.size]? = some (.cells #[iv c.p, iv c.pe, iv c.me, iv c.no, iv c.ed, iv c.ba, iv c.ag] 26 (0, 0)) := by rw [← hW]; exact heap_alloc_new _ _
  obtain ⟨x0, x1, x2, x3, x4, x5, x6⟩ := cells7 HB0
  have HW := Lib.hid hW
  have BB := Lib.hid B0
  have hud : ∀ b : Bool, (undef = Value.bool b) = False := fun b => by simp [undef]
  clear hW HB0 B0
  go_enter Try.func38, Try.ntmps38
  go_wp2_with fail
  try rw [show w.alloc (.cells #[iv c.p, iv c.pe, iv c.me, iv c.no, iv c.ed, iv c.ba, iv c.ag] 26) = W from HW.out]
  go_wp2
  go_ret
  exact ⟨rfl, BB.out⟩
set_option maxRecDepth 100000 in
set_option maxHeartbeats 2000000 in
theorem rcv_2 (c : CV) (w : World) (b0 : 1 ≤ c.p) (b1 : c.p ≤ 8) (b2 : ¬ 1 ≤ c.pe) : Calls Try.prog 38 #[cfgV c] w (BoolQ false w) := by
  unfold cfgV
  obtain ⟨W, hW⟩ : ∃ W, w.alloc (.cells #[iv c.p, iv c.pe, iv c.me, iv c.no, iv c.ed, iv c.ba, iv c.ag] 26) = W := ⟨_, rfl⟩
  have B0 : Below w.heap.size w W := by rw [← hW]; exact (Below.refl _ _).alloc (Nat.le_refl _) _
  have HB0 : W.heap[w.heap.size]? = some (.cells #[iv c.p, iv c.pe, iv c.me, iv c.no, iv c.ed, iv c.ba, iv c.ag] 26 (0, 0)) := by rw [← hW]; exact heap_alloc_new _ _
  obtain ⟨x0, x1, x2, x3, x4, x5, x6⟩ := cells7 HB0
  have HW := Lib.hid hW
  have BB := Lib.hid B0
  have hud : ∀ b : Bool, (undef = Value.bool b) = False := fun b => by simp [undef]
  clear hW HB0 B0
  go_enter Try.func38, Try.ntmps38
  go_wp2_with fail
  try rw [show w.alloc (.cells #[iv c.p, iv c.pe, iv c.me, iv c.no, iv c.ed, iv c.ba, iv c.ag] 26) = W from HW.out]
  go_wp2
  go_ret
  exact ⟨rfl, BB.out⟩
set_option maxRecDepth 100000 in
set_option maxHeartbeats 2000000 in
theorem rcv_3 (c : CV) (w : World) (b0 : 1 ≤ c.p) (b1 : c.p ≤ 8) (b2 : 1 ≤ c.pe) (b3 : ¬ c.pe ≤ 16) : Calls Try.prog 38 #[cfgV c] w (BoolQ false w) := by
  unfold cfgV
  obtain ⟨W, hW⟩ : ∃ W, w.alloc (.cells #[iv c.p, iv c.pe, iv c.me, iv c.no, iv c.ed, iv c.ba, iv c.ag] 26) = W := ⟨_, rfl⟩
  have B0 : Below w.heap.size w W := by rw [← hW]; exact (Below.refl _ _).alloc (Nat.le_refl _) _
  have HB0 : W.heap[w.heap.size]? = some (.cells #[iv c.p, iv c.pe, iv c.me, iv c.no, iv c.ed, iv c.ba, iv c.ag] 26 (0, 0)) := by rw [← hW]; exact heap_alloc_new _ _
  obtain ⟨x0, x1, x2, x3, x4, x5, x6⟩ := cells7 HB0
  have HW := Lib.hid hW
  have BB := Lib.hid B0
  have hud : ∀ b : Bool, (undef = Value.bool b) = False := fun b => by simp [undef]
  clear hW HB0 B0
  go_enter Try.func38, Try.ntmps38
  go_wp2_with fail
  try rw [show w.alloc (.cells #[iv c.p, iv c.pe, iv c.me, iv c.no, iv c.ed, iv c.ba, iv c.ag] 26) = W from HW.out]
  go_wp2
  go_ret
  exact ⟨rfl, BB.out⟩
set_option maxRecDepth 100000 in
set_option maxHeartbeats 2000000 in
theorem rcv_4 (c : CV) (w : World) (b0 : 1 ≤ c.p) (b1 : c.p ≤ 8) (b2 : 1 ≤ c.pe) (b3 : c.pe ≤ 16) (b4 : ¬ 0 ≤ c.me) : Calls Try.prog 38 #[cfgV c] w (BoolQ false w) := by
  unfold cfgV
  obtain ⟨W, hW⟩ : ∃ W, w.alloc (.cells #[iv c.p, iv c.pe, iv c.me, iv c.no, iv c.ed, iv c.ba, iv c.ag] 26) = W := ⟨_, rfl⟩
  have B0 : Below w.heap.size w W := by rw [← hW]; exact (Below.refl _ _).alloc (Nat.le_refl _) _
  have HB0 : W.heap[w.heap.size]? = some (.cells #[iv c.p, iv c.pe, iv c.me, iv c.no, iv c.ed, iv c.ba, iv c.ag] 26 (0, 0)) := by rw [← hW]; exact heap_alloc_new _ _
  obtain ⟨x0, x1, x2, x3, x4, x5, x6⟩ := cells7 HB0
  have HW := Lib.hid hW
  have BB := Lib.hid B0
  have hud : ∀ b : Bool, (undef = Value.bool b) = False := fun b => by simp [undef]
  clear hW HB0 B0
  go_enter Try.func38, Try.ntmps38
  go_wp2_with fail
  try rw [show w.alloc (.cells #[iv c.p, iv c.pe, iv c.me, iv c.no, iv c.ed, iv c.ba, iv c.ag] 26) = W from HW.out]
  go_wp2
  go_ret
  exact ⟨rfl, BB.out⟩
set_option maxRecDepth 100000 in
set_option maxHeartbeats 2000000 in
theorem rcv_5 (c : CV) (w : World) (b0 : 1 ≤ c.p) (b1 : c.p ≤ 8) (b2 : 1 ≤ c.pe) (b3 : c.pe ≤ 16) (b4 : 0 ≤ c.me) (b5 : ¬ c.me ≤ 512) : Calls Try.prog 38 #[cfgV c] w (BoolQ false w) := by
  unfold cfgV
  obtain ⟨W, hW⟩ : ∃ W, w.alloc (.cells #[iv c.p, iv c.pe, iv c.me, iv c.no, iv c.ed, iv c.ba, iv c.ag] 26) = W := ⟨_, rfl⟩
  have B0 : Below w.heap.size w W := by rw [← hW]; exact (Below.refl _ _).alloc (Nat.le_refl _) _
  have HB0 : W.heap[w.heap.size]? = some (.cells #[iv c.p, iv c.pe, iv c.me, iv c.no, iv c.ed, iv c.ba, iv c.ag] 26 (0, 0)) := by rw [← hW]; exact heap_alloc_new _ _
  obtain ⟨x0, x1, x2, x3, x4, x5, x6⟩ := cells7 HB0
  have HW := Lib.hid hW
  have BB := Lib.hid B0
  have hud : ∀ b : Bool, (undef = Value.bool b) = False := fun b => by simp [undef]
  clear hW HB0 B0
  go_enter Try.func38, Try.ntmps38
  go_wp2_with fail
  try rw [show w.alloc (.cells #[iv c.p, iv c.pe, iv c.me, iv c.no, iv c.ed, iv c.ba, iv c.ag] 26) = W from HW.out]
  go_wp2
  go_ret
  exact ⟨rfl, BB.out⟩
set_option maxRecDepth 100000 in
set_option maxHeartbeats 2000000 in
theorem rcv_6 (c : CV) (w : World) (b0 : 1 ≤ c.p) (b1 : c.p ≤ 8) (b2 : 1 ≤ c.pe) (b3 : c.pe ≤ 16) (b4 : 0 ≤ c.me) (b5 : c.me ≤ 512) (b6 : ¬ 1 ≤ c.no) : Calls Try.prog 38 #[cfgV c] w (BoolQ false w) := by
  unfold cfgV
  obtain ⟨W, hW⟩ : ∃ W, w.alloc (.cells #[iv c.p, iv c.pe, iv c.me, iv c.no, iv c.ed, iv c.ba, iv c.ag] 26) = W := ⟨_, rfl⟩
  have B0 : Below w.heap.size w W := by rw [← hW]; exact (Below.refl _ _).alloc (Nat.le_refl _) _
  have HB0 : W.heap[w.heap.size]? = some (.cells #[iv c.p, iv c.pe, iv c.me, iv c.no, iv c.ed, iv c.ba, iv c.ag] 26 (0, 0)) := by rw [← hW]; exact heap_alloc_new _ _
  obtain ⟨x0, x1, x2, x3, x4, x5, x6⟩ := cells7 HB0
  have HW := Lib.hid hW
  have BB := Lib.hid B0
  have hud : ∀ b : Bool, (undef = Value.bool b) = False := fun b => by simp [undef]
  clear hW HB0 B0
  go_enter Try.func38, Try.ntmps38
  go_wp2_with fail
  try rw [show w.alloc (.cells #[iv c.p, iv c.pe, iv c.me, iv c.no, iv c.ed, iv c.ba, iv c.ag] 26) = W from HW.out]
  go_wp2
  go_ret
  exact ⟨rfl, BB.out⟩
set_option maxRecDepth 100000 in
set_option maxHeartbeats 2000000 in
theorem rcv_7 (c : CV) (w : World) (b0 : 1 ≤ c.p) (b1 : c.p ≤ 8) (b2 : 1 ≤ c.pe) (b3 : c.pe ≤ 16) (b4 : 0 ≤ c.me) (b5 : c.me ≤ 512) (b6 : 1 ≤ c.no) (b7 : ¬ c.no ≤ 256) : Calls Try.prog 38 #[cfgV c] w (BoolQ false w) := by
  unfold cfgV
  obtain ⟨W, hW⟩ : ∃ W, w.alloc (.cells #[iv c.p, iv c.pe, iv c.me, iv c.no, iv c.ed, iv c.ba, iv c.ag] 26) = W := ⟨_, rfl⟩
  have B0 : Below w.heap.size w W := by rw [← hW]; exact (Below.refl _ _).alloc (Nat.le_refl _) _
  have HB0 : W.heap[w.heap.size]? = some (.cells #[iv c.p, iv c.pe, iv c.me, iv c.no, iv c.ed, iv c.ba, iv c.ag] 26 (0, 0)) := by rw [← hW]; exact heap_alloc_new _ _
  obtain ⟨x0, x1, x2, x3, x4, x5, x6⟩ := cells7 HB0
  have HW := Lib.hid hW
  have BB := Lib.hid B0
  have hud : ∀ b : Bool, (undef = Value.bool b) = False := fun b => by simp [undef]
  clear hW HB0 B0
  go_enter Try.func38, Try.ntmps38
  go_wp2_with fail
  try rw [show w.alloc (.cells #[iv c.p, iv c.pe, iv c.me, iv c.no, iv c.ed, iv c.ba, iv c.ag] 26) = W from HW.out]
  go_wp2
  go_ret
  exact ⟨rfl, BB.out⟩
set_option maxRecDepth 100000 in
set_option maxHeartbeats 2000000 in
theorem rcv_8 (c : CV) (w : World) (b0 : 1 ≤ c.p) (b1 : c.p ≤ 8) (b2 : 1 ≤ c.pe) (b3 : c.pe ≤ 16) (b4 : 0 ≤ c.me) (b5 : c.me ≤ 512) (b6 : 1 ≤ c.no) (b7 : c.no ≤ 256) (b8 : ¬ 0 ≤ c.ed) : Calls Try.prog 38 #[cfgV c] w (BoolQ false w) := by
  unfold cfgV
  obtain ⟨W, hW⟩ : ∃ W, w.alloc (.cells #[iv c.p, iv c.pe, iv c.me, iv c.no, iv c.ed, iv c.ba, iv c.ag] 26) = W := ⟨_, rfl⟩
  have B0 : Below w.heap.size w W := by rw [← hW]; exact (Below.refl _ _).alloc (Nat.le_refl _) _
  have HB0 : W.heap[w.heap.size]? = some (.cells #[iv c.p, iv c.pe, iv c.me, iv c.no, iv c.ed, iv c.ba, iv c.ag] 26 (0, 0)) := by rw [← hW]; exact heap_alloc_new _ _
  obtain ⟨x0, x1, x2, x3, x4, x5, x6⟩ := cells7 HB0
  have HW := Lib.hid hW
  have BB := Lib.hid B0
  have hud : ∀ b : Bool, (undef = Value.bool b) = False := fun b => by simp [undef]
  clear hW HB0 B0
  go_enter Try.func38, Try.ntmps38
  go_wp2_with fail
  try rw [show w.alloc (.cells #[iv c.p, iv c.pe, iv c.me, iv c.no, iv c.ed, iv c.ba, iv c.ag] 26) = W from HW.out]
  go_wp2
  go_ret
  exact ⟨rfl, BB.out⟩
set_option maxRecDepth 100000 in
set_option maxHeartbeats 2000000 in
theorem rcv_9 (c : CV) (w : World) (b0 : 1 ≤ c.p) (b1 : c.p ≤ 8) (b2 : 1 ≤ c.pe) (b3 : c.pe ≤ 16) (b4 : 0 ≤ c.me) (b5 : c.me ≤ 512) (b6 : 1 ≤ c.no) (b7 : c.no ≤ 256) (b8 : 0 ≤ c.ed) (b9 : ¬ c.ed ≤ 1024) : Calls Try.prog 38 #[cfgV c] w (BoolQ false w) := by
  unfold cfgV
  obtain ⟨W, hW⟩ : ∃ W, w.alloc (.cells #[iv c.p, iv c.pe, iv c.me, iv c.no, iv c.ed, iv c.ba, iv c.ag] 26) = W := ⟨_, rfl⟩
  have B0 : Below w.heap.size w W := by rw [← hW]; exact (Below.refl _ _).alloc (Nat.le_refl _) _
  have HB0 : W.heap[w.heap.size]? = some (.cells #[iv c.p, iv c.pe, iv c.me, iv c.no, iv c.ed, iv c.ba, iv c.ag] 26 (0, 0)) := by rw [← hW]; exact heap_alloc_new _ _
  obtain ⟨x0, x1, x2, x3, x4, x5, x6⟩ := cells7 HB0
  have HW := Lib.hid hW
  have BB := Lib.hid B0
  have hud : ∀ b : Bool, (undef = Value.bool b) = False := fun b => by simp [undef]
  clear hW HB0 B0
  go_enter Try.func38, Try.ntmps38
  go_wp2_with fail
  try rw [show w.alloc (.cells #[iv c.p, iv c.pe, iv c.me, iv c.no, iv c.ed, iv c.ba, iv c.ag] 26) = W from HW.out]
  go_wp2
  go_ret
  exact ⟨rfl, BB.out⟩
set_option maxRecDepth 100000 in
set_option maxHeartbeats 2000000 in
theorem rcv_10 (c : CV) (w : World) (b0 : 1 ≤ c.p) (b1 : c.p ≤ 8) (b2 : 1 ≤ c.pe) (b3 : c.pe ≤ 16) (b4 : 0 ≤ c.me) (b5 : c.me ≤ 512) (b6 : 1 ≤ c.no) (b7 : c.no ≤ 256) (b8 : 0 ≤ c.ed) (b9 : c.ed ≤ 1024) (b10 : ¬ 1 ≤ c.ba) : Calls Try.prog 38 #[cfgV c] w (BoolQ false w) := by
  unfold cfgV
  obtain ⟨W, hW⟩ : ∃ W, w.alloc (.cells #[iv c.p, iv c.pe, iv c.me, iv c.no, iv c.ed, iv c.ba, iv c.ag] 26) = W := ⟨_, rfl⟩
  have B0 : Below w.heap.size w W := by rw [← hW]; exact (Below.refl _ _).alloc (Nat.le_refl _) _
  have HB0 : W.heap[w.heap.size]? = some (.cells #[iv c.p, iv c.pe, iv c.me, iv c.no, iv c.ed, iv c.ba, iv c.ag] 26 (0, 0)) := by rw [← hW]; exact heap_alloc_new _ _
  obtain ⟨x0, x1, x2, x3, x4, x5, x6⟩ := cells7 HB0
  have HW := Lib.hid hW
  have BB := Lib.hid B0
  have hud : ∀ b : Bool, (undef = Value.bool b) = False := fun b => by simp [undef]
  clear hW HB0 B0
  go_enter Try.func38, Try.ntmps38
  go_wp2_with fail
  try rw [show w.alloc (.cells #[iv c.p, iv c.pe, iv c.me, iv c.no, iv c.ed, iv c.ba, iv c.ag] 26) = W from HW.out]
  go_wp2
  go_ret
  exact ⟨rfl, BB.out⟩
set_option maxRecDepth 100000 in
set_option maxHeartbeats 2000000 in
theorem rcv_11 (c : CV) (w : World) (b0 : 1 ≤ c.p) (b1 : c.p ≤ 8) (b2 : 1 ≤ c.pe) (b3 : c.pe ≤ 16) (b4 : 0 ≤ c.me) (b5 : c.me ≤ 512) (b6 : 1 ≤ c.no) (b7 : c.no ≤ 256) (b8 : 0 ≤ c.ed) (b9 : c.ed ≤ 1024) (b10 : 1 ≤ c.ba) (b11 : ¬ c.ba ≤ 64) : Calls Try.prog 38 #[cfgV c] w (BoolQ false w) := by
  unfold cfgV
  obtain ⟨W, hW⟩ : ∃ W, w.alloc (.cells #[iv c.p, iv c.pe, iv c.me, iv c.no, iv c.ed, iv c.ba, iv c.ag] 26) = W := ⟨_, rfl⟩
  have B0 : Below w.heap.size w W := by rw [← hW]; exact (Below.refl _ _).alloc (Nat.le_refl _) _
  have HB0 : W.heap[w.heap.size]? = some (.cells #[iv c.p, iv c.pe, iv c.me, iv c.no, iv c.ed, iv c.ba, iv c.ag] 26 (0, 0)) := by rw [← hW]; exact heap_alloc_new _ _
  obtain ⟨x0, x1, x2, x3, x4, x5, x6⟩ := cells7 HB0
  have HW := Lib.hid hW
  have BB := Lib.hid B0
  have hud : ∀ b : Bool, (undef = Value.bool b) = False := fun b => by simp [undef]
  clear hW HB0 B0
  go_enter Try.func38, Try.ntmps38
  go_wp2_with fail
  try rw [show w.alloc (.cells #[iv c.p, iv c.pe, iv c.me, iv c.no, iv c.ed, iv c.ba, iv c.ag] 26) = W from HW.out]
  go_wp2
  go_ret
  exact ⟨rfl, BB.out⟩
set_option maxRecDepth 100000 in
set_option maxHeartbeats 2000000 in
theorem rcv_12 (c : CV) (w : World) (b0 : 1 ≤ c.p) (b1 : c.p ≤ 8) (b2 : 1 ≤ c.pe) (b3 : c.pe ≤ 16) (b4 : 0 ≤ c.me) (b5 : c.me ≤ 512) (b6 : 1 ≤ c.no) (b7 : c.no ≤ 256) (b8 : 0 ≤ c.ed) (b9 : c.ed ≤ 1024) (b10 : 1 ≤ c.ba) (b11 : c.ba ≤ 64) (b12 : ¬ 1 ≤ c.ag) : Calls Try.prog 38 #[cfgV c] w (BoolQ false w) := by
  unfold cfgV
  obtain ⟨W, hW⟩ : ∃ W, w.alloc (.cells #[iv c.p, iv c.pe, iv c.me, iv c.no, iv c.ed, iv c.ba, iv c.ag] 26) = W := ⟨_, rfl⟩
  have B0 : Below w.heap.size w W := by rw [← hW]; exact (Below.refl _ _).alloc (Nat.le_refl _) _
  have HB0 : W.heap[w.heap.size]? = some (.cells #[iv c.p, iv c.pe, iv c.me, iv c.no, iv c.ed, iv c.ba, iv c.ag] 26 (0, 0)) := by rw [← hW]; exact heap_alloc_new _ _
  obtain ⟨x0, x1, x2, x3, x4, x5, x6⟩ := cells7 HB0
  have HW := Lib.hid hW
  have BB := Lib.hid B0
  have hud : ∀ b : Bool, (undef = Value.bool b) = False := fun b => by simp [undef]
  clear hW HB0 B0
  go_enter Try.func38, Try.ntmps38
  go_wp2_with fail
  try rw [show w.alloc (.cells #[iv c.p, iv c.pe, iv c.me, iv c.no, iv c.ed, iv c.ba, iv c.ag] 26) = W from HW.out]
  go_wp2
  go_ret
  exact ⟨rfl, BB.out⟩
set_option maxRecDepth 100000 in
set_option maxHeartbeats 2000000 in
theorem rcv_13 (c : CV) (w : World) (b0 : 1 ≤ c.p) (b1 : c.p ≤ 8) (b2 : 1 ≤ c.pe) (b3 : c.pe ≤ 16) (b4 : 0 ≤ c.me) (b5 : c.me ≤ 512) (b6 : 1 ≤ c.no) (b7 : c.no ≤ 256) (b8 : 0 ≤ c.ed) (b9 : c.ed ≤ 1024) (b10 : 1 ≤ c.ba) (b11 : c.ba ≤ 64) (b12 : 1 ≤ c.ag) (b13 : ¬ c.ag ≤ 1024) : Calls Try.prog 38 #[cfgV c] w (BoolQ false w) := by
  unfold cfgV
  obtain ⟨W, hW⟩ : ∃ W, w.alloc (.cells #[iv c.p, iv c.pe, iv c.me, iv c.no, iv c.ed, iv c.ba, iv c.ag] 26) = W := ⟨_, rfl⟩
  have B0 : Below w.heap.size w W := by rw [← hW]; exact (Below.refl _ _).alloc (Nat.le_refl _) _
  have HB0 : W.heap[w.heap.size]? = some (.cells #[iv c.p, iv c.pe, iv c.me, iv c.no, iv c.ed, iv c.ba, iv c.ag] 26 (0, 0)) := by rw [← hW]; exact heap_alloc_new _ _
  obtain ⟨x0, x1, x2, x3, x4, x5, x6⟩ := cells7 HB0
  have HW := Lib.hid hW
  have BB := Lib.hid B0
  have hud : ∀ b : Bool, (undef = Value.bool b) = False := fun b => by simp [undef]
  clear hW HB0 B0
  go_enter Try.func38, Try.ntmps38
  go_wp2_with fail
  try rw [show w.alloc (.cells #[iv c.p, iv c.pe, iv c.me, iv c.no, iv c.ed, iv c.ba, iv c.ag] 26) = W from HW.out]
  go_wp2
  go_ret
  exact ⟨rfl, BB.out⟩
set_option maxRecDepth 100000 in
set_option maxHeartbeats 2000000 in
theorem rcv_14 (c : CV) (w : World) (b0 : 1 ≤ c.p) (b1 : c.p ≤ 8) (b2 : 1 ≤ c.pe) (b3 : c.pe ≤ 16) (b4 : 0 ≤ c.me) (b5 : c.me ≤ 512) (b6 : 1 ≤ c.no) (b7 : c.no ≤ 256) (b8 : 0 ≤ c.ed) (b9 : c.ed ≤ 1024) (b10 : 1 ≤ c.ba) (b11 : c.ba ≤ 64) (b12 : 1 ≤ c.ag) (b13 : c.ag ≤ 1024) : Calls Try.prog 38 #[cfgV c] w (BoolQ true w) := by
  unfold cfgV
  obtain ⟨W, hW⟩ : ∃ W, w.alloc (.cells #[iv c.p, iv c.pe, iv c.me, iv c.no, iv c.ed, iv c.ba, iv c.ag] 26) = W := ⟨_, rfl⟩
  have B0 : Below w.heap.size w W := by rw [← hW]; exact (Below.refl _ _).alloc (Nat.le_refl _) _
  have HB0 : W.heap[w.heap.size]? = some (.cells #[iv c.p, iv c.pe, iv c.me, iv c.no, iv c.ed, iv c.ba, iv c.ag] 26 (0, 0)) := by rw [← hW]; exact heap_alloc_new _ _
  obtain ⟨x0, x1, x2, x3, x4, x5, x6⟩ := cells7 HB0
  have HW := Lib.hid hW
  have BB := Lib.hid B0
  have hud : ∀ b : Bool, (undef = Value.bool b) = False := fun b => by simp [undef]
  clear hW HB0 B0
  go_enter Try.func38, Try.ntmps38
  go_wp2_with fail
  try rw [show w.alloc (.cells #[iv c.p, iv c.pe, iv c.me, iv c.no, iv c.ed, iv c.ba, iv c.ag] 26) = W from HW.out]
  go_wp2
  go_ret
  exact ⟨rfl, BB.out⟩
theorem rcvalid_any (c : CV) (w : World) : Calls Try.prog 38 #[cfgV c] w (BoolQ (cfgB c) w) := by
  by_cases b0 : 1 ≤ c.p
  rotate_left
  · have e : cfgB c = false := by simp only [cfgB, btwB, Bool.and_eq_false_imp, Bool.and_eq_true, decide_eq_true_eq, decide_eq_false_iff_not]; omega
    rw [e]; exact rcv_0 c w b0
  by_cases b1 : c.p ≤ 8
  rotate_left
  · have e : cfgB c = false := by simp only [cfgB, btwB, Bool.and_eq_false_imp, Bool.and_eq_true, decide_eq_true_eq, decide_eq_false_iff_not]; omega
    rw [e]; exact rcv_1 c w b0 b1
  by_cases b2 : 1 ≤ c.pe
  rotate_left
  · have e : cfgB c = false := by simp only [cfgB, btwB, Bool.and_eq_false_imp, Bool.and_eq_true, decide_eq_true_eq, decide_eq_false_iff_not]; omega
    rw [e]; exact rcv_2 c w b0 b1 b2
  by_cases b3 : c.pe ≤ 16
  rotate_left
  · have e : cfgB c = false := by simp only [cfgB, btwB, Bool.and_eq_false_imp, Bool.and_eq_true, decide_eq_true_eq, decide_eq_false_iff_not]; omega
    rw [e]; exact rcv_3 c w b0 b1 b2 b3
  by_cases b4 : 0 ≤ c.me
  rotate_left
  · have e : cfgB c = false := by simp only [cfgB, btwB, Bool.and_eq_false_imp, Bool.and_eq_true, decide_eq_true_eq, decide_eq_false_iff_not]; omega
    rw [e]; exact rcv_4 c w b0 b1 b2 b3 b4
  by_cases b5 : c.me ≤ 512
  rotate_left
  · have e : cfgB c = false := by simp only [cfgB, btwB, Bool.and_eq_false_imp, Bool.and_eq_true, decide_eq_true_eq, decide_eq_false_iff_not]; omega
    rw [e]; exact rcv_5 c w b0 b1 b2 b3 b4 b5
  by_cases b6 : 1 ≤ c.no
  rotate_left
  · have e : cfgB c = false := by simp only [cfgB, btwB, Bool.and_eq_false_imp, Bool.and_eq_true, decide_eq_true_eq, decide_eq_false_iff_not]; omega
    rw [e]; exact rcv_6 c w b0 b1 b2 b3 b4 b5 b6
  by_cases b7 : c.no ≤ 256
  rotate_left
  · have e : cfgB c = false := by simp only [cfgB, btwB, Bool.and_eq_false_imp, Bool.and_eq_true, decide_eq_true_eq, decide_eq_false_iff_not]; omega
    rw [e]; exact rcv_7 c w b0 b1 b2 b3 b4 b5 b6 b7
  by_cases b8 : 0 ≤ c.ed
  rotate_left
  · have e : cfgB c = false := by simp only [cfgB, btwB, Bool.and_eq_false_imp, Bool.and_eq_true, decide_eq_true_eq, decide_eq_false_iff_not]; omega
    rw [e]; exact rcv_8 c w b0 b1 b2 b3 b4 b5 b6 b7 b8
  by_cases b9 : c.ed ≤ 1024
  rotate_left
  · have e : cfgB c = false := by simp only [cfgB, btwB, Bool.and_eq_false_imp, Bool.and_eq_true, decide_eq_true_eq, decide_eq_false_iff_not]; omega
    rw [e]; exact rcv_9 c w b0 b1 b2 b3 b4 b5 b6 b7 b8 b9
  by_cases b10 : 1 ≤ c.ba
  rotate_left
  · have e : cfgB c = false := by simp only [cfgB, btwB, Bool.and_eq_false_imp, Bool.and_eq_true, decide_eq_true_eq, decide_eq_false_iff_not]; omega
    rw [e]; exact rcv_10 c w b0 b1 b2 b3 b4 b5 b6 b7 b8 b9 b10
  by_cases b11 : c.ba ≤ 64
  rotate_left
  · have e : cfgB c = false := by simp only [cfgB, btwB, Bool.and_eq_false_imp, Bool.and_eq_true, decide_eq_true_eq, decide_eq_false_iff_not]; omega
    rw [e]; exact rcv_11 c w b0 b1 b2 b3 b4 b5 b6 b7 b8 b9 b10 b11
  by_cases b12 : 1 ≤ c.ag
  rotate_left
  · have e : cfgB c = false := by simp only [cfgB, btwB, Bool.and_eq_false_imp, Bool.and_eq_true, decide_eq_true_eq, decide_eq_false_iff_not]; omega
    rw [e]; exact rcv_12 c w b0 b1 b2 b3 b4 b5 b6 b7 b8 b9 b10 b11 b12
  by_cases b13 : c.ag ≤ 1024
  rotate_left
  · have e : cfgB c = false := by simp only [cfgB, btwB, Bool.and_eq_false_imp, Bool.and_eq_true, decide_eq_true_eq, decide_eq_false_iff_not]; omega
    rw [e]; exact rcv_13 c w b0 b1 b2 b3 b4 b5 b6 b7 b8 b9 b10 b11 b12 b13
  have e : cfgB c = true := by simp only [cfgB, btwB, Bool.and_eq_true, decide_eq_true_eq]; omega
  rw [e]; exact rcv_14 c w b0 b1 b2 b3 b4 b5 b6 b7 b8 b9 b10 b11 b12 b13
end Go.Proofs.Ytbgoogjhgeoapaa
