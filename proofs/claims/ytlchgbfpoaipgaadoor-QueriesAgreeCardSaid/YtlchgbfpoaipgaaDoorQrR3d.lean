/- Walks: the reference's fits, a part. Printed by wip/gen_qrr3.py. -/
import Derived.Test.YtlchgbfpoaipgaaDoorQrR3h
set_option linter.unusedVariables false
set_option linter.unusedSimpArgs false
set_option linter.unusedSectionVars false
namespace Go.Proofs.YtlchgbfpoaipgaaDoor
open Go.RowKit
variable [Base]

set_option maxHeartbeats 2000000 in
set_option maxRecDepth 100000 in
theorem fits_ans_t (r : QRec) (u : Value) (w : World) (h : WordsAt w u r.value.words) (g0 : nameB r.id = true) (h0 : 0 ≤ r.prog) (h1 : r.prog ≤ 1073741824) (h2 : 0 ≤ r.node) (h3 : r.node ≤ 1073741824) (h4 : 1 ≤ r.kind) (h5 : r.kind ≤ 4) (h6 : 0 ≤ r.prio) (h7 : r.prio ≤ 3) (h8 : 1 ≤ r.status) (h9 : r.status ≤ 4) (hs : r.status = 2) (hv : setB r.value = true) : Calls Tryd.prog 48 #[recV r u] w (BoolQ true w) := by
  obtain ⟨ua, uc, rfl, hum, -⟩ := h.cell
  obtain ⟨un, hun⟩ : ∃ n, r.value.words.length = n := ⟨_, rfl⟩
  rw [hun] at h ⊢
  obtain ⟨W, hW⟩ : ∃ W, w.alloc (.cells #[qs r.id, .int .i64 r.prog, .int .i64 r.kind, .int .i64 r.node, .int .i64 r.prio, .int .i64 r.status, .int .i64 r.value.width, .slice ua un uc] 31) = W := ⟨_, rfl⟩
  have B0 : Below w.heap.size w W := by rw [← hW]; exact (Below.refl _ _).alloc (Nat.le_refl _) _
  have HB0 : W.heap[w.heap.size]? = some (.cells #[qs r.id, .int .i64 r.prog, .int .i64 r.kind, .int .i64 r.node, .int .i64 r.prio, .int .i64 r.status, .int .i64 r.value.width, .slice ua un uc] 31 (0, 0)) := by rw [← hW]; exact heap_alloc_new _ _
  obtain ⟨x0, x1, x2, x3, x4, x5, x6, x7⟩ := cells8 HB0
  have HH := Lib.hid (h.below B0)
  have HZ := Lib.hid (lt_heap HB0)
  have H0 := Lib.hid HB0
  have HW := Lib.hid hW
  have BB := Lib.hid B0
  have HUN := Lib.hid hun
  have hud : ∀ b : Bool, (undef = Value.bool b) = False := fun b => by simp [undef]
  clear hW HB0 B0 h hun
  rw [hs] at x5 H0
  have g2 : ((2 : Int) == 2) = true := rfl
  clear hs h8 h9
  obtain ⟨nb, hnb⟩ : ∃ b, ((un : Int) == 0) = b := ⟨_, rfl⟩
  rcases Bool.eq_false_or_eq_true (r.value.width == 0) with hwb | hwb
  all_goals
   go_enter Tryd.func48, Tryd.ntmps48
   go_wp2_with fail
   rw [show w.alloc (.cells #[qs r.id, .int .i64 r.prog, .int .i64 r.kind, .int .i64 r.node, .int .i64 r.prio, .int .i64 r.status, .int .i64 r.value.width, .slice ua un uc] 31) = W from HW.out]
   go_wp2_with first | (go_at_call 57; refine (rnameB_ret g0 _).mono ?_; rintro e w2 ⟨rfl, b2⟩; have B2 := Lib.hid b2; have H2 := Lib.hid (lies_below H0.out b2 HZ.out); obtain ⟨y0, y1, y2, y3, y4, y5, y6, y7⟩ := cells8 H2.out; clear b2 x0 x1 x2 x3 x4 x5 x6 x7) | (go_at_call 46; refine (rsetB_ret hv (.slice ua un uc) _ (HH.out.below B2.out)).mono ?_; rintro e w3 ⟨rfl, b3⟩; have B3 := Lib.hid (B2.out.trans (b3.mono B2.out.size)); have H3 := Lib.hid (lies_below H2.out b3 (lt_heap H2.out)); obtain ⟨z0, z1, z2, z3, z4, z5, z6, z7⟩ := cells8 H3.out; clear b3)
   go_ret
   exact ⟨rfl, BB.out.trans (B3.out.mono BB.out.size)⟩
set_option maxHeartbeats 2000000 in
set_option maxRecDepth 100000 in
theorem fits_ans_f (r : QRec) (u : Value) (w : World) (h : WordsAt w u r.value.words) (g0 : nameB r.id = true) (h0 : 0 ≤ r.prog) (h1 : r.prog ≤ 1073741824) (h2 : 0 ≤ r.node) (h3 : r.node ≤ 1073741824) (h4 : 1 ≤ r.kind) (h5 : r.kind ≤ 4) (h6 : 0 ≤ r.prio) (h7 : r.prio ≤ 3) (h8 : 1 ≤ r.status) (h9 : r.status ≤ 4) (hs : r.status = 2) (hv : setB r.value = false) : Calls Tryd.prog 48 #[recV r u] w (BoolQ false w) := by
  obtain ⟨ua, uc, rfl, hum, -⟩ := h.cell
  obtain ⟨un, hun⟩ : ∃ n, r.value.words.length = n := ⟨_, rfl⟩
  rw [hun] at h ⊢
  obtain ⟨W, hW⟩ : ∃ W, w.alloc (.cells #[qs r.id, .int .i64 r.prog, .int .i64 r.kind, .int .i64 r.node, .int .i64 r.prio, .int .i64 r.status, .int .i64 r.value.width, .slice ua un uc] 31) = W := ⟨_, rfl⟩
  have B0 : Below w.heap.size w W := by rw [← hW]; exact (Below.refl _ _).alloc (Nat.le_refl _) _
  have HB0 : W.heap[w.heap.size]? = some (.cells #[qs r.id, .int .i64 r.prog, .int .i64 r.kind, .int .i64 r.node, .int .i64 r.prio, .int .i64 r.status, .int .i64 r.value.width, .slice ua un uc] 31 (0, 0)) := by rw [← hW]; exact heap_alloc_new _ _
  obtain ⟨x0, x1, x2, x3, x4, x5, x6, x7⟩ := cells8 HB0
  have HH := Lib.hid (h.below B0)
  have HZ := Lib.hid (lt_heap HB0)
  have H0 := Lib.hid HB0
  have HW := Lib.hid hW
  have BB := Lib.hid B0
  have HUN := Lib.hid hun
  have hud : ∀ b : Bool, (undef = Value.bool b) = False := fun b => by simp [undef]
  clear hW HB0 B0 h hun
  rw [hs] at x5 H0
  have g2 : ((2 : Int) == 2) = true := rfl
  clear hs h8 h9
  obtain ⟨nb, hnb⟩ : ∃ b, ((un : Int) == 0) = b := ⟨_, rfl⟩
  rcases Bool.eq_false_or_eq_true (r.value.width == 0) with hwb | hwb
  all_goals
   go_enter Tryd.func48, Tryd.ntmps48
   go_wp2_with fail
   rw [show w.alloc (.cells #[qs r.id, .int .i64 r.prog, .int .i64 r.kind, .int .i64 r.node, .int .i64 r.prio, .int .i64 r.status, .int .i64 r.value.width, .slice ua un uc] 31) = W from HW.out]
   go_wp2_with first | (go_at_call 57; refine (rnameB_ret g0 _).mono ?_; rintro e w2 ⟨rfl, b2⟩; have B2 := Lib.hid b2; have H2 := Lib.hid (lies_below H0.out b2 HZ.out); obtain ⟨y0, y1, y2, y3, y4, y5, y6, y7⟩ := cells8 H2.out; clear b2 x0 x1 x2 x3 x4 x5 x6 x7) | (go_at_call 46; refine (rsetB_ret hv (.slice ua un uc) _ (HH.out.below B2.out)).mono ?_; rintro e w3 ⟨rfl, b3⟩; have B3 := Lib.hid (B2.out.trans (b3.mono B2.out.size)); have H3 := Lib.hid (lies_below H2.out b3 (lt_heap H2.out)); obtain ⟨z0, z1, z2, z3, z4, z5, z6, z7⟩ := cells8 H3.out; clear b3)
   go_ret
   exact ⟨rfl, BB.out.trans (B3.out.mono BB.out.size)⟩
set_option maxHeartbeats 2000000 in
set_option maxRecDepth 100000 in
theorem fits_none (r : QRec) (u : Value) (w : World) (h : WordsAt w u r.value.words) (g0 : nameB r.id = true) (h0 : 0 ≤ r.prog) (h1 : r.prog ≤ 1073741824) (h2 : 0 ≤ r.node) (h3 : r.node ≤ 1073741824) (h4 : 1 ≤ r.kind) (h5 : r.kind ≤ 4) (h6 : 0 ≤ r.prio) (h7 : r.prio ≤ 3) (h8 : 1 ≤ r.status) (h9 : r.status ≤ 4) (hs : r.status ≠ 2) : Calls Tryd.prog 48 #[recV r u] w (BoolQ (zeroB r.value) w) := by
  obtain ⟨ua, uc, rfl, hum, -⟩ := h.cell
  obtain ⟨un, hun⟩ : ∃ n, r.value.words.length = n := ⟨_, rfl⟩
  rw [hun] at h ⊢
  obtain ⟨W, hW⟩ : ∃ W, w.alloc (.cells #[qs r.id, .int .i64 r.prog, .int .i64 r.kind, .int .i64 r.node, .int .i64 r.prio, .int .i64 r.status, .int .i64 r.value.width, .slice ua un uc] 31) = W := ⟨_, rfl⟩
  have B0 : Below w.heap.size w W := by rw [← hW]; exact (Below.refl _ _).alloc (Nat.le_refl _) _
  have HB0 : W.heap[w.heap.size]? = some (.cells #[qs r.id, .int .i64 r.prog, .int .i64 r.kind, .int .i64 r.node, .int .i64 r.prio, .int .i64 r.status, .int .i64 r.value.width, .slice ua un uc] 31 (0, 0)) := by rw [← hW]; exact heap_alloc_new _ _
  obtain ⟨x0, x1, x2, x3, x4, x5, x6, x7⟩ := cells8 HB0
  have HH := Lib.hid (h.below B0)
  have HZ := Lib.hid (lt_heap HB0)
  have H0 := Lib.hid HB0
  have HW := Lib.hid hW
  have BB := Lib.hid B0
  have HUN := Lib.hid hun
  have hud : ∀ b : Bool, (undef = Value.bool b) = False := fun b => by simp [undef]
  clear hW HB0 B0 h hun
  have s2 : (r.status == 2) = false := by simpa using hs
  have s3 : (r.status != 2) = true := by simpa using hs
  clear hs
  obtain ⟨nb, hnb⟩ : ∃ b, ((un : Int) == 0) = b := ⟨_, rfl⟩
  rcases Bool.eq_false_or_eq_true (r.value.width == 0) with hwb | hwb
  · have hz : zeroB r.value = nb := by
      have h1 : r.value.width = 0 := by simpa using hwb
      rw [← hnb]
      unfold zeroB
      rw [h1, ← HUN.out]
      cases r.value.words <;> simp
      omega
    have HZB := Lib.hid hz
    clear hz
    go_enter Tryd.func48, Tryd.ntmps48
    go_wp2_with fail
    rw [show w.alloc (.cells #[qs r.id, .int .i64 r.prog, .int .i64 r.kind, .int .i64 r.node, .int .i64 r.prio, .int .i64 r.status, .int .i64 r.value.width, .slice ua un uc] 31) = W from HW.out]
    go_wp2_with (go_at_call 57; refine (rnameB_ret g0 _).mono ?_; rintro e w2 ⟨rfl, b2⟩; have B2 := Lib.hid b2; have H2 := Lib.hid (lies_below H0.out b2 HZ.out); obtain ⟨y0, y1, y2, y3, y4, y5, y6, y7⟩ := cells8 H2.out; clear b2 x0 x1 x2 x3 x4 x5 x6 x7)
    go_ret
    exact ⟨ret_boolQ HZB.out.symm, BB.out.trans (B2.out.mono BB.out.size)⟩
  · have hz : zeroB r.value = false := by
      have h1 : ¬ r.value.width = 0 := by simpa using hwb
      unfold zeroB
      simp [h1]
    rw [hz]
    clear hz
    go_enter Tryd.func48, Tryd.ntmps48
    go_wp2_with fail
    rw [show w.alloc (.cells #[qs r.id, .int .i64 r.prog, .int .i64 r.kind, .int .i64 r.node, .int .i64 r.prio, .int .i64 r.status, .int .i64 r.value.width, .slice ua un uc] 31) = W from HW.out]
    go_wp2_with (go_at_call 57; refine (rnameB_ret g0 _).mono ?_; rintro e w2 ⟨rfl, b2⟩; have B2 := Lib.hid b2; have H2 := Lib.hid (lies_below H0.out b2 HZ.out); obtain ⟨y0, y1, y2, y3, y4, y5, y6, y7⟩ := cells8 H2.out; clear b2 x0 x1 x2 x3 x4 x5 x6 x7)
    go_ret
    exact ⟨rfl, BB.out.trans (B2.out.mono BB.out.size)⟩
end Go.Proofs.YtlchgbfpoaipgaaDoor
