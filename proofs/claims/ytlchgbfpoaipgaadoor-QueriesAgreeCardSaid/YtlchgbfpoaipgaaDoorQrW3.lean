/- Walks: a record that is valid by itself (queries.valid). Printed by wip/gen_qrw3.py. -/
import Derived.Test.YtlchgbfpoaipgaaDoorQrW2
import Derived.Test.YtlchgbfpoaipgaaDoorKw
set_option linter.unusedVariables false
set_option linter.unusedSimpArgs false
set_option linter.unusedSectionVars false
namespace Go.Proofs.YtlchgbfpoaipgaaDoor
open Go.RowKit
variable [Base]

theorem nameB_ret {x : Str} {b : Bool} (h : nameB x = b) (w : World) (KW : KwAt w) : Calls Tryd.prog 41 #[qs x] w fun e w' => e = .returned (.bool b) ∧ ∃ k, w' = w.drewN k := h ▸ isname_any ⟨x.toArray⟩ w KW
theorem setB_ret {s : QSet} {b : Bool} (hb : setB s = b) (u : Value) (w : World) (h : WordsAt w u s.words) : Calls Tryd.prog 43 #[setV s u] w (BoolQ b w) := hb ▸ bvalid_any s u w h
theorem zeroB_ret {s : QSet} {b : Bool} (hb : zeroB s = b) (u : Value) (w : World) (h : WordsAt w u s.words) : Calls Tryd.prog 44 #[setV s u] w (BoolQ b w) := hb ▸ zero_any s u w h
theorem rvalid_any {B : Nat} (r : QRec) (u : Value) (w : World) (KW : KwIn B w) (hB : B ≤ w.heap.size) (h : WordsAt w u r.value.words) : Calls Tryd.prog 24 #[recV r u] w (BoolQ (recB r) w) := by
  obtain ⟨W, hW⟩ : ∃ W, w.alloc (.cells #[qs r.id, .int .i64 r.prog, .int .i64 r.kind, .int .i64 r.node, .int .i64 r.prio, .int .i64 r.status, .int .i64 r.value.width, u] 31) = W := ⟨_, rfl⟩
  have B0 : Below w.heap.size w W := by rw [← hW]; exact (Below.refl _ _).alloc (Nat.le_refl _) _
  have HB0 : W.heap[w.heap.size]? = some (.cells #[qs r.id, .int .i64 r.prog, .int .i64 r.kind, .int .i64 r.node, .int .i64 r.prio, .int .i64 r.status, .int .i64 r.value.width, u] 31 (0, 0)) := by rw [← hW]; exact heap_alloc_new _ _
  have x0 := (lies_cells HB0).1 0
  have x1 := (lies_cells HB0).1 1
  have x2 := (lies_cells HB0).1 2
  have x3 := (lies_cells HB0).1 3
  have x4 := (lies_cells HB0).1 4
  have x5 := (lies_cells HB0).1 5
  have x6 := (lies_cells HB0).1 6
  have x7 := (lies_cells HB0).1 7
  simp at x0 x1 x2 x3 x4 x5 x6 x7
  have KWW := Lib.hid (KW.at_ (B0.mono hB))
  have HH := Lib.hid (h.below B0)
  have HW := Lib.hid hW
  have BB := Lib.hid B0
  clear hW HB0 B0 KW h
  rcases Bool.eq_false_or_eq_true (nameB r.id) with g0 | g0
  rotate_left
  · have hr : recB r = false := by unfold recB; simp only [g0, Bool.true_and, Bool.false_and]
    rw [hr]
    go_enter Tryd.func24, Tryd.ntmps24
    go_wp2_with fail
    rw [show w.alloc (.cells #[qs r.id, .int .i64 r.prog, .int .i64 r.kind, .int .i64 r.node, .int .i64 r.prio, .int .i64 r.status, .int .i64 r.value.width, u] 31) = W from HW.out]
    go_wp2_with first | (go_at_call 41; refine (nameB_ret g0 _ KWW.out).mono ?_; rintro e v ⟨rfl, k, rfl⟩) | (go_at_call 42; refine (between_eq (by assumption) _).mono ?_; rintro e v ⟨rfl, rfl⟩) | (go_at_call 43; refine (setB_ret hv u _ (HH.out.keep (SameT.below (below_drewQ (Below.refl _ _) _)))).mono ?_; rintro e v ⟨rfl, b2⟩; have B2 := Lib.hid b2; clear b2) | (go_at_call 44; refine (zeroB_ret hv u _ (HH.out.keep (SameT.below (below_drewQ (Below.refl _ _) _)))).mono ?_; rintro e v ⟨rfl, b2⟩; have B2 := Lib.hid b2; clear b2)
    go_ret
    exact ⟨rfl, BB.out.trans (below_drewQ (Below.refl _ _) _)⟩
  rcases Bool.eq_false_or_eq_true (betweenB r.prog 0 1073741824) with g1 | g1
  rotate_left
  · have hr : recB r = false := by unfold recB; simp only [g0, g1, Bool.true_and, Bool.false_and]
    rw [hr]
    go_enter Tryd.func24, Tryd.ntmps24
    go_wp2_with fail
    rw [show w.alloc (.cells #[qs r.id, .int .i64 r.prog, .int .i64 r.kind, .int .i64 r.node, .int .i64 r.prio, .int .i64 r.status, .int .i64 r.value.width, u] 31) = W from HW.out]
    go_wp2_with first | (go_at_call 41; refine (nameB_ret g0 _ KWW.out).mono ?_; rintro e v ⟨rfl, k, rfl⟩) | (go_at_call 42; refine (between_eq (by assumption) _).mono ?_; rintro e v ⟨rfl, rfl⟩) | (go_at_call 43; refine (setB_ret hv u _ (HH.out.keep (SameT.below (below_drewQ (Below.refl _ _) _)))).mono ?_; rintro e v ⟨rfl, b2⟩; have B2 := Lib.hid b2; clear b2) | (go_at_call 44; refine (zeroB_ret hv u _ (HH.out.keep (SameT.below (below_drewQ (Below.refl _ _) _)))).mono ?_; rintro e v ⟨rfl, b2⟩; have B2 := Lib.hid b2; clear b2)
    go_ret
    exact ⟨rfl, BB.out.trans (below_drewQ (Below.refl _ _) _)⟩
  rcases Bool.eq_false_or_eq_true (betweenB r.node 0 1073741824) with g2 | g2
  rotate_left
  · have hr : recB r = false := by unfold recB; simp only [g0, g1, g2, Bool.true_and, Bool.false_and]
    rw [hr]
    go_enter Tryd.func24, Tryd.ntmps24
    go_wp2_with fail
    rw [show w.alloc (.cells #[qs r.id, .int .i64 r.prog, .int .i64 r.kind, .int .i64 r.node, .int .i64 r.prio, .int .i64 r.status, .int .i64 r.value.width, u] 31) = W from HW.out]
    go_wp2_with first | (go_at_call 41; refine (nameB_ret g0 _ KWW.out).mono ?_; rintro e v ⟨rfl, k, rfl⟩) | (go_at_call 42; refine (between_eq (by assumption) _).mono ?_; rintro e v ⟨rfl, rfl⟩) | (go_at_call 43; refine (setB_ret hv u _ (HH.out.keep (SameT.below (below_drewQ (Below.refl _ _) _)))).mono ?_; rintro e v ⟨rfl, b2⟩; have B2 := Lib.hid b2; clear b2) | (go_at_call 44; refine (zeroB_ret hv u _ (HH.out.keep (SameT.below (below_drewQ (Below.refl _ _) _)))).mono ?_; rintro e v ⟨rfl, b2⟩; have B2 := Lib.hid b2; clear b2)
    go_ret
    exact ⟨rfl, BB.out.trans (below_drewQ (Below.refl _ _) _)⟩
  rcases Bool.eq_false_or_eq_true (betweenB r.kind 1 4) with g3 | g3
  rotate_left
  · have hr : recB r = false := by unfold recB; simp only [g0, g1, g2, g3, Bool.true_and, Bool.false_and]
    rw [hr]
    go_enter Tryd.func24, Tryd.ntmps24
    go_wp2_with fail
    rw [show w.alloc (.cells #[qs r.id, .int .i64 r.prog, .int .i64 r.kind, .int .i64 r.node, .int .i64 r.prio, .int .i64 r.status, .int .i64 r.value.width, u] 31) = W from HW.out]
    go_wp2_with first | (go_at_call 41; refine (nameB_ret g0 _ KWW.out).mono ?_; rintro e v ⟨rfl, k, rfl⟩) | (go_at_call 42; refine (between_eq (by assumption) _).mono ?_; rintro e v ⟨rfl, rfl⟩) | (go_at_call 43; refine (setB_ret hv u _ (HH.out.keep (SameT.below (below_drewQ (Below.refl _ _) _)))).mono ?_; rintro e v ⟨rfl, b2⟩; have B2 := Lib.hid b2; clear b2) | (go_at_call 44; refine (zeroB_ret hv u _ (HH.out.keep (SameT.below (below_drewQ (Below.refl _ _) _)))).mono ?_; rintro e v ⟨rfl, b2⟩; have B2 := Lib.hid b2; clear b2)
    go_ret
    exact ⟨rfl, BB.out.trans (below_drewQ (Below.refl _ _) _)⟩
  rcases Bool.eq_false_or_eq_true (betweenB r.prio 0 3) with g4 | g4
  rotate_left
  · have hr : recB r = false := by unfold recB; simp only [g0, g1, g2, g3, g4, Bool.true_and, Bool.false_and]
    rw [hr]
    go_enter Tryd.func24, Tryd.ntmps24
    go_wp2_with fail
    rw [show w.alloc (.cells #[qs r.id, .int .i64 r.prog, .int .i64 r.kind, .int .i64 r.node, .int .i64 r.prio, .int .i64 r.status, .int .i64 r.value.width, u] 31) = W from HW.out]
    go_wp2_with first | (go_at_call 41; refine (nameB_ret g0 _ KWW.out).mono ?_; rintro e v ⟨rfl, k, rfl⟩) | (go_at_call 42; refine (between_eq (by assumption) _).mono ?_; rintro e v ⟨rfl, rfl⟩) | (go_at_call 43; refine (setB_ret hv u _ (HH.out.keep (SameT.below (below_drewQ (Below.refl _ _) _)))).mono ?_; rintro e v ⟨rfl, b2⟩; have B2 := Lib.hid b2; clear b2) | (go_at_call 44; refine (zeroB_ret hv u _ (HH.out.keep (SameT.below (below_drewQ (Below.refl _ _) _)))).mono ?_; rintro e v ⟨rfl, b2⟩; have B2 := Lib.hid b2; clear b2)
    go_ret
    exact ⟨rfl, BB.out.trans (below_drewQ (Below.refl _ _) _)⟩
  by_cases s2 : r.status = 2
  · obtain ⟨b, hv⟩ : ∃ b, setB r.value = b := ⟨_, rfl⟩
    have hr : recB r = b := by unfold recB statusB; simp [g0, g1, g2, g3, g4, s2, hv]
    rw [hr]
    rw [s2] at x5
    clear hr s2
    go_enter Tryd.func24, Tryd.ntmps24
    go_wp2_with fail
    rw [show w.alloc (.cells #[qs r.id, .int .i64 r.prog, .int .i64 r.kind, .int .i64 r.node, .int .i64 r.prio, .int .i64 r.status, .int .i64 r.value.width, u] 31) = W from HW.out]
    go_wp2_with first | (go_at_call 41; refine (nameB_ret g0 _ KWW.out).mono ?_; rintro e v ⟨rfl, k, rfl⟩) | (go_at_call 42; refine (between_eq (by assumption) _).mono ?_; rintro e v ⟨rfl, rfl⟩) | (go_at_call 43; refine (setB_ret hv u _ (HH.out.keep (SameT.below (below_drewQ (Below.refl _ _) _)))).mono ?_; rintro e v ⟨rfl, b2⟩; have B2 := Lib.hid b2; clear b2) | (go_at_call 44; refine (zeroB_ret hv u _ (HH.out.keep (SameT.below (below_drewQ (Below.refl _ _) _)))).mono ?_; rintro e v ⟨rfl, b2⟩; have B2 := Lib.hid b2; clear b2)
    go_ret
    exact ⟨rfl, BB.out.trans ((below_drewQ (Below.refl _ _) _).trans (B2.out.mono BB.out.size))⟩
  by_cases s1 : r.status = 1
  · obtain ⟨b, hv⟩ : ∃ b, zeroB r.value = b := ⟨_, rfl⟩
    have hr : recB r = b := by unfold recB statusB; simp [g0, g1, g2, g3, g4, s1, hv]
    rw [hr]
    rw [s1] at x5
    clear hr s1
    go_enter Tryd.func24, Tryd.ntmps24
    go_wp2_with fail
    rw [show w.alloc (.cells #[qs r.id, .int .i64 r.prog, .int .i64 r.kind, .int .i64 r.node, .int .i64 r.prio, .int .i64 r.status, .int .i64 r.value.width, u] 31) = W from HW.out]
    go_wp2_with first | (go_at_call 41; refine (nameB_ret g0 _ KWW.out).mono ?_; rintro e v ⟨rfl, k, rfl⟩) | (go_at_call 42; refine (between_eq (by assumption) _).mono ?_; rintro e v ⟨rfl, rfl⟩) | (go_at_call 43; refine (setB_ret hv u _ (HH.out.keep (SameT.below (below_drewQ (Below.refl _ _) _)))).mono ?_; rintro e v ⟨rfl, b2⟩; have B2 := Lib.hid b2; clear b2) | (go_at_call 44; refine (zeroB_ret hv u _ (HH.out.keep (SameT.below (below_drewQ (Below.refl _ _) _)))).mono ?_; rintro e v ⟨rfl, b2⟩; have B2 := Lib.hid b2; clear b2)
    go_ret
    exact ⟨rfl, BB.out.trans ((below_drewQ (Below.refl _ _) _).trans (B2.out.mono BB.out.size))⟩
  by_cases s3 : r.status = 3
  · obtain ⟨b, hv⟩ : ∃ b, zeroB r.value = b := ⟨_, rfl⟩
    have hr : recB r = b := by unfold recB statusB; simp [g0, g1, g2, g3, g4, s3, hv]
    rw [hr]
    rw [s3] at x5
    clear hr s3
    go_enter Tryd.func24, Tryd.ntmps24
    go_wp2_with fail
    rw [show w.alloc (.cells #[qs r.id, .int .i64 r.prog, .int .i64 r.kind, .int .i64 r.node, .int .i64 r.prio, .int .i64 r.status, .int .i64 r.value.width, u] 31) = W from HW.out]
    go_wp2_with first | (go_at_call 41; refine (nameB_ret g0 _ KWW.out).mono ?_; rintro e v ⟨rfl, k, rfl⟩) | (go_at_call 42; refine (between_eq (by assumption) _).mono ?_; rintro e v ⟨rfl, rfl⟩) | (go_at_call 43; refine (setB_ret hv u _ (HH.out.keep (SameT.below (below_drewQ (Below.refl _ _) _)))).mono ?_; rintro e v ⟨rfl, b2⟩; have B2 := Lib.hid b2; clear b2) | (go_at_call 44; refine (zeroB_ret hv u _ (HH.out.keep (SameT.below (below_drewQ (Below.refl _ _) _)))).mono ?_; rintro e v ⟨rfl, b2⟩; have B2 := Lib.hid b2; clear b2)
    go_ret
    exact ⟨rfl, BB.out.trans ((below_drewQ (Below.refl _ _) _).trans (B2.out.mono BB.out.size))⟩
  by_cases s4 : r.status = 4
  · obtain ⟨b, hv⟩ : ∃ b, zeroB r.value = b := ⟨_, rfl⟩
    have hr : recB r = b := by unfold recB statusB; simp [g0, g1, g2, g3, g4, s4, hv]
    rw [hr]
    rw [s4] at x5
    clear hr s4
    go_enter Tryd.func24, Tryd.ntmps24
    go_wp2_with fail
    rw [show w.alloc (.cells #[qs r.id, .int .i64 r.prog, .int .i64 r.kind, .int .i64 r.node, .int .i64 r.prio, .int .i64 r.status, .int .i64 r.value.width, u] 31) = W from HW.out]
    go_wp2_with first | (go_at_call 41; refine (nameB_ret g0 _ KWW.out).mono ?_; rintro e v ⟨rfl, k, rfl⟩) | (go_at_call 42; refine (between_eq (by assumption) _).mono ?_; rintro e v ⟨rfl, rfl⟩) | (go_at_call 43; refine (setB_ret hv u _ (HH.out.keep (SameT.below (below_drewQ (Below.refl _ _) _)))).mono ?_; rintro e v ⟨rfl, b2⟩; have B2 := Lib.hid b2; clear b2) | (go_at_call 44; refine (zeroB_ret hv u _ (HH.out.keep (SameT.below (below_drewQ (Below.refl _ _) _)))).mono ?_; rintro e v ⟨rfl, b2⟩; have B2 := Lib.hid b2; clear b2)
    go_ret
    exact ⟨rfl, BB.out.trans ((below_drewQ (Below.refl _ _) _).trans (B2.out.mono BB.out.size))⟩
  have hr : recB r = false := by unfold recB statusB; simp [s1, s2, s3, s4]
  rw [hr]
  have t1 : (r.status == 1) = false := by simpa using s1
  have t2 : (r.status == 2) = false := by simpa using s2
  have t3 : (r.status == 3) = false := by simpa using s3
  have t4 : (r.status == 4) = false := by simpa using s4
  go_enter Tryd.func24, Tryd.ntmps24
  go_wp2_with fail
  rw [show w.alloc (.cells #[qs r.id, .int .i64 r.prog, .int .i64 r.kind, .int .i64 r.node, .int .i64 r.prio, .int .i64 r.status, .int .i64 r.value.width, u] 31) = W from HW.out]
  go_wp2_with first | (go_at_call 41; refine (nameB_ret g0 _ KWW.out).mono ?_; rintro e v ⟨rfl, k, rfl⟩) | (go_at_call 42; refine (between_eq (by assumption) _).mono ?_; rintro e v ⟨rfl, rfl⟩) | (go_at_call 43; refine (setB_ret hv u _ (HH.out.keep (SameT.below (below_drewQ (Below.refl _ _) _)))).mono ?_; rintro e v ⟨rfl, b2⟩; have B2 := Lib.hid b2; clear b2) | (go_at_call 44; refine (zeroB_ret hv u _ (HH.out.keep (SameT.below (below_drewQ (Below.refl _ _) _)))).mono ?_; rintro e v ⟨rfl, b2⟩; have B2 := Lib.hid b2; clear b2)
  go_ret
  exact ⟨rfl, BB.out.trans (below_drewQ (Below.refl _ _) _)⟩
end Go.Proofs.YtlchgbfpoaipgaaDoor
