/- The reference's fits. Printed by wip/gen_qrr3.py. -/
import Derived.Test.YtlchgbfpoaipgaaDoorQrR3a
import Derived.Test.YtlchgbfpoaipgaaDoorQrR3b
import Derived.Test.YtlchgbfpoaipgaaDoorQrR3c
import Derived.Test.YtlchgbfpoaipgaaDoorQrR3d
set_option linter.unusedVariables false
set_option linter.unusedSimpArgs false
set_option linter.unusedSectionVars false
namespace Go.Proofs.YtlchgbfpoaipgaaDoor
open Go.RowKit
variable [Base]

theorem fits_any (r : QRec) (u : Value) (w : World) (h : WordsAt w u r.value.words) : Calls Tryd.prog 48 #[recV r u] w (BoolQ (recB r) w) := by
  rcases Bool.eq_false_or_eq_true (nameB r.id) with g0 | g0
  rotate_left
  · rw [show recB r = false by unfold recB; rw [g0]; rfl]
    exact fits_name r u w h g0
  by_cases h0 : 0 ≤ r.prog
  rotate_left
  · have hr : recB r = false := by
      unfold recB betweenB; simp [h0]
    rw [hr]
    exact fits_bad0 r u w h g0 h0
  by_cases h1 : r.prog ≤ 1073741824
  rotate_left
  · have hr : recB r = false := by
      unfold recB betweenB; simp [h1]
    rw [hr]
    exact fits_bad1 r u w h g0 h0 h1
  by_cases h2 : 0 ≤ r.node
  rotate_left
  · have hr : recB r = false := by
      unfold recB betweenB; simp [h2]
    rw [hr]
    exact fits_bad2 r u w h g0 h0 h1 h2
  by_cases h3 : r.node ≤ 1073741824
  rotate_left
  · have hr : recB r = false := by
      unfold recB betweenB; simp [h3]
    rw [hr]
    exact fits_bad3 r u w h g0 h0 h1 h2 h3
  by_cases h4 : 1 ≤ r.kind
  rotate_left
  · have hr : recB r = false := by
      unfold recB betweenB; simp [h4]
    rw [hr]
    exact fits_bad4 r u w h g0 h0 h1 h2 h3 h4
  by_cases h5 : r.kind ≤ 4
  rotate_left
  · have hr : recB r = false := by
      unfold recB betweenB; simp [h5]
    rw [hr]
    exact fits_bad5 r u w h g0 h0 h1 h2 h3 h4 h5
  by_cases h6 : 0 ≤ r.prio
  rotate_left
  · have hr : recB r = false := by
      unfold recB betweenB; simp [h6]
    rw [hr]
    exact fits_bad6 r u w h g0 h0 h1 h2 h3 h4 h5 h6
  by_cases h7 : r.prio ≤ 3
  rotate_left
  · have hr : recB r = false := by
      unfold recB betweenB; simp [h7]
    rw [hr]
    exact fits_bad7 r u w h g0 h0 h1 h2 h3 h4 h5 h6 h7
  by_cases h8 : 1 ≤ r.status
  rotate_left
  · have hr : recB r = false := by
      unfold recB statusB
      simp [show ¬ r.status = 1 by omega, show ¬ r.status = 2 by omega, show ¬ r.status = 3 by omega, show ¬ r.status = 4 by omega]
    rw [hr]
    exact fits_bad8 r u w h g0 h0 h1 h2 h3 h4 h5 h6 h7 h8
  by_cases h9 : r.status ≤ 4
  rotate_left
  · have hr : recB r = false := by
      unfold recB statusB
      simp [show ¬ r.status = 1 by omega, show ¬ r.status = 2 by omega, show ¬ r.status = 3 by omega, show ¬ r.status = 4 by omega]
    rw [hr]
    exact fits_bad9 r u w h g0 h0 h1 h2 h3 h4 h5 h6 h7 h8 h9
  have b1 : betweenB r.prog 0 1073741824 = true := by unfold betweenB; simp [h0, h1]
  have b2 : betweenB r.node 0 1073741824 = true := by unfold betweenB; simp [h2, h3]
  have b3 : betweenB r.kind 1 4 = true := by unfold betweenB; simp [h4, h5]
  have b4 : betweenB r.prio 0 3 = true := by unfold betweenB; simp [h6, h7]
  have hr : recB r = statusB r.status r.value := by unfold recB; simp [g0, b1, b2, b3, b4]
  rw [hr]
  by_cases hs : r.status = 2
  · rw [show statusB r.status r.value = setB r.value by unfold statusB; rw [if_pos hs]]
    rcases Bool.eq_false_or_eq_true (setB r.value) with hv | hv
    · rw [hv]; exact fits_ans_t r u w h g0 h0 h1 h2 h3 h4 h5 h6 h7 h8 h9 hs hv
    · rw [hv]; exact fits_ans_f r u w h g0 h0 h1 h2 h3 h4 h5 h6 h7 h8 h9 hs hv
  · rw [show statusB r.status r.value = zeroB r.value by unfold statusB; rw [if_neg hs, show decide (r.status = 1 ∨ r.status = 3 ∨ r.status = 4) = true by simp; omega, Bool.true_and]]
    exact fits_none r u w h g0 h0 h1 h2 h3 h4 h5 h6 h7 h8 h9 hs
end Go.Proofs.YtlchgbfpoaipgaaDoor
