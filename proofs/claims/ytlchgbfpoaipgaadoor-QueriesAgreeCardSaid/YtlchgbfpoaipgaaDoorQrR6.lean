/- Walks: the reference's Answer, Cancel. Printed by wip/gen_qrr6.py. -/
import Derived.Test.YtlchgbfpoaipgaaDoorQrR5
set_option linter.unusedVariables false
set_option linter.unusedSimpArgs false
set_option linter.unusedSectionVars false
namespace Go.Proofs.YtlchgbfpoaipgaaDoor
open Go.RowKit
variable [Base]

theorem rtvalid_eq {l : List QRec} {b : Bool} (hb : tabB l = b) (v : Value) (w : World) (h : RecsAt w v l) : Calls Tryd.prog 35 #[v] w (BoolQ b w) := hb ▸ rtvalid_any l v w h
set_option maxHeartbeats 1000000 in
theorem ranswer_any (l : List QRec) (x : Str) (s : QSet) (v u : Value) (w : World) (h : RecsAt w v l) (hu : WordsAt w u s.words) (hbs : Base.b ≤ w.heap.size) :
    Calls Tryd.prog 29 #[v, qs x, setV s u] w (TabQ (answerQ l x s) w) := by
  obtain ⟨a, c, rfl, hn, -, -, -⟩ := h.cell
  have HR := Lib.hid h
  obtain ⟨ua, uc, rfl, hum, -⟩ := hu.cell
  obtain ⟨un, hun⟩ : ∃ n, s.words.length = n := ⟨_, rfl⟩
  rw [hun] at hu hum ⊢
  have HU := Lib.hid hu
  obtain ⟨W, hW⟩ : ∃ W, w.alloc (.cells #[.int .i64 s.width, .slice ua un uc] 29) = W := ⟨_, rfl⟩
  have B0 : Below w.heap.size w W := by rw [← hW]; exact (Below.refl _ _).alloc (Nat.le_refl _) _
  have HB0 : W.heap[w.heap.size]? = some (.cells #[.int .i64 s.width, .slice ua un uc] 29 (0, 0)) := by rw [← hW]; exact heap_alloc_new _ _
  have hzz := lt_heap HB0
  have x0 := (lies_cells HB0).1 0
  have x1 := (lies_cells HB0).1 1
  simp only [List.getElem?_toArray, List.getElem?_cons_zero, List.getElem?_cons_succ] at x0 x1
  have HZ := Lib.hid hzz
  have H0 := Lib.hid HB0
  have BB := Lib.hid B0
  have HW := Lib.hid hW
  clear h hW HB0 B0 hzz hun hu
  rcases Bool.eq_false_or_eq_true (tabB l) with ht | ht
  rotate_left
  · have hr : answerQ l x s = ([], 1) := by unfold answerQ finishQ; simp [ht]
    rw [hr]
    clear hr
    go_enter Tryd.func29, Tryd.ntmps29
    go_wp2_with fail
    rw [show w.alloc (.cells #[.int .i64 s.width, .slice ua un uc] 29) = W from HW.out]
    go_wp2_with first | (go_at_call 35; refine (rtvalid_eq ht _ _ (HR.out.below BB.out)).mono ?_; rintro e w1 ⟨rfl, b1⟩; have B1 := Lib.hid b1; have y0 := (lies_cells (lies_below H0.out B1.out HZ.out)).1 0; have y1 := (lies_cells (lies_below H0.out B1.out HZ.out)).1 1; simp only [List.getElem?_toArray, List.getElem?_cons_zero, List.getElem?_cons_succ] at y0 y1; clear b1 x0 x1)
    go_ret2
    exact ⟨_, rfl, RecsAt.nil, BB.out.trans (B1.out.mono BB.out.size)⟩
  rcases Bool.eq_false_or_eq_true (setB s) with hs | hs
  rotate_left
  · have hr : answerQ l x s = ([], 1) := by unfold answerQ finishQ; simp [hs]
    rw [hr]
    clear hr
    go_enter Tryd.func29, Tryd.ntmps29
    go_wp2_with fail
    rw [show w.alloc (.cells #[.int .i64 s.width, .slice ua un uc] 29) = W from HW.out]
    go_wp2_with first | (go_at_call 35; refine (rtvalid_eq ht _ _ (HR.out.below BB.out)).mono ?_; rintro e w1 ⟨rfl, b1⟩; have B1 := Lib.hid b1; have y0 := (lies_cells (lies_below H0.out B1.out HZ.out)).1 0; have y1 := (lies_cells (lies_below H0.out B1.out HZ.out)).1 1; simp only [List.getElem?_toArray, List.getElem?_cons_zero, List.getElem?_cons_succ] at y0 y1; clear b1 x0 x1) | (go_at_call 46; refine (rsetB_ret hs _ _ (HU.out.below (BB.out.trans (B1.out.mono BB.out.size)))).mono ?_; rintro e w2 ⟨rfl, b2⟩; have B2 := Lib.hid (B1.out.trans (b2.mono B1.out.size)); have z0 := (lies_cells (lies_below H0.out B2.out HZ.out)).1 0; have z1 := (lies_cells (lies_below H0.out B2.out HZ.out)).1 1; simp only [List.getElem?_toArray, List.getElem?_cons_zero, List.getElem?_cons_succ] at z0 z1; clear b2 y0 y1)
    go_ret2
    exact ⟨_, rfl, RecsAt.nil, BB.out.trans (B2.out.mono BB.out.size)⟩
  go_enter Tryd.func29, Tryd.ntmps29
  go_wp2_with fail
  rw [show w.alloc (.cells #[.int .i64 s.width, .slice ua un uc] 29) = W from HW.out]
  go_wp2_with first | (go_at_call 35; refine (rtvalid_eq ht _ _ (HR.out.below BB.out)).mono ?_; rintro e w1 ⟨rfl, b1⟩; have B1 := Lib.hid b1; have y0 := (lies_cells (lies_below H0.out B1.out HZ.out)).1 0; have y1 := (lies_cells (lies_below H0.out B1.out HZ.out)).1 1; simp only [List.getElem?_toArray, List.getElem?_cons_zero, List.getElem?_cons_succ] at y0 y1; clear b1 x0 x1) | (go_at_call 46; refine (rsetB_ret hs _ _ (HU.out.below (BB.out.trans (B1.out.mono BB.out.size)))).mono ?_; rintro e w2 ⟨rfl, b2⟩; have B2 := Lib.hid (B1.out.trans (b2.mono B1.out.size)); have z0 := (lies_cells (lies_below H0.out B2.out HZ.out)).1 0; have z1 := (lies_cells (lies_below H0.out B2.out HZ.out)).1 1; simp only [List.getElem?_toArray, List.getElem?_cons_zero, List.getElem?_cons_succ] at z0 z1; clear b2 y0 y1) | (go_at_call 47; refine (rfinish_any l x 2 s _ (.slice ua un uc) _ ht hs (HR.out.below (BB.out.trans (B2.out.mono BB.out.size))) (HU.out.below (BB.out.trans (B2.out.mono BB.out.size))) (Nat.le_trans hbs (BB.out.trans (B2.out.mono BB.out.size)).size)).mono ?_; rintro e w3 ⟨v3, rfl, h3, b3⟩; have P := Lib.hid (And.intro h3 ((BB.out.trans (B2.out.mono BB.out.size)).trans (b3.mono (BB.out.trans (B2.out.mono BB.out.size)).size))); clear h3 b3)
  go_ret2
  exact ⟨_, rfl, P.out⟩
theorem zeroSet_ok : setB zeroSet = true := by decide
set_option maxHeartbeats 1000000 in
theorem rcancel_any (l : List QRec) (x : Str) (v : Value) (w : World) (h : RecsAt w v l) (hbs : Base.b ≤ w.heap.size) :
    Calls Tryd.prog 30 #[v, qs x] w (TabQ (cancelQ l x) w) := by
  obtain ⟨a, c, rfl, hn, -, -, -⟩ := h.cell
  have HR := Lib.hid h
  clear h
  rcases Bool.eq_false_or_eq_true (tabB l) with ht | ht
  rotate_left
  · have hr : cancelQ l x = ([], 1) := by unfold cancelQ finishQ; simp [ht]
    rw [hr]
    clear hr
    go_enter Tryd.func30, Tryd.ntmps30
    go_wp2_with first | (go_at_call 35; refine (rtvalid_eq ht _ _ HR.out).mono ?_; rintro e w1 ⟨rfl, b1⟩; have B1 := Lib.hid b1; clear b1)
    go_ret2
    exact ⟨_, rfl, RecsAt.nil, B1.out⟩
  go_enter Tryd.func30, Tryd.ntmps30
  go_wp2_with first | (go_at_call 35; refine (rtvalid_eq ht _ _ HR.out).mono ?_; rintro e w1 ⟨rfl, b1⟩; have B1 := Lib.hid b1; clear b1) | (go_at_call 47; refine (rfinish_any l x 3 zeroSet _ (.slice none 0 0) _ ht zeroSet_ok (HR.out.below B1.out) WordsAt.nil (Nat.le_trans hbs B1.out.size)).mono ?_; rintro e w3 ⟨v3, rfl, h3, b3⟩; have P := Lib.hid (And.intro h3 (B1.out.trans (b3.mono B1.out.size))); clear h3 b3)
  go_ret2
  exact ⟨_, rfl, P.out⟩
end Go.Proofs.YtlchgbfpoaipgaaDoor
