/- Walks: the program's Inter. Printed by wip/gen_bsx.py. -/
import Derived.Test.YtmanmlankfoflaaDoorBsXi
set_option linter.unusedVariables false
set_option linter.unusedSimpArgs false
set_option linter.unusedSectionVars false
namespace Go.Proofs.YtmanmlankfoflaaDoor
open Go.RowKit
variable [Base]

set_option maxHeartbeats 1000000 in
theorem binter_any (s t : QSet) (u1 u2 : Value) (w : World) (h1 : WordsAt w u1 s.words) (h2 : WordsAt w u2 t.words) :
    Calls Tryd.prog 27 #[setV s u1, setV t u2] w (SetE (mergeS ((· &&& ·)) s t) w) := by
  obtain ⟨a1, n1, c1, rfl⟩ : ∃ a n c, u1 = .slice a n c := by obtain ⟨a, c, rfl, -⟩ := h1.cell; exact ⟨_, _, _, rfl⟩
  obtain ⟨a2, n2, c2, rfl⟩ : ∃ a n c, u2 = .slice a n c := by obtain ⟨a, c, rfl, -⟩ := h2.cell; exact ⟨_, _, _, rfl⟩
  have R1 := Lib.hid h1
  have R2 := Lib.hid h2
  obtain ⟨W, hW⟩ : ∃ W, ((w.alloc (.cells #[.int .i64 s.width, .slice a1 n1 c1] 25)).alloc (.cells #[.int .i64 t.width, .slice a2 n2 c2] 25)).alloc (.cells #[.int .i64 0, .slice none 0 0] 25) = W := ⟨_, rfl⟩
  have B0 : Below w.heap.size w W := by rw [← hW]; exact (((Below.refl _ _).alloc (Nat.le_refl _) _).alloc (by simp) _).alloc (by simp; omega) _
  have L3 : W.heap[w.heap.size + 1 + 1]? = some (.cells #[.int .i64 0, .slice none 0 0] 25 (0, 0)) := by rw [← hW]; have k := heap_alloc_new ((w.alloc (.cells #[.int .i64 s.width, .slice a1 n1 c1] 25)).alloc (.cells #[.int .i64 t.width, .slice a2 n2 c2] 25)) (.cells #[.int .i64 0, .slice none 0 0] 25); simp only [World.size_alloc] at k; exact k
  have HW := Lib.hid hW
  have BB := Lib.hid B0
  have H3 := Lib.hid L3
  clear hW B0 L3 h1 h2
  go_enter Tryd.func27, Tryd.ntmps27
  go_wp2_with fail
  rw [show ((w.alloc (.cells #[.int .i64 s.width, .slice a1 n1 c1] 25)).alloc (.cells #[.int .i64 t.width, .slice a2 n2 c2] 25)).alloc (.cells #[.int .i64 0, .slice none 0 0] 25) = W from HW.out]
  refine (mergei_any ((· &&& ·)) and_fun s t _ _ _ (R1.out.below BB.out) (R2.out.below BB.out)).mono ?_
  rintro e v ⟨u, rfl, hu, b1⟩
  obtain ⟨ua, un, uc, rfl⟩ := hu.shape
  obtain ⟨q, hq⟩ : ∃ q, mergeS ((· &&& ·)) s t = q := ⟨_, rfl⟩
  rw [hq] at hu ⊢
  have HU := Lib.hid hu
  have L3 := Lib.hid (lies_below H3.out b1 (lt_heap H3.out))
  have B1 := Lib.hid (BB.out.trans (b1.mono BB.out.size))
  have z0 := (lies_cells L3.out).1 0
  have z1 := (lies_cells L3.out).1 1
  have f0 := (lies_cells L3.out).2 0
  have f1 := (lies_cells L3.out).2 1
  simp only [List.getElem?_toArray, List.getElem?_cons_zero, List.getElem?_cons_succ] at z0 z1
  have hsz := lt_heap L3.out
  have HLT := Lib.hid (lt_heap H3.out)
  have HQ := Lib.hid hq
  clear hu b1 hq
  go_wp2
  refine bodyPost_ret (v := .tuple #[setV q.1 (.slice ua un uc), .int .i64 q.2]) (by simp [results, Tryd.results27, go_sem, z0, z1]) rfl ?_
  rw [HQ.out]
  exact ⟨_, rfl, ((HU.out.setCell HLT.out).setCell HLT.out).mono BB.out.size, (B1.out.setCell (p := ⟨w.heap.size + 1 + 1, 0, none⟩) (by show w.heap.size ≤ w.heap.size + 1 + 1; omega) _).setCell (p := ⟨w.heap.size + 1 + 1, 1, none⟩) (by show w.heap.size ≤ w.heap.size + 1 + 1; omega) _⟩
end Go.Proofs.YtmanmlankfoflaaDoor
