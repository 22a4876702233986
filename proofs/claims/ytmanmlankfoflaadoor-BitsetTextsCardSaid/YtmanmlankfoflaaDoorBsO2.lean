/- Walks: the program's Full, Of at a width that is not permitted. Printed by wip/gen_bso2.py. -/
import Derived.Test.YtmanmlankfoflaaDoorBsO
import Derived.BigQuiet
set_option linter.unusedVariables false
set_option linter.unusedSimpArgs false
set_option linter.unusedSectionVars false
namespace Go.Proofs.YtmanmlankfoflaaDoor
open Go.RowKit
variable [Base]

set_option maxHeartbeats 1000000 in
theorem bfull_no (k : Int) (hk : rangedB k = false) (w : World) : Calls Tryd.prog 29 #[.int .i64 k] w (ZeroE 3 w) := by
  have HR := Lib.hid hk
  clear hk
  go_enter Tryd.func29, Tryd.ntmps29
  go_wp2_with fail
  refine (bempty_no k HR.out _).mono ?_
  rintro e v ⟨rfl, b1⟩
  have hz : w.heap.size < v.heap.size := by have := b1.size; simp only [World.size_alloc] at this; omega
  have L1 := Lib.hid ((b1.block w.heap.size (by simp)).trans (heap_alloc_new w _))
  have B1 := Lib.hid (((Below.refl _ _).alloc (Nat.le_refl _) (.cells #[.int .i64 0, .slice none 0 0] 25)).trans (b1.mono (by simp)))
  obtain ⟨V, hV⟩ : ∃ V, v.alloc (.cells #[.int .i64 0, .slice none 0 0] 25) = V := ⟨_, rfl⟩
  have hc : V.heap[v.heap.size]? = some (.cells #[.int .i64 0, .slice none 0 0] 25 (0, 0)) := by rw [← hV]; exact heap_alloc_new _ _
  have hr : V.heap[w.heap.size]? = some (.cells #[.int .i64 0, .slice none 0 0] 25 (0, 0)) := by rw [← hV]; exact lies_alloc _ L1.out
  have BV := Lib.hid (show Below w.heap.size w V by rw [← hV]; exact B1.out.alloc (by omega) _)
  have BF := Lib.hid ((BV.out.setCell (p := ⟨w.heap.size, 0, none⟩) (Nat.le_refl _) (.int .i64 0)).setCell (p := ⟨w.heap.size, 1, none⟩) (Nat.le_refl _) (.slice none 0 0))
  have x0 := (lies_cells hc).1 0
  have x1 := (lies_cells hc).1 1
  have y0 := (lies_cells hr).1 0
  have y1 := (lies_cells hr).1 1
  have f0 := (lies_cells hr).2 0
  have f1 := (lies_cells hr).2 1
  simp only [List.getElem?_toArray, List.getElem?_cons_zero, List.getElem?_cons_succ] at x0 x1 y0 y1
  have HV := Lib.hid hV
  have hne : w.heap.size ≠ v.heap.size := by omega
  clear hV hc hr b1
  go_wp2_with fail
  rw [show v.alloc (.cells #[.int .i64 0, .slice none 0 0] 25) = V from HV.out]
  refine wp_loop_rounds 1 ?_
  rw [rounds_succ]
  go_wp2
  refine bodyPost_ret (v := .tuple #[zeroV, .int .i64 3]) (by simp [results, Tryd.results29, go_sem, y0, y1]) rfl ⟨rfl, BF.out⟩
set_option maxHeartbeats 1000000 in
theorem bof_no (k : Int) (hk : rangedB k = false) (l : List Int) (v0 : Value) (w : World) (hl : IntsAt w v0 l) : Calls Tryd.prog 46 #[.int .i64 k, v0] w (ZeroE 3 w) := by
  have HR := Lib.hid hk
  obtain ⟨la, lc, rfl, hlm, -, -, hcell⟩ := hl.cell
  obtain ⟨n, hn⟩ : ∃ n, l.length = n := ⟨_, rfl⟩
  rw [hn] at hlm ⊢
  have HN := Lib.hid hn
  have HC := Lib.hid hcell
  unfold maxLen at hlm
  clear hl hcell hn hk
  go_enter Tryd.func46, Tryd.ntmps46
  go_wp2_with fail
  refine (bempty_no k HR.out _).mono ?_
  rintro e v ⟨rfl, b1⟩
  have hz : w.heap.size < v.heap.size := by have := b1.size; simp only [World.size_alloc] at this; omega
  have L1 := Lib.hid ((b1.block w.heap.size (by simp)).trans (heap_alloc_new w _))
  have B1 := Lib.hid (((Below.refl _ _).alloc (Nat.le_refl _) (.cells #[.int .i64 0, .slice none 0 0] 25)).trans (b1.mono (by simp)))
  obtain ⟨V, hV⟩ : ∃ V, v.alloc (.cells #[.int .i64 0, .slice none 0 0] 25) = V := ⟨_, rfl⟩
  have hc : V.heap[v.heap.size]? = some (.cells #[.int .i64 0, .slice none 0 0] 25 (0, 0)) := by rw [← hV]; exact heap_alloc_new _ _
  have hr : V.heap[w.heap.size]? = some (.cells #[.int .i64 0, .slice none 0 0] 25 (0, 0)) := by rw [← hV]; exact lies_alloc _ L1.out
  have BV := Lib.hid (show Below w.heap.size w V by rw [← hV]; exact B1.out.alloc (by omega) _)
  have BF := Lib.hid ((BV.out.setCell (p := ⟨w.heap.size, 0, none⟩) (Nat.le_refl _) (.int .i64 0)).setCell (p := ⟨w.heap.size, 1, none⟩) (Nat.le_refl _) (.slice none 0 0))
  have x0 := (lies_cells hc).1 0
  have x1 := (lies_cells hc).1 1
  have y0 := (lies_cells hr).1 0
  have y1 := (lies_cells hr).1 1
  have f0 := (lies_cells hr).2 0
  have f1 := (lies_cells hr).2 1
  simp only [List.getElem?_toArray, List.getElem?_cons_zero, List.getElem?_cons_succ] at x0 x1 y0 y1
  have HV := Lib.hid hV
  have hne : w.heap.size ≠ v.heap.size := by omega
  clear hV hc hr b1
  go_wp2_with fail
  rw [show v.alloc (.cells #[.int .i64 0, .slice none 0 0] 25) = V from HV.out]
  refine wp_loop_rounds 1 ?_
  rw [rounds_succ]
  rcases Nat.eq_zero_or_pos n with h0 | h0
  · subst h0
    go_wp2
    refine bodyPost_ret (v := .tuple #[zeroV, .int .i64 3]) (by simp [results, Tryd.results46, go_sem, y0, y1]) rfl ⟨rfl, BF.out⟩
  · obtain ⟨b, hb⟩ : ∃ b, l[0]? = some b := ⟨_, List.getElem?_eq_getElem (show 0 < l.length by have := HN.out; omega)⟩
    obtain ⟨lb, lo, rfl, hlb, hlc⟩ := HC.out 0 b hb
    have g0 := (BV.out.cell (p := ⟨lb, lo + 0, none⟩) hlb).trans hlc
    simp only [Nat.add_zero] at g0
    clear hb hlc
    by_cases hb0 : b < 0
    · have d1 : decide (b < 0) = true := by simpa using hb0
      go_wp2
      refine bodyPost_ret (v := .tuple #[zeroV, .int .i64 3]) (by simp [results, Tryd.results46, go_sem, y0, y1]) rfl ⟨rfl, BF.out⟩
    · have d1 : decide (b < 0) = false := by simpa using hb0
      have d2 : decide (0 ≤ b) = true := by simp; omega
      go_wp2
      refine bodyPost_ret (v := .tuple #[zeroV, .int .i64 3]) (by simp [results, Tryd.results46, go_sem, y0, y1]) rfl ⟨rfl, BF.out⟩
theorem bof_any (k : Int) (l : List Int) (v0 : Value) (w : World) (hl : IntsAt w v0 l) : Calls Tryd.prog 46 #[.int .i64 k, v0] w (SetE (ofS k l) w) := by
  by_cases h : rangedB k = true
  · have h2 := h
    unfold rangedB at h2
    simp only [Bool.and_eq_true, decide_eq_true_eq] at h2
    obtain ⟨m, rfl⟩ := Int.eq_ofNat_of_zero_le h2.1
    exact bof_yes m (by omega) l v0 w hl
  · have h2 : rangedB k = false := by simpa using h
    rw [ofS_no h2]
    exact (bof_no k h2 l v0 w hl).mono fun _ _ h => h.set
end Go.Proofs.YtmanmlankfoflaaDoor
