/- Walks: the reference's Same of sets, at equal sets. -/
import Derived.Test.YtmanmlankfoflaaDoorBsR2
import Derived.BigQuiet
set_option linter.unusedVariables false
set_option linter.unusedSimpArgs false
set_option linter.unusedSectionVars false
namespace Go.Proofs.YtmanmlankfoflaaDoor
open Go.RowKit
variable [Base]

set_option maxHeartbeats 1000000 in
theorem rsame_any (s : QSet) (u1 u2 : Value) (w : World) (h1 : WordsAt w u1 s.words) (h2 : WordsAt w u2 s.words) : Calls Tryd.prog 25 #[setV s u1, setV s u2] w (BoolQ true w) := by
  obtain ⟨a1, c1, rfl, hm, -, -, hk1⟩ := h1.cell
  obtain ⟨a2, c2, rfl, -, -, -, hk2⟩ := h2.cell
  obtain ⟨n, hn⟩ : ∃ n, s.words.length = n := ⟨_, rfl⟩
  rw [hn] at hm ⊢
  obtain ⟨W, hW⟩ : ∃ W, (w.alloc (.cells #[.int .i64 s.width, .slice a1 n c1] 25)).alloc (.cells #[.int .i64 s.width, .slice a2 n c2] 25) = W := ⟨_, rfl⟩
  have B0 : Below w.heap.size w W := by rw [← hW]; exact ((Below.refl _ _).alloc (Nat.le_refl _) _).alloc (by simp) _
  have HB1 : W.heap[w.heap.size]? = some (.cells #[.int .i64 s.width, .slice a1 n c1] 25 (0, 0)) := by rw [← hW]; exact lies_alloc _ (heap_alloc_new _ _)
  have HB2 : W.heap[w.heap.size + 1]? = some (.cells #[.int .i64 s.width, .slice a2 n c2] 25 (0, 0)) := by rw [← hW]; exact lies_new2 _ _
  have H1 := Lib.hid HB1
  have H2 := Lib.hid HB2
  have HW := Lib.hid hW
  have BB := Lib.hid B0
  have HN := Lib.hid hn
  have HK1 := Lib.hid hk1
  have HK2 := Lib.hid hk2
  unfold maxLen at hm
  clear hW HB1 HB2 B0 hn hk1 hk2 h1 h2
  go_enter Tryd.func25, Tryd.ntmps25
  go_wp2_with fail
  rw [show (w.alloc (.cells #[.int .i64 s.width, .slice a1 n c1] 25)).alloc (.cells #[.int .i64 s.width, .slice a2 n c2] 25) = W from HW.out]
  go_loopw [5] (fun y wr => ∃ i : Nat, i ≤ n ∧ y = .int .i64 i ∧ Hid (Below W.heap.size W wr)) (fun y _ => n - (intOf y).toNat)
  case atStart => exact ⟨0, Nat.zero_le _, rfl, Below.refl _ _⟩
  case round =>
    obtain ⟨i, hi, rfl, HB⟩ := hrel
    have G1 := lies_below H1.out HB.out (lt_heap H1.out)
    have G2 := lies_below H2.out HB.out (lt_heap H2.out)
    have x0 := (lies_cells G1).1 0
    have x1 := (lies_cells G1).1 1
    have y0 := (lies_cells G2).1 0
    have y1 := (lies_cells G2).1 1
    simp only [List.getElem?_toArray, List.getElem?_cons_zero, List.getElem?_cons_succ] at x0 x1 y0 y1
    clear G1 G2
    by_cases hlt : i < n
    · obtain ⟨x, hx⟩ : ∃ x, s.words[i]? = some x := ⟨_, List.getElem?_eq_getElem (show i < s.words.length by have := HN.out; omega)⟩
      obtain ⟨b1, o1, rfl, hb1, -, hc1⟩ := HK1.out i x hx
      obtain ⟨b2, o2, rfl, hb2, -, hc2⟩ := HK2.out i x hx
      have g1 := ((BB.out.trans (HB.out.mono BB.out.size)).cell (p := ⟨b1, o1 + i, none⟩) hb1).trans hc1
      have g2 := ((BB.out.trans (HB.out.mono BB.out.size)).cell (p := ⟨b2, o2 + i, none⟩) hb2).trans hc2
      have e1 : (0 : Int) ≤ (i : Int) := by omega
      have e2 : (i : Int) < (n : Int) := by omega
      have q1 : ((x : Int) != (x : Int)) = false := by simp
      clear hc1 hc2 hx HK1 HK2
      go_wp2
      go_quiet (fail)
      go_wp2
      go_roundw
      case rel => exact ⟨i + 1, by omega, by go_num, below_drewQ HB.out _⟩
      case measure => simp [intOf]; omega
    · go_wp2
      go_ret
      exact ⟨rfl, BB.out.trans (HB.out.mono BB.out.size)⟩
end Go.Proofs.YtmanmlankfoflaaDoor
