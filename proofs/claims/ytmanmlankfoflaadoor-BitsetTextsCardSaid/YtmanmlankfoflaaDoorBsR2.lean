/- Walks: the reference's Valid of sets. -/
import Derived.Test.YtmanmlankfoflaaDoorBsW2
import Derived.IntWalk
set_option linter.unusedVariables false
set_option linter.unusedSimpArgs false
set_option linter.unusedSectionVars false
namespace Go.Proofs.YtmanmlankfoflaaDoor
open Go.RowKit
variable [Base]

set_option maxHeartbeats 1000000 in
theorem rbvalid_any (s : QSet) (u : Value) (w : World) (h : WordsAt w u s.words) : Calls Tryd.prog 21 #[setV s u] w (BoolQ (setB s) w) := by
  obtain ⟨a, c, rfl, hm, hc, hcm, hk⟩ := h.cell
  obtain ⟨n, hn⟩ : ∃ n, s.words.length = n := ⟨_, rfl⟩
  obtain ⟨W, hW⟩ : ∃ W, w.alloc (.cells #[.int .i64 s.width, .slice a n c] 25) = W := ⟨_, rfl⟩
  have B0 : Below w.heap.size w W := by rw [← hW]; exact (Below.refl _ _).alloc (Nat.le_refl _) _
  have HB0 : W.heap[w.heap.size]? = some (.cells #[.int .i64 s.width, .slice a n c] 25 (0, 0)) := by rw [← hW]; exact heap_alloc_new _ _
  have x0 := (lies_cells HB0).1 0
  have x1 := (lies_cells HB0).1 1
  simp at x0 x1
  rw [hn] at hm hc ⊢
  have HW := Lib.hid hW
  have BB := Lib.hid B0
  have HN := Lib.hid hn
  unfold maxLen at hm
  by_cases h1 : 0 ≤ s.width
  rotate_left
  · have hv : setB s = false := by unfold setB rangedB; simp [h1]
    rw [hv]
    clear hW HB0 hk B0 h hn hv
    go_enter Tryd.func21, Tryd.ntmps21
    go_wp2_with fail
    rw [show w.alloc (.cells #[.int .i64 s.width, .slice a n c] 25) = W from HW.out]
    go_wp2
    go_ret
    exact ⟨rfl, BB.out⟩
  by_cases h2 : s.width ≤ 256
  rotate_left
  · have hv : setB s = false := by unfold setB rangedB; simp [h2]
    rw [hv]
    clear hW HB0 hk B0 h hn hv
    go_enter Tryd.func21, Tryd.ntmps21
    go_wp2_with fail
    rw [show w.alloc (.cells #[.int .i64 s.width, .slice a n c] 25) = W from HW.out]
    go_wp2
    go_ret
    exact ⟨rfl, BB.out⟩
  by_cases h3 : (n : Int) = (s.width + 63) / 64
  rotate_left
  · have hv : setB s = false := by unfold setB lensB; rw [hn]; simp [h3]
    have d2 : ((n : Int) != (s.width + 63) / 64) = true := by simpa using h3
    rw [hv]
    clear hW HB0 hk B0 h hn hv h3
    go_enter Tryd.func21, Tryd.ntmps21
    go_wp2_with fail
    rw [show w.alloc (.cells #[.int .i64 s.width, .slice a n c] 25) = W from HW.out]
    go_wp2
    go_ret
    exact ⟨rfl, BB.out⟩
  have d2 : ((n : Int) != (s.width + 63) / 64) = false := by simpa using h3
  have hlens : lensB s = true := by unfold lensB; rw [hn]; simpa using h3
  have HT := Lib.hid (tail_bits h.2 h1 hlens)
  have hv : setB s = tailB s := by unfold setB rangedB; rw [hlens]; simp [h1, h2]
  rw [hv]
  have HK := Lib.hid hk
  have HOK := Lib.hid h.2
  obtain ⟨sw, ws⟩ := s
  dsimp only at *
  obtain ⟨m, rfl⟩ := Int.eq_ofNat_of_zero_le h1
  have hle : m ≤ 64 * n := by omega
  have hn5 : n ≤ 5 := by omega
  clear hW HB0 hk B0 h hn hv h3 hlens h1
  go_enter Tryd.func21, Tryd.ntmps21
  go_wp2_with fail
  rw [show w.alloc (.cells #[.int .i64 (m : Int), .slice a n c] 25) = W from HW.out]
  go_wp2
  go_loop [3] (fun y => ∃ b : Nat, m ≤ b ∧ b ≤ 64 * n ∧ y = .int .i64 b ∧ Hid (∀ k : Nat, m ≤ k → k < b → bitOf ws k = false)) (fun y => 64 * n - (intOf y).toNat)
  case atStart => exact ⟨m, Nat.le_refl _, hle, rfl, fun k h1 h2 => by omega⟩
  case round =>
    obtain ⟨b, hb1, hb2, rfl, HF⟩ := hrel
    by_cases hlt : b < 64 * n
    · obtain ⟨x, hx⟩ : ∃ x, ws[b / 64]? = some x := ⟨_, List.getElem?_eq_getElem (show b / 64 < ws.length by have := HN.out; omega)⟩
      obtain ⟨xb, off, rfl, hxb, -, hcell⟩ := HK.out (b / 64) x hx
      have hxl : x < 18446744073709551616 := HOK.out x (List.mem_of_getElem? hx)
      have gc := (BB.out.cell (p := ⟨xb, off + b / 64, none⟩) hxb).trans hcell
      have hbit : bitOf ws b = x.testBit (b % 64) := by unfold bitOf; rw [List.getD_eq_getElem?_getD, hx]; rfl
      have sh := shr_and1 x (b % 64) hxl
      have e1 : 0 ≤ (b : Int) / 64 := by omega
      have e2 : (b : Int) / 64 < n := by omega
      have e3 : ((b : Int) / 64).toNat = b / 64 := by omega
      have e4 : 0 ≤ (b : Int) % 64 := by omega
      have e5 : IntKind.u64.wrap ((b : Int) % 64) = (b : Int) % 64 := by rw [IntKind.wrap_u64]; omega
      have e6 : ((b : Int) % 64).toNat = b % 64 := by omega
      have HX := Lib.hid hbit
      clear hx hxl hbit hcell HK
      cases hb : x.testBit (b % 64)
      · rw [hb] at sh
        have HB := Lib.hid (HX.out.trans hb)
        go_wp2
        go_round
        case rel =>
          refine ⟨b + 1, by omega, by omega, by go_num, fun k h1 h2 => ?_⟩
          rcases Nat.lt_or_ge k b with h3 | h3
          · exact HF.out k h1 h3
          · obtain rfl : k = b := by omega
            exact HB.out
        case measure => simp [intOf]; omega
      · rw [hb] at sh
        have HB := Lib.hid (HX.out.trans hb)
        have hv : tailB ⟨m, ws⟩ = false := by
          rw [Bool.eq_false_iff]
          intro h
          have h5 := HT.out.1 h b (by omega) (by have := HN.out; omega)
          rw [HB.out] at h5
          cases h5
        rw [hv]
        clear HT hv
        go_wp2
        go_ret
        exact ⟨rfl, BB.out⟩
    · have hv : tailB ⟨m, ws⟩ = true := HT.out.2 fun k h1 h2 => HF.out k (by omega) (by have := HN.out; omega)
      have HV := Lib.hid hv
      clear HT hv
      go_wp2
      go_ret
      exact ⟨ret_boolQ HV.out.symm, BB.out⟩
end Go.Proofs.YtmanmlankfoflaaDoor
