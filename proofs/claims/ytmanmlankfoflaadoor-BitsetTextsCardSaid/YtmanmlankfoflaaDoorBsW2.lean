/- Walks: bitset.Valid. -/
import Derived.Test.YtmanmlankfoflaaDoorBsW1
import Derived.IntWalk
set_option linter.unusedVariables false
set_option linter.unusedSimpArgs false
set_option linter.unusedSectionVars false
namespace Go.Proofs.YtmanmlankfoflaaDoor
open Go.RowKit
variable [Base]

theorem int0 (n : Nat) : (((n : Nat) : Int) == 0) = decide (n = 0) := by
  rw [Bool.eq_iff_iff]; simp
theorem quiet_again {P : Program} {f : FuncId} {args : Array Value} {w : World} {a n : Nat} {v : Value} (h : Calls P f args (w.drewN (a + n)) fun e w' => e = .returned v ∧ w' = w.drewN (a + n)) : Calls P f args (w.drewN (a + n)) fun e w' => e = .returned v ∧ ∃ m, w' = w.drewN (a + m) :=
  h.mono fun _ _ hh => ⟨hh.1, n, hh.2⟩
theorem ranged_eq {n : Int} {b : Bool} (h : rangedB n = b) (w : World) : Calls Tryd.prog 69 #[.int .i64 n] w fun e w' => e = .returned (.bool b) ∧ w' = w := h ▸ ranged_any n w
theorem bvalid_any (s : QSet) (u : Value) (w : World) (h : WordsAt w u s.words) : Calls Tryd.prog 39 #[setV s u] w (BoolQ (setB s) w) := by
  obtain ⟨a, c, rfl, hm, hc, hcm, hk⟩ := h.cell
  obtain ⟨n, hn⟩ : ∃ n, s.words.length = n := ⟨_, rfl⟩
  obtain ⟨W, hW⟩ : ∃ W, w.alloc (.cells #[.int .i64 s.width, .slice a n c] 25) = W := ⟨_, rfl⟩
  have B0 : Below w.heap.size w W := by rw [← hW]; exact (Below.refl _ _).alloc (Nat.le_refl _) _
  have HB0 : W.heap[w.heap.size]? = some (.cells #[.int .i64 s.width, .slice a n c] 25 (0, 0)) := by rw [← hW]; exact heap_alloc_new _ _
  have x0 := (lies_cells HB0).1 0
  have x1 := (lies_cells HB0).1 1
  simp at x0 x1
  rw [hn] at hm hc ⊢
  by_cases h1 : rangedB s.width = true
  · have hr : 0 ≤ s.width ∧ s.width ≤ 256 := by simpa [rangedB] using h1
    obtain ⟨hr0, hr1⟩ := hr
    by_cases h2 : lensB s = true
    · by_cases h3 : s.width % 64 = 0
      · have d2 : ((n : Int) != (s.width + 63) / 64) = false := by simpa [lensB, hn] using h2
        have hv : setB s = true := by unfold setB tailB; rw [h1, h2]; simp [h3]
        rw [hv]
        have HW := Lib.hid hW
        have BB := Lib.hid B0
        have ht : s.width.tmod 64 = 0 := by rw [Int.tmod_eq_emod_of_nonneg hr0]; exact h3
        clear hW HB0 hk B0 h
        go_enter Tryd.func39, Tryd.ntmps39
        go_wp2_with fail
        rw [show w.alloc (.cells #[.int .i64 s.width, .slice a n c] 25) = W from HW.out]
        go_quiet (first | (go_at_call 69; exact Calls.quiet_of_same (ranged_eq h1 _)) | (go_at_call 70; exact Calls.quiet_of_same (words_num s.width hr0 hr1 _)))
        go_wp2
        go_quiet (fail)
        go_wp2
        go_ret
        exact ⟨rfl, BB.out.trans (below_drewQ (below_drewQ (Below.refl _ _) _) _)⟩
      · have d2 : ((n : Int) != (s.width + 63) / 64) = false := by simpa [lensB, hn] using h2
        have he : (n : Int) = (s.width + 63) / 64 := by simpa [lensB, hn] using h2
        have hpos : 0 < n := by omega
        obtain ⟨x, hx⟩ : ∃ x, s.words[n - 1]? = some x := ⟨s.words[n - 1], List.getElem?_eq_getElem (by omega)⟩
        obtain ⟨b, off, rfl, hb, -, hcell⟩ := hk (n - 1) x hx
        have hxl : x < 18446744073709551616 := h.2 x (List.mem_of_getElem? hx)
        have hlast : s.words.getLastD 0 = x := by
          rw [List.getLastD_eq_getLast?, List.getLast?_eq_getElem?, hn, hx]; rfl
        have hr : (s.width % 64).toNat < 64 := by omega
        have hand : bits .and .u64 (x : Int) ((18446744073709551616 - 2 ^ (s.width % 64).toNat : Nat) : Int) = ((x &&& (18446744073709551616 - 2 ^ (s.width % 64).toNat) : Nat) : Int) := and_nat _ _ hxl (by have := Nat.two_pow_pos (s.width % 64).toNat; omega)
        obtain ⟨V, hV⟩ : ∃ V : Nat, 18446744073709551616 - 2 ^ (s.width % 64).toNat = V := ⟨_, rfl⟩
        have hv : setB s = decide ((x &&& V : Nat) = 0) := by
          unfold setB tailB
          rw [h1, h2, hlast, ← hV]
          simp only [h3, decide_false, Bool.true_and, Bool.false_or]
          congr 1
          exact propext (and_spare x _ hxl (by omega)).symm
        have SP := fun w => spare_any s.width hr0 hr1 w
        rw [hV] at hand SP
        rw [hv]
        have HW := Lib.hid hW
        have BB := Lib.hid B0
        have SPH := Lib.hid SP
        have ht : s.width.tmod 64 = s.width % 64 := Int.tmod_eq_emod_of_nonneg hr0
        have ht2 : (s.width % 64 == 0) = false := by simpa using h3
        have e1 : IntKind.i64.wrap ((n : Int) - 1) = (n : Int) - 1 := IntWalk.i64_in _ (by unfold maxLen at hm; omega)
        have e2 : 0 ≤ (n : Int) - 1 := by omega
        have e4 : (n : Int) - 1 < n := by omega
        have e3 : ((n : Int) - 1).toNat = n - 1 := by omega
        have hcW : W.cell? ⟨b, off + (n - 1), none⟩ = some (uv x) := by rw [← hcell]; exact B0.cell (p := ⟨b, off + (n - 1), none⟩) hb
        have bt : bits .and .u64 (x : Int) (V : Int) = ((x &&& V : Nat) : Int) := hand
        clear hW HB0 hk B0 h SP hand hV hlast hx hxl hcell hv hr he
        go_enter Tryd.func39, Tryd.ntmps39
        go_wp2_with fail
        rw [show w.alloc (.cells #[.int .i64 s.width, .slice (some ⟨b, off, none⟩) n c] 25) = W from HW.out]
        go_quiet (first | (go_at_call 69; exact Calls.quiet_of_same (ranged_eq h1 _)) | (go_at_call 70; exact Calls.quiet_of_same (words_num s.width hr0 hr1 _)))
        go_wp2
        go_quiet ((go_at_call 71; first | exact quiet_again (SPH.out _) | exact Calls.quiet_of_same (SPH.out _)))
        go_wp2
        go_ret
        exact ⟨ret_boolQ (int0 _), BB.out.trans (below_drewQ (below_drewQ (Below.refl _ _) _) _)⟩
    · have d2 : ((n : Int) != (s.width + 63) / 64) = true := by simpa [lensB, hn] using h2
      have hv : setB s = false := by unfold setB; rw [h1]; simp [h2]
      rw [hv]
      have HW := Lib.hid hW
      have BB := Lib.hid B0
      clear hW HB0 hk B0 h
      go_enter Tryd.func39, Tryd.ntmps39
      go_wp2_with fail
      rw [show w.alloc (.cells #[.int .i64 s.width, .slice a n c] 25) = W from HW.out]
      go_quiet (first | (go_at_call 69; exact Calls.quiet_of_same (ranged_eq h1 _)) | (go_at_call 70; exact Calls.quiet_of_same (words_num s.width hr0 hr1 _)))
      go_wp2
      go_ret
      exact ⟨rfl, BB.out.trans (below_drewQ (Below.refl _ _) _)⟩
  · have h1' : rangedB s.width = false := by simpa using h1
    have hv : setB s = false := by unfold setB; rw [h1']; rfl
    rw [hv]
    have HW := Lib.hid hW
    have BB := Lib.hid B0
    clear hW HB0 hk B0 h
    go_enter Tryd.func39, Tryd.ntmps39
    go_wp2_with fail
    rw [show w.alloc (.cells #[.int .i64 s.width, .slice a n c] 25) = W from HW.out]
    go_quiet ((go_at_call 69; exact Calls.quiet_of_same (ranged_eq h1' _)))
    go_wp2
    go_ret
    exact ⟨rfl, BB.out.trans (below_drewQ (Below.refl _ _) _)⟩
end Go.Proofs.YtmanmlankfoflaaDoor
