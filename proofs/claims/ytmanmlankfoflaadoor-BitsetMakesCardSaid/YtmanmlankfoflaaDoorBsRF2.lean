/- Walks: the reference's Of at a width that is not permitted. -/
import Derived.Test.YtmanmlankfoflaaDoorBsRF
set_option linter.unusedVariables false
set_option linter.unusedSimpArgs false
set_option linter.unusedSectionVars false
namespace Go.Proofs.YtmanmlankfoflaaDoor
open Go.RowKit
variable [Base]

theorem rof_no (k : Int) (hk : rangedB k = false) (l : List Int) (v0 : Value) (w : World) (hl : IntsAt w v0 l) : Calls Tryd.prog 48 #[.int .i64 k, v0] w (ZeroE 3 w) := by
  obtain ⟨la, lc, rfl, -⟩ := hl.cell
  clear hl
  unfold rangedB at hk
  by_cases h0 : k < 0
  · have d0 : decide (k < 0) = true := by simpa using h0
    go_enter Tryd.func48, Tryd.ntmps48
    go_wp2
    exact bodyPost_ret (v := .tuple #[zeroV, .int .i64 3]) (by simp [results, Tryd.results48, go_sem]) rfl ⟨rfl, (Below.refl _ _).alloc (Nat.le_refl _) _⟩
  · have d0 : decide (k < 0) = false := by simpa using h0
    have h1 : (256 : Int) < k := by
      simp only [Bool.and_eq_false_iff, decide_eq_false_iff_not] at hk
      omega
    have d1 : decide ((256 : Int) < k) = true := by simpa using h1
    clear hk
    go_enter Tryd.func48, Tryd.ntmps48
    go_wp2
    exact bodyPost_ret (v := .tuple #[zeroV, .int .i64 3]) (by simp [results, Tryd.results48, go_sem]) rfl ⟨rfl, (Below.refl _ _).alloc (Nat.le_refl _) _⟩
theorem rof_any (k : Int) (l : List Int) (v0 : Value) (w : World) (hl : IntsAt w v0 l) : Calls Tryd.prog 48 #[.int .i64 k, v0] w (SetE (ofS k l) w) := by
  by_cases h : rangedB k = true
  · have h2 := h
    unfold rangedB at h2
    simp only [Bool.and_eq_true, decide_eq_true_eq] at h2
    obtain ⟨m, rfl⟩ := Int.eq_ofNat_of_zero_le h2.1
    exact rof_yes m (by omega) l v0 w hl
  · have h2 : rangedB k = false := by simpa using h
    rw [ofS_no h2]
    exact (rof_no k h2 l v0 w hl).mono fun _ _ h => h.set
end Go.Proofs.YtmanmlankfoflaaDoor
