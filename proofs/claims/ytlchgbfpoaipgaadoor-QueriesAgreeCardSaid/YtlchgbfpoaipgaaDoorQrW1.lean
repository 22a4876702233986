/- Walks: the program's small functions on sets and records. -/
import Derived.Test.YtlchgbfpoaipgaaDoorQryM
import Derived.Test.YtlchgbfpoaipgaaDoorKw
import Derived.WalkKit
import Derived.WalkSpells
import Derived.WalkLawsBesides
import Derived.Deep.QuietTactic
import Derived.BigQuiet
import Derived.Laws.Shifts
set_option linter.unusedVariables false
set_option linter.unusedSimpArgs false
set_option linter.unusedSectionVars false
namespace Go.Proofs.YtlchgbfpoaipgaaDoor
open Go.RowKit
variable [Base]

abbrev setV (s : QSet) (u : Value) : Value := .agg #[.int .i64 s.width, u]
abbrev recV (r : QRec) (u : Value) : Value := .agg #[qs r.id, .int .i64 r.prog, .int .i64 r.kind, .int .i64 r.node, .int .i64 r.prio, .int .i64 r.status, .int .i64 r.value.width, u]
theorem ranged_any (n : Int) (w : World) : Calls Tryd.prog 53 #[.int .i64 n] w fun e w' => e = .returned (.bool (rangedB n)) ∧ w' = w := by
  by_cases h1 : 0 ≤ n
  · by_cases h2 : n ≤ 256
    all_goals
      go_enter Tryd.func53, Tryd.ntmps53
      go_wp2
      go_ret
      exact ⟨by simp [rangedB, *], rfl⟩
  · go_enter Tryd.func53, Tryd.ntmps53
    go_wp2
    go_ret
    exact ⟨by simp [rangedB]; omega, rfl⟩
theorem between_any (n a b : Int) (w : World) : Calls Tryd.prog 42 #[.int .i64 n, .int .i64 a, .int .i64 b] w fun e w' => e = .returned (.bool (betweenB n a b)) ∧ w = w' := by
  by_cases h1 : a ≤ n
  · by_cases h2 : n ≤ b
    all_goals
      go_enter Tryd.func42, Tryd.ntmps42
      go_wp2
      go_ret
      exact ⟨by simp [betweenB, *], rfl⟩
  · go_enter Tryd.func42, Tryd.ntmps42
    go_wp2
    go_ret
    exact ⟨by simp [betweenB]; omega, rfl⟩
theorem words_num (n : Int) (h0 : 0 ≤ n) (h1 : n ≤ 256) (w : World) : Calls Tryd.prog 54 #[.int .i64 n] w fun e w' => e = .returned (.int .i64 ((n + 63) / 64)) ∧ w' = w := by
  go_enter Tryd.func54, Tryd.ntmps54
  go_wp2
  go_ret
  exact ⟨ret_intQ (by omega), rfl⟩
theorem spare_any (n : Int) (h0 : 0 ≤ n) (h1 : n ≤ 256) (w : World) : Calls Tryd.prog 55 #[.int .i64 n] w fun e w' => e = .returned (.int .u64 ((18446744073709551616 - 2 ^ (n % 64).toNat : Nat) : Int)) ∧ w' = w := by
  have hs := spare_eq (n % 64).toNat (by omega)
  have hw : IntKind.u64.wrap n = n := by rw [IntKind.wrap_u64]; omega
  have hn : 0 ≤ n % 64 := by omega
  have hl : n % 64 < 64 := by omega
  have ht : n.tmod 64 = n % 64 := Int.tmod_eq_emod_of_nonneg h0
  have HS := Lib.hid hs
  clear hs
  go_enter Tryd.func55, Tryd.ntmps55
  go_wp2
  go_ret
  refine ⟨?_, rfl⟩
  rw [← HS.out]
  rfl
theorem zero_any (s : QSet) (u : Value) (w : World) (h : WordsAt w u s.words) : Calls Tryd.prog 44 #[setV s u] w (BoolQ (zeroB s) w) := by
  obtain ⟨a, c, rfl, -, -⟩ := h.cell
  obtain ⟨n, hn⟩ : ∃ n, s.words.length = n := ⟨_, rfl⟩
  have hz : zeroB s = (decide (s.width = 0) && decide (n = 0)) := by
    rw [← hn]
    unfold zeroB
    cases s.words <;> simp
  rw [hn, hz]
  clear h hn hz
  by_cases h1 : s.width = 0
  · by_cases h2 : n = 0
    · subst h2
      rw [h1]
      go_enter Tryd.func44, Tryd.ntmps44
      go_wp2
      go_ret
      exact ⟨rfl, (Below.refl _ _).alloc (Nat.le_refl _) _⟩
    · have h3 : ((n : Int) == 0) = false := by rw [beq_eq_false_iff_ne]; omega
      rw [h1]
      go_enter Tryd.func44, Tryd.ntmps44
      go_wp2
      go_ret
      exact ⟨by simp [h2], (Below.refl _ _).alloc (Nat.le_refl _) _⟩
  · have h3 : (s.width == 0) = false := by rw [beq_eq_false_iff_ne]; exact h1
    go_enter Tryd.func44, Tryd.ntmps44
    go_wp2
    go_ret
    exact ⟨by simp [h1], (Below.refl _ _).alloc (Nat.le_refl _) _⟩
end Go.Proofs.YtlchgbfpoaipgaaDoor
