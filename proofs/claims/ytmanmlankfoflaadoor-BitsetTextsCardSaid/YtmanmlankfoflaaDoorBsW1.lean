/- Walks: the program's small functions on sets. -/
import Derived.Test.YtmanmlankfoflaaDoorBsM
import Derived.WalkKit
import Derived.WalkSpells
import Derived.WalkLawsBesides
import Derived.Deep.QuietTactic
import Derived.BigQuiet
import Derived.Laws.Shifts
set_option linter.unusedVariables false
set_option linter.unusedSimpArgs false
set_option linter.unusedSectionVars false
namespace Go.Proofs.YtmanmlankfoflaaDoor
open Go.RowKit
variable [Base]

abbrev setV (s : QSet) (u : Value) : Value := .agg #[.int .i64 s.width, u]
theorem ranged_any (n : Int) (w : World) : Calls Tryd.prog 69 #[.int .i64 n] w fun e w' => e = .returned (.bool (rangedB n)) ∧ w' = w := by
  by_cases h1 : 0 ≤ n
  · by_cases h2 : n ≤ 256
    all_goals
      go_enter Tryd.func69, Tryd.ntmps69
      go_wp2
      go_ret
      exact ⟨by simp [rangedB, *], rfl⟩
  · go_enter Tryd.func69, Tryd.ntmps69
    go_wp2
    go_ret
    exact ⟨by simp [rangedB]; omega, rfl⟩
theorem words_num (n : Int) (h0 : 0 ≤ n) (h1 : n ≤ 256) (w : World) : Calls Tryd.prog 70 #[.int .i64 n] w fun e w' => e = .returned (.int .i64 ((n + 63) / 64)) ∧ w' = w := by
  go_enter Tryd.func70, Tryd.ntmps70
  go_wp2
  go_ret
  exact ⟨ret_intQ (by omega), rfl⟩
theorem spare_any (n : Int) (h0 : 0 ≤ n) (h1 : n ≤ 256) (w : World) : Calls Tryd.prog 71 #[.int .i64 n] w fun e w' => e = .returned (.int .u64 ((18446744073709551616 - 2 ^ (n % 64).toNat : Nat) : Int)) ∧ w' = w := by
  have hs := spare_eq (n % 64).toNat (by omega)
  have hw : IntKind.u64.wrap n = n := by rw [IntKind.wrap_u64]; omega
  have hn : 0 ≤ n % 64 := by omega
  have hl : n % 64 < 64 := by omega
  have ht : n.tmod 64 = n % 64 := Int.tmod_eq_emod_of_nonneg h0
  have HS := Lib.hid hs
  clear hs
  go_enter Tryd.func71, Tryd.ntmps71
  go_wp2
  go_ret
  refine ⟨?_, rfl⟩
  rw [← HS.out]
  rfl
end Go.Proofs.YtmanmlankfoflaaDoor
