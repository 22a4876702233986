/- Small facts on strings in a row. No walk. -/
import Derived.Test.YtgmlnbheceeklaaDoorTape
set_option linter.unusedVariables false
set_option linter.unusedSimpArgs false
set_option linter.unusedSectionVars false
namespace Go.Proofs.YtgmlnbheceeklaaDoor
open Go.RowKit
variable [Base]

theorem append_size' (a b : ByteArray) : (a ++ b).size = a.size + b.size := by simp
def shortB (m : Nat) : Value → Bool
  | .string s => decide (s.size ≤ m)
  | _ => false
theorem bits_at (A : Array Value) (n m : Nat) (hA : A.size = n) (h : A.toList.all (shortB m) = true) (q : Nat) (hq : q < n) : ∃ p : ByteArray, A[q]? = some (.string p) ∧ p.size ≤ m := by
  have h1 : q < A.size := by omega
  have h2 := List.all_eq_true.1 h A[q] (by simp)
  rw [Array.getElem?_eq_getElem h1]
  generalize A[q] = v at h2
  cases v <;> simp [shortB] at h2
  exact ⟨_, rfl, h2⟩

end Go.Proofs.YtgmlnbheceeklaaDoor
