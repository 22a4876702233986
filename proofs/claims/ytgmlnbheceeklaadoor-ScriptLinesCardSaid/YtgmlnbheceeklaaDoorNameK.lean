/- A row of strings in memory. -/
import Derived.Test.YtgmlnbheceeklaaDoorNameP
import Derived.Test.YtgmlnbheceeklaaDoorMem
set_option linter.unusedVariables false
set_option linter.unusedSimpArgs false
set_option linter.unusedSectionVars false
namespace Go.Proofs.YtgmlnbheceeklaaDoor
open Go.RowKit
variable [Base]

theorem size_of (l : List UInt8) : (⟨l.toArray⟩ : ByteArray).size = l.length := by show l.toArray.size = _; simp
theorem ret_bool {a b : Bool} (h : a = b) : Ending.returned (.bool a) = .returned (.bool b) := by rw [h]
/-- A row of strings from address a on. -/
def RowAt (w : World) (a : Option Addr) (ls : List (List UInt8)) : Prop := ∀ (k : Nat) s, ls[k]? = some s → ∃ b off, a = some ⟨b, off, none⟩ ∧ w.cell? ⟨b, off + k, none⟩ = some (.string ⟨s.toArray⟩)

theorem contains_step (ls : List (List UInt8)) (k : Nat) (s l : List UInt8) (h : ls[k]? = some s) : hasB (ls.drop k) l = (l == s || hasB (ls.drop (k + 1)) l) := by
  obtain ⟨h1, rfl⟩ := List.getElem?_eq_some_iff.1 h
  unfold hasB
  rw [List.drop_eq_getElem_cons h1, List.contains_cons]

end Go.Proofs.YtgmlnbheceeklaaDoor
