/- What came in lies below a block number: no call of the program writes there, so a slice of it may lie in a block of whatever type. No walk. -/
import Derived.WalkKit
set_option linter.unusedVariables false
set_option linter.unusedSimpArgs false
set_option linter.unusedSectionVars false
namespace Go.Proofs.Ytbgoogjhgeoapaa
open Go.RowKit

/-- The heap's size when the law began. -/
class Base where
  b : Nat
variable [Base]
/-- Block b holds the cells c; it came in, or it is of type T. -/
def HeapLike (w : World) (b : Nat) (c : Array Value) (T : TypeId) (fr : Nat × Nat) : Prop := ∃ U, (U = T ∨ b < Base.b) ∧ w.heap[b]? = some (.cells c U fr)
theorem HeapLike.of {w : World} {b : Nat} {c : Array Value} {T : TypeId} {fr : Nat × Nat} (h : w.heap[b]? = some (.cells c T fr)) : HeapLike w b c T fr := ⟨T, .inl rfl, h⟩
theorem HeapLike.old {w : World} {b : Nat} {c : Array Value} {T U : TypeId} {fr : Nat × Nat} (h : w.heap[b]? = some (.cells c U fr)) (hb : b < Base.b) : HeapLike w b c T fr := ⟨U, .inr hb, h⟩
theorem HeapLike.lt {w : World} {b : Nat} {c : Array Value} {T : TypeId} {fr : Nat × Nat} (h : HeapLike w b c T fr) : b < w.heap.size := by
  obtain ⟨U, -, h⟩ := h
  rcases Nat.lt_or_ge b w.heap.size with h1 | h1
  · exact h1
  · rw [Array.getElem?_eq_none h1] at h; cases h
theorem HeapLike.cell {w : World} {b : Nat} {c : Array Value} {T : TypeId} {fr : Nat × Nat} (h : HeapLike w b c T fr) (o : Nat) : w.cell? ⟨b, o, none⟩ = c[o]? := by
  obtain ⟨U, -, h⟩ := h
  simp [World.cell?, h]
theorem HeapLike.block {w w' : World} {b : Nat} {c : Array Value} {T : TypeId} {fr : Nat × Nat} (h : HeapLike w b c T fr) (hb : w'.heap[b]? = w.heap[b]?) : HeapLike w' b c T fr := by
  obtain ⟨U, hU, h⟩ := h
  exact ⟨U, hU, hb.trans h⟩
end Go.Proofs.Ytbgoogjhgeoapaa
