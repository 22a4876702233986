/- Which strings are names: plain Lean, no program in sight. -/
import Derived.Test.YtgmlnbheceeklaaDoorLexP
set_option linter.unusedVariables false
set_option linter.unusedSimpArgs false
set_option linter.unusedSectionVars false
namespace Go.Proofs.YtgmlnbheceeklaaDoor

/-- The keywords. -/
def kws : List (List UInt8) := [[102, 117, 110, 99], [98, 108, 111, 99, 107], [101, 110, 100], [117, 115, 101], [99, 97, 108, 108], [115, 111, 117, 114, 99, 101], [115, 105, 110, 107], [115, 97, 110, 105, 116, 105, 122, 101], [103, 111, 116, 111], [98, 114, 97, 110, 99, 104], [114, 101, 116, 117, 114, 110]]
def firstB : List UInt8 → Bool
  | [] => false
  | c :: _ => isLet (c.toNat : Int)
def hasB (ls : List (List UInt8)) (l : List UInt8) : Bool := ls.contains l
def nameB (l : List UInt8) : Bool := firstB l && decide (l.length ≤ 16) && !(hasB kws l) && l.all partB

theorem name_nil : nameB [] = false := rfl
theorem name_long {l : List UInt8} (h : 16 < l.length) : nameB l = false := by
  have : decide (l.length ≤ 16) = false := by simp; omega
  simp [nameB, this]
theorem name_first {l : List UInt8} (h : firstB l = false) : nameB l = false := by simp [nameB, h]
theorem name_kw {l : List UInt8} (h : hasB kws l = true) : nameB l = false := by unfold nameB; rw [h]; simp
theorem name_part {l : List UInt8} (h : l.all partB = false) : nameB l = false := by unfold nameB; rw [h]; simp
theorem name_rest {l : List UInt8} (h1 : l.length ≤ 16) (h2 : firstB l = true) (h3 : hasB kws l = false) : nameB l = l.all partB := by
  unfold nameB; rw [h2, h3, decide_eq_true h1]; simp
theorem take_all (p : UInt8 → Bool) (l : List UInt8) : ((l.takeWhile p).length = l.length) ↔ l.all p = true := by
  induction l with
  | nil => simp
  | cons c r ih =>
    rw [List.takeWhile_cons]
    cases h : p c
    · simp [h]
    · simp only [if_true, List.length_cons, Nat.add_right_cancel_iff, List.all_cons, h, Bool.true_and]
      exact ih
theorem all_drop (l : List UInt8) (k : Nat) (c : UInt8) (h : l[k]? = some c) (p : UInt8 → Bool) : (l.drop k).all p = (p c && (l.drop (k + 1)).all p) := by
  obtain ⟨h1, rfl⟩ := List.getElem?_eq_some_iff.1 h
  rw [List.drop_eq_getElem_cons h1, List.all_cons]
end Go.Proofs.YtgmlnbheceeklaaDoor
