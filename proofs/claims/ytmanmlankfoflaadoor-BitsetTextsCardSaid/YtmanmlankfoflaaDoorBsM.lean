/- Sets in memory. No walk. -/
import Derived.Test.YtmanmlankfoflaaDoorRows
import Derived.Test.YtmanmlankfoflaaDoorBitP
import Derived.Test.YtmanmlankfoflaaDoorPgmP
import Derived.Test.YtmanmlankfoflaaDoorBlk
set_option linter.unusedVariables false
set_option linter.unusedSimpArgs false
set_option linter.unusedSectionVars false
namespace Go.Proofs.YtmanmlankfoflaaDoor
open Go.RowKit
variable [Base]

abbrev qs (s : Str) : Value := .string ⟨s.toArray⟩
abbrev uv (n : Nat) : Value := .int .u64 (n : Int)
def WordsAt (w : World) (v : Value) (l : List Nat) : Prop := SliceAt w 62 1 v (l.map uv) ∧ wordsOk l
theorem WordsAt.keep {w w' : World} {v : Value} {l : List Nat} (h : WordsAt w v l) (hs : SameT 62 w w') : WordsAt w' v l := ⟨h.1.same hs, h.2⟩
theorem WordsAt.below {w w' : World} {v : Value} {l : List Nat} (h : WordsAt w v l) (hb : Below w.heap.size w w') : WordsAt w' v l := h.keep (SameT.below hb)
theorem WordsAt.nil {w : World} : WordsAt w (.slice none 0 0) [] := ⟨SliceAt.nil, by intro x h; cases h⟩
theorem WordsAt.cell {w : World} {v : Value} {l : List Nat} (h : WordsAt w v l) : ∃ a c, v = .slice a l.length c ∧ l.length ≤ maxLen ∧ l.length ≤ c ∧ c ≤ maxLen ∧ ∀ k x, l[k]? = some x → ∃ b off, a = some ⟨b, off, none⟩ ∧ b < w.heap.size ∧ True ∧ w.cell? ⟨b, off + k, none⟩ = some (uv x) := by
  obtain ⟨a, n, c, rfl, h1, h2, h3, h4, h5⟩ := SliceAt.form h.1
  simp at h1
  subst h1
  refine ⟨a, c, rfl, h2, h3, h4, fun k x hk => ?_⟩
  obtain ⟨hk2, rfl⟩ := List.getElem?_eq_some_iff.1 hk
  obtain ⟨b, off, rfl, hb, ht, hc⟩ := h5 (by omega)
  refine ⟨b, off, rfl, hb, ht, ?_⟩
  rw [hc _ (by simpa using hk2)]
  simp [hk2]
theorem tyAt_set {w : World} {b o : Nat} {x : Value} (c : Nat) : tyAt (w.setCell ⟨b, o, none⟩ x) c = tyAt w c := by
  unfold tyAt World.setCell
  simp only [Array.getElem?_modify]
  by_cases h : b = c
  · subst h
    simp only [if_true]
    cases w.heap[b]? with
    | none => rfl
    | some o => cases o <;> rfl
  · simp only [if_neg h]
theorem tyAt_below {B b : Nat} {w w' : World} (h : Below B w w') (hb : b < B) : tyAt w' b = tyAt w b := by
  unfold tyAt
  rw [h.block b hb]
theorem cell_off {w : World} {b g o j : Nat} {u : Value} {x : Option Value} (h : b ≠ g) (hc : w.cell? ⟨b, o, none⟩ = x) : (w.setCell ⟨g, j, none⟩ u).cell? ⟨b, o, none⟩ = x :=
  (World.cell?_of_block (Below.heap_setCell _ _ _ _ h)).trans hc
theorem cell_else {w : World} {g o j : Nat} {u : Value} {x : Option Value} (h : o ≠ j) (hc : w.cell? ⟨g, o, none⟩ = x) : (w.setCell ⟨g, j, none⟩ u).cell? ⟨g, o, none⟩ = x := by
  rw [← hc]
  unfold World.cell? World.setCell
  simp only [Array.getElem?_modify, if_true]
  cases w.heap[g]? with
  | none => rfl
  | some q =>
    cases q <;> try rfl
    simp [Array.getElem?_setIfInBounds, Ne.symm h]
theorem frozen_set {w : World} {g j b o : Nat} {v : Value} : (w.setCell ⟨g, j, none⟩ v).frozen? ⟨b, o, none⟩ = w.frozen? ⟨b, o, none⟩ := by
  unfold World.frozen? World.setCell
  simp only [Array.getElem?_modify]
  by_cases h : g = b
  · subst h
    simp only [if_true]
    cases w.heap[g]? with
    | none => rfl
    | some o => cases o <;> rfl
  · simp only [if_neg h]
end Go.Proofs.YtmanmlankfoflaaDoor
