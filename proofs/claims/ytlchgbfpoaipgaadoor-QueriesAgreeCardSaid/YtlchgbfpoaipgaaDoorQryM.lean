/- Sets and records in memory. No walk. -/
import Derived.Test.YtlchgbfpoaipgaaDoorRows
import Derived.Test.YtlchgbfpoaipgaaDoorQryP
import Derived.Test.YtlchgbfpoaipgaaDoorBlk
set_option linter.unusedVariables false
set_option linter.unusedSimpArgs false
set_option linter.unusedSectionVars false
namespace Go.Proofs.YtlchgbfpoaipgaaDoor
open Go.RowKit
variable [Base]

abbrev qs (s : Str) : Value := .string ⟨s.toArray⟩
abbrev uv (n : Nat) : Value := .int .u64 (n : Int)
def WordsAt (w : World) (v : Value) (l : List Nat) : Prop := SliceAt w 61 1 v (l.map uv) ∧ wordsOk l
theorem WordsAt.keep {w w' : World} {v : Value} {l : List Nat} (h : WordsAt w v l) (hs : SameT 61 w w') : WordsAt w' v l := ⟨h.1.same hs, h.2⟩
theorem WordsAt.below {w w' : World} {v : Value} {l : List Nat} (h : WordsAt w v l) (hb : Below w.heap.size w w') : WordsAt w' v l := h.keep (SameT.below hb)
theorem WordsAt.nil {w : World} : WordsAt w (.slice none 0 0) [] := ⟨SliceAt.nil, by intro x h; cases h⟩
theorem WordsAt.cell {w : World} {v : Value} {l : List Nat} (h : WordsAt w v l) : ∃ a c, v = .slice a l.length c ∧ l.length ≤ maxLen ∧ l.length ≤ c ∧ c ≤ maxLen ∧ ∀ k x, l[k]? = some x → ∃ b off, a = some ⟨b, off, none⟩ ∧ b < w.heap.size ∧ True ∧ w.cell? ⟨b, off + k, none⟩ = some (uv x) := by
  obtain ⟨a, n, c, rfl, h1, h2, h3, h4, h5⟩ := SliceAt.form h.1
  simp at h1
  subst h1
  refine ⟨a, c, rfl, h2, h3, h4, fun k x hk => ?_⟩
  obtain ⟨hk2, rfl⟩ := List.getElem?_eq_some_iff.1 hk
  obtain ⟨b, off, rfl, hb, ht, hc⟩ := h5 (by omega)
  refine ⟨b, off, rfl, hb, ht, ?_⟩
  rw [hc _ (by simpa using hk2)]
  simp [hk2]
def RecCells (w : World) (cs : List Value) (r : QRec) : Prop :=
  ∃ v, cs = [qs r.id, .int .i64 r.prog, .int .i64 r.kind, .int .i64 r.node, .int .i64 r.prio, .int .i64 r.status, .int .i64 r.value.width, v] ∧ WordsAt w v r.value.words
def RecsAt (w : World) (v : Value) (l : List QRec) : Prop := ∃ xss, SliceAt w 31 8 v xss.flatten ∧ All2 (RecCells w) xss l
theorem RecCells.keep {w w' : World} (hs : SameT 61 w w') {cs : List Value} {r : QRec} (h : RecCells w cs r) : RecCells w' cs r := by
  obtain ⟨v, e, h1⟩ := h
  exact ⟨v, e, h1.keep hs⟩
theorem RecsAt.keep {w w' : World} {v : Value} {l : List QRec} (h : RecsAt w v l) (hu : SameT 61 w w') (hr : SameT 31 w w') : RecsAt w' v l := by
  obtain ⟨xss, h1, h2⟩ := h
  exact ⟨xss, h1.same hr, h2.mono fun _ _ => RecCells.keep hu⟩
theorem RecsAt.below {w w' : World} {v : Value} {l : List QRec} (h : RecsAt w v l) (hb : Below w.heap.size w w') : RecsAt w' v l := h.keep (SameT.below hb) (SameT.below hb)
theorem RecsAt.nil {w : World} : RecsAt w (.slice none 0 0) [] := ⟨[], SliceAt.nil, trivial⟩
theorem RecsAt.cell {w : World} {v : Value} {l : List QRec} (h : RecsAt w v l) : ∃ a c, v = .slice a l.length c ∧ l.length ≤ maxLen ∧ l.length ≤ c ∧ c ≤ maxLen ∧ ∀ k r, l[k]? = some r → ∃ b off u, a = some ⟨b, off, none⟩ ∧ b < w.heap.size ∧ WordsAt w u r.value.words ∧
    ∀ j, j < 8 → w.cell? ⟨b, off + k * 8 + j, none⟩ = [qs r.id, .int .i64 r.prog, .int .i64 r.kind, .int .i64 r.node, .int .i64 r.prio, .int .i64 r.status, .int .i64 r.value.width, u][j]? := by
  obtain ⟨xss, h1, h2⟩ := h
  obtain ⟨a, c, e, hm, h3, h4, hc⟩ := rows_lie h1 (h2.eachR fun x f ⟨v, e, _⟩ => by rw [e]; rfl) (by omega)
  rw [h2.length] at e hm h3
  refine ⟨a, c, e, hm, h3, h4, fun k r hk => ?_⟩
  obtain ⟨x, hx, u, rfl, hu⟩ := h2.satR hk
  obtain ⟨b, off, rfl, hlt, _, hc2⟩ := hc k _ hx
  exact ⟨b, off, u, rfl, hlt, hu, hc2⟩
end Go.Proofs.YtlchgbfpoaipgaaDoor
