/- The keywords' variable. No walk. -/
import Derived.Test.YtgmlnbheceeklaaDoorNameV
import Derived.Test.YtgmlnbheceeklaaDoorOwn
set_option linter.unusedVariables false
set_option linter.unusedSimpArgs false
set_option linter.unusedSectionVars false
namespace Go.Proofs.YtgmlnbheceeklaaDoor
open Go.RowKit
variable [Base]

/-- The keywords' variable holds the keywords, in blocks below B. -/
def KwIn (B : Nat) (w : World) : Prop := (2 < B ∧ Base.b ≤ B) ∧ ∃ b off c, b < B ∧ w.cell? ⟨2, 0, none⟩ = some (.slice (some ⟨b, off, none⟩) 11 c) ∧ RowAt w (some ⟨b, off, none⟩) kws
theorem KwIn.at_ {B : Nat} {w w' : World} (h : KwIn B w) (hb : Below B w w') : KwAt w' := by
  obtain ⟨h0, b, off, c, h1, h2, h3⟩ := h
  refine ⟨some ⟨b, off, none⟩, c, (hb.cell (p := ⟨2, 0, none⟩) (by show 2 < B; omega)).trans h2, fun k s hk => ?_⟩
  obtain ⟨b', off', e, hc⟩ := h3 k s hk
  injection e with e
  injection e with e1 e2
  subst e1 e2
  exact ⟨b, off, rfl, (hb.cell (p := ⟨b, off + k, none⟩) h1).trans hc⟩

theorem KwIn.keep {B : Nat} {w w' : World} (h : KwIn B w) (hB : ∀ k, k < B → w'.heap[k]? = w.heap[k]?) : KwIn B w' := by
  obtain ⟨h0, b, off, c, h1, h2, h3⟩ := h
  refine ⟨h0, b, off, c, h1, (World.cell?_of_block (hB 2 (by omega))).trans h2, fun k s hk => ?_⟩
  obtain ⟨b', off', e, hc⟩ := h3 k s hk
  injection e with e
  injection e with e1 e2
  subst e1 e2
  exact ⟨b, off, rfl, (World.cell?_of_block (hB b h1)).trans hc⟩
theorem KwIn.bs {B : Nat} {w : World} (h : KwIn B w) : Base.b ≤ B := h.1.2
theorem KwIn.now {B : Nat} {w : World} (h : KwIn B w) : KwAt w := h.at_ (Below.refl B w)
end Go.Proofs.YtgmlnbheceeklaaDoor
