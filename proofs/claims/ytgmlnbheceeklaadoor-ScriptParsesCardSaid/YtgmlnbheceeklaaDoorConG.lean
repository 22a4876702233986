/- '[]byte(p)'. -/
import Derived.Test.YtgmlnbheceeklaaDoorBytG
import Derived.Lib.ConvBytes
import Derived.Laws.BytesArg
set_option linter.unusedVariables false
set_option linter.unusedSimpArgs false
set_option linter.unusedSectionVars false
namespace Go.Proofs.YtgmlnbheceeklaaDoor
open Go.RowKit
variable [Base]

theorem getD_nat (l : List UInt8) (j : Nat) : (((l.getD j 0).toNat : Nat) : Int) = (l.map fun b : UInt8 => (b.toNat : Int)).getD j 0 := by
  simp only [List.getD, List.getElem?_map]
  cases l[j]? <;> rfl
/-- '[]byte(p)'. -/
theorem conv_bytes (p : ByteArray) (w : World) : ∃ w4 cap, (convert 9 38 (.string p)).run Tryd.prog w = .ok (.slice (some ⟨w.heap.size, 0, none⟩) p.size cap) w4 ∧ Below w.heap.size w w4 ∧
    ∀ j, j < p.size → w4.cell? ⟨w.heap.size, j, none⟩ = some (u8v ((p.data.toList.map fun b : UInt8 => (b.toNat : Int)).getD j 0)) := by
  refine ⟨_, _, Lib.run_convert_string_bytes w 9 38 5 p Tryd.underlying9 Tryd.underlying38 Tryd.underlying5, ?_, fun j hj => ?_⟩
  · exact ⟨rfl, rfl, rfl, by rw [Lib.bytesWorld_size]; omega, fun k hk => Lib.bytesWorld_at_old w 5 p k hk⟩
  · rw [Lib.bytesWorld_cell w 5 p j hj, ← getD_nat]
    rfl

end Go.Proofs.YtgmlnbheceeklaaDoor
