/- Walks: the reference's fits. Printed by wip/gen_qrr3.py. -/
import Derived.Test.YtlchgbfpoaipgaaDoorQrW6
import Derived.Test.YtlchgbfpoaipgaaDoorQrR2
import Derived.Test.YtlchgbfpoaipgaaDoorNameR
set_option linter.unusedVariables false
set_option linter.unusedSimpArgs false
set_option linter.unusedSectionVars false
namespace Go.Proofs.YtlchgbfpoaipgaaDoor
open Go.RowKit
variable [Base]

theorem rnameB_ret {x : Str} {b : Bool} (h : nameB x = b) (w : World) : Calls Tryd.prog 57 #[qs x] w (RNamePost b w) := h ▸ rname_any ⟨x.toArray⟩ w
theorem rsetB_ret {s : QSet} {b : Bool} (hb : setB s = b) (u : Value) (w : World) (h : WordsAt w u s.words) : Calls Tryd.prog 46 #[setV s u] w (BoolQ b w) := hb ▸ rbvalid_any s u w h
end Go.Proofs.YtlchgbfpoaipgaaDoor
