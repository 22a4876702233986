/- What the tied tables give a law's walk. (nobase) Printed by wip/gen_bscard.py. -/
import Derived.Test.YtmanmlankfoflaaDoorBsK
import Derived.Test.YtmanmlankfoflaaDoorCards
import Derived.Test.YtmanmlankfoflaaDoorTie
import Derived.ProofKit
import Derived.LaidMore
import Derived.OpenShut
import Derived.Carry
import Derived.Deep.Strs
import Derived.ChangeMaps5
import Derived.ChangeOld
import Derived.Stop.Joined
import Derived.SevenTiedAt
import Derived.Lib.LaidTab
set_option linter.unusedVariables false
set_option linter.unusedSimpArgs false
set_option linter.unusedSectionVars false
namespace Go.Proofs.YtmanmlankfoflaaDoor
open Go.ChangeShapes Go.WideShapes Go.ChangeAt Go.WideMaps Go.WideElems Go.ChangeMaps Go.Deep Go.RowKit

theorem own : ownKnob Tryd.prog.godebug = none := by kernel_rfl
theorem gTz : Tryd.prog.globalNamed "math/bits.deBruijn64tab" = some 0 := by kernel_rfl
theorem tTz : (Tryd.prog.globals[0]?).map (·.type) = some 94 := by kernel_rfl
theorem gT3 : Tryd.prog.globalNamed "math/bits.deBruijn32tab" = some 7 := by kernel_rfl
theorem tT3 : (Tryd.prog.globals[7]?).map (·.type) = some 138 := by kernel_rfl
theorem tP10 : (Tryd.prog.globals[4]?).map (·.type) = some 130 := by kernel_rfl
theorem cU8 : Tryd.prog.cellsOf 5 = 1 := by kernel_rfl
theorem cU64 : Tryd.prog.cellsOf 62 = 1 := by kernel_rfl
theorem cTz : Tryd.prog.cellsOf 94 = 64 := by kernel_rfl
theorem cT3 : Tryd.prog.cellsOf 138 = 32 := by kernel_rfl
theorem cP10 : Tryd.prog.cellsOf 130 = 20 := by kernel_rfl
theorem cInt : Tryd.prog.cellsOf 3 = 1 := by kernel_rfl
def laid3 : List (String × DataW Unit) := [("math/bits.deBruijn32tab", Rows.laid_math_bits_deBruijn32tab), ("math/bits.deBruijn64tab", Rows.laid_math_bits_deBruijn64tab), ("internal/strconv.uint64pow10", Rows.laid_internal_strconv_uint64pow10)]

/-- The door's own heap meets the condition. -/
theorem door_met (os : Os) (args : Array Value) : laidMetH Tryd.prog laid3 ((World.doorLaid Tryd.prog 400 os).forCall (fun _ _ => 0) ⟨#[], args, []⟩).memory :=
  laidMetH_of_parts3 (fuel := 8) (laidMet_of_run' 8 (by kernel_rfl) (by kernel_rfl)) (by kernel_rfl) (by kernel_rfl)

theorem cell_lt {w : World} {b o : Nat} {v : Value} (h : w.cell? ⟨b, o, none⟩ = some v) : b < w.heap.size := by
  rcases Nat.lt_or_ge b w.heap.size with h' | h'
  · exact h'
  · simp [World.cell?, Array.getElem?_eq_none h'] at h
def tz32 : List Int := Lib.deBruijn32tab.map Int.ofNat
def tz64 : List Int := Lib.deBruijn64tab.map Int.ofNat
theorem d32 : (Rows.laid_math_bits_deBruijn32tab : DataW Unit) = Lib.tabData .u8 tz32 := rfl
theorem d64 : (Rows.laid_math_bits_deBruijn64tab : DataW Unit) = Lib.tabData .u8 tz64 := rfl
theorem d10 : (Rows.laid_internal_strconv_uint64pow10 : DataW Unit) = Lib.tabData .u64 Lib.pow10Tab := rfl
/-- What the condition gives the walk. -/
theorem of_laidVars [Base] {W : World} {rest : List (String × DataW Unit)} {ps : List MemPlace} (h : DataW.LaidVars Tryd.prog W (laid3 ++ rest) ps) (hbs : Base.b ≤ W.heap.size) : TabsIn W.heap.size W := by
  obtain ⟨g0, t0, cs0, f0, p0, q0, hg0, ht0, hv0, hd0, h, -⟩ := h
  obtain ⟨g1, t1, cs1, f1, p1, q1, hg1, ht1, hv1, hd1, h, -⟩ := h
  obtain ⟨g2, t2, cs2, f2, p2, q2, hg2, ht2, hv2, hd2, h, -⟩ := h
  obtain rfl := Option.some.inj (gT3.symm.trans hg0)
  obtain rfl := Option.some.inj (gTz.symm.trans hg1)
  obtain rfl := Option.some.inj (gP10.symm.trans hg2)
  obtain rfl := Option.some.inj (tT3.symm.trans ht0)
  obtain rfl := Option.some.inj (tTz.symm.trans ht1)
  obtain rfl := Option.some.inj (tP10.symm.trans ht2)
  rw [d32] at hd0
  rw [d64] at hd1
  rw [d10] at hd2
  have e0 := Lib.cells_of_tab Tryd.underlying138 Tryd.underlying5 cU8 cT3 hd0
  have e1 := Lib.cells_of_tab Tryd.underlying94 Tryd.underlying5 cU8 cTz hd1
  have e2 := Lib.cells_of_tab Tryd.underlying130 Tryd.underlying62 cU64 cP10 hd2
  have k0 : Lib.TabIs Tryd.prog W "math/bits.deBruijn32tab" .u8 tz32 := by unfold Lib.TabIs; rw [hv0, ← e0]
  have k1 : Lib.TabIs Tryd.prog W "math/bits.deBruijn64tab" .u8 tz64 := by unfold Lib.TabIs; rw [hv1, ← e1]
  have k2 : Lib.TabIs Tryd.prog W "internal/strconv.uint64pow10" .u64 Lib.pow10Tab := by unfold Lib.TabIs; rw [hv2, ← e2]
  refine ⟨by have := cell_lt (k0.cell gT3 0 (by decide)); omega, hbs, fun j hj => ?_, k2⟩
  rw [k1.cell gTz j (by unfold tz64; rw [List.length_map]; exact hj)]
  congr 2
  unfold tz64
  simp [List.getD, hj]
theorem of_laid [Base] {W : World} (h : laidMetH Tryd.prog laid3 W) (hbs : Base.b ≤ W.heap.size) : TabsIn W.heap.size W := by
  rw [MakeChecks.laidMetH_plain _ _ _ (by kernel_rfl)] at h
  obtain ⟨ps, h, _⟩ := h
  exact of_laidVars (rest := []) h hbs
end Go.Proofs.YtmanmlankfoflaaDoor
