/- What the tied keywords give a law's walk. -/
import Derived.Test.YtpnfdmajpkpjoaaDoorQNameK
import Derived.Test.YtpnfdmajpkpjoaaDoorCards
import Derived.Test.YtpnfdmajpkpjoaaDoorTie
import Derived.ProofKit
import Derived.LaidMore
import Derived.OpenShut
import Derived.Carry
import Derived.Deep.Strs
import Derived.ChangeMaps5
import Derived.ChangeOld
import Derived.Stop.Joined
import Derived.SevenTiedAt
set_option linter.unusedVariables false
set_option linter.unusedSimpArgs false
namespace Go.Proofs.YtpnfdmajpkpjoaaDoor
open Go.ChangeShapes Go.WideShapes Go.ChangeAt Go.WideMaps Go.WideElems Go.ChangeMaps Go.Deep Go.RowKit

theorem own : ownKnob Tryd.prog.godebug = none := by kernel_rfl
theorem gKw : Tryd.prog.globalNamed "flowquery/lexer.keywords" = some 0 := by kernel_rfl
theorem tKw : (Tryd.prog.globals[0]?).map (·.type) = some 39 := by kernel_rfl
theorem cStr : Tryd.prog.cellsOf 9 = 1 := by kernel_rfl
theorem cInt : Tryd.prog.cellsOf 3 = 1 := by kernel_rfl
def laid1 : List (String × DataW Unit) := [("flowquery/lexer.keywords", Rows.laid_flowquery_lexer_keywords)]

/-- The door's own heap meets the condition. -/
theorem door_met (os : Os) (args : Array Value) : laidMetH Tryd.prog laid1 ((World.doorLaid Tryd.prog 400 os).forCall (fun _ _ => 0) ⟨#[], args, []⟩).memory :=
  laidMetH_of_parts3 (fuel := 8) (laidMet_of_run' 8 (by kernel_rfl) (by kernel_rfl)) (by kernel_rfl) (by kernel_rfl)

theorem cell_lt {w : World} {b o : Nat} {v : Value} (h : w.cell? ⟨b, o, none⟩ = some v) : b < w.heap.size := by
  rcases Nat.lt_or_ge b w.heap.size with h' | h'
  · exact h'
  · simp [World.cell?, Array.getElem?_eq_none h'] at h

/-- What the condition gives the walk. -/
theorem of_laid {W : World} (h : laidMetH Tryd.prog laid1 W) : KwIn W.heap.size W := by
  rw [MakeChecks.laidMetH_plain _ _ _ (by kernel_rfl)] at h
  obtain ⟨ps, ⟨g0, t0, cs0, f0, p0, q0, hg0, ht0, hv0, hd0, _⟩, _, _⟩ := h
  obtain rfl := Option.some.inj (gKw.symm.trans hg0)
  obtain rfl := Option.some.inj (tKw.symm.trans ht0)
  rcases open_strs Tryd.underlying39 Tryd.underlying9 cStr hd0 with ⟨_, hx⟩ | ⟨a, len, cap, m, Sx, hcs, _, hl1, hl2, hm, hx, hcell⟩
  · simp [Rows.laid_flowquery_lexer_keywords] at hx
  simp only [Prod.mk.injEq] at hx
  have hK : kws.map (fun l => (DataW.lit (.string l) : DataW Unit)) = (List.range len).map fun i => .lit (.string (Sx i).data.toList) := by
    have h1 := hx.1
    have h2 : (Rows.laid_flowquery_lexer_keywords : DataW Unit) = .slice (kws.map fun l => .lit (.string l)) [] := rfl
    rw [h2] at h1
    injection h1 with h1 _
  have hlen : len = 11 := by
    have := congrArg List.length hK
    simp at this
    rw [← this]; rfl
  have hm2 : len ≤ m := by rw [hm]; split <;> omega
  have hc0 : W.cell? ⟨0, 0, none⟩ = some (.slice (some a) len cap) := by
    have := World.var?_cell hg0 hv0 0
    rw [Array.eq_one_of_toList hcs] at this
    simpa using this
  obtain ⟨b, off, spot⟩ := a
  have h00 := (hcell 0 (by omega)).1
  have hspot : spot = none := by simpa [Addr.add] using World.cell?_spot h00
  subst hspot
  subst hlen
  refine ⟨by have := cell_lt hc0; omega, b, off, cap, ?_, hc0, fun k s hk => ⟨b, off, rfl, ?_⟩⟩
  · rw [add_plain] at h00
    exact cell_lt h00
  · have hk2 : k < 11 := by
      have := (List.getElem?_eq_some_iff.1 hk).1
      exact this
    have h1 := congrArg (·[k]?) hK
    simp only [List.getElem?_map, hk, List.getElem?_range hk2, Option.map_some, Option.some.injEq, DataW.lit.injEq, Lit.string.injEq] at h1
    have h2 := (hcell k (by omega)).1
    rw [add_plain] at h2
    rw [h2, h1]

end Go.Proofs.YtpnfdmajpkpjoaaDoor

