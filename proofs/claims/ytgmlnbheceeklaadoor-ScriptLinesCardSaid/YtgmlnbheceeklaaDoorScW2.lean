/- Walk: loadable. Printed by wip/gen_scw2.py. -/
import Derived.Test.YtgmlnbheceeklaaDoorScW1
set_option linter.unusedVariables false
set_option linter.unusedSimpArgs false
set_option linter.unusedSectionVars false
namespace Go.Proofs.YtgmlnbheceeklaaDoor
open Go.RowKit
variable [Base]

theorem ne_empty {s : ByteArray} (h : 0 < s.size) : (s != ⟨#[]⟩) = true ∧ (s == ⟨#[]⟩) = false ∧ (s.toList == []) = false := by
  have hl : s.data.toList ≠ [] := fun e => by have : s.data.toList.length = s.size := by simp
                                              rw [e] at this; simp at this; omega
  have h1 : (s == ⟨#[]⟩) = false := by
    show (s.data == #[]) = false
    rw [beq_eq_false_iff_ne]
    intro e
    exact hl (by rw [e])
  refine ⟨by show (!(s == ⟨#[]⟩)) = true; rw [h1]; rfl, h1, ?_⟩
  rw [show s.toList = s.data.toList from ByteArray.toList_eq s]
  simpa using hl
theorem loadable_any (s : ByteArray) (hs : s.size ≤ 9223372036854775807) (w : World) : Calls Tryd.prog 28 #[.string s] w (fun e w' => e = .returned (.bool (textB s.data.toList)) ∧ w' = w) := by
  have hud : ∀ b : Bool, (undef = Value.bool b) = False := fun b => by simp [undef]
  by_cases h0 : s.size = 0
  · obtain ⟨⟨l⟩⟩ := s
    have hl : l = [] := List.length_eq_zero_iff.1 (by simpa [ByteArray.size] using h0)
    subst hl
    rw [show textB (ByteArray.mk ⟨[]⟩).data.toList = false from text_nil]
    clear h0
    go_enter Tryd.func28, Tryd.ntmps28
    go_wp2
    go_ret
    exact ⟨rfl, rfl⟩
  have h0 : 0 < s.size := by omega
  obtain ⟨n1, n2, n3⟩ := ne_empty h0
  have hw : IntKind.i64.wrap ((s.size : Int) - 1) = (s.size : Int) - 1 := IntWalk.i64_in _ (by omega)
  have hp1 : 0 ≤ (s.size : Int) - 1 := by omega
  have hp2 : (s.size : Int) - 1 < s.size := by omega
  have hp3 : ((s.size : Int) - 1).toNat = s.size - 1 := by omega
  have hp4 : s.size - 1 < s.size := by omega
  have hp5 : s.size - 1 < s.data.size := hp4
  have hp6 : 0 < s.data.size := h0
  obtain ⟨d1, h1⟩ : ∃ d, decide (s.size ≤ 4096) = d := ⟨_, rfl⟩
  obtain ⟨d2, h2⟩ : ∃ d, ((s[0].toNat : Int) != 32) = d := ⟨_, rfl⟩
  obtain ⟨d3, h3⟩ : ∃ d, ((s[s.size - 1].toNat : Int) != 32) = d := ⟨_, rfl⟩
  obtain ⟨d4, h4⟩ : ∃ d, decide (Lib.indexByte s.data.toList 10 < 0) = d := ⟨_, rfl⟩
  have HT := Lib.hid (text_at h0 d1 h1 d2 h2 d3 h3 d4 h4)
  have h1' : decide ((s.size : Int) ≤ 4096) = d1 := by rw [← h1, Bool.eq_iff_iff]; simp; omega
  have h2' : ((s[0].toNat : Int) == 32) = !d2 := by rw [← h2]; simp [bne]
  have h3' : ((s[s.size - 1].toNat : Int) == 32) = !d3 := by rw [← h3]; simp [bne]
  obtain ⟨x, hx⟩ : ∃ x, Lib.indexByte s.data.toList 10 = x := ⟨_, rfl⟩
  have IB := Lib.hid (Tryd.strings_IndexByte s 10)
  rw [show ((10 : Int).toNat.toUInt8 : UInt8) = 10 from rfl, hx] at IB
  rw [hx] at h4
  clear h1 hx
  rw [HT.out]
  cases d1
  · go_enter Tryd.func28, Tryd.ntmps28
    go_wp2_with fail
    go_ret
    exact ⟨rfl, rfl⟩
  cases d2
  · go_enter Tryd.func28, Tryd.ntmps28
    go_wp2_with fail
    go_ret
    exact ⟨rfl, rfl⟩
  cases d3
  · go_enter Tryd.func28, Tryd.ntmps28
    go_wp2_with fail
    go_ret
    exact ⟨rfl, rfl⟩
  go_enter Tryd.func28, Tryd.ntmps28
  go_wp2_with (go_at_call 41; refine (IB.out _).mono ?_; rintro e w' ⟨rfl, rfl⟩)
  go_ret
  exact ⟨by simp, rfl⟩
end Go.Proofs.YtgmlnbheceeklaaDoor
