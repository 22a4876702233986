/- Walks: which strings are names. -/
import Derived.Test.YtgmlnbheceeklaaDoorNameK
import Derived.Test.YtgmlnbheceeklaaDoorLexW
set_option linter.unusedVariables false
set_option linter.unusedSimpArgs false
set_option linter.unusedSectionVars false
namespace Go.Proofs.YtgmlnbheceeklaaDoor
open Go.RowKit
variable [Base]

def IndexPost (ls : List (List UInt8)) (l : List UInt8) (w : World) (e : Ending) (w' : World) : Prop :=
  ∃ r : Int, e = .returned (.int .i64 r) ∧ Hid (decide (0 ≤ r) = hasB ls l) ∧ ∃ k, w' = w.drewN k

theorem index_any (ls : List (List UInt8)) (l : List UInt8) (n c : Nat) (a : Option Addr) (w : World) (hx : Hid (ls.length = n)) (hn : n ≤ 9223372036854775807) (F : Hid (RowAt w a ls)) :
    Calls Tryd.prog 64 #[.slice a n c, .string ⟨l.toArray⟩] w (IndexPost ls l w) := by
  go_enter Tryd.func64, Tryd.ntmps64
  go_wp2
  go_loopw [8] (fun v wr => ∃ k m : Nat, k ≤ n ∧ v = .int .i64 k ∧ wr = w.drewN m ∧ Hid (hasB ls l = hasB (ls.drop k) l)) (fun v _ => n - (intOf v).toNat)
  case atStart => exact ⟨0, 0, Nat.zero_le _, rfl, rfl, by unfold Hid; simp⟩
  case round =>
    obtain ⟨k, m, hk, rfl, rfl, hs⟩ := hrel
    by_cases hlt : k < n
    · obtain ⟨t, ht⟩ : ∃ t, ls[k]? = some t := ⟨ls[k]'(by have := hx.out; omega), by simp⟩
      obtain ⟨b, off, rfl, g⟩ := F.out k t ht
      have st := Lib.hid (contains_step ls k t l ht)
      clear ht
      cases e : l == t
      · go_wp2
        go_roundw
        case rel => exact ⟨k + 1, _, by omega, by go_num, rfl, by unfold Hid; rw [hs.out, st.out, e]; rfl⟩
        case measure => simp [intOf]; omega
      · go_wp2
        go_ret
        exact ⟨k, rfl, by unfold Hid; rw [hs.out, st.out, e]; simp, _, rfl⟩
    · go_wp2
      go_ret
      exact ⟨-1, rfl, by unfold Hid; rw [hs.out, List.drop_of_length_le (by have := hx.out; omega)]; rfl, _, rfl⟩
end Go.Proofs.YtgmlnbheceeklaaDoor
