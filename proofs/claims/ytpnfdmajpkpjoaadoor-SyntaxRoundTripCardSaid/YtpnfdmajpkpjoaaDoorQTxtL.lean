/- Walks of the reference's lines. -/
import Derived.Test.YtpnfdmajpkpjoaaDoorQTxtV
set_option linter.unusedVariables false
set_option linter.unusedSimpArgs false
namespace Go.Proofs.YtpnfdmajpkpjoaaDoor
open Go.RowKit

theorem app_sv (a b : Str) : (⟨a.toArray⟩ : ByteArray) ++ ⟨b.toArray⟩ = ⟨(a ++ b).toArray⟩ := by
  have h : ((⟨a.toArray⟩ : ByteArray) ++ ⟨b.toArray⟩).data = (a ++ b).toArray := by simp
  rw [← h]
theorem wordsT_take (l : List Str) (k : Nat) (t : Str) (h : l[k]? = some t) : wordsT (l.take (k + 1)) = wordsT (l.take k) ++ (32 :: t) := by
  unfold wordsT
  rw [List.take_add_one, h]
  simp
theorem wordsT_le (l : List Str) (k : Nat) : (wordsT (l.take k)).length ≤ (wordsT l).length := by
  have h : wordsT l = wordsT (l.take k) ++ wordsT (l.drop k) := by unfold wordsT; rw [← List.flatten_append, ← List.map_append, List.take_append_drop]
  rw [h, List.length_append]
  omega

theorem words_any (l : List Str) (v : Value) (w : World) (h : StrsAt w v l) (hsz : (wordsT l).length ≤ 1000000) :
    Calls Tryd.prog 54 #[v] w fun e w' => e = .returned (sv (wordsT l)) ∧ ∃ k, w' = w.drewN k := by
  obtain ⟨sa, c, rfl, hn, hc⟩ := h.cell
  have HC := Lib.hid hc
  obtain ⟨n, hl⟩ : ∃ n, l.length = n := ⟨_, rfl⟩
  rw [hl] at hn ⊢
  have HL := Lib.hid hl
  clear hc h hl
  unfold maxLen at hn
  go_enter Tryd.func54, Tryd.ntmps54
  go_wp2
  go_loopw [3, 4] (fun y x wr => ∃ k m : Nat, k ≤ n ∧ x = .int .i64 k ∧ y = sv (wordsT (l.take k)) ∧ wr = w.drewN m) (fun _ x _ => n - (intOf x).toNat)
  case atStart => exact ⟨0, 0, Nat.zero_le _, rfl, rfl, rfl⟩
  case round =>
    obtain ⟨k, m, hk, rfl, rfl, rfl⟩ := hrel
    by_cases hlt : k < n
    · obtain ⟨t, ht⟩ : ∃ t, l[k]? = some t := ⟨_, List.getElem?_eq_getElem (show k < l.length by have := HL.out; omega)⟩
      obtain ⟨bb, off, rfl, hb, g⟩ := HC.out k t ht
      have hT := wordsT_take l k t ht
      have hle := wordsT_le l (k + 1)
      rw [hT] at hle
      simp at hle
      have HT := Lib.hid hT
      clear ht hb hT
      go_wp2
      go_roundw
      case rel => exact ⟨k + 1, _, by omega, by go_num, by rw [HT.out]; exact congrArg Value.string ((congrArg _ (app_sv [32] t)).trans (app_sv _ _)), rfl⟩
      case measure => simp [intOf]; omega
    · go_wp2
      go_ret
      refine ⟨?_, _, rfl⟩
      rw [List.take_of_length_le (by have := HL.out; omega)]
      rfl

theorem words_quiet {l : List Str} {v : Value} {w : World} (h : StrsAt w v l) (hsz : (wordsT l).length ≤ 1000000) (n : Nat) :
    Calls Tryd.prog 54 #[v] (w.drewN n) fun e w' => e = .returned (sv (wordsT l)) ∧ ∃ k, w' = w.drewN k :=
  Calls.quiet_of (words_any l v (w.drewN n) (SliceAt.same h SameT.drewN) hsz)
def StrPost (s : Str) (w : World) (e : Ending) (w' : World) : Prop := e = .returned (sv s) ∧ Below w.heap.size w w'

set_option maxHeartbeats 2000000 in
theorem line_any (s : PStmt) (u t : Value) (w : World) (hu : StrsAt w u s.uses) (ht : StrsAt w t s.targets) (h1 : s.dfn.length ≤ 1000) (h2 : (wordsT s.uses).length ≤ 1000) (h3 : (wordsT s.targets).length ≤ 1000) :
    Calls Tryd.prog 28 #[.agg #[.int .i64 s.op, sv s.dfn, u, t]] w (StrPost (lineT s) w) := by
  obtain ⟨op, dfn, uses, targets⟩ := s
  simp only at h1 h2 h3 hu ht ⊢
  have hW1 := Lib.hid (fun w h => words_any uses u w h (by omega))
  have hW2 := Lib.hid (fun w h => words_any targets t w h (by omega))
  have HU := Lib.hid (show StrsAt _ u uses from SliceAt.same hu (SameT.alloc (o := .cells #[.int .i64 op, sv dfn, u, t] 67)))
  have HT := Lib.hid (show StrsAt _ t targets from SliceAt.same ht (SameT.alloc (o := .cells #[.int .i64 op, sv dfn, u, t] 67)))
  obtain ⟨ua, un, uc, rfl, _⟩ := SliceAt.form hu
  obtain ⟨ta, tn, tc, rfl, _⟩ := SliceAt.form ht
  clear hu ht
  have B1 := Lib.hid ((Below.refl w.heap.size w).alloc (Nat.le_refl _) (.cells #[.int .i64 op, sv dfn, .slice ua un uc, .slice ta tn tc] 67))
  go_enter Tryd.func28, Tryd.ntmps28
  go_wp2_with (go_at_call 54; first | ((with_reducible refine (hW1.out _ HU.out).mono ?_); rintro e w2 ⟨rfl, k, rfl⟩) | ((with_reducible refine (hW2.out _ HT.out).mono ?_); rintro e w2 ⟨rfl, k, rfl⟩))
  · obtain rfl : op = 1 := by simpa using ‹(op == 1) = true›
    have QU := Lib.hid (words_quiet HU.out (by omega))
    have QT := Lib.hid (words_quiet HT.out (by omega))
    go_quiet ((go_at_call 54; first | (with_reducible exact QU.out _) | (with_reducible exact QT.out _)))
    go_wp2
    go_ret
    refine ⟨?_, below_drewN B1.out _⟩
    exact congrArg (fun x => Ending.returned (Value.string x)) ((congrArg (· ++ _) (app_sv dfn [32, 61])).trans (app_sv _ _))
  · have ho : op = 2 := by simpa using ‹(op == 2) = true›
    go_ret
    refine ⟨?_, below_drewN B1.out _⟩
    subst ho
    exact congrArg (fun x => Ending.returned (Value.string x)) (app_sv [117, 115, 101] _)
  · have ho : op = 3 := by simpa using ‹(op == 3) = true›
    go_ret
    refine ⟨?_, below_drewN B1.out _⟩
    subst ho
    exact congrArg (fun x => Ending.returned (Value.string x)) (app_sv [99, 97, 108, 108] _)
  · have ho : op = 4 := by simpa using ‹(op == 4) = true›
    go_ret
    refine ⟨?_, B1.out⟩
    subst ho
    exact congrArg (fun x => Ending.returned (Value.string x)) (app_sv [115, 111, 117, 114, 99, 101, 32] _)
  · have ho : op = 5 := by simpa using ‹(op == 5) = true›
    go_ret
    refine ⟨?_, below_drewN B1.out _⟩
    subst ho
    exact congrArg (fun x => Ending.returned (Value.string x)) (app_sv [115, 105, 110, 107] _)
  · have ho : op = 6 := by simpa using ‹(op == 6) = true›
    go_ret
    refine ⟨?_, B1.out⟩
    subst ho
    exact congrArg (fun x => Ending.returned (Value.string x)) (app_sv [115, 97, 110, 105, 116, 105, 122, 101, 32] _)
  · have ho : op = 7 := by simpa using ‹(op == 7) = true›
    go_ret
    refine ⟨?_, below_drewN B1.out _⟩
    subst ho
    exact congrArg (fun x => Ending.returned (Value.string x)) (app_sv [103, 111, 116, 111] _)
  · obtain rfl : op = 8 := by simpa using ‹(op == 8) = true›
    have QU := Lib.hid (words_quiet HU.out (by omega))
    have QT := Lib.hid (words_quiet HT.out (by omega))
    go_quiet ((go_at_call 54; first | (with_reducible exact QU.out _) | (with_reducible exact QT.out _)))
    go_wp2
    go_ret
    refine ⟨?_, below_drewN B1.out _⟩
    exact congrArg (fun x => Ending.returned (Value.string x)) ((congrArg (· ++ _) (app_sv [98, 114, 97, 110, 99, 104] _)).trans (app_sv _ _))
  · have e : lineT ⟨op, dfn, uses, targets⟩ = [114, 101, 116, 117, 114, 110] := by
      have h1 : op ≠ 1 := by simpa using ‹(op == 1) = false›
      have h2 : op ≠ 2 := by simpa using ‹(op == 2) = false›
      have h3 : op ≠ 3 := by simpa using ‹(op == 3) = false›
      have h4 : op ≠ 4 := by simpa using ‹(op == 4) = false›
      have h5 : op ≠ 5 := by simpa using ‹(op == 5) = false›
      have h6 : op ≠ 6 := by simpa using ‹(op == 6) = false›
      have h7 : op ≠ 7 := by simpa using ‹(op == 7) = false›
      have h8 : op ≠ 8 := by simpa using ‹(op == 8) = false›
      simp [lineT, h1, h2, h3, h4, h5, h6, h7, h8]
    go_ret
    exact ⟨by rw [e]; rfl, B1.out⟩
end Go.Proofs.YtpnfdmajpkpjoaaDoor

