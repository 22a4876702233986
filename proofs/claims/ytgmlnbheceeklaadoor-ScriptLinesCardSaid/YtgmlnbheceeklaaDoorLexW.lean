/- Walks of the scanners' small functions. -/
import Derived.Test.YtgmlnbheceeklaaDoorRows
import Derived.Test.YtgmlnbheceeklaaDoorLexP
import Derived.WalkKit
import Derived.WalkSpells
import Derived.WalkLawsBesides
import Derived.Deep.QuietTactic
import Derived.BigQuiet
import Derived.Lib.Hide
set_option linter.unusedVariables false
set_option linter.unusedSimpArgs false
set_option linter.unusedSectionVars false
namespace Go.Proofs.YtgmlnbheceeklaaDoor
open Go.RowKit

theorem ret_int {k : IntKind} {a b : Int} (h : a = b) : Ending.returned (.int k a) = .returned (.int k b) := by rw [h]

theorem digit_any (c : Int) (w : World) :
    Calls Tryd.prog 81 #[.int .u8 c] w fun e w' => e = .returned (.bool (isDig c)) ∧ w' = w := by
  unfold isDig
  by_cases h1 : 48 ≤ c
  · go_enter Tryd.func81, Tryd.ntmps81
    go_wp2
    go_ret
    exact ⟨by simp [h1], rfl⟩
  · have h1' : decide (48 ≤ c) = false := by simp; omega
    go_enter Tryd.func81, Tryd.ntmps81
    go_wp2
    go_ret
    exact ⟨by simp [h1'], rfl⟩

theorem rdigit_any (c : Int) (w : World) :
    Calls Tryd.prog 45 #[.int .u8 c] w fun e w' => e = .returned (.bool (isDig c)) ∧ w' = w := by
  unfold isDig
  by_cases h1 : 48 ≤ c
  · go_enter Tryd.func45, Tryd.ntmps45
    go_wp2
    go_ret
    exact ⟨by simp [h1], rfl⟩
  · have h1' : decide (48 ≤ c) = false := by simp; omega
    go_enter Tryd.func45, Tryd.ntmps45
    go_wp2
    go_ret
    exact ⟨by simp [h1'], rfl⟩

theorem letter_any (c : Int) (w : World) :
    Calls Tryd.prog 47 #[.int .u8 c] w fun e w' => e = .returned (.bool (isLet c)) ∧ w' = w := by
  have hl : ∀ b, isLet c = b → isLet c = b := fun _ h => h
  by_cases h1 : 97 ≤ c
  · by_cases h2 : c ≤ 122
    · have hv : isLet c = true := by simp [isLet, h1, h2]
      rw [hv]
      clear hl hv
      go_enter Tryd.func47, Tryd.ntmps47
      go_wp2
      go_ret
      exact ⟨rfl, rfl⟩
    · have hv : isLet c = false := by simp [isLet]; omega
      have h3 : 65 ≤ c := by omega
      have h2' : decide (c ≤ 122) = false := by simp; omega
      have h4' : decide (c ≤ 90) = false := by simp; omega
      rw [hv]
      clear hl hv
      go_enter Tryd.func47, Tryd.ntmps47
      go_wp2
      go_ret
      exact ⟨rfl, rfl⟩
  · have h1' : decide (97 ≤ c) = false := by simp; omega
    by_cases h3 : 65 ≤ c
    · by_cases h4 : c ≤ 90
      · have hv : isLet c = true := by simp [isLet]; omega
        rw [hv]
        clear hl hv
        go_enter Tryd.func47, Tryd.ntmps47
        go_wp2
        go_ret
        exact ⟨rfl, rfl⟩
      · have hv : isLet c = false := by simp [isLet]; omega
        have h4' : decide (c ≤ 90) = false := by simp; omega
        rw [hv]
        clear hl hv
        go_enter Tryd.func47, Tryd.ntmps47
        go_wp2
        go_ret
        exact ⟨rfl, rfl⟩
    · have hv : isLet c = false := by simp [isLet]; omega
      have h3' : decide (65 ≤ c) = false := by simp; omega
      rw [hv]
      clear hl hv
      go_enter Tryd.func47, Tryd.ntmps47
      go_wp2
      go_ret
      exact ⟨rfl, rfl⟩

/-- The reference's letters: the underscore is one. -/
def isLetU (c : Int) : Bool := isLet c || c == 95

theorem part_any (c : Int) (w : World) :
    Calls Tryd.prog 65 #[.int .u8 c] w fun e w' => e = .returned (.bool (isPart c)) ∧ w' = w := by
  unfold isPart
  cases hl : isLet c
  · cases hd : isDig c
    all_goals
      go_enter Tryd.func65, Tryd.ntmps65
      go_wp2_with (first | (go_at_call 47; refine (letter_any _ _).mono ?_; rintro e w' ⟨rfl, rfl⟩) | (go_at_call 81; refine (digit_any _ _).mono ?_; rintro e w' ⟨rfl, rfl⟩))
      go_ret
      exact ⟨rfl, rfl⟩
  · go_enter Tryd.func65, Tryd.ntmps65
    go_wp2_with (first | (go_at_call 47; refine (letter_any _ _).mono ?_; rintro e w' ⟨rfl, rfl⟩) | (go_at_call 81; refine (digit_any _ _).mono ?_; rintro e w' ⟨rfl, rfl⟩))
    go_ret
    exact ⟨rfl, rfl⟩

theorem rletter_any (c : Int) (w : World) :
    Calls Tryd.prog 44 #[.int .u8 c] w fun e w' => e = .returned (.bool (isLetU c)) ∧ w' = w := by
  by_cases h1 : 97 ≤ c
  · by_cases h2 : c ≤ 122
    · have hv : isLetU c = true := by simp [isLetU, isLet, h1, h2]
      rw [hv]
      clear hv
      go_enter Tryd.func44, Tryd.ntmps44
      go_wp2
      go_ret
      exact ⟨rfl, rfl⟩
    · have hv : isLetU c = false := by simp [isLetU, isLet]; omega
      have h3 : 65 ≤ c := by omega
      have h2' : decide (c ≤ 122) = false := by simp; omega
      have h4' : decide (c ≤ 90) = false := by simp; omega
      have h5' : (c == 95) = false := by simp; omega
      rw [hv]
      clear hv
      go_enter Tryd.func44, Tryd.ntmps44
      go_wp2
      go_ret
      exact ⟨rfl, rfl⟩
  · have h1' : decide (97 ≤ c) = false := by simp; omega
    by_cases h3 : 65 ≤ c
    · by_cases h4 : c ≤ 90
      · have hv : isLetU c = true := by simp [isLetU, isLet]; omega
        rw [hv]
        clear hv
        go_enter Tryd.func44, Tryd.ntmps44
        go_wp2
        go_ret
        exact ⟨rfl, rfl⟩
      · have hv : isLetU c = (c == 95) := by simp [isLetU, isLet]; omega
        have h4' : decide (c ≤ 90) = false := by simp; omega
        rw [hv]
        clear hv
        go_enter Tryd.func44, Tryd.ntmps44
        go_wp2
        go_ret
        exact ⟨rfl, rfl⟩
    · have hv : isLetU c = (c == 95) := by simp [isLetU, isLet]; omega
      have h3' : decide (65 ≤ c) = false := by simp; omega
      rw [hv]
      clear hv
      go_enter Tryd.func44, Tryd.ntmps44
      go_wp2
      go_ret
      exact ⟨rfl, rfl⟩

theorem drop_cons (s : ByteArray) (k : Nat) (h : k < s.size) : s.data.toList.drop k = s[k] :: s.data.toList.drop (k + 1) := by
  rw [List.drop_eq_getElem_cons (by simpa using h)]; rfl
theorem drop_end (s : ByteArray) (k : Nat) (h : s.size ≤ k) : s.data.toList.drop k = [] := by
  rw [List.drop_eq_nil_iff]; simpa using h

/-- How far a word goes from k on. -/
def wlen (s : ByteArray) (k : Nat) : Nat := ((s.data.toList.drop k).takeWhile partB).length
theorem wlen_yes (s : ByteArray) (k : Nat) (h : k < s.size) (hp : isPart (s[k].toNat : Int) = true) : wlen s k = 1 + wlen s (k + 1) := by
  unfold wlen
  rw [drop_cons s k h, List.takeWhile_cons, if_pos (show partB s[k] = true from hp), List.length_cons]
  omega
theorem wlen_no (s : ByteArray) (k : Nat) (h : k < s.size) (hp : isPart (s[k].toNat : Int) = false) : wlen s k = 0 := by
  unfold wlen
  rw [drop_cons s k h, List.takeWhile_cons, if_neg (by show ¬ isPart (s[k].toNat : Int) = true; simp [hp])]
  rfl
theorem wlen_end (s : ByteArray) (k : Nat) (h : s.size ≤ k) : wlen s k = 0 := by
  unfold wlen
  rw [drop_end s k h]
  rfl

theorem wordEnd_any (s : ByteArray) (i : Nat) (w : World) (hs : s.size ≤ maxLen) (hi : i ≤ s.size) :
    Calls Tryd.prog 49 #[.string s, .int .i64 i] w fun e w' => e = .returned (.int .i64 ((i + wlen s i : Nat) : Int)) ∧ w' = w := by
  unfold maxLen at hs
  go_enter Tryd.func49, Tryd.ntmps49
  go_wp2
  go_loop [1] (fun v => ∃ k : Nat, k ≤ s.size ∧ v = .int .i64 k ∧ Hid (k + wlen s k = i + wlen s i)) (fun v => s.size - (intOf v).toNat)
  case atStart => exact ⟨i, hi, rfl, rfl⟩
  case round =>
    obtain ⟨k, hk, rfl, hw⟩ := hrel
    by_cases hlt : k < s.size
    · cases hp : isPart (s[k].toNat : Int)
      · have h0 := Lib.hid (wlen_no s k hlt hp)
        go_wp2_with (go_at_call 65; refine (part_any _ _).mono ?_; rintro e w' ⟨rfl, rfl⟩)
        go_ret
        exact ⟨ret_int (by have := hw.out; have := h0.out; omega), rfl⟩
      · have h0 := Lib.hid (wlen_yes s k hlt hp)
        go_wp2_with (go_at_call 65; refine (part_any _ _).mono ?_; rintro e w' ⟨rfl, rfl⟩)
        go_round
        case rel => exact ⟨k + 1, by omega, by go_num, by have := hw.out; have := h0.out; unfold Hid; omega⟩
        case measure => simp [intOf]; omega
    · have h0 := Lib.hid (wlen_end s k (by omega))
      go_wp2
      go_ret
      exact ⟨ret_int (by have := hw.out; have := h0.out; omega), rfl⟩
end Go.Proofs.YtgmlnbheceeklaaDoor
