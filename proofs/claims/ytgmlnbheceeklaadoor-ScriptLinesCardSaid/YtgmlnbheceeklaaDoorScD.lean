/- Walks: the reference's Decimal. Printed by wip/hand, after XBsD. -/
import Derived.Test.YtgmlnbheceeklaaDoorDecP
import Derived.Test.YtgmlnbheceeklaaDoorScW1
import Derived.WalkKit
import Derived.WalkSpells
set_option linter.unusedVariables false
set_option linter.unusedSimpArgs false
set_option linter.unusedSectionVars false
namespace Go.Proofs.YtgmlnbheceeklaaDoor
open Go.RowKit
variable [Base]

def decD (f m : Nat) : Str := if m = 0 then [] else decF f m
theorem decF_succ (f n : Nat) : decF (f + 1) n = decD f (n / 10) ++ [dig10 n] := by unfold decF decD; rfl
theorem decD_succ {f m : Nat} (h : 0 < m) : decD (f + 1) m = decD f (m / 10) ++ [dig10 m] := by
  rw [decD, if_neg (by omega), decF_succ]
theorem decD_zero (f : Nat) : decD f 0 = [] := rfl
theorem dec_lt {f m : Nat} (h : m < 10 ^ (f + 1)) : m / 10 < 10 ^ f := by
  rw [Nat.pow_succ] at h; omega
theorem dig_of {m k : Nat} (h : m % 10 = k) : dig10 m = UInt8.ofNat (48 + k) := by unfold dig10; rw [h]
theorem ten_cases (n : Nat) : (n : Int) % 10 = 0 ∨ (n : Int) % 10 = 1 ∨ (n : Int) % 10 = 2 ∨ (n : Int) % 10 = 3 ∨ (n : Int) % 10 = 4 ∨ (n : Int) % 10 = 5 ∨ (n : Int) % 10 = 6 ∨ (n : Int) % 10 = 7 ∨ (n : Int) % 10 = 8 ∨ (n : Int) % 10 = 9 := by omega
theorem app_qs (d : UInt8) (t : Str) : (ByteArray.mk #[d]) ++ (ByteArray.mk t.toArray) = ⟨(d :: t).toArray⟩ := by
  apply ByteArray.ext
  simp [ByteArray.data_append]
/-- A digit ahead of the text. -/
def DecAt (n : Nat) (f m : Nat) (t : Str) : Prop := m < 10 ^ f ∧ dec10 n = decD f m ++ t ∧ t.length + f ≤ 20
theorem DecAt.start {n k : Nat} (hn : n < 1000000000) (h : (n : Int) % 10 = k) : DecAt n 19 (n / 10) [UInt8.ofNat (48 + k)] := ⟨by omega, by rw [← dig_of (show n % 10 = k by omega)]; exact ⟨decF_succ 19 n, by simp⟩⟩
theorem DecAt.step {n f m k : Nat} {t : Str} (h : DecAt n f m t) (hm : 0 < m) (hk : (m : Int) % 10 = k) : ∃ f', DecAt n f' (m / 10) (UInt8.ofNat (48 + k) :: t) := by
  obtain ⟨h1, h2, h3⟩ := h
  cases f with
  | zero => omega
  | succ f => exact ⟨f, dec_lt h1, by rw [h2, decD_succ hm, dig_of (show m % 10 = k by omega), List.append_assoc]; rfl, by simp only [List.length_cons]; omega⟩
theorem DecAt.stop {n f m : Nat} {t : Str} (h : DecAt n f m t) (hm : m = 0) : dec10 n = t := by rw [h.2.1, hm]; rfl
set_option maxHeartbeats 4000000 in
theorem decimal_any (n : Nat) (hn : n < 1000000000) (w : World) : Calls Tryd.prog 32 #[.int .i64 n] w fun e w' => e = .returned (qs (dec10 n)) ∧ w = w' := by
  have hx0 : (ByteArray.mk #[48, 49, 50, 51, 52, 53, 54, 55, 56, 57]).extract 0 1 = ⟨#[48]⟩ := rfl
  have hx1 : (ByteArray.mk #[48, 49, 50, 51, 52, 53, 54, 55, 56, 57]).extract 1 2 = ⟨#[49]⟩ := rfl
  have hx2 : (ByteArray.mk #[48, 49, 50, 51, 52, 53, 54, 55, 56, 57]).extract 2 3 = ⟨#[50]⟩ := rfl
  have hx3 : (ByteArray.mk #[48, 49, 50, 51, 52, 53, 54, 55, 56, 57]).extract 3 4 = ⟨#[51]⟩ := rfl
  have hx4 : (ByteArray.mk #[48, 49, 50, 51, 52, 53, 54, 55, 56, 57]).extract 4 5 = ⟨#[52]⟩ := rfl
  have hx5 : (ByteArray.mk #[48, 49, 50, 51, 52, 53, 54, 55, 56, 57]).extract 5 6 = ⟨#[53]⟩ := rfl
  have hx6 : (ByteArray.mk #[48, 49, 50, 51, 52, 53, 54, 55, 56, 57]).extract 6 7 = ⟨#[54]⟩ := rfl
  have hx7 : (ByteArray.mk #[48, 49, 50, 51, 52, 53, 54, 55, 56, 57]).extract 7 8 = ⟨#[55]⟩ := rfl
  have hx8 : (ByteArray.mk #[48, 49, 50, 51, 52, 53, 54, 55, 56, 57]).extract 8 9 = ⟨#[56]⟩ := rfl
  have hx9 : (ByteArray.mk #[48, 49, 50, 51, 52, 53, 54, 55, 56, 57]).extract 9 10 = ⟨#[57]⟩ := rfl
  have happ := app_qs
  have HS : Hid (∃ k : Nat, k < 10 ∧ (n : Int) % 10 = k) := ⟨n % 10, by omega, by omega⟩
  rcases ten_cases n with e1 | e1 | e1 | e1 | e1 | e1 | e1 | e1 | e1 | e1
  · have H0 := Lib.hid (DecAt.start (k := 0) hn e1)
    clear HS
    go_enter Tryd.func32, Tryd.ntmps32
    go_wp2
    clear e1
    go_loop [0, 3] (fun y0 y3 => ∃ (m : Nat) (t : Str), m < 1000000000 ∧ y0 = .int .i64 m ∧ y3 = qs t ∧ Hid (∃ f, DecAt n f m t)) (fun y0 _ => (intOf y0).toNat)
    case atStart => exact ⟨n / 10, _, by omega, by go_num, rfl, _, H0.out⟩
    case round =>
      clear H0
      obtain ⟨m, t, hm, rfl, rfl, HF⟩ := hrel
      have hlt : t.length ≤ 20 := by obtain ⟨f, h⟩ := HF.out; have := h.2.2; omega
      by_cases h0 : m = 0
      · have HE := Lib.hid (show dec10 n = t by obtain ⟨f, h⟩ := HF.out; exact h.stop h0)
        have hz : ¬ (0 : Int) < (m : Int) := by omega
        have hz2 : decide (0 < m) = false := by simp; omega
        clear h0
        go_wp2
        go_ret
        exact ⟨(congrArg (fun x => Ending.returned (qs x)) HE.out).symm, rfl⟩
      have hpos : 0 < m := by omega
      have hp2 : (0 : Int) < (m : Int) := by omega
      clear h0
      rcases ten_cases m with e2 | e2 | e2 | e2 | e2 | e2 | e2 | e2 | e2 | e2
      · have HN := Lib.hid (show ∃ f, DecAt n f (m / 10) (UInt8.ofNat (48 + 0) :: t) by obtain ⟨f, h⟩ := HF.out; exact h.step hpos (k := 0) e2)
        go_wp2
        go_round
        case rel => exact ⟨m / 10, _, by omega, by go_num, rfl, HN.out⟩
        case measure => simp [intOf]; omega
      · have HN := Lib.hid (show ∃ f, DecAt n f (m / 10) (UInt8.ofNat (48 + 1) :: t) by obtain ⟨f, h⟩ := HF.out; exact h.step hpos (k := 1) e2)
        go_wp2
        go_round
        case rel => exact ⟨m / 10, _, by omega, by go_num, rfl, HN.out⟩
        case measure => simp [intOf]; omega
      · have HN := Lib.hid (show ∃ f, DecAt n f (m / 10) (UInt8.ofNat (48 + 2) :: t) by obtain ⟨f, h⟩ := HF.out; exact h.step hpos (k := 2) e2)
        go_wp2
        go_round
        case rel => exact ⟨m / 10, _, by omega, by go_num, rfl, HN.out⟩
        case measure => simp [intOf]; omega
      · have HN := Lib.hid (show ∃ f, DecAt n f (m / 10) (UInt8.ofNat (48 + 3) :: t) by obtain ⟨f, h⟩ := HF.out; exact h.step hpos (k := 3) e2)
        go_wp2
        go_round
        case rel => exact ⟨m / 10, _, by omega, by go_num, rfl, HN.out⟩
        case measure => simp [intOf]; omega
      · have HN := Lib.hid (show ∃ f, DecAt n f (m / 10) (UInt8.ofNat (48 + 4) :: t) by obtain ⟨f, h⟩ := HF.out; exact h.step hpos (k := 4) e2)
        go_wp2
        go_round
        case rel => exact ⟨m / 10, _, by omega, by go_num, rfl, HN.out⟩
        case measure => simp [intOf]; omega
      · have HN := Lib.hid (show ∃ f, DecAt n f (m / 10) (UInt8.ofNat (48 + 5) :: t) by obtain ⟨f, h⟩ := HF.out; exact h.step hpos (k := 5) e2)
        go_wp2
        go_round
        case rel => exact ⟨m / 10, _, by omega, by go_num, rfl, HN.out⟩
        case measure => simp [intOf]; omega
      · have HN := Lib.hid (show ∃ f, DecAt n f (m / 10) (UInt8.ofNat (48 + 6) :: t) by obtain ⟨f, h⟩ := HF.out; exact h.step hpos (k := 6) e2)
        go_wp2
        go_round
        case rel => exact ⟨m / 10, _, by omega, by go_num, rfl, HN.out⟩
        case measure => simp [intOf]; omega
      · have HN := Lib.hid (show ∃ f, DecAt n f (m / 10) (UInt8.ofNat (48 + 7) :: t) by obtain ⟨f, h⟩ := HF.out; exact h.step hpos (k := 7) e2)
        go_wp2
        go_round
        case rel => exact ⟨m / 10, _, by omega, by go_num, rfl, HN.out⟩
        case measure => simp [intOf]; omega
      · have HN := Lib.hid (show ∃ f, DecAt n f (m / 10) (UInt8.ofNat (48 + 8) :: t) by obtain ⟨f, h⟩ := HF.out; exact h.step hpos (k := 8) e2)
        go_wp2
        go_round
        case rel => exact ⟨m / 10, _, by omega, by go_num, rfl, HN.out⟩
        case measure => simp [intOf]; omega
      · have HN := Lib.hid (show ∃ f, DecAt n f (m / 10) (UInt8.ofNat (48 + 9) :: t) by obtain ⟨f, h⟩ := HF.out; exact h.step hpos (k := 9) e2)
        go_wp2
        go_round
        case rel => exact ⟨m / 10, _, by omega, by go_num, rfl, HN.out⟩
        case measure => simp [intOf]; omega
  · have H0 := Lib.hid (DecAt.start (k := 1) hn e1)
    clear HS
    go_enter Tryd.func32, Tryd.ntmps32
    go_wp2
    clear e1
    go_loop [0, 3] (fun y0 y3 => ∃ (m : Nat) (t : Str), m < 1000000000 ∧ y0 = .int .i64 m ∧ y3 = qs t ∧ Hid (∃ f, DecAt n f m t)) (fun y0 _ => (intOf y0).toNat)
    case atStart => exact ⟨n / 10, _, by omega, by go_num, rfl, _, H0.out⟩
    case round =>
      clear H0
      obtain ⟨m, t, hm, rfl, rfl, HF⟩ := hrel
      have hlt : t.length ≤ 20 := by obtain ⟨f, h⟩ := HF.out; have := h.2.2; omega
      by_cases h0 : m = 0
      · have HE := Lib.hid (show dec10 n = t by obtain ⟨f, h⟩ := HF.out; exact h.stop h0)
        have hz : ¬ (0 : Int) < (m : Int) := by omega
        have hz2 : decide (0 < m) = false := by simp; omega
        clear h0
        go_wp2
        go_ret
        exact ⟨(congrArg (fun x => Ending.returned (qs x)) HE.out).symm, rfl⟩
      have hpos : 0 < m := by omega
      have hp2 : (0 : Int) < (m : Int) := by omega
      clear h0
      rcases ten_cases m with e2 | e2 | e2 | e2 | e2 | e2 | e2 | e2 | e2 | e2
      · have HN := Lib.hid (show ∃ f, DecAt n f (m / 10) (UInt8.ofNat (48 + 0) :: t) by obtain ⟨f, h⟩ := HF.out; exact h.step hpos (k := 0) e2)
        go_wp2
        go_round
        case rel => exact ⟨m / 10, _, by omega, by go_num, rfl, HN.out⟩
        case measure => simp [intOf]; omega
      · have HN := Lib.hid (show ∃ f, DecAt n f (m / 10) (UInt8.ofNat (48 + 1) :: t) by obtain ⟨f, h⟩ := HF.out; exact h.step hpos (k := 1) e2)
        go_wp2
        go_round
        case rel => exact ⟨m / 10, _, by omega, by go_num, rfl, HN.out⟩
        case measure => simp [intOf]; omega
      · have HN := Lib.hid (show ∃ f, DecAt n f (m / 10) (UInt8.ofNat (48 + 2) :: t) by obtain ⟨f, h⟩ := HF.out; exact h.step hpos (k := 2) e2)
        go_wp2
        go_round
        case rel => exact ⟨m / 10, _, by omega, by go_num, rfl, HN.out⟩
        case measure => simp [intOf]; omega
      · have HN := Lib.hid (show ∃ f, DecAt n f (m / 10) (UInt8.ofNat (48 + 3) :: t) by obtain ⟨f, h⟩ := HF.out; exact h.step hpos (k := 3) e2)
        go_wp2
        go_round
        case rel => exact ⟨m / 10, _, by omega, by go_num, rfl, HN.out⟩
        case measure => simp [intOf]; omega
      · have HN := Lib.hid (show ∃ f, DecAt n f (m / 10) (UInt8.ofNat (48 + 4) :: t) by obtain ⟨f, h⟩ := HF.out; exact h.step hpos (k := 4) e2)
        go_wp2
        go_round
        case rel => exact ⟨m / 10, _, by omega, by go_num, rfl, HN.out⟩
        case measure => simp [intOf]; omega
      · have HN := Lib.hid (show ∃ f, DecAt n f (m / 10) (UInt8.ofNat (48 + 5) :: t) by obtain ⟨f, h⟩ := HF.out; exact h.step hpos (k := 5) e2)
        go_wp2
        go_round
        case rel => exact ⟨m / 10, _, by omega, by go_num, rfl, HN.out⟩
        case measure => simp [intOf]; omega
      · have HN := Lib.hid (show ∃ f, DecAt n f (m / 10) (UInt8.ofNat (48 + 6) :: t) by obtain ⟨f, h⟩ := HF.out; exact h.step hpos (k := 6) e2)
        go_wp2
        go_round
        case rel => exact ⟨m / 10, _, by omega, by go_num, rfl, HN.out⟩
        case measure => simp [intOf]; omega
      · have HN := Lib.hid (show ∃ f, DecAt n f (m / 10) (UInt8.ofNat (48 + 7) :: t) by obtain ⟨f, h⟩ := HF.out; exact h.step hpos (k := 7) e2)
        go_wp2
        go_round
        case rel => exact ⟨m / 10, _, by omega, by go_num, rfl, HN.out⟩
        case measure => simp [intOf]; omega
      · have HN := Lib.hid (show ∃ f, DecAt n f (m / 10) (UInt8.ofNat (48 + 8) :: t) by obtain ⟨f, h⟩ := HF.out; exact h.step hpos (k := 8) e2)
        go_wp2
        go_round
        case rel => exact ⟨m / 10, _, by omega, by go_num, rfl, HN.out⟩
        case measure => simp [intOf]; omega
      · have HN := Lib.hid (show ∃ f, DecAt n f (m / 10) (UInt8.ofNat (48 + 9) :: t) by obtain ⟨f, h⟩ := HF.out; exact h.step hpos (k := 9) e2)
        go_wp2
        go_round
        case rel => exact ⟨m / 10, _, by omega, by go_num, rfl, HN.out⟩
        case measure => simp [intOf]; omega
  · have H0 := Lib.hid (DecAt.start (k := 2) hn e1)
    clear HS
    go_enter Tryd.func32, Tryd.ntmps32
    go_wp2
    clear e1
    go_loop [0, 3] (fun y0 y3 => ∃ (m : Nat) (t : Str), m < 1000000000 ∧ y0 = .int .i64 m ∧ y3 = qs t ∧ Hid (∃ f, DecAt n f m t)) (fun y0 _ => (intOf y0).toNat)
    case atStart => exact ⟨n / 10, _, by omega, by go_num, rfl, _, H0.out⟩
    case round =>
      clear H0
      obtain ⟨m, t, hm, rfl, rfl, HF⟩ := hrel
      have hlt : t.length ≤ 20 := by obtain ⟨f, h⟩ := HF.out; have := h.2.2; omega
      by_cases h0 : m = 0
      · have HE := Lib.hid (show dec10 n = t by obtain ⟨f, h⟩ := HF.out; exact h.stop h0)
        have hz : ¬ (0 : Int) < (m : Int) := by omega
        have hz2 : decide (0 < m) = false := by simp; omega
        clear h0
        go_wp2
        go_ret
        exact ⟨(congrArg (fun x => Ending.returned (qs x)) HE.out).symm, rfl⟩
      have hpos : 0 < m := by omega
      have hp2 : (0 : Int) < (m : Int) := by omega
      clear h0
      rcases ten_cases m with e2 | e2 | e2 | e2 | e2 | e2 | e2 | e2 | e2 | e2
      · have HN := Lib.hid (show ∃ f, DecAt n f (m / 10) (UInt8.ofNat (48 + 0) :: t) by obtain ⟨f, h⟩ := HF.out; exact h.step hpos (k := 0) e2)
        go_wp2
        go_round
        case rel => exact ⟨m / 10, _, by omega, by go_num, rfl, HN.out⟩
        case measure => simp [intOf]; omega
      · have HN := Lib.hid (show ∃ f, DecAt n f (m / 10) (UInt8.ofNat (48 + 1) :: t) by obtain ⟨f, h⟩ := HF.out; exact h.step hpos (k := 1) e2)
        go_wp2
        go_round
        case rel => exact ⟨m / 10, _, by omega, by go_num, rfl, HN.out⟩
        case measure => simp [intOf]; omega
      · have HN := Lib.hid (show ∃ f, DecAt n f (m / 10) (UInt8.ofNat (48 + 2) :: t) by obtain ⟨f, h⟩ := HF.out; exact h.step hpos (k := 2) e2)
        go_wp2
        go_round
        case rel => exact ⟨m / 10, _, by omega, by go_num, rfl, HN.out⟩
        case measure => simp [intOf]; omega
      · have HN := Lib.hid (show ∃ f, DecAt n f (m / 10) (UInt8.ofNat (48 + 3) :: t) by obtain ⟨f, h⟩ := HF.out; exact h.step hpos (k := 3) e2)
        go_wp2
        go_round
        case rel => exact ⟨m / 10, _, by omega, by go_num, rfl, HN.out⟩
        case measure => simp [intOf]; omega
      · have HN := Lib.hid (show ∃ f, DecAt n f (m / 10) (UInt8.ofNat (48 + 4) :: t) by obtain ⟨f, h⟩ := HF.out; exact h.step hpos (k := 4) e2)
        go_wp2
        go_round
        case rel => exact ⟨m / 10, _, by omega, by go_num, rfl, HN.out⟩
        case measure => simp [intOf]; omega
      · have HN := Lib.hid (show ∃ f, DecAt n f (m / 10) (UInt8.ofNat (48 + 5) :: t) by obtain ⟨f, h⟩ := HF.out; exact h.step hpos (k := 5) e2)
        go_wp2
        go_round
        case rel => exact ⟨m / 10, _, by omega, by go_num, rfl, HN.out⟩
        case measure => simp [intOf]; omega
      · have HN := Lib.hid (show ∃ f, DecAt n f (m / 10) (UInt8.ofNat (48 + 6) :: t) by obtain ⟨f, h⟩ := HF.out; exact h.step hpos (k := 6) e2)
        go_wp2
        go_round
        case rel => exact ⟨m / 10, _, by omega, by go_num, rfl, HN.out⟩
        case measure => simp [intOf]; omega
      · have HN := Lib.hid (show ∃ f, DecAt n f (m / 10) (UInt8.ofNat (48 + 7) :: t) by obtain ⟨f, h⟩ := HF.out; exact h.step hpos (k := 7) e2)
        go_wp2
        go_round
        case rel => exact ⟨m / 10, _, by omega, by go_num, rfl, HN.out⟩
        case measure => simp [intOf]; omega
      · have HN := Lib.hid (show ∃ f, DecAt n f (m / 10) (UInt8.ofNat (48 + 8) :: t) by obtain ⟨f, h⟩ := HF.out; exact h.step hpos (k := 8) e2)
        go_wp2
        go_round
        case rel => exact ⟨m / 10, _, by omega, by go_num, rfl, HN.out⟩
        case measure => simp [intOf]; omega
      · have HN := Lib.hid (show ∃ f, DecAt n f (m / 10) (UInt8.ofNat (48 + 9) :: t) by obtain ⟨f, h⟩ := HF.out; exact h.step hpos (k := 9) e2)
        go_wp2
        go_round
        case rel => exact ⟨m / 10, _, by omega, by go_num, rfl, HN.out⟩
        case measure => simp [intOf]; omega
  · have H0 := Lib.hid (DecAt.start (k := 3) hn e1)
    clear HS
    go_enter Tryd.func32, Tryd.ntmps32
    go_wp2
    clear e1
    go_loop [0, 3] (fun y0 y3 => ∃ (m : Nat) (t : Str), m < 1000000000 ∧ y0 = .int .i64 m ∧ y3 = qs t ∧ Hid (∃ f, DecAt n f m t)) (fun y0 _ => (intOf y0).toNat)
    case atStart => exact ⟨n / 10, _, by omega, by go_num, rfl, _, H0.out⟩
    case round =>
      clear H0
      obtain ⟨m, t, hm, rfl, rfl, HF⟩ := hrel
      have hlt : t.length ≤ 20 := by obtain ⟨f, h⟩ := HF.out; have := h.2.2; omega
      by_cases h0 : m = 0
      · have HE := Lib.hid (show dec10 n = t by obtain ⟨f, h⟩ := HF.out; exact h.stop h0)
        have hz : ¬ (0 : Int) < (m : Int) := by omega
        have hz2 : decide (0 < m) = false := by simp; omega
        clear h0
        go_wp2
        go_ret
        exact ⟨(congrArg (fun x => Ending.returned (qs x)) HE.out).symm, rfl⟩
      have hpos : 0 < m := by omega
      have hp2 : (0 : Int) < (m : Int) := by omega
      clear h0
      rcases ten_cases m with e2 | e2 | e2 | e2 | e2 | e2 | e2 | e2 | e2 | e2
      · have HN := Lib.hid (show ∃ f, DecAt n f (m / 10) (UInt8.ofNat (48 + 0) :: t) by obtain ⟨f, h⟩ := HF.out; exact h.step hpos (k := 0) e2)
        go_wp2
        go_round
        case rel => exact ⟨m / 10, _, by omega, by go_num, rfl, HN.out⟩
        case measure => simp [intOf]; omega
      · have HN := Lib.hid (show ∃ f, DecAt n f (m / 10) (UInt8.ofNat (48 + 1) :: t) by obtain ⟨f, h⟩ := HF.out; exact h.step hpos (k := 1) e2)
        go_wp2
        go_round
        case rel => exact ⟨m / 10, _, by omega, by go_num, rfl, HN.out⟩
        case measure => simp [intOf]; omega
      · have HN := Lib.hid (show ∃ f, DecAt n f (m / 10) (UInt8.ofNat (48 + 2) :: t) by obtain ⟨f, h⟩ := HF.out; exact h.step hpos (k := 2) e2)
        go_wp2
        go_round
        case rel => exact ⟨m / 10, _, by omega, by go_num, rfl, HN.out⟩
        case measure => simp [intOf]; omega
      · have HN := Lib.hid (show ∃ f, DecAt n f (m / 10) (UInt8.ofNat (48 + 3) :: t) by obtain ⟨f, h⟩ := HF.out; exact h.step hpos (k := 3) e2)
        go_wp2
        go_round
        case rel => exact ⟨m / 10, _, by omega, by go_num, rfl, HN.out⟩
        case measure => simp [intOf]; omega
      · have HN := Lib.hid (show ∃ f, DecAt n f (m / 10) (UInt8.ofNat (48 + 4) :: t) by obtain ⟨f, h⟩ := HF.out; exact h.step hpos (k := 4) e2)
        go_wp2
        go_round
        case rel => exact ⟨m / 10, _, by omega, by go_num, rfl, HN.out⟩
        case measure => simp [intOf]; omega
      · have HN := Lib.hid (show ∃ f, DecAt n f (m / 10) (UInt8.ofNat (48 + 5) :: t) by obtain ⟨f, h⟩ := HF.out; exact h.step hpos (k := 5) e2)
        go_wp2
        go_round
        case rel => exact ⟨m / 10, _, by omega, by go_num, rfl, HN.out⟩
        case measure => simp [intOf]; omega
      · have HN := Lib.hid (show ∃ f, DecAt n f (m / 10) (UInt8.ofNat (48 + 6) :: t) by obtain ⟨f, h⟩ := HF.out; exact h.step hpos (k := 6) e2)
        go_wp2
        go_round
        case rel => exact ⟨m / 10, _, by omega, by go_num, rfl, HN.out⟩
        case measure => simp [intOf]; omega
      · have HN := Lib.hid (show ∃ f, DecAt n f (m / 10) (UInt8.ofNat (48 + 7) :: t) by obtain ⟨f, h⟩ := HF.out; exact h.step hpos (k := 7) e2)
        go_wp2
        go_round
        case rel => exact ⟨m / 10, _, by omega, by go_num, rfl, HN.out⟩
        case measure => simp [intOf]; omega
      · have HN := Lib.hid (show ∃ f, DecAt n f (m / 10) (UInt8.ofNat (48 + 8) :: t) by obtain ⟨f, h⟩ := HF.out; exact h.step hpos (k := 8) e2)
        go_wp2
        go_round
        case rel => exact ⟨m / 10, _, by omega, by go_num, rfl, HN.out⟩
        case measure => simp [intOf]; omega
      · have HN := Lib.hid (show ∃ f, DecAt n f (m / 10) (UInt8.ofNat (48 + 9) :: t) by obtain ⟨f, h⟩ := HF.out; exact h.step hpos (k := 9) e2)
        go_wp2
        go_round
        case rel => exact ⟨m / 10, _, by omega, by go_num, rfl, HN.out⟩
        case measure => simp [intOf]; omega
  · have H0 := Lib.hid (DecAt.start (k := 4) hn e1)
    clear HS
    go_enter Tryd.func32, Tryd.ntmps32
    go_wp2
    clear e1
    go_loop [0, 3] (fun y0 y3 => ∃ (m : Nat) (t : Str), m < 1000000000 ∧ y0 = .int .i64 m ∧ y3 = qs t ∧ Hid (∃ f, DecAt n f m t)) (fun y0 _ => (intOf y0).toNat)
    case atStart => exact ⟨n / 10, _, by omega, by go_num, rfl, _, H0.out⟩
    case round =>
      clear H0
      obtain ⟨m, t, hm, rfl, rfl, HF⟩ := hrel
      have hlt : t.length ≤ 20 := by obtain ⟨f, h⟩ := HF.out; have := h.2.2; omega
      by_cases h0 : m = 0
      · have HE := Lib.hid (show dec10 n = t by obtain ⟨f, h⟩ := HF.out; exact h.stop h0)
        have hz : ¬ (0 : Int) < (m : Int) := by omega
        have hz2 : decide (0 < m) = false := by simp; omega
        clear h0
        go_wp2
        go_ret
        exact ⟨(congrArg (fun x => Ending.returned (qs x)) HE.out).symm, rfl⟩
      have hpos : 0 < m := by omega
      have hp2 : (0 : Int) < (m : Int) := by omega
      clear h0
      rcases ten_cases m with e2 | e2 | e2 | e2 | e2 | e2 | e2 | e2 | e2 | e2
      · have HN := Lib.hid (show ∃ f, DecAt n f (m / 10) (UInt8.ofNat (48 + 0) :: t) by obtain ⟨f, h⟩ := HF.out; exact h.step hpos (k := 0) e2)
        go_wp2
        go_round
        case rel => exact ⟨m / 10, _, by omega, by go_num, rfl, HN.out⟩
        case measure => simp [intOf]; omega
      · have HN := Lib.hid (show ∃ f, DecAt n f (m / 10) (UInt8.ofNat (48 + 1) :: t) by obtain ⟨f, h⟩ := HF.out; exact h.step hpos (k := 1) e2)
        go_wp2
        go_round
        case rel => exact ⟨m / 10, _, by omega, by go_num, rfl, HN.out⟩
        case measure => simp [intOf]; omega
      · have HN := Lib.hid (show ∃ f, DecAt n f (m / 10) (UInt8.ofNat (48 + 2) :: t) by obtain ⟨f, h⟩ := HF.out; exact h.step hpos (k := 2) e2)
        go_wp2
        go_round
        case rel => exact ⟨m / 10, _, by omega, by go_num, rfl, HN.out⟩
        case measure => simp [intOf]; omega
      · have HN := Lib.hid (show ∃ f, DecAt n f (m / 10) (UInt8.ofNat (48 + 3) :: t) by obtain ⟨f, h⟩ := HF.out; exact h.step hpos (k := 3) e2)
        go_wp2
        go_round
        case rel => exact ⟨m / 10, _, by omega, by go_num, rfl, HN.out⟩
        case measure => simp [intOf]; omega
      · have HN := Lib.hid (show ∃ f, DecAt n f (m / 10) (UInt8.ofNat (48 + 4) :: t) by obtain ⟨f, h⟩ := HF.out; exact h.step hpos (k := 4) e2)
        go_wp2
        go_round
        case rel => exact ⟨m / 10, _, by omega, by go_num, rfl, HN.out⟩
        case measure => simp [intOf]; omega
      · have HN := Lib.hid (show ∃ f, DecAt n f (m / 10) (UInt8.ofNat (48 + 5) :: t) by obtain ⟨f, h⟩ := HF.out; exact h.step hpos (k := 5) e2)
        go_wp2
        go_round
        case rel => exact ⟨m / 10, _, by omega, by go_num, rfl, HN.out⟩
        case measure => simp [intOf]; omega
      · have HN := Lib.hid (show ∃ f, DecAt n f (m / 10) (UInt8.ofNat (48 + 6) :: t) by obtain ⟨f, h⟩ := HF.out; exact h.step hpos (k := 6) e2)
        go_wp2
        go_round
        case rel => exact ⟨m / 10, _, by omega, by go_num, rfl, HN.out⟩
        case measure => simp [intOf]; omega
      · have HN := Lib.hid (show ∃ f, DecAt n f (m / 10) (UInt8.ofNat (48 + 7) :: t) by obtain ⟨f, h⟩ := HF.out; exact h.step hpos (k := 7) e2)
        go_wp2
        go_round
        case rel => exact ⟨m / 10, _, by omega, by go_num, rfl, HN.out⟩
        case measure => simp [intOf]; omega
      · have HN := Lib.hid (show ∃ f, DecAt n f (m / 10) (UInt8.ofNat (48 + 8) :: t) by obtain ⟨f, h⟩ := HF.out; exact h.step hpos (k := 8) e2)
        go_wp2
        go_round
        case rel => exact ⟨m / 10, _, by omega, by go_num, rfl, HN.out⟩
        case measure => simp [intOf]; omega
      · have HN := Lib.hid (show ∃ f, DecAt n f (m / 10) (UInt8.ofNat (48 + 9) :: t) by obtain ⟨f, h⟩ := HF.out; exact h.step hpos (k := 9) e2)
        go_wp2
        go_round
        case rel => exact ⟨m / 10, _, by omega, by go_num, rfl, HN.out⟩
        case measure => simp [intOf]; omega
  · have H0 := Lib.hid (DecAt.start (k := 5) hn e1)
    clear HS
    go_enter Tryd.func32, Tryd.ntmps32
    go_wp2
    clear e1
    go_loop [0, 3] (fun y0 y3 => ∃ (m : Nat) (t : Str), m < 1000000000 ∧ y0 = .int .i64 m ∧ y3 = qs t ∧ Hid (∃ f, DecAt n f m t)) (fun y0 _ => (intOf y0).toNat)
    case atStart => exact ⟨n / 10, _, by omega, by go_num, rfl, _, H0.out⟩
    case round =>
      clear H0
      obtain ⟨m, t, hm, rfl, rfl, HF⟩ := hrel
      have hlt : t.length ≤ 20 := by obtain ⟨f, h⟩ := HF.out; have := h.2.2; omega
      by_cases h0 : m = 0
      · have HE := Lib.hid (show dec10 n = t by obtain ⟨f, h⟩ := HF.out; exact h.stop h0)
        have hz : ¬ (0 : Int) < (m : Int) := by omega
        have hz2 : decide (0 < m) = false := by simp; omega
        clear h0
        go_wp2
        go_ret
        exact ⟨(congrArg (fun x => Ending.returned (qs x)) HE.out).symm, rfl⟩
      have hpos : 0 < m := by omega
      have hp2 : (0 : Int) < (m : Int) := by omega
      clear h0
      rcases ten_cases m with e2 | e2 | e2 | e2 | e2 | e2 | e2 | e2 | e2 | e2
      · have HN := Lib.hid (show ∃ f, DecAt n f (m / 10) (UInt8.ofNat (48 + 0) :: t) by obtain ⟨f, h⟩ := HF.out; exact h.step hpos (k := 0) e2)
        go_wp2
        go_round
        case rel => exact ⟨m / 10, _, by omega, by go_num, rfl, HN.out⟩
        case measure => simp [intOf]; omega
      · have HN := Lib.hid (show ∃ f, DecAt n f (m / 10) (UInt8.ofNat (48 + 1) :: t) by obtain ⟨f, h⟩ := HF.out; exact h.step hpos (k := 1) e2)
        go_wp2
        go_round
        case rel => exact ⟨m / 10, _, by omega, by go_num, rfl, HN.out⟩
        case measure => simp [intOf]; omega
      · have HN := Lib.hid (show ∃ f, DecAt n f (m / 10) (UInt8.ofNat (48 + 2) :: t) by obtain ⟨f, h⟩ := HF.out; exact h.step hpos (k := 2) e2)
        go_wp2
        go_round
        case rel => exact ⟨m / 10, _, by omega, by go_num, rfl, HN.out⟩
        case measure => simp [intOf]; omega
      · have HN := Lib.hid (show ∃ f, DecAt n f (m / 10) (UInt8.ofNat (48 + 3) :: t) by obtain ⟨f, h⟩ := HF.out; exact h.step hpos (k := 3) e2)
        go_wp2
        go_round
        case rel => exact ⟨m / 10, _, by omega, by go_num, rfl, HN.out⟩
        case measure => simp [intOf]; omega
      · have HN := Lib.hid (show ∃ f, DecAt n f (m / 10) (UInt8.ofNat (48 + 4) :: t) by obtain ⟨f, h⟩ := HF.out; exact h.step hpos (k := 4) e2)
        go_wp2
        go_round
        case rel => exact ⟨m / 10, _, by omega, by go_num, rfl, HN.out⟩
        case measure => simp [intOf]; omega
      · have HN := Lib.hid (show ∃ f, DecAt n f (m / 10) (UInt8.ofNat (48 + 5) :: t) by obtain ⟨f, h⟩ := HF.out; exact h.step hpos (k := 5) e2)
        go_wp2
        go_round
        case rel => exact ⟨m / 10, _, by omega, by go_num, rfl, HN.out⟩
        case measure => simp [intOf]; omega
      · have HN := Lib.hid (show ∃ f, DecAt n f (m / 10) (UInt8.ofNat (48 + 6) :: t) by obtain ⟨f, h⟩ := HF.out; exact h.step hpos (k := 6) e2)
        go_wp2
        go_round
        case rel => exact ⟨m / 10, _, by omega, by go_num, rfl, HN.out⟩
        case measure => simp [intOf]; omega
      · have HN := Lib.hid (show ∃ f, DecAt n f (m / 10) (UInt8.ofNat (48 + 7) :: t) by obtain ⟨f, h⟩ := HF.out; exact h.step hpos (k := 7) e2)
        go_wp2
        go_round
        case rel => exact ⟨m / 10, _, by omega, by go_num, rfl, HN.out⟩
        case measure => simp [intOf]; omega
      · have HN := Lib.hid (show ∃ f, DecAt n f (m / 10) (UInt8.ofNat (48 + 8) :: t) by obtain ⟨f, h⟩ := HF.out; exact h.step hpos (k := 8) e2)
        go_wp2
        go_round
        case rel => exact ⟨m / 10, _, by omega, by go_num, rfl, HN.out⟩
        case measure => simp [intOf]; omega
      · have HN := Lib.hid (show ∃ f, DecAt n f (m / 10) (UInt8.ofNat (48 + 9) :: t) by obtain ⟨f, h⟩ := HF.out; exact h.step hpos (k := 9) e2)
        go_wp2
        go_round
        case rel => exact ⟨m / 10, _, by omega, by go_num, rfl, HN.out⟩
        case measure => simp [intOf]; omega
  · have H0 := Lib.hid (DecAt.start (k := 6) hn e1)
    clear HS
    go_enter Tryd.func32, Tryd.ntmps32
    go_wp2
    clear e1
    go_loop [0, 3] (fun y0 y3 => ∃ (m : Nat) (t : Str), m < 1000000000 ∧ y0 = .int .i64 m ∧ y3 = qs t ∧ Hid (∃ f, DecAt n f m t)) (fun y0 _ => (intOf y0).toNat)
    case atStart => exact ⟨n / 10, _, by omega, by go_num, rfl, _, H0.out⟩
    case round =>
      clear H0
      obtain ⟨m, t, hm, rfl, rfl, HF⟩ := hrel
      have hlt : t.length ≤ 20 := by obtain ⟨f, h⟩ := HF.out; have := h.2.2; omega
      by_cases h0 : m = 0
      · have HE := Lib.hid (show dec10 n = t by obtain ⟨f, h⟩ := HF.out; exact h.stop h0)
        have hz : ¬ (0 : Int) < (m : Int) := by omega
        have hz2 : decide (0 < m) = false := by simp; omega
        clear h0
        go_wp2
        go_ret
        exact ⟨(congrArg (fun x => Ending.returned (qs x)) HE.out).symm, rfl⟩
      have hpos : 0 < m := by omega
      have hp2 : (0 : Int) < (m : Int) := by omega
      clear h0
      rcases ten_cases m with e2 | e2 | e2 | e2 | e2 | e2 | e2 | e2 | e2 | e2
      · have HN := Lib.hid (show ∃ f, DecAt n f (m / 10) (UInt8.ofNat (48 + 0) :: t) by obtain ⟨f, h⟩ := HF.out; exact h.step hpos (k := 0) e2)
        go_wp2
        go_round
        case rel => exact ⟨m / 10, _, by omega, by go_num, rfl, HN.out⟩
        case measure => simp [intOf]; omega
      · have HN := Lib.hid (show ∃ f, DecAt n f (m / 10) (UInt8.ofNat (48 + 1) :: t) by obtain ⟨f, h⟩ := HF.out; exact h.step hpos (k := 1) e2)
        go_wp2
        go_round
        case rel => exact ⟨m / 10, _, by omega, by go_num, rfl, HN.out⟩
        case measure => simp [intOf]; omega
      · have HN := Lib.hid (show ∃ f, DecAt n f (m / 10) (UInt8.ofNat (48 + 2) :: t) by obtain ⟨f, h⟩ := HF.out; exact h.step hpos (k := 2) e2)
        go_wp2
        go_round
        case rel => exact ⟨m / 10, _, by omega, by go_num, rfl, HN.out⟩
        case measure => simp [intOf]; omega
      · have HN := Lib.hid (show ∃ f, DecAt n f (m / 10) (UInt8.ofNat (48 + 3) :: t) by obtain ⟨f, h⟩ := HF.out; exact h.step hpos (k := 3) e2)
        go_wp2
        go_round
        case rel => exact ⟨m / 10, _, by omega, by go_num, rfl, HN.out⟩
        case measure => simp [intOf]; omega
      · have HN := Lib.hid (show ∃ f, DecAt n f (m / 10) (UInt8.ofNat (48 + 4) :: t) by obtain ⟨f, h⟩ := HF.out; exact h.step hpos (k := 4) e2)
        go_wp2
        go_round
        case rel => exact ⟨m / 10, _, by omega, by go_num, rfl, HN.out⟩
        case measure => simp [intOf]; omega
      · have HN := Lib.hid (show ∃ f, DecAt n f (m / 10) (UInt8.ofNat (48 + 5) :: t) by obtain ⟨f, h⟩ := HF.out; exact h.step hpos (k := 5) e2)
        go_wp2
        go_round
        case rel => exact ⟨m / 10, _, by omega, by go_num, rfl, HN.out⟩
        case measure => simp [intOf]; omega
      · have HN := Lib.hid (show ∃ f, DecAt n f (m / 10) (UInt8.ofNat (48 + 6) :: t) by obtain ⟨f, h⟩ := HF.out; exact h.step hpos (k := 6) e2)
        go_wp2
        go_round
        case rel => exact ⟨m / 10, _, by omega, by go_num, rfl, HN.out⟩
        case measure => simp [intOf]; omega
      · have HN := Lib.hid (show ∃ f, DecAt n f (m / 10) (UInt8.ofNat (48 + 7) :: t) by obtain ⟨f, h⟩ := HF.out; exact h.step hpos (k := 7) e2)
        go_wp2
        go_round
        case rel => exact ⟨m / 10, _, by omega, by go_num, rfl, HN.out⟩
        case measure => simp [intOf]; omega
      · have HN := Lib.hid (show ∃ f, DecAt n f (m / 10) (UInt8.ofNat (48 + 8) :: t) by obtain ⟨f, h⟩ := HF.out; exact h.step hpos (k := 8) e2)
        go_wp2
        go_round
        case rel => exact ⟨m / 10, _, by omega, by go_num, rfl, HN.out⟩
        case measure => simp [intOf]; omega
      · have HN := Lib.hid (show ∃ f, DecAt n f (m / 10) (UInt8.ofNat (48 + 9) :: t) by obtain ⟨f, h⟩ := HF.out; exact h.step hpos (k := 9) e2)
        go_wp2
        go_round
        case rel => exact ⟨m / 10, _, by omega, by go_num, rfl, HN.out⟩
        case measure => simp [intOf]; omega
  · have H0 := Lib.hid (DecAt.start (k := 7) hn e1)
    clear HS
    go_enter Tryd.func32, Tryd.ntmps32
    go_wp2
    clear e1
    go_loop [0, 3] (fun y0 y3 => ∃ (m : Nat) (t : Str), m < 1000000000 ∧ y0 = .int .i64 m ∧ y3 = qs t ∧ Hid (∃ f, DecAt n f m t)) (fun y0 _ => (intOf y0).toNat)
    case atStart => exact ⟨n / 10, _, by omega, by go_num, rfl, _, H0.out⟩
    case round =>
      clear H0
      obtain ⟨m, t, hm, rfl, rfl, HF⟩ := hrel
      have hlt : t.length ≤ 20 := by obtain ⟨f, h⟩ := HF.out; have := h.2.2; omega
      by_cases h0 : m = 0
      · have HE := Lib.hid (show dec10 n = t by obtain ⟨f, h⟩ := HF.out; exact h.stop h0)
        have hz : ¬ (0 : Int) < (m : Int) := by omega
        have hz2 : decide (0 < m) = false := by simp; omega
        clear h0
        go_wp2
        go_ret
        exact ⟨(congrArg (fun x => Ending.returned (qs x)) HE.out).symm, rfl⟩
      have hpos : 0 < m := by omega
      have hp2 : (0 : Int) < (m : Int) := by omega
      clear h0
      rcases ten_cases m with e2 | e2 | e2 | e2 | e2 | e2 | e2 | e2 | e2 | e2
      · have HN := Lib.hid (show ∃ f, DecAt n f (m / 10) (UInt8.ofNat (48 + 0) :: t) by obtain ⟨f, h⟩ := HF.out; exact h.step hpos (k := 0) e2)
        go_wp2
        go_round
        case rel => exact ⟨m / 10, _, by omega, by go_num, rfl, HN.out⟩
        case measure => simp [intOf]; omega
      · have HN := Lib.hid (show ∃ f, DecAt n f (m / 10) (UInt8.ofNat (48 + 1) :: t) by obtain ⟨f, h⟩ := HF.out; exact h.step hpos (k := 1) e2)
        go_wp2
        go_round
        case rel => exact ⟨m / 10, _, by omega, by go_num, rfl, HN.out⟩
        case measure => simp [intOf]; omega
      · have HN := Lib.hid (show ∃ f, DecAt n f (m / 10) (UInt8.ofNat (48 + 2) :: t) by obtain ⟨f, h⟩ := HF.out; exact h.step hpos (k := 2) e2)
        go_wp2
        go_round
        case rel => exact ⟨m / 10, _, by omega, by go_num, rfl, HN.out⟩
        case measure => simp [intOf]; omega
      · have HN := Lib.hid (show ∃ f, DecAt n f (m / 10) (UInt8.ofNat (48 + 3) :: t) by obtain ⟨f, h⟩ := HF.out; exact h.step hpos (k := 3) e2)
        go_wp2
        go_round
        case rel => exact ⟨m / 10, _, by omega, by go_num, rfl, HN.out⟩
        case measure => simp [intOf]; omega
      · have HN := Lib.hid (show ∃ f, DecAt n f (m / 10) (UInt8.ofNat (48 + 4) :: t) by obtain ⟨f, h⟩ := HF.out; exact h.step hpos (k := 4) e2)
        go_wp2
        go_round
        case rel => exact ⟨m / 10, _, by omega, by go_num, rfl, HN.out⟩
        case measure => simp [intOf]; omega
      · have HN := Lib.hid (show ∃ f, DecAt n f (m / 10) (UInt8.ofNat (48 + 5) :: t) by obtain ⟨f, h⟩ := HF.out; exact h.step hpos (k := 5) e2)
        go_wp2
        go_round
        case rel => exact ⟨m / 10, _, by omega, by go_num, rfl, HN.out⟩
        case measure => simp [intOf]; omega
      · have HN := Lib.hid (show ∃ f, DecAt n f (m / 10) (UInt8.ofNat (48 + 6) :: t) by obtain ⟨f, h⟩ := HF.out; exact h.step hpos (k := 6) e2)
        go_wp2
        go_round
        case rel => exact ⟨m / 10, _, by omega, by go_num, rfl, HN.out⟩
        case measure => simp [intOf]; omega
      · have HN := Lib.hid (show ∃ f, DecAt n f (m / 10) (UInt8.ofNat (48 + 7) :: t) by obtain ⟨f, h⟩ := HF.out; exact h.step hpos (k := 7) e2)
        go_wp2
        go_round
        case rel => exact ⟨m / 10, _, by omega, by go_num, rfl, HN.out⟩
        case measure => simp [intOf]; omega
      · have HN := Lib.hid (show ∃ f, DecAt n f (m / 10) (UInt8.ofNat (48 + 8) :: t) by obtain ⟨f, h⟩ := HF.out; exact h.step hpos (k := 8) e2)
        go_wp2
        go_round
        case rel => exact ⟨m / 10, _, by omega, by go_num, rfl, HN.out⟩
        case measure => simp [intOf]; omega
      · have HN := Lib.hid (show ∃ f, DecAt n f (m / 10) (UInt8.ofNat (48 + 9) :: t) by obtain ⟨f, h⟩ := HF.out; exact h.step hpos (k := 9) e2)
        go_wp2
        go_round
        case rel => exact ⟨m / 10, _, by omega, by go_num, rfl, HN.out⟩
        case measure => simp [intOf]; omega
  · have H0 := Lib.hid (DecAt.start (k := 8) hn e1)
    clear HS
    go_enter Tryd.func32, Tryd.ntmps32
    go_wp2
    clear e1
    go_loop [0, 3] (fun y0 y3 => ∃ (m : Nat) (t : Str), m < 1000000000 ∧ y0 = .int .i64 m ∧ y3 = qs t ∧ Hid (∃ f, DecAt n f m t)) (fun y0 _ => (intOf y0).toNat)
    case atStart => exact ⟨n / 10, _, by omega, by go_num, rfl, _, H0.out⟩
    case round =>
      clear H0
      obtain ⟨m, t, hm, rfl, rfl, HF⟩ := hrel
      have hlt : t.length ≤ 20 := by obtain ⟨f, h⟩ := HF.out; have := h.2.2; omega
      by_cases h0 : m = 0
      · have HE := Lib.hid (show dec10 n = t by obtain ⟨f, h⟩ := HF.out; exact h.stop h0)
        have hz : ¬ (0 : Int) < (m : Int) := by omega
        have hz2 : decide (0 < m) = false := by simp; omega
        clear h0
        go_wp2
        go_ret
        exact ⟨(congrArg (fun x => Ending.returned (qs x)) HE.out).symm, rfl⟩
      have hpos : 0 < m := by omega
      have hp2 : (0 : Int) < (m : Int) := by omega
      clear h0
      rcases ten_cases m with e2 | e2 | e2 | e2 | e2 | e2 | e2 | e2 | e2 | e2
      · have HN := Lib.hid (show ∃ f, DecAt n f (m / 10) (UInt8.ofNat (48 + 0) :: t) by obtain ⟨f, h⟩ := HF.out; exact h.step hpos (k := 0) e2)
        go_wp2
        go_round
        case rel => exact ⟨m / 10, _, by omega, by go_num, rfl, HN.out⟩
        case measure => simp [intOf]; omega
      · have HN := Lib.hid (show ∃ f, DecAt n f (m / 10) (UInt8.ofNat (48 + 1) :: t) by obtain ⟨f, h⟩ := HF.out; exact h.step hpos (k := 1) e2)
        go_wp2
        go_round
        case rel => exact ⟨m / 10, _, by omega, by go_num, rfl, HN.out⟩
        case measure => simp [intOf]; omega
      · have HN := Lib.hid (show ∃ f, DecAt n f (m / 10) (UInt8.ofNat (48 + 2) :: t) by obtain ⟨f, h⟩ := HF.out; exact h.step hpos (k := 2) e2)
        go_wp2
        go_round
        case rel => exact ⟨m / 10, _, by omega, by go_num, rfl, HN.out⟩
        case measure => simp [intOf]; omega
      · have HN := Lib.hid (show ∃ f, DecAt n f (m / 10) (UInt8.ofNat (48 + 3) :: t) by obtain ⟨f, h⟩ := HF.out; exact h.step hpos (k := 3) e2)
        go_wp2
        go_round
        case rel => exact ⟨m / 10, _, by omega, by go_num, rfl, HN.out⟩
        case measure => simp [intOf]; omega
      · have HN := Lib.hid (show ∃ f, DecAt n f (m / 10) (UInt8.ofNat (48 + 4) :: t) by obtain ⟨f, h⟩ := HF.out; exact h.step hpos (k := 4) e2)
        go_wp2
        go_round
        case rel => exact ⟨m / 10, _, by omega, by go_num, rfl, HN.out⟩
        case measure => simp [intOf]; omega
      · have HN := Lib.hid (show ∃ f, DecAt n f (m / 10) (UInt8.ofNat (48 + 5) :: t) by obtain ⟨f, h⟩ := HF.out; exact h.step hpos (k := 5) e2)
        go_wp2
        go_round
        case rel => exact ⟨m / 10, _, by omega, by go_num, rfl, HN.out⟩
        case measure => simp [intOf]; omega
      · have HN := Lib.hid (show ∃ f, DecAt n f (m / 10) (UInt8.ofNat (48 + 6) :: t) by obtain ⟨f, h⟩ := HF.out; exact h.step hpos (k := 6) e2)
        go_wp2
        go_round
        case rel => exact ⟨m / 10, _, by omega, by go_num, rfl, HN.out⟩
        case measure => simp [intOf]; omega
      · have HN := Lib.hid (show ∃ f, DecAt n f (m / 10) (UInt8.ofNat (48 + 7) :: t) by obtain ⟨f, h⟩ := HF.out; exact h.step hpos (k := 7) e2)
        go_wp2
        go_round
        case rel => exact ⟨m / 10, _, by omega, by go_num, rfl, HN.out⟩
        case measure => simp [intOf]; omega
      · have HN := Lib.hid (show ∃ f, DecAt n f (m / 10) (UInt8.ofNat (48 + 8) :: t) by obtain ⟨f, h⟩ := HF.out; exact h.step hpos (k := 8) e2)
        go_wp2
        go_round
        case rel => exact ⟨m / 10, _, by omega, by go_num, rfl, HN.out⟩
        case measure => simp [intOf]; omega
      · have HN := Lib.hid (show ∃ f, DecAt n f (m / 10) (UInt8.ofNat (48 + 9) :: t) by obtain ⟨f, h⟩ := HF.out; exact h.step hpos (k := 9) e2)
        go_wp2
        go_round
        case rel => exact ⟨m / 10, _, by omega, by go_num, rfl, HN.out⟩
        case measure => simp [intOf]; omega
  · have H0 := Lib.hid (DecAt.start (k := 9) hn e1)
    clear HS
    go_enter Tryd.func32, Tryd.ntmps32
    go_wp2
    clear e1
    go_loop [0, 3] (fun y0 y3 => ∃ (m : Nat) (t : Str), m < 1000000000 ∧ y0 = .int .i64 m ∧ y3 = qs t ∧ Hid (∃ f, DecAt n f m t)) (fun y0 _ => (intOf y0).toNat)
    case atStart => exact ⟨n / 10, _, by omega, by go_num, rfl, _, H0.out⟩
    case round =>
      clear H0
      obtain ⟨m, t, hm, rfl, rfl, HF⟩ := hrel
      have hlt : t.length ≤ 20 := by obtain ⟨f, h⟩ := HF.out; have := h.2.2; omega
      by_cases h0 : m = 0
      · have HE := Lib.hid (show dec10 n = t by obtain ⟨f, h⟩ := HF.out; exact h.stop h0)
        have hz : ¬ (0 : Int) < (m : Int) := by omega
        have hz2 : decide (0 < m) = false := by simp; omega
        clear h0
        go_wp2
        go_ret
        exact ⟨(congrArg (fun x => Ending.returned (qs x)) HE.out).symm, rfl⟩
      have hpos : 0 < m := by omega
      have hp2 : (0 : Int) < (m : Int) := by omega
      clear h0
      rcases ten_cases m with e2 | e2 | e2 | e2 | e2 | e2 | e2 | e2 | e2 | e2
      · have HN := Lib.hid (show ∃ f, DecAt n f (m / 10) (UInt8.ofNat (48 + 0) :: t) by obtain ⟨f, h⟩ := HF.out; exact h.step hpos (k := 0) e2)
        go_wp2
        go_round
        case rel => exact ⟨m / 10, _, by omega, by go_num, rfl, HN.out⟩
        case measure => simp [intOf]; omega
      · have HN := Lib.hid (show ∃ f, DecAt n f (m / 10) (UInt8.ofNat (48 + 1) :: t) by obtain ⟨f, h⟩ := HF.out; exact h.step hpos (k := 1) e2)
        go_wp2
        go_round
        case rel => exact ⟨m / 10, _, by omega, by go_num, rfl, HN.out⟩
        case measure => simp [intOf]; omega
      · have HN := Lib.hid (show ∃ f, DecAt n f (m / 10) (UInt8.ofNat (48 + 2) :: t) by obtain ⟨f, h⟩ := HF.out; exact h.step hpos (k := 2) e2)
        go_wp2
        go_round
        case rel => exact ⟨m / 10, _, by omega, by go_num, rfl, HN.out⟩
        case measure => simp [intOf]; omega
      · have HN := Lib.hid (show ∃ f, DecAt n f (m / 10) (UInt8.ofNat (48 + 3) :: t) by obtain ⟨f, h⟩ := HF.out; exact h.step hpos (k := 3) e2)
        go_wp2
        go_round
        case rel => exact ⟨m / 10, _, by omega, by go_num, rfl, HN.out⟩
        case measure => simp [intOf]; omega
      · have HN := Lib.hid (show ∃ f, DecAt n f (m / 10) (UInt8.ofNat (48 + 4) :: t) by obtain ⟨f, h⟩ := HF.out; exact h.step hpos (k := 4) e2)
        go_wp2
        go_round
        case rel => exact ⟨m / 10, _, by omega, by go_num, rfl, HN.out⟩
        case measure => simp [intOf]; omega
      · have HN := Lib.hid (show ∃ f, DecAt n f (m / 10) (UInt8.ofNat (48 + 5) :: t) by obtain ⟨f, h⟩ := HF.out; exact h.step hpos (k := 5) e2)
        go_wp2
        go_round
        case rel => exact ⟨m / 10, _, by omega, by go_num, rfl, HN.out⟩
        case measure => simp [intOf]; omega
      · have HN := Lib.hid (show ∃ f, DecAt n f (m / 10) (UInt8.ofNat (48 + 6) :: t) by obtain ⟨f, h⟩ := HF.out; exact h.step hpos (k := 6) e2)
        go_wp2
        go_round
        case rel => exact ⟨m / 10, _, by omega, by go_num, rfl, HN.out⟩
        case measure => simp [intOf]; omega
      · have HN := Lib.hid (show ∃ f, DecAt n f (m / 10) (UInt8.ofNat (48 + 7) :: t) by obtain ⟨f, h⟩ := HF.out; exact h.step hpos (k := 7) e2)
        go_wp2
        go_round
        case rel => exact ⟨m / 10, _, by omega, by go_num, rfl, HN.out⟩
        case measure => simp [intOf]; omega
      · have HN := Lib.hid (show ∃ f, DecAt n f (m / 10) (UInt8.ofNat (48 + 8) :: t) by obtain ⟨f, h⟩ := HF.out; exact h.step hpos (k := 8) e2)
        go_wp2
        go_round
        case rel => exact ⟨m / 10, _, by omega, by go_num, rfl, HN.out⟩
        case measure => simp [intOf]; omega
      · have HN := Lib.hid (show ∃ f, DecAt n f (m / 10) (UInt8.ofNat (48 + 9) :: t) by obtain ⟨f, h⟩ := HF.out; exact h.step hpos (k := 9) e2)
        go_wp2
        go_round
        case rel => exact ⟨m / 10, _, by omega, by go_num, rfl, HN.out⟩
        case measure => simp [intOf]; omega
end Go.Proofs.YtgmlnbheceeklaaDoor
