/- Sets of bits: plain Lean, no program in sight. -/
import Derived.Laws.BitsLemmas
import Derived.Laws.Bits64
set_option linter.unusedVariables false
set_option linter.unusedSimpArgs false
set_option linter.unusedSectionVars false
namespace Go.Proofs.YtmanmlankfoflaaDoor

/-- A set: its width, its words. -/
structure QSet where
  width : Int
  words : List Nat
deriving DecidableEq
def wordsOk (l : List Nat) : Prop := ∀ x ∈ l, x < 18446744073709551616
/-- The last word of a set has no bit that is none of the set's. -/
def tailB (s : QSet) : Bool := decide (s.width % 64 = 0) || decide ((s.words.getLastD 0) / 2 ^ (s.width % 64).toNat = 0)
def rangedB (w : Int) : Bool := decide (0 ≤ w) && decide (w ≤ 256)
def lensB (s : QSet) : Bool := decide ((s.words.length : Int) = (s.width + 63) / 64)
/-- A valid set. -/
def setB (s : QSet) : Bool := rangedB s.width && (lensB s && tailB s)
def bitOf (l : List Nat) (b : Nat) : Bool := (l.getD (b / 64) 0).testBit (b % 64)

theorem wraps_u64_64 (n : Int) (h₀ : 0 ≤ n) (h₁ : n < 2 ^ 64) : IntKind.u64.wrap n = n := by rw [IntKind.wrap_u64]; omega
theorem and_nat (a b : Nat) (ha : a < 18446744073709551616) (hb : b < 18446744073709551616) : bits .and .u64 (a : Int) (b : Int) = ((a &&& b : Nat) : Int) := (bits_nat .u64 64 (by decide) wraps_u64_64 a b ha hb).1
theorem or_nat (a b : Nat) (ha : a < 18446744073709551616) (hb : b < 18446744073709551616) : bits .or .u64 (a : Int) (b : Int) = ((a ||| b : Nat) : Int) := (bits_nat .u64 64 (by decide) wraps_u64_64 a b ha hb).2
/-- 'x >> k & 1' -/
theorem shr_and1 (a k : Nat) (ha : a < 18446744073709551616) : bits .and .u64 ((a : Int) / 2 ^ k) 1 = if a.testBit k then 1 else 0 := by
  have h1 : ((a : Int) / 2 ^ k) = ((a / 2 ^ k : Nat) : Int) := by simp
  have h2 : a / 2 ^ k < 18446744073709551616 := Nat.lt_of_le_of_lt (Nat.div_le_self _ _) ha
  have h3 := and_nat (a / 2 ^ k) 1 h2 (by omega)
  rw [h1]
  have h4 : ((1 : Nat) : Int) = 1 := rfl
  rw [h4] at h3
  rw [h3, Nat.and_one_is_mod]
  have h5 : a.testBit k = decide (a / 2 ^ k % 2 = 1) := by rw [Nat.testBit_eq_decide_div_mod_eq]
  rw [h5]
  by_cases h : a / 2 ^ k % 2 = 1
  · rw [h]; rfl
  · rw [show a / 2 ^ k % 2 = 0 by omega]; rfl
/-- The bits of the last word that are no members. -/
theorem spare_eq (r : Nat) (hr : r < 64) : IntKind.u64.wrap (18446744073709551615 * 2 ^ r) = ((18446744073709551616 - 2 ^ r : Nat) : Int) := by
  rw [IntKind.wrap_u64]
  have h1 : 2 ^ r < 2 ^ 64 := Nat.pow_lt_pow_right (by decide) hr
  have h2 : 0 < 2 ^ r := Nat.two_pow_pos r
  have h3 : ((2 : Int) ^ r) = ((2 ^ r : Nat) : Int) := by simp
  rw [h3]
  generalize 2 ^ r = p at *
  omega
theorem spare_bit (r : Nat) (hr : r ≤ 64) (k : Nat) : (18446744073709551616 - 2 ^ r : Nat).testBit k = (decide (r ≤ k) && decide (k < 64)) := by
  have e : (18446744073709551616 - 2 ^ r : Nat) = (2 ^ (64 - r) - 1) <<< r := by
    rw [Nat.shiftLeft_eq, Nat.sub_mul, ← Nat.pow_add, show 64 - r + r = 64 from by omega]
    simp
  rw [e, Nat.testBit_shiftLeft, Nat.testBit_two_pow_sub_one]
  by_cases h : r ≤ k
  · simp [h]; omega
  · simp [h]
theorem and_spare (a r : Nat) (ha : a < 18446744073709551616) (hr : r ≤ 64) : (a &&& (18446744073709551616 - 2 ^ r) = 0) ↔ a / 2 ^ r = 0 := by
  constructor
  · intro h
    rw [Nat.div_eq_zero_iff_lt (Nat.two_pow_pos r)]
    refine Nat.lt_pow_two_of_testBit a fun i hi => ?_
    have h2 := congrArg (fun x => Nat.testBit x i) h
    simp only [Nat.testBit_and, spare_bit r hr, Nat.zero_testBit] at h2
    by_cases h64 : i < 64
    · simpa [hi, h64] using h2
    · exact Nat.testBit_lt_two_pow (Nat.lt_of_lt_of_le ha (Nat.pow_le_pow_right (n := 2) (by decide) (show 64 ≤ i by omega)))
  · intro h
    rw [Nat.div_eq_zero_iff_lt (Nat.two_pow_pos r)] at h
    refine Nat.eq_of_testBit_eq fun i => ?_
    rw [Nat.testBit_and, spare_bit r hr, Nat.zero_testBit]
    by_cases hi : r ≤ i
    · rw [Nat.testBit_lt_two_pow (Nat.lt_of_lt_of_le h (Nat.pow_le_pow_right (by decide) hi))]; rfl
    · simp [hi]
/-- The bits from the width on, up to the words' end, are none. -/
theorem tail_bits {s : QSet} (hw : wordsOk s.words) (h0 : 0 ≤ s.width) (hl : lensB s = true) : tailB s = true ↔ ∀ b : Nat, s.width ≤ b → b < 64 * s.words.length → bitOf s.words b = false := by
  obtain ⟨w, ws⟩ := s
  obtain ⟨n, rfl⟩ := Int.eq_ofNat_of_zero_le h0
  simp only [lensB, decide_eq_true_eq] at hl
  have hl2 : ws.length = (n + 63) / 64 := by omega
  have hr : ((n : Int) % 64).toNat = n % 64 := by omega
  simp only [tailB, Bool.or_eq_true, decide_eq_true_eq, hr]
  by_cases h64 : n % 64 = 0
  · constructor
    · intro _ b h1 h2
      try simp only at h1 h2
      omega
    · intro _; left; omega
  · have hlast : ws.getLastD 0 = ws.getD (n / 64) 0 := by
      rw [List.getLastD_eq_getLast?, List.getLast?_eq_getElem?, List.getD_eq_getElem?_getD]
      congr 2
      omega
    have hlt : ws.getD (n / 64) 0 < 18446744073709551616 := by
      rw [List.getD_eq_getElem?_getD, List.getElem?_eq_getElem (by omega)]
      exact hw _ (List.getElem_mem _)
    rw [hlast]
    constructor
    · intro h b h1 h2
      try simp only at h1 h2
      have h3 : ws.getD (n / 64) 0 / 2 ^ (n % 64) = 0 := by
        rcases h with h | h
        · omega
        · exact h
      rw [Nat.div_eq_zero_iff_lt (Nat.two_pow_pos _)] at h3
      have hb : b / 64 = n / 64 := by omega
      unfold bitOf
      rw [hb]
      exact Nat.testBit_lt_two_pow (Nat.lt_of_lt_of_le h3 (Nat.pow_le_pow_right (by decide) (by omega)))
    · intro h
      right
      rw [Nat.div_eq_zero_iff_lt (Nat.two_pow_pos _)]
      refine Nat.lt_pow_two_of_testBit _ fun i hi => ?_
      by_cases hi64 : i < 64
      · have h2 := h (n / 64 * 64 + i) (by omega) (by omega)
        unfold bitOf at h2
        rw [show (n / 64 * 64 + i) / 64 = n / 64 by omega, show (n / 64 * 64 + i) % 64 = i by omega] at h2
        exact h2
      · exact Nat.testBit_lt_two_pow (Nat.lt_of_lt_of_le hlt (Nat.pow_le_pow_right (n := 2) (by decide) (show 64 ≤ i by omega)))
end Go.Proofs.YtmanmlankfoflaaDoor
