/- The members of a set: plain Lean, no program in sight. -/
import Derived.Test.YtmanmlankfoflaaDoorBitQ
import Derived.Lib.TrailingZeros
set_option linter.unusedVariables false
set_option linter.unusedSimpArgs false
set_option linter.unusedSectionVars false
namespace Go.Proofs.YtmanmlankfoflaaDoor
variable [Base]

/-- The members in ascending order. -/
def memS (s : QSet) : List Nat := if setB s = true then (List.range s.width.toNat).filter (bitOf s.words) else []
def bitsW (w : Nat) : List Nat := (List.range 64).filter (w.testBit ·)
/-- The members below 64 k. -/
def memTo (l : List Nat) (k : Nat) : List Nat := (List.range (64 * k)).filter (bitOf l)
theorem memTo_succ {l : List Nat} {k w : Nat} (h : l[k]? = some w) : memTo l (k + 1) = memTo l k ++ (bitsW w).map (64 * k + ·) := by
  unfold memTo bitsW
  rw [show 64 * (k + 1) = 64 * k + 64 by omega, List.range_add, List.filter_append, List.filter_map]
  congr 2
  apply List.filter_congr
  intro i hi
  have hi := List.mem_range.1 hi
  simp only [Function.comp]
  unfold bitOf
  rw [show (64 * k + i) / 64 = k by omega, show (64 * k + i) % 64 = i by omega, List.getD_eq_getElem?_getD, h]
  rfl
theorem memTo_zero (l : List Nat) : memTo l 0 = [] := rfl
theorem memTo_end {s : QSet} (h : setB s = true) (hw : wordsOk s.words) : memTo s.words s.words.length = memS s := by
  have hf := valid_form h hw
  obtain ⟨m, e1, e2, e3⟩ := form_len hf
  unfold memS memTo
  rw [if_pos h, e1, Int.toNat_natCast]
  have hle : m ≤ 64 * s.words.length := by rw [e3]; unfold wordsN; omega
  obtain ⟨d, hd⟩ : ∃ d, 64 * s.words.length = m + d := ⟨64 * s.words.length - m, by omega⟩
  rw [hd, List.range_add, List.filter_append]
  have : List.filter (bitOf s.words) (List.map (m + ·) (List.range d)) = [] := by
    rw [List.filter_eq_nil_iff]
    intro x hx
    obtain ⟨i, _, rfl⟩ := List.mem_map.1 hx
    rw [valid_tail h hw (b := m + i) (by rw [e1]; omega)]
    simp
  rw [this, List.append_nil]
theorem memS_no {s : QSet} (h : setB s = false) : memS s = [] := by unfold memS; rw [h]; rfl
theorem pop_len : ∀ (n x : Nat), pop n x = ((List.range n).filter (x.testBit ·)).length
  | 0, x => rfl
  | n + 1, x => by
    rw [pop_succ, List.range_succ_eq_map, List.filter_cons, pop_len n (x / 2), List.filter_map]
    have e : ((fun i => x.testBit i) ∘ Nat.succ) = fun i => (x / 2).testBit i := by
      funext i
      exact Nat.testBit_succ x i
    rw [e]
    rcases Nat.mod_two_eq_zero_or_one x with h | h
    · rw [show x.testBit 0 = false by rw [Nat.testBit_zero]; simp [h]]
      simp [h]
    · rw [show x.testBit 0 = true by rw [Nat.testBit_zero]; simp [h]]
      simp [h]
      omega
theorem bitsW_len (x : Nat) : (bitsW x).length = pop 64 x := (pop_len 64 x).symm
theorem bitsW_zero : bitsW 0 = [] := by decide
theorem filter_lead {p q : Nat → Bool} {k : Nat} (hk : p k = true) (hp : ∀ j, j < k → p j = false) (hq : ∀ j, j ≤ k → q j = false) (he : ∀ j, k < j → p j = q j) : ∀ n, (n ≤ k → (List.range n).filter p = []) ∧ (n ≤ k + 1 → (List.range n).filter q = []) ∧ (k < n → (List.range n).filter p = k :: (List.range n).filter q)
  | 0 => ⟨fun _ => rfl, fun _ => rfl, fun h => by omega⟩
  | n + 1 => by
    obtain ⟨h1, h2, h3⟩ := filter_lead hk hp hq he n
    refine ⟨fun h => ?_, fun h => ?_, fun h => ?_⟩
    · rw [List.range_succ, List.filter_append, h1 (by omega), List.filter_cons, hp n (by omega)]; rfl
    · rw [List.range_succ, List.filter_append, h2 (by omega), List.filter_cons, hq n (by omega)]; rfl
    · rw [List.range_succ, List.filter_append, List.filter_append]
      by_cases hn : n = k
      · subst hn
        rw [h1 (Nat.le_refl _), h2 (by omega), List.filter_cons, List.filter_cons, hk, hq n (Nat.le_refl _)]
        rfl
      · rw [h3 (by omega), List.filter_cons, List.filter_cons, he n (by omega)]
        rfl
theorem bitsW_step {w : Nat} (h0 : w ≠ 0) (hw : w < 18446744073709551616) : Lib.ctz 64 w < 64 ∧ bitsW w = Lib.ctz 64 w :: bitsW (w &&& (w - 1)) := by
  obtain ⟨m, hm, hk⟩ := Lib.ctzFrom_spec 64 w (by omega) hw
  have hc : Lib.ctz 64 w = Lib.ctzFrom 64 w := by unfold Lib.ctz; rw [if_neg h0]
  rw [hc]
  generalize Lib.ctzFrom 64 w = k at *
  have hp : 0 < 2 ^ k := Nat.two_pow_pos k
  have hwd : w / 2 ^ k = 2 * m + 1 := by rw [hm, Nat.mul_div_cancel_left _ hp]
  have hw1 : (w - 1) / 2 ^ k = 2 * m := by
    rw [hm]
    have e : 2 ^ k * (2 * m + 1) - 1 = (2 ^ k - 1) + 2 ^ k * (2 * m) := by
      rw [Nat.mul_add, Nat.mul_one]
      omega
    rw [e, Nat.add_mul_div_left _ _ hp, Nat.div_eq_of_lt (by omega), Nat.zero_add]
  have hlow : ∀ j, j < k → w.testBit j = false := by
    intro j hj
    obtain ⟨d, rfl⟩ : ∃ d, k = j + (d + 1) := ⟨k - j - 1, by omega⟩
    rw [hm, Nat.testBit_eq_decide_div_mod_eq, Nat.pow_add, Nat.mul_assoc, Nat.mul_div_cancel_left _ (Nat.two_pow_pos j), Nat.pow_succ]
    have : 2 ^ d * 2 * (2 * m + 1) % 2 = 0 := by
      rw [Nat.mul_comm (2 ^ d) 2, Nat.mul_assoc]
      exact Nat.mul_mod_right _ _
    rw [this]
    rfl
  have hbit : w.testBit k = true := by
    rw [Nat.testBit_eq_decide_div_mod_eq, hwd]
    simp
  have hhigh : ∀ (x y : Nat), x / 2 ^ k = y → ∀ j, k ≤ j → x.testBit j = y.testBit (j - k) := by
    intro x y hxy j hj
    rw [← hxy, Nat.testBit_div_two_pow]
    congr 1
    omega
  have hq : ∀ j, j ≤ k → (w &&& (w - 1)).testBit j = false := by
    intro j hj
    rw [Nat.testBit_and]
    rcases Nat.lt_or_ge j k with h1 | h1
    · rw [hlow j h1]; rfl
    · obtain rfl : j = k := by omega
      rw [hhigh _ _ hw1 j (Nat.le_refl _), Nat.sub_self, Nat.testBit_zero]
      simp
  have he : ∀ j, k < j → w.testBit j = (w &&& (w - 1)).testBit j := by
    intro j hj
    rw [Nat.testBit_and, hhigh _ _ hw1 j (by omega), hhigh _ _ hwd j (by omega)]
    obtain ⟨d, hd⟩ : ∃ d, j - k = d + 1 := ⟨j - k - 1, by omega⟩
    rw [hd, Nat.testBit_succ, Nat.testBit_succ, show (2 * m + 1) / 2 = m by omega, show 2 * m / 2 = m by omega, Bool.and_self]
  exact ⟨hk, (filter_lead hbit hlow hq he 64).2.2 hk⟩
theorem clear_lt {w : Nat} (h0 : w ≠ 0) : w &&& (w - 1) < w := Nat.lt_of_le_of_lt Nat.and_le_right (by omega)
theorem mem_lt {l : List Nat} {k x : Nat} (h : x ∈ memTo l k) : x < 64 * k := List.mem_range.1 (List.mem_filter.1 h).1
theorem memTo_len (l : List Nat) (k : Nat) : (memTo l k).length ≤ 64 * k := by
  unfold memTo
  have := List.length_filter_le (bitOf l) (List.range (64 * k))
  simpa using this
theorem bitsW_le (w : Nat) : (bitsW w).length ≤ 64 := by
  unfold bitsW
  have := List.length_filter_le (w.testBit ·) (List.range 64)
  simpa using this
theorem bitsW_lt {w x : Nat} (h : x ∈ bitsW w) : x < 64 := List.mem_range.1 (List.mem_filter.1 h).1
theorem memS_len (s : QSet) (hw : wordsOk s.words) : (memS s).length ≤ 256 := by
  unfold memS
  split
  · rename_i h
    obtain ⟨m, e1, e2, _⟩ := form_len (valid_form h hw)
    have := List.length_filter_le (bitOf s.words) (List.range s.width.toNat)
    rw [List.length_range, e1] at this
    rw [e1]
    omega
  · simp
theorem memS_lt {s : QSet} {x : Nat} (hw : wordsOk s.words) (h : x ∈ memS s) : x < 256 := by
  unfold memS at h
  split at h
  · rename_i hv
    obtain ⟨m, e1, e2, _⟩ := form_len (valid_form hv hw)
    have := List.mem_range.1 (List.mem_filter.1 h).1
    omega
  · simp at h
end Go.Proofs.YtmanmlankfoflaaDoor
