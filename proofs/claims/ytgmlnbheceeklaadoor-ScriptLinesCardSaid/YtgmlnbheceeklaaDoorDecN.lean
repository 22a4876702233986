/- Decimal texts of numbers, and how they are read back: plain Lean, no program in sight. -/
import Derived.Test.YtgmlnbheceeklaaDoorDecP
import Derived.Test.YtgmlnbheceeklaaDoorNumP
import Derived.Lib.AtoiAll
set_option linter.unusedVariables false
set_option linter.unusedSimpArgs false
set_option linter.unusedSectionVars false
namespace Go.Proofs.YtgmlnbheceeklaaDoor

theorem dig_nat (n : Nat) : (dig10 n).toNat = 48 + n % 10 := by
  unfold dig10
  rw [UInt8.toNat_ofNat']
  omega
theorem dig_isD (n : Nat) : isD (dig10 n) = true := by
  unfold isD
  rw [dig_nat]
  simp
  omega
theorem decF_all : ∀ (f n : Nat), (decF f n).all isD = true
  | 0, _ => rfl
  | f + 1, n => by
    unfold decF
    split
    · simp [dig_isD]
    · rw [List.all_append, decF_all f]; simp [dig_isD]
theorem decF_val : ∀ (f n : Nat), n < 10 ^ f → numVal (decF f n) = n
  | 0, n, h => by simp at h; subst h; rfl
  | f + 1, n, h => by
    unfold decF
    split
    · rw [List.nil_append, ← List.nil_append [dig10 n], numVal_snoc, dig_nat, numVal_nil]; omega
    · rw [numVal_snoc, dig_nat, decF_val f (n / 10) (by rw [Nat.pow_succ] at h; omega)]; omega
theorem decF_le : ∀ (f k n : Nat), n < 10 ^ k → 0 < k → (decF f n).length ≤ k
  | 0, k, n, _, _ => by simp [decF]
  | f + 1, k, n, h, hk => by
    unfold decF
    split
    · simp; omega
    · rename_i h0
      rcases k with _ | k
      · omega
      · rcases k with _ | k
        · simp at h; omega
        · have := decF_le f (k + 1) (n / 10) (by rw [Nat.pow_succ] at h ⊢; rw [Nat.pow_succ] at h; omega) (by omega)
          simp; omega
theorem decF_ne (f n : Nat) : decF (f + 1) n ≠ [] := by
  unfold decF
  simp
theorem decF_head : ∀ (f n : Nat), 0 < n → n < 10 ^ f → ∃ c d, decF f n = c :: d ∧ c ≠ 48
  | 0, n, h, h2 => by simp at h2; omega
  | f + 1, n, h, h2 => by
    unfold decF
    split
    · refine ⟨dig10 n, [], rfl, fun e => ?_⟩
      have := congrArg UInt8.toNat e
      rw [dig_nat] at this
      simp at this
      omega
    · rename_i h0
      obtain ⟨c, d, e, hc⟩ := decF_head f (n / 10) (by omega) (by rw [Nat.pow_succ] at h2; omega)
      exact ⟨c, d ++ [dig10 n], by rw [e]; rfl, hc⟩
theorem dec10_all (n : Nat) : (dec10 n).all isD = true := decF_all 20 n
theorem dec10_ne (n : Nat) : dec10 n ≠ [] := decF_ne 19 n
theorem dec10_val {n : Nat} (h : n < 1000000000000000000) : numVal (dec10 n) = n := decF_val 20 n (by omega)
theorem dec10_le {n : Nat} (k : Nat) (h : n < 10 ^ k) (hk : 0 < k) : (dec10 n).length ≤ k := decF_le 20 k n h hk
theorem dec10_zero : dec10 0 = [48] := by decide
theorem dec10_head {n : Nat} (h : 0 < n) (h2 : n < 1000000000000000000) : ∃ c d, dec10 n = c :: d ∧ c ≠ 48 := decF_head 20 n h (by omega)
theorem dec10_no {n : Nat} {c : UInt8} (hc : isD c = false) : c ∉ dec10 n := fun k => by
  have := List.all_eq_true.1 (dec10_all n) c k
  rw [hc] at this; cases this
theorem digRun_app : ∀ (f : Nat) (d r : Str), d.length ≤ f → d.all isD = true → r.head?.any isD = false → digRun f (d ++ r) = d
  | 0, d, r, h, _, _ => by
    have : d = [] := List.length_eq_zero_iff.1 (by omega)
    subst this; rfl
  | f + 1, [], [], _, _, _ => rfl
  | f + 1, [], c :: r, _, _, h => by
    have h' : isD c = false := h
    show digRun (f + 1) (c :: r) = []
    unfold digRun
    rw [if_neg (by rw [h']; simp)]
  | f + 1, c :: d, r, h1, h2, h3 => by
    simp only [List.all_cons, Bool.and_eq_true] at h2
    show digRun (f + 1) (c :: (d ++ r)) = _
    unfold digRun
    rw [if_pos h2.1, digRun_app f d r (by simpa using h1) h2.2 h3]
theorem numS_dec9 {n : Nat} (h : n < 1000000000) {r : Str} (hr : r.head?.any isD = false) : numS (dec10 n ++ r) = some (n, (dec10 n).length) := by
  have h5 : (dec10 n).length ≤ 9 := dec10_le 9 (by omega) (by omega)
  unfold numS
  rw [digRun_app 9 _ _ h5 (dec10_all n) hr, if_neg, dec10_val (by omega)]
  rintro (e | ⟨e, e2⟩ | e)
  · exact dec10_ne n e
  · rcases Nat.eq_zero_or_pos n with h0 | h0
    · subst h0; rw [dec10_zero] at e2; simp at e2
    · obtain ⟨c, d, hd, hc⟩ := dec10_head h0 (by omega)
      rw [hd] at e
      injection e with e
      exact hc e
  · rw [List.drop_left] at e
    rw [hr] at e; cases e
theorem fold_ge : ∀ (d : Str) (a : Nat), a ≤ d.foldl (fun n c => 10 * n + (c.toNat - 48)) a
  | [], _ => Nat.le_refl _
  | c :: d, a => Nat.le_trans (by omega) (fold_ge d (10 * a + (c.toNat - 48)))
theorem parse_fold : ∀ (d : Str) (a : Nat), d.all isD = true → d.foldl (fun n c => 10 * n + (c.toNat - 48)) a < 18446744073709551616 → Lib.parseUint10 a d = .ok (d.foldl (fun n c => 10 * n + (c.toNat - 48)) a)
  | [], _, _, _ => rfl
  | c :: d, a, h, h2 => by
    simp only [List.all_cons, Bool.and_eq_true] at h
    have hc := h.1
    unfold isD at hc
    simp only [Bool.and_eq_true, decide_eq_true_eq] at hc
    have hg := fold_ge d (10 * a + (c.toNat - 48))
    have hlt : 10 * a + (c.toNat - 48) < 18446744073709551616 := Nat.lt_of_le_of_lt hg h2
    rw [Lib.parseUint10, if_pos hc, if_neg (by omega), if_neg (by omega), show a * 10 + (c.toNat - 48) = 10 * a + (c.toNat - 48) by omega, parse_fold d _ h.2 h2]
    rfl
theorem atoi_dec {n : Nat} (h : n < 1000000000000000000) : Lib.atoiAll (dec10 n) = .ok (n : Int) := by
  have hv := dec10_val h
  have hp := parse_fold (dec10 n) 0 (dec10_all n) (by show numVal (dec10 n) < _; omega)
  have hp2 : Lib.parseUint10 0 (dec10 n) = .ok n := by rw [hp]; exact congrArg _ hv
  cases hd : dec10 n with
  | nil => exact absurd hd (dec10_ne n)
  | cons c d =>
    have hc := List.all_eq_true.1 (dec10_all n) c (by rw [hd]; exact List.mem_cons_self)
    unfold isD at hc
    simp only [Bool.and_eq_true, decide_eq_true_eq] at hc
    rw [hd] at hp2
    unfold Lib.atoiAll
    simp only
    rw [if_neg (by omega)]
    unfold Lib.parseMag
    rw [if_neg (by simp), hp2]
    simp only
    rw [if_neg (by omega), if_neg (by omega), if_neg (by omega)]
end Go.Proofs.YtgmlnbheceeklaaDoor
