/- Counting the bits of a word by parallel sums: plain Lean, no program in sight. -/
import Derived.Test.YtmanmlankfoflaaDoorBitP
set_option linter.unusedVariables false
set_option linter.unusedSimpArgs false
set_option linter.unusedSectionVars false
namespace Go.Proofs.YtmanmlankfoflaaDoor

/-- The number of the set bits among the n lowest. -/
def pop : Nat → Nat → Nat
  | 0, _ => 0
  | n + 1, x => x % 2 + pop n (x / 2)
/-- A byte n times. -/
def repB : Nat → Nat → Nat
  | 0, _ => 0
  | n + 1, c => c + 256 * repB n c
theorem repB_succ (n c : Nat) : repB (n + 1) c = c + 256 * repB n c := rfl
theorem pop_succ (n x : Nat) : pop (n + 1) x = x % 2 + pop n (x / 2) := rfl
theorem split256 (x : Nat) : x = x % 256 + 256 * (x / 256) := by omega
theorem and_split (a c0 c1 : Nat) (h : c0 < 256) : a &&& (c0 + 256 * c1) = (a % 256 &&& c0) + 256 * (a / 256 &&& c1) := by
  have h1 := split256 (a &&& (c0 + 256 * c1))
  have h2 : (a &&& (c0 + 256 * c1)) % 256 = (a % 256 &&& c0) := by
    have := @Nat.and_mod_two_pow a (c0 + 256 * c1) 8
    rw [show 2 ^ 8 = 256 from rfl] at this
    rw [this, show (c0 + 256 * c1) % 256 = c0 by omega]
  have h3 : (a &&& (c0 + 256 * c1)) / 256 = (a / 256 &&& c1) := by
    have := @Nat.and_div_two_pow a (c0 + 256 * c1) 8
    rw [show 2 ^ 8 = 256 from rfl] at this
    rw [this, show (c0 + 256 * c1) / 256 = c1 by omega]
  rw [h2, h3] at h1
  exact h1
def s1 (b : Nat) : Nat := (b / 2 &&& 85) + (b &&& 85)
def s2 (b : Nat) : Nat := (b / 4 &&& 51) + (b &&& 51)
def A1 (n x : Nat) : Nat := (x / 2 &&& repB n 85) + (x &&& repB n 85)
def A2 (n x : Nat) : Nat := (x / 4 &&& repB n 51) + (x &&& repB n 51)
def A3 (n x : Nat) : Nat := (x / 16 + x) &&& repB n 15
theorem and85 : ∀ b < 128, ∀ e < 2, (b + 128 * e) &&& 85 = b &&& 85 := by decide
theorem and51 : ∀ b < 64, ∀ e < 4, (b + 64 * e) &&& 51 = b &&& 51 := by decide +kernel
theorem A1_step (n b y : Nat) (hb : b < 256) : A1 (n + 1) (b + 256 * y) = s1 b + 256 * A1 n y := by
  unfold A1 s1
  rw [repB_succ]
  rw [and_split _ _ _ (by decide), and_split _ _ _ (by decide)]
  have e1 : (b + 256 * y) / 2 % 256 = b / 2 + 128 * (y % 2) := by omega
  have e2 : (b + 256 * y) / 2 / 256 = y / 2 := by omega
  have e3 : (b + 256 * y) % 256 = b := by omega
  have e4 : (b + 256 * y) / 256 = y := by omega
  rw [e1, e2, e3, e4, and85 _ (by omega) _ (by omega), Nat.mul_add]
  omega
theorem A2_step (n b y : Nat) (hb : b < 256) : A2 (n + 1) (b + 256 * y) = s2 b + 256 * A2 n y := by
  unfold A2 s2
  rw [repB_succ]
  rw [and_split _ _ _ (by decide), and_split _ _ _ (by decide)]
  have e1 : (b + 256 * y) / 4 % 256 = b / 4 + 64 * (y % 4) := by omega
  have e2 : (b + 256 * y) / 4 / 256 = y / 4 := by omega
  have e3 : (b + 256 * y) % 256 = b := by omega
  have e4 : (b + 256 * y) / 256 = y := by omega
  rw [e1, e2, e3, e4, and51 _ (by omega) _ (by omega), Nat.mul_add]
  omega
theorem A3_step (n b y : Nat) (h1 : b % 16 ≤ 4) (h2 : b / 16 ≤ 4) (h3 : y % 16 ≤ 4) : A3 (n + 1) (b + 256 * y) = (b / 16 + b % 16) + 256 * A3 n y := by
  unfold A3
  rw [repB_succ]
  rw [and_split _ _ _ (by decide)]
  have e1 : ((b + 256 * y) / 16 + (b + 256 * y)) % 256 = b / 16 + b + 16 * (y % 16) := by omega
  have e2 : ((b + 256 * y) / 16 + (b + 256 * y)) / 256 = y / 16 + y := by omega
  rw [e1, e2]
  have e3 : (b / 16 + b + 16 * (y % 16)) &&& 15 = b / 16 + b % 16 := by
    have := Nat.and_two_pow_sub_one_eq_mod (b / 16 + b + 16 * (y % 16)) 4
    rw [show 2 ^ 4 - 1 = 15 from rfl, show 2 ^ 4 = 16 from rfl] at this
    rw [this]
    omega
  rw [e3]
theorem byte_ok : ∀ b < 256, s1 b < 256 ∧ s2 (s1 b) < 256 ∧ s2 (s1 b) % 16 ≤ 4 ∧ s2 (s1 b) / 16 ≤ 4 ∧ s2 (s1 b) / 16 + s2 (s1 b) % 16 = pop 8 b := by decide +kernel
/-- The sums of the bytes' bits, a byte each. -/
def sums : Nat → Nat → Nat
  | 0, _ => 0
  | n + 1, x => pop 8 (x % 256) + 256 * sums n (x / 256)
theorem A2_mod (n x : Nat) (hx : x < 256 ^ n) : A2 n (A1 n x) % 16 ≤ 4 := by
  cases n with
  | zero =>
    obtain rfl : x = 0 := by simpa using hx
    decide
  | succ n =>
    have h := byte_ok (x % 256) (Nat.mod_lt _ (by decide))
    rw [split256 x, A1_step n _ _ (Nat.mod_lt _ (by decide)), A2_step n _ _ h.1]
    have := h.2.2.1
    omega
theorem lanes : ∀ (n x : Nat), x < 256 ^ n → A3 n (A2 n (A1 n x)) = sums n x
  | 0, x, h => by
    obtain rfl : x = 0 := by simpa using h
    decide
  | n + 1, x, h => by
    have hb := byte_ok (x % 256) (Nat.mod_lt _ (by decide))
    have hx : x / 256 < 256 ^ n := by rw [Nat.div_lt_iff_lt_mul (by decide)]; rw [Nat.pow_succ] at h; exact h
    have hm := A2_mod n (x / 256) hx
    conv => lhs; rw [split256 x]
    rw [A1_step n _ _ (Nat.mod_lt _ (by decide)), A2_step n _ _ hb.1, A3_step n _ _ hb.2.2.1 hb.2.2.2.1 hm, hb.2.2.2.2, lanes n _ hx]
    rfl
theorem pop_le : ∀ n x, pop n x ≤ n
  | 0, _ => Nat.le_refl _
  | n + 1, x => by have := pop_le n (x / 2); rw [pop_succ]; omega
theorem pop_add : ∀ (n m x : Nat), pop (n + m) x = pop n x + pop m (x / 2 ^ n)
  | 0, m, x => by simp [pop]
  | n + 1, m, x => by
    rw [show n + 1 + m = (n + m) + 1 by omega, pop_succ, pop_succ, pop_add n m (x / 2), Nat.div_div_eq_div_mul, show 2 * 2 ^ n = 2 ^ (n + 1) by rw [Nat.pow_succ]; omega]
    omega
theorem pop_mod : ∀ (n x : Nat), pop n (x % 2 ^ n) = pop n x
  | 0, x => rfl
  | n + 1, x => by
    rw [pop_succ, pop_succ]
    have h1 : x % 2 ^ (n + 1) % 2 = x % 2 := by
      rw [Nat.pow_succ, Nat.mul_comm]
      exact Nat.mod_mul_right_mod x 2 (2 ^ n)
    have h2 : x % 2 ^ (n + 1) / 2 = x / 2 % 2 ^ n := by
      rw [Nat.pow_succ, Nat.mul_comm]
      exact Nat.mod_mul_right_div_self x 2 (2 ^ n)
    rw [h1, h2, pop_mod n (x / 2)]
/-- The last three sums and the mask. -/
def fold3 (x : Nat) : Nat :=
  let a := x + x / 256
  let b := a + a / 65536
  let c := b + b / 4294967296
  c % 128
theorem fold_arith (p0 p1 p2 p3 p4 p5 p6 p7 : Nat) (l0 : p0 ≤ 8) (l1 : p1 ≤ 8) (l2 : p2 ≤ 8) (l3 : p3 ≤ 8) (l4 : p4 ≤ 8) (l5 : p5 ≤ 8) (l6 : p6 ≤ 8) (l7 : p7 ≤ 8) :
    fold3 (p0 + 256 * (p1 + 256 * (p2 + 256 * (p3 + 256 * (p4 + 256 * (p5 + 256 * (p6 + 256 * p7))))))) = p0 + p1 + p2 + p3 + p4 + p5 + p6 + p7 := by
  have dv : ∀ v R : Nat, v < 256 → (v + 256 * R) / 256 = R := fun v R h => by omega
  have u0 : p0 < 256 := by omega
  have u1 : p0 + p1 < 256 := by omega
  have u2 : p1 + p2 < 256 := by omega
  have u3 : p0 + p1 + p2 + p3 < 256 := by omega
  have u4 : p1 + p2 + p3 + p4 < 256 := by omega
  have u5 : p2 + p3 + p4 + p5 < 256 := by omega
  have u6 : p3 + p4 + p5 + p6 < 256 := by omega
  have u7 : p0 + p1 + p2 + p3 + p4 + p5 + p6 + p7 < 128 := by omega
  clear l0 l1 l2 l3 l4 l5 l6 l7
  obtain ⟨X, hX⟩ : ∃ X, p0 + 256 * (p1 + 256 * (p2 + 256 * (p3 + 256 * (p4 + 256 * (p5 + 256 * (p6 + 256 * p7)))))) = X := ⟨_, rfl⟩
  have x1 : X / 256 = p1 + 256 * (p2 + 256 * (p3 + 256 * (p4 + 256 * (p5 + 256 * (p6 + 256 * p7))))) := by rw [← hX]; exact dv _ _ u0
  have ha : X + X / 256 = (p0 + p1) + 256 * ((p1 + p2) + 256 * ((p2 + p3) + 256 * ((p3 + p4) + 256 * ((p4 + p5) + 256 * ((p5 + p6) + 256 * ((p6 + p7) + 256 * p7)))))) := by rw [x1, ← hX]; clear hX x1 dv u0 u1 u2 u3 u4 u5 u6 u7; omega
  obtain ⟨Y, hY⟩ : ∃ Y, X + X / 256 = Y := ⟨_, rfl⟩
  rw [hY] at ha
  have h2 : Y / 65536 = (p2 + p3) + 256 * ((p3 + p4) + 256 * ((p4 + p5) + 256 * ((p5 + p6) + 256 * ((p6 + p7) + 256 * p7)))) := by
    have e : Y / 65536 = Y / 256 / 256 := by simp only [Nat.div_div_eq_div_mul, Nat.reduceMul]
    have d1 := dv (p0 + p1) ((p1 + p2) + 256 * ((p2 + p3) + 256 * ((p3 + p4) + 256 * ((p4 + p5) + 256 * ((p5 + p6) + 256 * ((p6 + p7) + 256 * p7)))))) u1
    have d2 := dv (p1 + p2) ((p2 + p3) + 256 * ((p3 + p4) + 256 * ((p4 + p5) + 256 * ((p5 + p6) + 256 * ((p6 + p7) + 256 * p7))))) u2
    rw [e, ha, d1, d2]
  have hb : Y + Y / 65536 = (p0 + p1 + p2 + p3) + 256 * ((p1 + p2 + p3 + p4) + 256 * ((p2 + p3 + p4 + p5) + 256 * ((p3 + p4 + p5 + p6) + 256 * ((p4 + p5 + p6 + p7) + 256 * ((p5 + p6 + p7) + 256 * ((p6 + p7) + 256 * p7)))))) := by rw [h2, ha]; clear h2 ha hX hY x1 dv u0 u1 u2 u3 u4 u5 u6 u7; omega
  obtain ⟨Z, hZ⟩ : ∃ Z, Y + Y / 65536 = Z := ⟨_, rfl⟩
  rw [hZ] at hb
  have h4 : Z / 4294967296 = (p4 + p5 + p6 + p7) + 256 * ((p5 + p6 + p7) + 256 * ((p6 + p7) + 256 * p7)) := by
    have e : Z / 4294967296 = Z / 256 / 256 / 256 / 256 := by simp only [Nat.div_div_eq_div_mul, Nat.reduceMul]
    have d1 := dv (p0 + p1 + p2 + p3) ((p1 + p2 + p3 + p4) + 256 * ((p2 + p3 + p4 + p5) + 256 * ((p3 + p4 + p5 + p6) + 256 * ((p4 + p5 + p6 + p7) + 256 * ((p5 + p6 + p7) + 256 * ((p6 + p7) + 256 * p7)))))) u3
    have d2 := dv (p1 + p2 + p3 + p4) ((p2 + p3 + p4 + p5) + 256 * ((p3 + p4 + p5 + p6) + 256 * ((p4 + p5 + p6 + p7) + 256 * ((p5 + p6 + p7) + 256 * ((p6 + p7) + 256 * p7))))) u4
    have d3 := dv (p2 + p3 + p4 + p5) ((p3 + p4 + p5 + p6) + 256 * ((p4 + p5 + p6 + p7) + 256 * ((p5 + p6 + p7) + 256 * ((p6 + p7) + 256 * p7)))) u5
    have d4 := dv (p3 + p4 + p5 + p6) ((p4 + p5 + p6 + p7) + 256 * ((p5 + p6 + p7) + 256 * ((p6 + p7) + 256 * p7))) u6
    rw [e, hb, d1, d2, d3, d4]
  have hc : (Z + Z / 4294967296) % 128 = p0 + p1 + p2 + p3 + p4 + p5 + p6 + p7 := by
    rw [h4, hb]
    clear hX hY hZ ha hb h2 h4 x1 dv u0 u1 u2 u3 u4 u5 u6
    omega
  unfold fold3
  dsimp only
  rw [hX, hY, hZ]
  exact hc
theorem pop64 (x : Nat) : pop 64 x = pop 8 x + (pop 8 (x / 256) + (pop 8 (x / 256 / 256) + (pop 8 (x / 256 / 256 / 256) + (pop 8 (x / 256 / 256 / 256 / 256) + (pop 8 (x / 256 / 256 / 256 / 256 / 256) + (pop 8 (x / 256 / 256 / 256 / 256 / 256 / 256) + pop 8 (x / 256 / 256 / 256 / 256 / 256 / 256 / 256))))))) := by
  have h : ∀ m y, pop (8 + m) y = pop 8 y + pop m (y / 256) := fun m y => pop_add 8 m y
  rw [show 64 = 8 + 56 from rfl, h, show 56 = 8 + 48 from rfl, h, show 48 = 8 + 40 from rfl, h, show 40 = 8 + 32 from rfl, h, show 32 = 8 + 24 from rfl, h, show 24 = 8 + 16 from rfl, h, show 16 = 8 + 8 from rfl, h]
theorem pop_byte (x : Nat) : pop 8 (x % 256) = pop 8 x := pop_mod 8 x
theorem sums_succ (n x : Nat) : sums (n + 1) x = pop 8 (x % 256) + 256 * sums n (x / 256) := rfl
theorem fold_sums (x : Nat) : fold3 (sums 8 x) = pop 64 x := by
  rw [sums_succ, sums_succ, sums_succ, sums_succ, sums_succ, sums_succ, sums_succ, sums_succ, show ∀ y, sums 0 y = 0 from fun _ => rfl, Nat.mul_zero, Nat.add_zero]
  simp only [pop_byte]
  rw [fold_arith _ _ _ _ _ _ _ _ (pop_le 8 _) (pop_le 8 _) (pop_le 8 _) (pop_le 8 _) (pop_le 8 _) (pop_le 8 _) (pop_le 8 _) (pop_le 8 _), pop64]
  omega
/-- What bits.OnesCount64 computes is the number of the set bits. -/
theorem ones_eq (x : Nat) (hx : x < 18446744073709551616) : fold3 (A3 8 (A2 8 (A1 8 x))) = pop 64 x := by
  rw [lanes 8 x (by simpa using hx), fold_sums]
end Go.Proofs.YtmanmlankfoflaaDoor
