/- Walks: counters, quanta, configurations, on both sides. Printed by wip/gen_auw1.py. -/
import Derived.Test.YtbgoogjhgeoapaaRows
import Derived.Test.YtbgoogjhgeoapaaAuP
import Derived.Test.YtbgoogjhgeoapaaBlk
import Derived.WalkKit
import Derived.WalkSpells
import Derived.WalkLawsBesides
import Derived.Deep.QuietTactic
import Derived.BigQuiet
set_option linter.unusedVariables false
set_option linter.unusedSimpArgs false
set_option linter.unusedSectionVars false
namespace Go.Proofs.Ytbgoogjhgeoapaa
open Go.RowKit
variable [Base]

abbrev iv (n : Int) : Value := .int .i64 n
def cfgV (c : CV) : Value := .agg #[iv c.p, iv c.pe, iv c.me, iv c.no, iv c.ed, iv c.ba, iv c.ag]
theorem clampS_le (a : Int) : 0 ≤ clampS a ∧ clampS a ≤ 1073741824 := by unfold clampS; omega

theorem clamp_any (n : Int) (w : World) : Calls Try.prog 50 #[iv n] w fun e w' => e = .returned (iv (clampS n)) ∧ w' = w := by
  rcases (by omega : n < 0 ∨ 0 ≤ n) with h | h
  · have e : clampS n = 0 := by unfold clampS; omega
    go_enter Try.func50, Try.ntmps50
    go_wp2
    all_goals
      go_ret
      exact ⟨ret_intQ (by first | omega | (rw [e]; done) | (rw [e]; omega)), rfl⟩
  · rcases (by omega : 1073741824 < n ∨ n ≤ 1073741824) with h2 | h2
    · have e : clampS n = 1073741824 := by unfold clampS; omega
      go_enter Try.func50, Try.ntmps50
      go_wp2
      all_goals
        go_ret
        exact ⟨ret_intQ (by first | omega | (rw [e]; done) | (rw [e]; omega)), rfl⟩
    · have e : clampS n = n := by unfold clampS; omega
      go_enter Try.func50, Try.ntmps50
      go_wp2
      all_goals
        go_ret
        exact ⟨ret_intQ (by first | omega | (rw [e]; done) | (rw [e]; omega)), rfl⟩
theorem add_any (a b : Int) (w : World) : Calls Try.prog 48 #[iv a, iv b] w fun e w' => e = .returned (iv (addS a b)) ∧ w' = w := by
  obtain ⟨x, hx⟩ : ∃ x, clampS a = x := ⟨_, rfl⟩
  obtain ⟨y, hy⟩ : ∃ y, clampS b = y := ⟨_, rfl⟩
  have h1 := clampS_le a
  have h2 := clampS_le b
  rw [hx] at h1
  rw [hy] at h2
  have hw : wrap64 (x + y) = x + y := IntWalk.wrap64_in _ (by omega)
  have c1 := clamp_any a
  have c2 := clamp_any b
  have c3 := clamp_any (x + y)
  rw [hx] at c1
  rw [hy] at c2
  obtain ⟨z, hz⟩ : ∃ z, clampS (x + y) = z := ⟨_, rfl⟩
  rw [hz] at c3
  have e : addS a b = z := by unfold addS; rw [hx, hy, hz]
  have E := Lib.hid e
  have C1 := Lib.hid c1
  have C2 := Lib.hid c2
  have C3 := Lib.hid c3
  clear hx hy hz e c1 c2 c3
  go_enter Try.func48, Try.ntmps48
  go_wp2_with first
    | (go_at_call 50; refine (C1.out _).mono ?_; rintro e w1 ⟨rfl, rfl⟩; clear C1)
    | (go_at_call 50; refine (C2.out _).mono ?_; rintro e w1 ⟨rfl, rfl⟩; clear C2)
    | (go_at_call 50; refine (C3.out _).mono ?_; rintro e w1 ⟨rfl, rfl⟩; clear C3)
  go_ret
  exact ⟨ret_intQ (by rw [E.out]), rfl⟩
theorem div_any (a b : Int) (w : World) : Calls Try.prog 49 #[iv a, iv b] w fun e w' => e = .returned (iv (divS a b)) ∧ w' = w := by
  obtain ⟨x, hx⟩ : ∃ x, clampS a = x := ⟨_, rfl⟩
  obtain ⟨y, hy⟩ : ∃ y, clampS b = y := ⟨_, rfl⟩
  have h1 := clampS_le a
  have h2 := clampS_le b
  rw [hx] at h1
  rw [hy] at h2
  have c1 := clamp_any a
  have c2 := clamp_any b
  rw [hx] at c1
  rw [hy] at c2
  have e : divS a b = if y = 0 then 1073741824 else x.tdiv y := by unfold divS; rw [hx, hy]
  have E := Lib.hid e
  have C1 := Lib.hid c1
  have C2 := Lib.hid c2
  clear hx hy e c1 c2
  by_cases h0 : y = 0
  · subst h0
    go_enter Try.func49, Try.ntmps49
    go_wp2_with (go_at_call 50; refine (C2.out _).mono ?_; rintro e w1 ⟨rfl, rfl⟩)
    go_ret
    exact ⟨ret_intQ (by rw [E.out]; simp), rfl⟩
  · have hb : (y == 0) = false := by simpa using h0
    have hw : wrap64 (x.tdiv y) = x.tdiv y := IntWalk.wrap64_in _ (by
      rw [Int.tdiv_eq_ediv_of_nonneg h1.1]
      have := Int.ediv_le_self y h1.1
      have := Int.ediv_nonneg h1.1 h2.1
      omega)
    go_enter Try.func49, Try.ntmps49
    go_wp2_with first
      | (go_at_call 50; refine (C1.out _).mono ?_; rintro e w1 ⟨rfl, rfl⟩; clear C1)
      | (go_at_call 50; refine (C2.out _).mono ?_; rintro e w1 ⟨rfl, rfl⟩)
    go_ret
    exact ⟨ret_intQ (by rw [E.out]; simp only [h0, if_false]; first | exact hw | exact (Int.tdiv_eq_ediv_of_nonneg h1.1).symm), rfl⟩
theorem quantum_any (ba p ag pe : Int) (w : World) : Calls Try.prog 44 #[iv ba, iv p, iv ag, iv pe] w fun e w' => e = .returned (iv (qf ba p ag pe)) ∧ w' = w := by
  obtain ⟨x, hx⟩ : ∃ x, addS ba p = x := ⟨_, rfl⟩
  obtain ⟨m, hm⟩ : ∃ m, max pe 1 = m := ⟨_, rfl⟩
  obtain ⟨y, hy⟩ : ∃ y, divS ag m = y := ⟨_, rfl⟩
  obtain ⟨z, hz⟩ : ∃ z, addS x y = z := ⟨_, rfl⟩
  have c1 := add_any ba p
  have c2 := div_any ag m
  have c3 := add_any x y
  rw [hx] at c1
  rw [hy] at c2
  rw [hz] at c3
  have e : qf ba p ag pe = min (max z 1) 64 := by unfold qf; rw [hx, hm, hy, hz]
  have E := Lib.hid e
  have C1 := Lib.hid c1
  have C2 := Lib.hid c2
  have C3 := Lib.hid c3
  clear hx hy hz e c1 c2 c3
  have hp : (m = pe ∧ 1 ≤ pe) ∨ (m = 1 ∧ pe < 1) := by omega
  clear hm
  rcases hp with ⟨rfl, hp⟩ | ⟨rfl, hp⟩
  all_goals
    rcases (by omega : z < 1 ∨ 1 ≤ z) with hz | hz
    · go_enter Try.func44, Try.ntmps44
      go_wp2_with first
        | (go_at_call 49; refine (C2.out _).mono ?_; rintro e w1 ⟨rfl, rfl⟩; clear C2)
        | (go_at_call 48; refine (C1.out _).mono ?_; rintro e w1 ⟨rfl, rfl⟩; clear C1)
        | (go_at_call 48; refine (C3.out _).mono ?_; rintro e w1 ⟨rfl, rfl⟩; clear C3)
      all_goals
        go_ret
        exact ⟨ret_intQ (by rw [E.out]; omega), rfl⟩
    · rcases (by omega : 64 < z ∨ z ≤ 64) with hz2 | hz2
      all_goals
        go_enter Try.func44, Try.ntmps44
        go_wp2_with first
          | (go_at_call 49; refine (C2.out _).mono ?_; rintro e w1 ⟨rfl, rfl⟩; clear C2)
          | (go_at_call 48; refine (C1.out _).mono ?_; rintro e w1 ⟨rfl, rfl⟩; clear C1)
          | (go_at_call 48; refine (C3.out _).mono ?_; rintro e w1 ⟨rfl, rfl⟩; clear C3)
        all_goals
          go_ret
          exact ⟨ret_intQ (by rw [E.out]; omega), rfl⟩

theorem rclamp_any (n : Int) (w : World) : Calls Try.prog 47 #[iv n] w fun e w' => e = .returned (iv (clampS n)) ∧ w' = w := by
  rcases (by omega : n < 0 ∨ 0 ≤ n) with h | h
  · have e : clampS n = 0 := by unfold clampS; omega
    go_enter Try.func47, Try.ntmps47
    go_wp2
    all_goals
      go_ret
      exact ⟨ret_intQ (by first | omega | (rw [e]; done) | (rw [e]; omega)), rfl⟩
  · rcases (by omega : 1073741824 < n ∨ n ≤ 1073741824) with h2 | h2
    · have e : clampS n = 1073741824 := by unfold clampS; omega
      go_enter Try.func47, Try.ntmps47
      go_wp2
      all_goals
        go_ret
        exact ⟨ret_intQ (by first | omega | (rw [e]; done) | (rw [e]; omega)), rfl⟩
    · have e : clampS n = n := by unfold clampS; omega
      go_enter Try.func47, Try.ntmps47
      go_wp2
      all_goals
        go_ret
        exact ⟨ret_intQ (by first | omega | (rw [e]; done) | (rw [e]; omega)), rfl⟩
theorem radd_any (a b : Int) (w : World) : Calls Try.prog 42 #[iv a, iv b] w fun e w' => e = .returned (iv (addS a b)) ∧ w' = w := by
  obtain ⟨x, hx⟩ : ∃ x, clampS a = x := ⟨_, rfl⟩
  obtain ⟨y, hy⟩ : ∃ y, clampS b = y := ⟨_, rfl⟩
  have h1 := clampS_le a
  have h2 := clampS_le b
  rw [hx] at h1
  rw [hy] at h2
  have hw : wrap64 (x + y) = x + y := IntWalk.wrap64_in _ (by omega)
  have c1 := rclamp_any a
  have c2 := rclamp_any b
  have c3 := rclamp_any (x + y)
  rw [hx] at c1
  rw [hy] at c2
  obtain ⟨z, hz⟩ : ∃ z, clampS (x + y) = z := ⟨_, rfl⟩
  rw [hz] at c3
  have e : addS a b = z := by unfold addS; rw [hx, hy, hz]
  have E := Lib.hid e
  have C1 := Lib.hid c1
  have C2 := Lib.hid c2
  have C3 := Lib.hid c3
  clear hx hy hz e c1 c2 c3
  go_enter Try.func42, Try.ntmps42
  go_wp2_with first
    | (go_at_call 47; refine (C1.out _).mono ?_; rintro e w1 ⟨rfl, rfl⟩; clear C1)
    | (go_at_call 47; refine (C2.out _).mono ?_; rintro e w1 ⟨rfl, rfl⟩; clear C2)
    | (go_at_call 47; refine (C3.out _).mono ?_; rintro e w1 ⟨rfl, rfl⟩; clear C3)
  go_ret
  exact ⟨ret_intQ (by rw [E.out]), rfl⟩
theorem rdiv_any (a b : Int) (w : World) : Calls Try.prog 43 #[iv a, iv b] w fun e w' => e = .returned (iv (divS a b)) ∧ w' = w := by
  obtain ⟨x, hx⟩ : ∃ x, clampS a = x := ⟨_, rfl⟩
  obtain ⟨y, hy⟩ : ∃ y, clampS b = y := ⟨_, rfl⟩
  have h1 := clampS_le a
  have h2 := clampS_le b
  rw [hx] at h1
  rw [hy] at h2
  have c1 := rclamp_any a
  have c2 := rclamp_any b
  rw [hx] at c1
  rw [hy] at c2
  have e : divS a b = if y = 0 then 1073741824 else x.tdiv y := by unfold divS; rw [hx, hy]
  have E := Lib.hid e
  have C1 := Lib.hid c1
  have C2 := Lib.hid c2
  clear hx hy e c1 c2
  by_cases h0 : y = 0
  · subst h0
    go_enter Try.func43, Try.ntmps43
    go_wp2_with (go_at_call 47; refine (C2.out _).mono ?_; rintro e w1 ⟨rfl, rfl⟩)
    go_ret
    exact ⟨ret_intQ (by rw [E.out]; simp), rfl⟩
  · have hb : (y == 0) = false := by simpa using h0
    have hw : wrap64 (x.tdiv y) = x.tdiv y := IntWalk.wrap64_in _ (by
      rw [Int.tdiv_eq_ediv_of_nonneg h1.1]
      have := Int.ediv_le_self y h1.1
      have := Int.ediv_nonneg h1.1 h2.1
      omega)
    go_enter Try.func43, Try.ntmps43
    go_wp2_with first
      | (go_at_call 47; refine (C1.out _).mono ?_; rintro e w1 ⟨rfl, rfl⟩; clear C1)
      | (go_at_call 47; refine (C2.out _).mono ?_; rintro e w1 ⟨rfl, rfl⟩)
    go_ret
    exact ⟨ret_intQ (by rw [E.out]; simp only [h0, if_false]; first | exact hw | exact (Int.tdiv_eq_ediv_of_nonneg h1.1).symm), rfl⟩
theorem rquantum_any (ba p ag pe : Int) (w : World) : Calls Try.prog 31 #[iv ba, iv p, iv ag, iv pe] w fun e w' => e = .returned (iv (qf ba p ag pe)) ∧ w' = w := by
  obtain ⟨x, hx⟩ : ∃ x, addS ba p = x := ⟨_, rfl⟩
  obtain ⟨m, hm⟩ : ∃ m, max pe 1 = m := ⟨_, rfl⟩
  obtain ⟨y, hy⟩ : ∃ y, divS ag m = y := ⟨_, rfl⟩
  obtain ⟨z, hz⟩ : ∃ z, addS x y = z := ⟨_, rfl⟩
  have c1 := radd_any ba p
  have c2 := rdiv_any ag m
  have c3 := radd_any x y
  rw [hx] at c1
  rw [hy] at c2
  rw [hz] at c3
  have e : qf ba p ag pe = min (max z 1) 64 := by unfold qf; rw [hx, hm, hy, hz]
  have E := Lib.hid e
  have C1 := Lib.hid c1
  have C2 := Lib.hid c2
  have C3 := Lib.hid c3
  clear hx hy hz e c1 c2 c3
  have hp : (m = pe ∧ 1 ≤ pe) ∨ (m = 1 ∧ pe < 1) := by omega
  clear hm
  rcases hp with ⟨rfl, hp⟩ | ⟨rfl, hp⟩
  all_goals
    rcases (by omega : z < 1 ∨ 1 ≤ z) with hz | hz
    · go_enter Try.func31, Try.ntmps31
      go_wp2_with first
        | (go_at_call 43; refine (C2.out _).mono ?_; rintro e w1 ⟨rfl, rfl⟩; clear C2)
        | (go_at_call 42; refine (C1.out _).mono ?_; rintro e w1 ⟨rfl, rfl⟩; clear C1)
        | (go_at_call 42; refine (C3.out _).mono ?_; rintro e w1 ⟨rfl, rfl⟩; clear C3)
      all_goals
        go_ret
        exact ⟨ret_intQ (by rw [E.out]; omega), rfl⟩
    · rcases (by omega : 64 < z ∨ z ≤ 64) with hz2 | hz2
      all_goals
        go_enter Try.func31, Try.ntmps31
        go_wp2_with first
          | (go_at_call 43; refine (C2.out _).mono ?_; rintro e w1 ⟨rfl, rfl⟩; clear C2)
          | (go_at_call 42; refine (C1.out _).mono ?_; rintro e w1 ⟨rfl, rfl⟩; clear C1)
          | (go_at_call 42; refine (C3.out _).mono ?_; rintro e w1 ⟨rfl, rfl⟩; clear C3)
        all_goals
          go_ret
          exact ⟨ret_intQ (by rw [E.out]; omega), rfl⟩

theorem between_any (n a b : Int) (w : World) : Calls Try.prog 33 #[iv n, iv a, iv b] w fun e w' => e = .returned (.bool (btwB n a b)) ∧ w' = w := by
  by_cases h1 : a ≤ n
  · by_cases h2 : n ≤ b
    all_goals
      go_enter Try.func33, Try.ntmps33
      go_wp2
      go_ret
      exact ⟨by simp [btwB, *], rfl⟩
  · go_enter Try.func33, Try.ntmps33
    go_wp2
    go_ret
    exact ⟨by simp [btwB]; omega, rfl⟩
theorem lbetween_any (n a b : Int) (w : World) : Calls Try.prog 34 #[iv n, iv a, iv b] w fun e w' => e = .returned (.bool (btwB n a b)) ∧ w' = w := by
  by_cases h1 : a ≤ n
  · by_cases h2 : n ≤ b
    all_goals
      go_enter Try.func34, Try.ntmps34
      go_wp2
      go_ret
      exact ⟨by simp [btwB, *], rfl⟩
  · go_enter Try.func34, Try.ntmps34
    go_wp2
    go_ret
    exact ⟨by simp [btwB]; omega, rfl⟩
theorem counter_any (n : Int) (w : World) : Calls Try.prog 24 #[iv n] w fun e w' => e = .returned (.bool (cnB n)) ∧ w' = w := by
  by_cases h1 : 0 ≤ n
  · by_cases h2 : n ≤ 1073741824
    all_goals
      go_enter Try.func24, Try.ntmps24
      go_wp2
      go_ret
      exact ⟨by simp [cnB, btwB, *], rfl⟩
  · go_enter Try.func24, Try.ntmps24
    go_wp2
    go_ret
    exact ⟨by simp [cnB, btwB]; omega, rfl⟩

theorem between_eq {n a b : Int} {r : Bool} (h : btwB n a b = r) (w : World) : Calls Try.prog 33 #[iv n, iv a, iv b] w fun e w' => e = .returned (.bool r) ∧ w' = w := h ▸ between_any n a b w
set_option maxHeartbeats 1000000 in
theorem cvalid_any (c : CV) (w : World) : Calls Try.prog 20 #[cfgV c] w (BoolQ (cfgB c) w) := by
  unfold cfgV
  rcases Bool.eq_false_or_eq_true (btwB c.p 1 8) with b0 | b0
  rotate_left
  · have HB := Lib.hid (show cfgB c = false by simp [cfgB, b0])
    go_enter Try.func20, Try.ntmps20
    go_wp2_with first | (go_at_call 33; with_reducible refine (between_eq b0 _).mono ?_; rintro e w1 ⟨rfl, rfl⟩)
    go_ret
    exact ⟨ret_boolQ HB.out.symm, (Below.refl _ _).alloc (Nat.le_refl _) _⟩
  rcases Bool.eq_false_or_eq_true (btwB c.pe 1 16) with b1 | b1
  rotate_left
  · have HB := Lib.hid (show cfgB c = false by simp [cfgB, b0, b1])
    go_enter Try.func20, Try.ntmps20
    go_wp2_with first | (go_at_call 33; with_reducible refine (between_eq b0 _).mono ?_; rintro e w1 ⟨rfl, rfl⟩) | (go_at_call 33; with_reducible refine (between_eq b1 _).mono ?_; rintro e w1 ⟨rfl, rfl⟩)
    go_ret
    exact ⟨ret_boolQ HB.out.symm, (Below.refl _ _).alloc (Nat.le_refl _) _⟩
  rcases Bool.eq_false_or_eq_true (btwB c.me 0 512) with b2 | b2
  rotate_left
  · have HB := Lib.hid (show cfgB c = false by simp [cfgB, b0, b1, b2])
    go_enter Try.func20, Try.ntmps20
    go_wp2_with first | (go_at_call 33; with_reducible refine (between_eq b0 _).mono ?_; rintro e w1 ⟨rfl, rfl⟩) | (go_at_call 33; with_reducible refine (between_eq b1 _).mono ?_; rintro e w1 ⟨rfl, rfl⟩) | (go_at_call 33; with_reducible refine (between_eq b2 _).mono ?_; rintro e w1 ⟨rfl, rfl⟩)
    go_ret
    exact ⟨ret_boolQ HB.out.symm, (Below.refl _ _).alloc (Nat.le_refl _) _⟩
  rcases Bool.eq_false_or_eq_true (btwB c.no 1 256) with b3 | b3
  rotate_left
  · have HB := Lib.hid (show cfgB c = false by simp [cfgB, b0, b1, b2, b3])
    go_enter Try.func20, Try.ntmps20
    go_wp2_with first | (go_at_call 33; with_reducible refine (between_eq b0 _).mono ?_; rintro e w1 ⟨rfl, rfl⟩) | (go_at_call 33; with_reducible refine (between_eq b1 _).mono ?_; rintro e w1 ⟨rfl, rfl⟩) | (go_at_call 33; with_reducible refine (between_eq b2 _).mono ?_; rintro e w1 ⟨rfl, rfl⟩) | (go_at_call 33; with_reducible refine (between_eq b3 _).mono ?_; rintro e w1 ⟨rfl, rfl⟩)
    go_ret
    exact ⟨ret_boolQ HB.out.symm, (Below.refl _ _).alloc (Nat.le_refl _) _⟩
  rcases Bool.eq_false_or_eq_true (btwB c.ed 0 1024) with b4 | b4
  rotate_left
  · have HB := Lib.hid (show cfgB c = false by simp [cfgB, b0, b1, b2, b3, b4])
    go_enter Try.func20, Try.ntmps20
    go_wp2_with first | (go_at_call 33; with_reducible refine (between_eq b0 _).mono ?_; rintro e w1 ⟨rfl, rfl⟩) | (go_at_call 33; with_reducible refine (between_eq b1 _).mono ?_; rintro e w1 ⟨rfl, rfl⟩) | (go_at_call 33; with_reducible refine (between_eq b2 _).mono ?_; rintro e w1 ⟨rfl, rfl⟩) | (go_at_call 33; with_reducible refine (between_eq b3 _).mono ?_; rintro e w1 ⟨rfl, rfl⟩) | (go_at_call 33; with_reducible refine (between_eq b4 _).mono ?_; rintro e w1 ⟨rfl, rfl⟩)
    go_ret
    exact ⟨ret_boolQ HB.out.symm, (Below.refl _ _).alloc (Nat.le_refl _) _⟩
  rcases Bool.eq_false_or_eq_true (btwB c.ba 1 64) with b5 | b5
  rotate_left
  · have HB := Lib.hid (show cfgB c = false by simp [cfgB, b0, b1, b2, b3, b4, b5])
    go_enter Try.func20, Try.ntmps20
    go_wp2_with first | (go_at_call 33; with_reducible refine (between_eq b0 _).mono ?_; rintro e w1 ⟨rfl, rfl⟩) | (go_at_call 33; with_reducible refine (between_eq b1 _).mono ?_; rintro e w1 ⟨rfl, rfl⟩) | (go_at_call 33; with_reducible refine (between_eq b2 _).mono ?_; rintro e w1 ⟨rfl, rfl⟩) | (go_at_call 33; with_reducible refine (between_eq b3 _).mono ?_; rintro e w1 ⟨rfl, rfl⟩) | (go_at_call 33; with_reducible refine (between_eq b4 _).mono ?_; rintro e w1 ⟨rfl, rfl⟩) | (go_at_call 33; with_reducible refine (between_eq b5 _).mono ?_; rintro e w1 ⟨rfl, rfl⟩)
    go_ret
    exact ⟨ret_boolQ HB.out.symm, (Below.refl _ _).alloc (Nat.le_refl _) _⟩
  rcases Bool.eq_false_or_eq_true (btwB c.ag 1 1024) with b6 | b6
  rotate_left
  · have HB := Lib.hid (show cfgB c = false by simp [cfgB, b0, b1, b2, b3, b4, b5, b6])
    go_enter Try.func20, Try.ntmps20
    go_wp2_with first | (go_at_call 33; with_reducible refine (between_eq b0 _).mono ?_; rintro e w1 ⟨rfl, rfl⟩) | (go_at_call 33; with_reducible refine (between_eq b1 _).mono ?_; rintro e w1 ⟨rfl, rfl⟩) | (go_at_call 33; with_reducible refine (between_eq b2 _).mono ?_; rintro e w1 ⟨rfl, rfl⟩) | (go_at_call 33; with_reducible refine (between_eq b3 _).mono ?_; rintro e w1 ⟨rfl, rfl⟩) | (go_at_call 33; with_reducible refine (between_eq b4 _).mono ?_; rintro e w1 ⟨rfl, rfl⟩) | (go_at_call 33; with_reducible refine (between_eq b5 _).mono ?_; rintro e w1 ⟨rfl, rfl⟩) | (go_at_call 33; with_reducible refine (between_eq b6 _).mono ?_; rintro e w1 ⟨rfl, rfl⟩)
    go_ret
    exact ⟨ret_boolQ HB.out.symm, (Below.refl _ _).alloc (Nat.le_refl _) _⟩
  have HB := Lib.hid (show cfgB c = true by simp [cfgB, b0, b1, b2, b3, b4, b5, b6])
  go_enter Try.func20, Try.ntmps20
  go_wp2_with first | (go_at_call 33; with_reducible refine (between_eq b0 _).mono ?_; rintro e w1 ⟨rfl, rfl⟩) | (go_at_call 33; with_reducible refine (between_eq b1 _).mono ?_; rintro e w1 ⟨rfl, rfl⟩) | (go_at_call 33; with_reducible refine (between_eq b2 _).mono ?_; rintro e w1 ⟨rfl, rfl⟩) | (go_at_call 33; with_reducible refine (between_eq b3 _).mono ?_; rintro e w1 ⟨rfl, rfl⟩) | (go_at_call 33; with_reducible refine (between_eq b4 _).mono ?_; rintro e w1 ⟨rfl, rfl⟩) | (go_at_call 33; with_reducible refine (between_eq b5 _).mono ?_; rintro e w1 ⟨rfl, rfl⟩) | (go_at_call 33; with_reducible refine (between_eq b6 _).mono ?_; rintro e w1 ⟨rfl, rfl⟩)
  go_ret
  exact ⟨ret_boolQ HB.out.symm, (Below.refl _ _).alloc (Nat.le_refl _) _⟩
end Go.Proofs.Ytbgoogjhgeoapaa
