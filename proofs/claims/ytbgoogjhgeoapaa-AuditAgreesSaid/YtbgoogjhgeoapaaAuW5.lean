/- Walks: Share on both sides, leave, begins, gone. Printed by wip/gen_auw5.py. -/
import Derived.Test.YtbgoogjhgeoapaaAuW4
import Derived.Test.YtbgoogjhgeoapaaAuE
set_option linter.unusedVariables false
set_option linter.unusedSimpArgs false
set_option linter.unusedSectionVars false
namespace Go.Proofs.Ytbgoogjhgeoapaa
open Go.RowKit
variable [Base]

theorem lvalid_eq {l : List TV} {b : Bool} (hb : logB l = b) (v : Value) (w : World) (h : TurnsAt w v l) : Calls Try.prog 21 #[v] w (BoolQ b w) := hb ▸ lvalid_any l v w h
theorem rlvalid_eq {l : List TV} {b : Bool} (hb : logB l = b) (v : Value) (w : World) (h : TurnsAt w v l) : Calls Try.prog 12 #[v] w (BoolQ b w) := hb ▸ rlvalid_any l v w h
theorem shareGo_drop {l : List TV} {x : TV} {i : Nat} (h : l[i]? = some x) (a b most sum : Int) (ins : Bool) : shareGo a b (l.drop i) most sum ins = shareGo a b (x :: l.drop (i + 1)) most sum ins := by
  obtain ⟨h1, rfl⟩ := List.getElem?_eq_some_iff.1 h
  rw [List.drop_eq_getElem_cons h1]
theorem shareGo_cons (a b : Int) (x : TV) (r : List TV) (most sum : Int) (ins : Bool) : shareGo a b (x :: r) most sum ins =
    if x.q = a ∧ x.fin = true then most
    else if x.q = a ∧ ins = false then shareGo a b r (max most sum) sum true
    else if x.q = a then shareGo a b r (max most (max (sum - x.co) 0)) (max (sum - x.co) 0) ins
    else if x.q = b ∧ ins = true then shareGo a b r (max most (sum + x.co)) (sum + x.co) ins
    else shareGo a b r (max most sum) sum ins := rfl
theorem num_eq {a b : Int} (h : a = b) : Value.int .i64 a = iv b := by rw [h]
theorem shareGo_end {l : List TV} {i : Nat} (h : l.length ≤ i) (a b most sum : Int) (ins : Bool) : shareGo a b (l.drop i) most sum ins = most := by
  rw [List.drop_eq_nil_of_le h]; rfl
theorem vgo_turn : ∀ (l : List TV) (f : Int → Bool), vgo f l = true → ∀ x ∈ l, turnB x = true
  | [], _, _, _, h => by cases h
  | y :: l, f, hv, x, h => by
    unfold vgo at hv
    simp only [Bool.and_eq_true] at hv
    rcases List.mem_cons.1 h with rfl | h
    · exact hv.1
    · exact vgo_turn l _ hv.2.2 x h
theorem logB_turn {l : List TV} (h : logB l = true) {i : Nat} {x : TV} (hx : l[i]? = some x) : turnB x = true := by
  unfold logB at h
  simp only [Bool.and_eq_true] at h
  exact vgo_turn l _ h.2 x (List.mem_of_getElem? hx)
theorem logB_len {l : List TV} (h : logB l = true) : l.length ≤ 4096 := by
  unfold logB at h
  simp only [Bool.and_eq_true, decide_eq_true_eq] at h
  exact h.1
theorem turnB_co {x : TV} (h : turnB x = true) : 0 ≤ x.q ∧ x.q ≤ 1073741824 ∧ 0 ≤ x.qu ∧ x.qu ≤ 64 ∧ 0 ≤ x.st ∧ x.st ≤ 1073741824 ∧ 0 ≤ x.co ∧ x.co ≤ 1073741824 := by
  unfold turnB cnB btwB at h
  simp only [Bool.and_eq_true, decide_eq_true_eq] at h
  omega

theorem leave_any (x : TV) (w : World) : Calls Try.prog 36 #[turnV x] w (BoolQ (leaveB x) w) := by
  unfold turnV
  obtain ⟨q, qu, st, co, fin⟩ := x
  have hud : ∀ b : Bool, (undef = Value.bool b) = False := fun b => by simp [undef]
  by_cases h1 : qu = 0
  · have b1 : (qu == 0) = true := by simpa using h1
    by_cases h2 : st = 0
    · have b2 : (st == 0) = true := by simpa using h2
      have HR := Lib.hid (show leaveB ⟨q, qu, st, co, fin⟩ = fin by simp [leaveB, h1, h2])
      go_enter Try.func36, Try.ntmps36
      go_wp2
      go_ret
      exact ⟨ret_boolQ HR.out.symm, (Below.refl _ _).alloc (Nat.le_refl _) _⟩
    · have b2 : (st == 0) = false := by simpa using h2
      have HR := Lib.hid (show leaveB ⟨q, qu, st, co, fin⟩ = false by simp [leaveB, h1, h2])
      clear h2
      go_enter Try.func36, Try.ntmps36
      go_wp2
      go_ret
      exact ⟨ret_boolQ HR.out.symm, (Below.refl _ _).alloc (Nat.le_refl _) _⟩
  · have b1 : (qu == 0) = false := by simpa using h1
    have HR := Lib.hid (show leaveB ⟨q, qu, st, co, fin⟩ = false by simp [leaveB, h1])
    clear h1
    go_enter Try.func36, Try.ntmps36
    go_wp2
    go_ret
    exact ⟨ret_boolQ HR.out.symm, (Below.refl _ _).alloc (Nat.le_refl _) _⟩

theorem rleave_any (x : TV) (w : World) : Calls Try.prog 40 #[turnV x] w (BoolQ (leaveB x) w) := by
  unfold turnV
  obtain ⟨q, qu, st, co, fin⟩ := x
  have hud : ∀ b : Bool, (undef = Value.bool b) = False := fun b => by simp [undef]
  by_cases h1 : qu = 0
  · have b1 : (qu == 0) = true := by simpa using h1
    by_cases h2 : st = 0
    · have b2 : (st == 0) = true := by simpa using h2
      have HR := Lib.hid (show leaveB ⟨q, qu, st, co, fin⟩ = fin by simp [leaveB, h1, h2])
      go_enter Try.func40, Try.ntmps40
      go_wp2
      go_ret
      exact ⟨ret_boolQ HR.out.symm, (Below.refl _ _).alloc (Nat.le_refl _) _⟩
    · have b2 : (st == 0) = false := by simpa using h2
      have HR := Lib.hid (show leaveB ⟨q, qu, st, co, fin⟩ = false by simp [leaveB, h1, h2])
      clear h2
      go_enter Try.func40, Try.ntmps40
      go_wp2
      go_ret
      exact ⟨ret_boolQ HR.out.symm, (Below.refl _ _).alloc (Nat.le_refl _) _⟩
  · have b1 : (qu == 0) = false := by simpa using h1
    have HR := Lib.hid (show leaveB ⟨q, qu, st, co, fin⟩ = false by simp [leaveB, h1])
    clear h1
    go_enter Try.func40, Try.ntmps40
    go_wp2
    go_ret
    exact ⟨ret_boolQ HR.out.symm, (Below.refl _ _).alloc (Nat.le_refl _) _⟩
set_option maxRecDepth 100000 in
set_option maxHeartbeats 4000000 in
theorem share_any (l : List TV) (a b : Int) (v : Value) (w : World) (h : TurnsAt w v l) : Calls Try.prog 26 #[v, iv a, iv b] w (IntQ (shareT l a b) w) := by
  have HT := Lib.hid h
  obtain ⟨ea, c, rfl, hn, -, -, hc⟩ := h.cell
  have HC := Lib.hid hc
  obtain ⟨n, hl⟩ : ∃ n, l.length = n := ⟨_, rfl⟩
  rw [hl] at hn ⊢
  rw [hl] at HT
  have HL := Lib.hid hl
  clear hc h
  unfold maxLen at hn
  have hud : ∀ b : Bool, (undef = Value.bool b) = False := fun b => by simp [undef]
  by_cases hab : a = b
  · have bb : (a == b) = true := by simpa using hab
    have HR := Lib.hid (show shareT l a b = 0 by unfold shareT; simp [hab])
    clear hl hab
    go_enter Try.func26, Try.ntmps26
    go_wp2
    go_ret
    exact ⟨ret_intQ HR.out.symm, Below.refl _ _⟩
  have bb : (a == b) = false := by simpa using hab
  rcases Bool.eq_false_or_eq_true (logB l) with hv | hv
  rotate_left
  · have HR := Lib.hid (show shareT l a b = 0 by unfold shareT; simp [hv])
    clear hl hab
    go_enter Try.func26, Try.ntmps26
    go_wp2_with (go_at_call 21; refine (lvalid_eq hv _ _ HT.out).mono ?_; rintro e w1 ⟨rfl, b1⟩; have B1 := Lib.hid b1; clear b1)
    go_ret
    exact ⟨ret_intQ HR.out.symm, B1.out⟩
  have h4 := logB_len hv
  rw [hl] at h4
  have HV := Lib.hid hv
  have HAB := Lib.hid hab
  have HR := Lib.hid (show shareT l a b = shareGo a b l 0 0 false by unfold shareT; rw [if_neg]; rintro (e | e); exact hab e; rw [hv] at e; cases e)
  clear hl
  go_enter Try.func26, Try.ntmps26
  go_wp2_with (go_at_call 21; refine (lvalid_eq HV.out _ _ HT.out).mono ?_; rintro e w1 ⟨rfl, b1⟩; have B1 := Lib.hid b1; clear b1)
  go_loopw [7, 8, 9, 22] (fun z1 z2 z3 y wr => ∃ (i : Nat) (most sum : Int) (ins : Bool), i ≤ n ∧ 0 ≤ most ∧ most ≤ 1073741824 * i ∧ 0 ≤ sum ∧ sum ≤ 1073741824 * i ∧ z1 = iv most ∧ z2 = iv sum ∧ z3 = .bool ins ∧ y = .int .i64 i ∧ Hid (Below w.heap.size w wr) ∧ Hid (shareT l a b = shareGo a b (l.drop i) most sum ins)) (fun _ _ _ y _ => n - (intOf y).toNat)
  case atStart => exact ⟨0, 0, 0, false, Nat.zero_le _, by omega, by omega, by omega, by omega, rfl, rfl, rfl, rfl, B1.out, HR.out⟩
  case round =>
    obtain ⟨i, most, sum, ins, hi, m1, m2, s1, s2, rfl, rfl, rfl, rfl, HB, HF⟩ := hrel
    clear hv hab
    by_cases hlt : i < n
    rotate_left
    · have FE := Lib.hid (HF.out.trans (shareGo_end (by have := HL.out; omega) a b most sum ins))
      go_wp2
      go_ret
      exact ⟨ret_intQ FE.out.symm, HB.out⟩
    obtain ⟨x, hx⟩ : ∃ x, l[i]? = some x := ⟨_, List.getElem?_eq_getElem (show i < l.length by have := HL.out; omega)⟩
    obtain ⟨rb, off, rfl, hrb, hcs⟩ := HC.out i x hx
    have g0 := (HB.out.cell (p := ⟨rb, off + i * 5 + 0, none⟩) hrb).trans (hcs 0 (by omega))
    have g1 := (HB.out.cell (p := ⟨rb, off + i * 5 + 1, none⟩) hrb).trans (hcs 1 (by omega))
    have g2 := (HB.out.cell (p := ⟨rb, off + i * 5 + 2, none⟩) hrb).trans (hcs 2 (by omega))
    have g3 := (HB.out.cell (p := ⟨rb, off + i * 5 + 3, none⟩) hrb).trans (hcs 3 (by omega))
    have g4 := (HB.out.cell (p := ⟨rb, off + i * 5 + 4, none⟩) hrb).trans (hcs 4 (by omega))
    simp only [turnC, List.getElem?_cons_zero, List.getElem?_cons_succ, Nat.add_zero] at g0 g1 g2 g3 g4
    obtain ⟨q1, q2, q3, q4, q5, q6, c1, c2⟩ := turnB_co (logB_turn HV.out hx)
    have FD := Lib.hid (HF.out.trans ((shareGo_drop hx a b most sum ins).trans (shareGo_cons _ _ _ _ _ _ _)))
    obtain ⟨xq, xqu, xst, xco, xfin⟩ := x
    simp only at FD g0 g1 g2 g3 g4 c1 c2
    have hsub : wrap64 (sum - xco) = sum - xco := IntWalk.wrap64_in _ (by omega)
    have hadd : wrap64 (sum + xco) = sum + xco := IntWalk.wrap64_in _ (by omega)
    have e1 : (0 : Int) ≤ (i : Int) := by omega
    have e2 : (i : Int) < (n : Int) := by omega
    clear hcs hx HC HF q1 q2 q3 q4 q5 q6
    by_cases ha : xq = a
    · have ba : (xq == a) = true := by simpa using ha
      have bbb : (xq == b) = false := by simp only [beq_eq_false_iff_ne]; rw [ha]; exact HAB.out
      have HA := Lib.hid ha
      clear ha
      rcases Bool.eq_false_or_eq_true xfin with hf | hf
      · have hfin : True := trivial
        subst hf
        have FE := Lib.hid (FD.out.trans (show _ = most by rw [if_pos ⟨HA.out, rfl⟩]))
        clear FD
        go_wp2
        go_ret
        exact ⟨ret_intQ FE.out.symm, HB.out.alloc HB.out.size _⟩
      · have hnf := Lib.hid (show ¬ (xq = a ∧ xfin = true) from fun e => by rw [hf] at e; cases e.2)
        subst hf
        cases ins with
        | false =>
          have FE := Lib.hid (FD.out.trans (show _ = shareGo a b (l.drop (i + 1)) (max most sum) (sum) true by rw [if_neg hnf.out, if_pos ⟨HA.out, rfl⟩]))
          clear FD
          go_wp2
          all_goals
            go_roundw
            case rel => exact ⟨i + 1, max most sum, sum, true, by omega, by omega, by omega, by omega, by omega, num_eq (by first | rfl | omega | (split <;> omega) | (split <;> split <;> omega) | (split <;> split <;> split <;> omega)), num_eq (by first | rfl | omega | (split <;> omega) | (split <;> split <;> omega) | (split <;> split <;> split <;> omega)), rfl, by go_num, HB.out.alloc HB.out.size _, FE⟩
            case measure => simp [intOf]; omega
        | true =>
          have hni := Lib.hid (show ¬ (xq = a ∧ true = false) from fun e => by cases e.2)
          rcases (by omega : sum - xco < 0 ∨ 0 ≤ sum - xco) with hs | hs
          all_goals
            have FE := Lib.hid (FD.out.trans (show _ = shareGo a b (l.drop (i + 1)) (max most (max (sum - xco) 0)) (max (sum - xco) 0) true by rw [if_neg hnf.out, if_neg hni.out, if_pos HA.out]))
            clear FD
            go_wp2
            all_goals
              go_roundw
              case rel => exact ⟨i + 1, max most (max (sum - xco) 0), max (sum - xco) 0, true, by omega, by omega, by omega, by omega, by omega, num_eq (by first | rfl | omega | (split <;> omega) | (split <;> split <;> omega) | (split <;> split <;> split <;> omega)), num_eq (by first | rfl | omega | (split <;> omega) | (split <;> split <;> omega) | (split <;> split <;> split <;> omega)), rfl, by go_num, HB.out.alloc HB.out.size _, FE⟩
              case measure => simp [intOf]; omega
    · have ba : (xq == a) = false := by simpa using ha
      have hnf := Lib.hid (show ¬ (xq = a ∧ xfin = true) from fun e => ha e.1)
      have hni := Lib.hid (show ∀ i, ¬ (xq = a ∧ i = false) from fun i e => ha e.1)
      have HA := Lib.hid ha
      clear ha
      by_cases hb : xq = b
      · have bbb : (xq == b) = true := by simpa using hb
        have HB2 := Lib.hid hb
        clear hb
        cases ins with
        | false =>
          have hnb := Lib.hid (show ¬ (xq = b ∧ false = true) from fun e => by cases e.2)
          have FE := Lib.hid (FD.out.trans (show _ = shareGo a b (l.drop (i + 1)) (max most sum) (sum) false by rw [if_neg hnf.out, if_neg (hni.out _), if_neg HA.out, if_neg hnb.out]))
          clear FD
          go_wp2
          all_goals
            go_roundw
            case rel => exact ⟨i + 1, max most sum, sum, false, by omega, by omega, by omega, by omega, by omega, num_eq (by first | rfl | omega | (split <;> omega) | (split <;> split <;> omega) | (split <;> split <;> split <;> omega)), num_eq (by first | rfl | omega | (split <;> omega) | (split <;> split <;> omega) | (split <;> split <;> split <;> omega)), rfl, by go_num, HB.out.alloc HB.out.size _, FE⟩
            case measure => simp [intOf]; omega
        | true =>
          have FE := Lib.hid (FD.out.trans (show _ = shareGo a b (l.drop (i + 1)) (max most (sum + xco)) (sum + xco) true by rw [if_neg hnf.out, if_neg (hni.out _), if_neg HA.out, if_pos ⟨HB2.out, rfl⟩]))
          clear FD
          go_wp2
          all_goals
            go_roundw
            case rel => exact ⟨i + 1, max most (sum + xco), sum + xco, true, by omega, by omega, by omega, by omega, by omega, num_eq (by first | rfl | omega | (split <;> omega) | (split <;> split <;> omega) | (split <;> split <;> split <;> omega)), num_eq (by first | rfl | omega | (split <;> omega) | (split <;> split <;> omega) | (split <;> split <;> split <;> omega)), rfl, by go_num, HB.out.alloc HB.out.size _, FE⟩
            case measure => simp [intOf]; omega
      · have bbb : (xq == b) = false := by simpa using hb
        have hnb := Lib.hid (show ∀ i, ¬ (xq = b ∧ i = true) from fun i e => hb e.1)
        clear hb
        cases ins with
        | false =>
          have FE := Lib.hid (FD.out.trans (show _ = shareGo a b (l.drop (i + 1)) (max most sum) (sum) false by rw [if_neg hnf.out, if_neg (hni.out _), if_neg HA.out, if_neg (hnb.out _)]))
          clear FD
          go_wp2
          all_goals
            go_roundw
            case rel => exact ⟨i + 1, max most sum, sum, false, by omega, by omega, by omega, by omega, by omega, num_eq (by first | rfl | omega | (split <;> omega) | (split <;> split <;> omega) | (split <;> split <;> split <;> omega)), num_eq (by first | rfl | omega | (split <;> omega) | (split <;> split <;> omega) | (split <;> split <;> split <;> omega)), rfl, by go_num, HB.out.alloc HB.out.size _, FE⟩
            case measure => simp [intOf]; omega
        | true =>
          have FE := Lib.hid (FD.out.trans (show _ = shareGo a b (l.drop (i + 1)) (max most sum) (sum) true by rw [if_neg hnf.out, if_neg (hni.out _), if_neg HA.out, if_neg (hnb.out _)]))
          clear FD
          go_wp2
          all_goals
            go_roundw
            case rel => exact ⟨i + 1, max most sum, sum, true, by omega, by omega, by omega, by omega, by omega, num_eq (by first | rfl | omega | (split <;> omega) | (split <;> split <;> omega) | (split <;> split <;> split <;> omega)), num_eq (by first | rfl | omega | (split <;> omega) | (split <;> split <;> omega) | (split <;> split <;> split <;> omega)), rfl, by go_num, HB.out.alloc HB.out.size _, FE⟩
            case measure => simp [intOf]; omega
set_option maxRecDepth 100000 in
set_option maxHeartbeats 4000000 in
theorem rshare_any (l : List TV) (a b : Int) (v : Value) (w : World) (h : TurnsAt w v l) : Calls Try.prog 27 #[v, iv a, iv b] w (IntQ (shareT l a b) w) := by
  have HT := Lib.hid h
  obtain ⟨ea, c, rfl, hn, -, -, hc⟩ := h.cell
  have HC := Lib.hid hc
  obtain ⟨n, hl⟩ : ∃ n, l.length = n := ⟨_, rfl⟩
  rw [hl] at hn ⊢
  rw [hl] at HT
  have HL := Lib.hid hl
  clear hc h
  unfold maxLen at hn
  have hud : ∀ b : Bool, (undef = Value.bool b) = False := fun b => by simp [undef]
  rcases Bool.eq_false_or_eq_true (logB l) with hv | hv
  rotate_left
  · have HR := Lib.hid (show shareT l a b = 0 by unfold shareT; simp [hv])
    clear hl
    go_enter Try.func27, Try.ntmps27
    go_wp2_with (go_at_call 12; refine (rlvalid_eq hv _ _ HT.out).mono ?_; rintro e w1 ⟨rfl, b1⟩; have B1 := Lib.hid b1; clear b1)
    go_ret
    exact ⟨ret_intQ HR.out.symm, B1.out⟩
  by_cases hab : a = b
  · have bb : (a == b) = true := by simpa using hab
    have HR := Lib.hid (show shareT l a b = 0 by unfold shareT; simp [hab])
    clear hl hab
    go_enter Try.func27, Try.ntmps27
    go_wp2_with (go_at_call 12; refine (rlvalid_eq hv _ _ HT.out).mono ?_; rintro e w1 ⟨rfl, b1⟩; have B1 := Lib.hid b1; clear b1)
    go_ret
    exact ⟨ret_intQ HR.out.symm, B1.out⟩
  have bb : (a == b) = false := by simpa using hab
  have h4 := logB_len hv
  rw [hl] at h4
  have HV := Lib.hid hv
  have HAB := Lib.hid hab
  have HR := Lib.hid (show shareT l a b = shareGo a b l 0 0 false by unfold shareT; rw [if_neg]; rintro (e | e); exact hab e; rw [hv] at e; cases e)
  clear hl
  go_enter Try.func27, Try.ntmps27
  go_wp2_with (go_at_call 12; refine (rlvalid_eq HV.out _ _ HT.out).mono ?_; rintro e w1 ⟨rfl, b1⟩; have B1 := Lib.hid b1; clear b1)
  go_loopw [7, 8, 9, 10] (fun z1 z2 z3 y wr => ∃ (i : Nat) (most sum : Int) (ins : Bool), i ≤ n ∧ 0 ≤ most ∧ most ≤ 1073741824 * i ∧ 0 ≤ sum ∧ sum ≤ 1073741824 * i ∧ sum ≤ most ∧ z1 = iv most ∧ z2 = iv sum ∧ z3 = .bool ins ∧ y = .int .i64 i ∧ Hid (Below w.heap.size w wr) ∧ Hid (shareT l a b = shareGo a b (l.drop i) most sum ins)) (fun _ _ _ y _ => n - (intOf y).toNat)
  case atStart => exact ⟨0, 0, 0, false, Nat.zero_le _, by omega, by omega, by omega, by omega, by omega, rfl, rfl, rfl, rfl, B1.out, HR.out⟩
  case round =>
    obtain ⟨i, most, sum, ins, hi, m1, m2, s1, s2, s3, rfl, rfl, rfl, rfl, HB, HF⟩ := hrel
    clear hv hab
    by_cases hlt : i < n
    rotate_left
    · have FE := Lib.hid (HF.out.trans (shareGo_end (by have := HL.out; omega) a b most sum ins))
      go_wp2
      go_ret
      exact ⟨ret_intQ FE.out.symm, HB.out⟩
    obtain ⟨x, hx⟩ : ∃ x, l[i]? = some x := ⟨_, List.getElem?_eq_getElem (show i < l.length by have := HL.out; omega)⟩
    obtain ⟨rb, off, rfl, hrb, hcs⟩ := HC.out i x hx
    have g0 := (HB.out.cell (p := ⟨rb, off + i * 5 + 0, none⟩) hrb).trans (hcs 0 (by omega))
    have g1 := (HB.out.cell (p := ⟨rb, off + i * 5 + 1, none⟩) hrb).trans (hcs 1 (by omega))
    have g2 := (HB.out.cell (p := ⟨rb, off + i * 5 + 2, none⟩) hrb).trans (hcs 2 (by omega))
    have g3 := (HB.out.cell (p := ⟨rb, off + i * 5 + 3, none⟩) hrb).trans (hcs 3 (by omega))
    have g4 := (HB.out.cell (p := ⟨rb, off + i * 5 + 4, none⟩) hrb).trans (hcs 4 (by omega))
    simp only [turnC, List.getElem?_cons_zero, List.getElem?_cons_succ, Nat.add_zero] at g0 g1 g2 g3 g4
    obtain ⟨q1, q2, q3, q4, q5, q6, c1, c2⟩ := turnB_co (logB_turn HV.out hx)
    have FD := Lib.hid (HF.out.trans ((shareGo_drop hx a b most sum ins).trans (shareGo_cons _ _ _ _ _ _ _)))
    obtain ⟨xq, xqu, xst, xco, xfin⟩ := x
    simp only at FD g0 g1 g2 g3 g4 c1 c2
    have hsub : wrap64 (sum - xco) = sum - xco := IntWalk.wrap64_in _ (by omega)
    have hadd : wrap64 (sum + xco) = sum + xco := IntWalk.wrap64_in _ (by omega)
    have e1 : (0 : Int) ≤ (i : Int) := by omega
    have e2 : (i : Int) < (n : Int) := by omega
    clear hcs hx HC HF q1 q2 q3 q4 q5 q6
    by_cases ha : xq = a
    · have ba : (xq == a) = true := by simpa using ha
      have bbb : (xq == b) = false := by simp only [beq_eq_false_iff_ne]; rw [ha]; exact HAB.out
      have HA := Lib.hid ha
      clear ha
      rcases Bool.eq_false_or_eq_true xfin with hf | hf
      · have hfin : True := trivial
        subst hf
        have FE := Lib.hid (FD.out.trans (show _ = most by rw [if_pos ⟨HA.out, rfl⟩]))
        clear FD
        go_wp2
        go_ret
        exact ⟨ret_intQ FE.out.symm, HB.out⟩
      · have hnf := Lib.hid (show ¬ (xq = a ∧ xfin = true) from fun e => by rw [hf] at e; cases e.2)
        subst hf
        cases ins with
        | false =>
          have FE := Lib.hid (FD.out.trans (show _ = shareGo a b (l.drop (i + 1)) (max most sum) (sum) true by rw [if_neg hnf.out, if_pos ⟨HA.out, rfl⟩]))
          clear FD
          go_wp2
          all_goals
            go_roundw
            case rel => exact ⟨i + 1, max most sum, sum, true, by omega, by omega, by omega, by omega, by omega, by omega, num_eq (by first | rfl | omega | (split <;> omega) | (split <;> split <;> omega) | (split <;> split <;> split <;> omega)), num_eq (by first | rfl | omega | (split <;> omega) | (split <;> split <;> omega) | (split <;> split <;> split <;> omega)), rfl, by go_num, HB, FE⟩
            case measure => simp [intOf]; omega
        | true =>
          have hni := Lib.hid (show ¬ (xq = a ∧ true = false) from fun e => by cases e.2)
          rcases (by omega : sum - xco < 0 ∨ 0 ≤ sum - xco) with hs | hs
          all_goals
            have FE := Lib.hid (FD.out.trans (show _ = shareGo a b (l.drop (i + 1)) (max most (max (sum - xco) 0)) (max (sum - xco) 0) true by rw [if_neg hnf.out, if_neg hni.out, if_pos HA.out]))
            clear FD
            go_wp2
            all_goals
              go_roundw
              case rel => exact ⟨i + 1, max most (max (sum - xco) 0), max (sum - xco) 0, true, by omega, by omega, by omega, by omega, by omega, by omega, num_eq (by first | rfl | omega | (split <;> omega) | (split <;> split <;> omega) | (split <;> split <;> split <;> omega)), num_eq (by first | rfl | omega | (split <;> omega) | (split <;> split <;> omega) | (split <;> split <;> split <;> omega)), rfl, by go_num, HB, FE⟩
              case measure => simp [intOf]; omega
    · have ba : (xq == a) = false := by simpa using ha
      have hnf := Lib.hid (show ¬ (xq = a ∧ xfin = true) from fun e => ha e.1)
      have hni := Lib.hid (show ∀ i, ¬ (xq = a ∧ i = false) from fun i e => ha e.1)
      have HA := Lib.hid ha
      clear ha
      by_cases hb : xq = b
      · have bbb : (xq == b) = true := by simpa using hb
        have HB2 := Lib.hid hb
        clear hb
        cases ins with
        | false =>
          have hnb := Lib.hid (show ¬ (xq = b ∧ false = true) from fun e => by cases e.2)
          have FE := Lib.hid (FD.out.trans (show _ = shareGo a b (l.drop (i + 1)) (max most sum) (sum) false by rw [if_neg hnf.out, if_neg (hni.out _), if_neg HA.out, if_neg hnb.out]))
          clear FD
          go_wp2
          all_goals
            go_roundw
            case rel => exact ⟨i + 1, max most sum, sum, false, by omega, by omega, by omega, by omega, by omega, by omega, num_eq (by first | rfl | omega | (split <;> omega) | (split <;> split <;> omega) | (split <;> split <;> split <;> omega)), num_eq (by first | rfl | omega | (split <;> omega) | (split <;> split <;> omega) | (split <;> split <;> split <;> omega)), rfl, by go_num, HB, FE⟩
            case measure => simp [intOf]; omega
        | true =>
          have FE := Lib.hid (FD.out.trans (show _ = shareGo a b (l.drop (i + 1)) (max most (sum + xco)) (sum + xco) true by rw [if_neg hnf.out, if_neg (hni.out _), if_neg HA.out, if_pos ⟨HB2.out, rfl⟩]))
          clear FD
          go_wp2
          all_goals
            go_roundw
            case rel => exact ⟨i + 1, max most (sum + xco), sum + xco, true, by omega, by omega, by omega, by omega, by omega, by omega, num_eq (by first | rfl | omega | (split <;> omega) | (split <;> split <;> omega) | (split <;> split <;> split <;> omega)), num_eq (by first | rfl | omega | (split <;> omega) | (split <;> split <;> omega) | (split <;> split <;> split <;> omega)), rfl, by go_num, HB, FE⟩
            case measure => simp [intOf]; omega
      · have bbb : (xq == b) = false := by simpa using hb
        have hnb := Lib.hid (show ∀ i, ¬ (xq = b ∧ i = true) from fun i e => hb e.1)
        clear hb
        cases ins with
        | false =>
          have FE := Lib.hid (FD.out.trans (show _ = shareGo a b (l.drop (i + 1)) (max most sum) (sum) false by rw [if_neg hnf.out, if_neg (hni.out _), if_neg HA.out, if_neg (hnb.out _)]))
          clear FD
          go_wp2
          all_goals
            go_roundw
            case rel => exact ⟨i + 1, max most sum, sum, false, by omega, by omega, by omega, by omega, by omega, by omega, num_eq (by first | rfl | omega | (split <;> omega) | (split <;> split <;> omega) | (split <;> split <;> split <;> omega)), num_eq (by first | rfl | omega | (split <;> omega) | (split <;> split <;> omega) | (split <;> split <;> split <;> omega)), rfl, by go_num, HB, FE⟩
            case measure => simp [intOf]; omega
        | true =>
          have FE := Lib.hid (FD.out.trans (show _ = shareGo a b (l.drop (i + 1)) (max most sum) (sum) true by rw [if_neg hnf.out, if_neg (hni.out _), if_neg HA.out, if_neg (hnb.out _)]))
          clear FD
          go_wp2
          all_goals
            go_roundw
            case rel => exact ⟨i + 1, max most sum, sum, true, by omega, by omega, by omega, by omega, by omega, by omega, num_eq (by first | rfl | omega | (split <;> omega) | (split <;> split <;> omega) | (split <;> split <;> split <;> omega)), num_eq (by first | rfl | omega | (split <;> omega) | (split <;> split <;> omega) | (split <;> split <;> split <;> omega)), rfl, by go_num, HB, FE⟩
            case measure => simp [intOf]; omega

theorem range_snoc {l : List TV} {from_ i : Nat} {x : TV} (h : from_ ≤ i) (hx : l[i]? = some x) : (l.take (i + 1)).drop from_ = (l.take i).drop from_ ++ [x] := by
  have h1 := (List.getElem?_eq_some_iff.1 hx).1
  rw [List.take_add_one, hx, Option.toList_some, List.drop_append_of_le_length (by rw [List.length_take]; omega)]
set_option maxHeartbeats 1000000 in
theorem begins_any (l : List TV) (f t : Nat) (q : Int) (v : Value) (w : World) (h : TurnsAt w v l) (hft : f ≤ t) (ht : t ≤ l.length) (hs : l.length ≤ 4096) :
    Calls Try.prog 45 #[v, .int .i64 f, .int .i64 t, iv q] w fun e w' => e = .returned (iv ((begins ((l.take t).drop f) q : Nat) : Int)) ∧ w' = w := by
  obtain ⟨ea, c, rfl, hn, -, -, hc⟩ := h.cell
  have HC := Lib.hid hc
  obtain ⟨n, hl⟩ : ∃ n, l.length = n := ⟨_, rfl⟩
  rw [hl] at hn ht hs ⊢
  have HL := Lib.hid hl
  clear hc h hl
  unfold maxLen at hn
  have hud : ∀ b : Bool, (undef = Value.bool b) = False := fun b => by simp [undef]
  go_enter Try.func45, Try.ntmps45
  go_wp2
  go_loop [9, 10] (fun z y => ∃ (i m : Nat), f ≤ i ∧ i ≤ t ∧ m ≤ i ∧ z = .int .i64 m ∧ y = .int .i64 i ∧ Hid (begins ((l.take i).drop f) q = m)) (fun _ y => t - (intOf y).toNat)
  case atStart => exact ⟨f, 0, Nat.le_refl _, hft, Nat.zero_le _, rfl, rfl, by
    unfold Hid
    rw [List.drop_eq_nil_of_le (by rw [List.length_take]; omega)]; rfl⟩
  case round =>
    obtain ⟨i, m, hi1, hi2, hm, rfl, rfl, HF⟩ := hrel
    by_cases hlt : i < t
    · obtain ⟨x, hx⟩ : ∃ x, l[i]? = some x := ⟨_, List.getElem?_eq_getElem (show i < l.length by have := HL.out; omega)⟩
      obtain ⟨rb, off, rfl, hrb, hcs⟩ := HC.out i x hx
      have g0 := hcs 0 (by omega)
      have g1 := hcs 1 (by omega)
      simp only [turnC, List.getElem?_cons_zero, List.getElem?_cons_succ, Nat.add_zero] at g0 g1
      have FD := Lib.hid (show begins ((l.take (i + 1)).drop f) q = m + (if x.q = q ∧ 0 < x.qu then 1 else 0) by rw [range_snoc hi1 hx, begins_snoc, HF.out])
      have e1 : (0 : Int) ≤ (i : Int) := by omega
      have e2 : (i : Int) < (n : Int) := by omega
      clear hcs hx HC HF
      by_cases hq : x.q = q
      · have bq : (x.q == q) = true := by simpa using hq
        rcases (by omega : 0 < x.qu ∨ x.qu ≤ 0) with hqu | hqu
        · have FE := Lib.hid (FD.out.trans (by rw [if_pos ⟨hq, hqu⟩] : _ = m + 1))
          clear hq FD
          go_wp2
          go_round
          case rel => exact ⟨i + 1, m + 1, by omega, by omega, by omega, by go_num, by go_num, FE⟩
          case measure => simp [intOf]; omega
        · have FE := Lib.hid (FD.out.trans (by rw [if_neg (fun e => by omega), Nat.add_zero] : _ = m))
          clear hq FD
          go_wp2
          go_round
          case rel => exact ⟨i + 1, m, by omega, by omega, by omega, rfl, by go_num, FE⟩
          case measure => simp [intOf]; omega
      · have bq : (x.q == q) = false := by simpa using hq
        have FE := Lib.hid (FD.out.trans (by rw [if_neg (fun e => hq e.1), Nat.add_zero] : _ = m))
        clear hq FD
        go_wp2
        go_round
        case rel => exact ⟨i + 1, m, by omega, by omega, by omega, rfl, by go_num, FE⟩
        case measure => simp [intOf]; omega
    · obtain rfl : i = t := by omega
      go_wp2
      go_ret
      exact ⟨ret_intQ (by rw [HF.out]), rfl⟩
set_option maxHeartbeats 1000000 in
theorem gone_any (l : List TV) (t : Nat) (q : Int) (v : Value) (w : World) (h : TurnsAt w v l) (ht : t ≤ l.length) (hs : l.length ≤ 4096) :
    Calls Try.prog 46 #[v, .int .i64 t, iv q] w fun e w' => e = .returned (.bool (goneB (l.take t) q)) ∧ w' = w := by
  obtain ⟨ea, c, rfl, hn, -, -, hc⟩ := h.cell
  have HC := Lib.hid hc
  obtain ⟨n, hl⟩ : ∃ n, l.length = n := ⟨_, rfl⟩
  rw [hl] at hn ht hs ⊢
  have HL := Lib.hid hl
  clear hc h hl
  unfold maxLen at hn
  have hud : ∀ b : Bool, (undef = Value.bool b) = False := fun b => by simp [undef]
  go_enter Try.func46, Try.ntmps46
  go_wp2
  go_loop [7] (fun y => ∃ (i : Nat), i ≤ t ∧ y = .int .i64 i ∧ Hid (goneB (l.take i) q = false)) (fun y => t - (intOf y).toNat)
  case atStart => exact ⟨0, Nat.zero_le _, rfl, rfl⟩
  case round =>
    obtain ⟨i, hi2, rfl, HF⟩ := hrel
    by_cases hlt : i < t
    · obtain ⟨x, hx⟩ : ∃ x, l[i]? = some x := ⟨_, List.getElem?_eq_getElem (show i < l.length by have := HL.out; omega)⟩
      obtain ⟨rb, off, rfl, hrb, hcs⟩ := HC.out i x hx
      have g0 := hcs 0 (by omega)
      have g4 := hcs 4 (by omega)
      simp only [turnC, List.getElem?_cons_zero, List.getElem?_cons_succ, Nat.add_zero] at g0 g4
      have FD := Lib.hid (show goneB (l.take (i + 1)) q = (decide (x.q = q) && x.fin) by
        have := range_snoc (from_ := 0) (Nat.zero_le i) hx
        rw [List.drop_zero, List.drop_zero] at this
        rw [this, goneB_snoc, HF.out, Bool.false_or])
      have HX := Lib.hid hx
      have e1 : (0 : Int) ≤ (i : Int) := by omega
      have e2 : (i : Int) < (n : Int) := by omega
      clear hcs hx HC HF
      by_cases hq : x.q = q
      · have bq : (x.q == q) = true := by simpa using hq
        rcases Bool.eq_false_or_eq_true x.fin with hf | hf
        · have FE := Lib.hid (show goneB (l.take t) q = true by
            unfold goneB
            rw [List.any_eq_true]
            exact ⟨x, List.mem_of_getElem? (by rw [List.getElem?_take_of_lt hlt]; exact HX.out), by simp [hq, hf]⟩)
          clear hq FD
          go_wp2
          go_ret
          exact ⟨ret_boolQ FE.out.symm, rfl⟩
        · have FE := Lib.hid (FD.out.trans (by rw [hf, Bool.and_false] : _ = false))
          clear hq FD
          go_wp2
          go_round
          case rel => exact ⟨i + 1, by omega, by go_num, FE⟩
          case measure => simp [intOf]; omega
      · have bq : (x.q == q) = false := by simpa using hq
        have FE := Lib.hid (FD.out.trans (by rw [decide_eq_false hq, Bool.false_and] : _ = false))
        clear hq FD
        go_wp2
        go_round
        case rel => exact ⟨i + 1, by omega, by go_num, FE⟩
        case measure => simp [intOf]; omega
    · obtain rfl : i = t := by omega
      go_wp2
      go_ret
      exact ⟨ret_boolQ HF.out.symm, rfl⟩
end Go.Proofs.Ytbgoogjhgeoapaa
