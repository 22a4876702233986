/- Walks: the reference's Find, Pending. Printed by wip/gen_qrr1.py. -/
import Derived.Test.YtlchgbfpoaipgaaDoorQrW4
set_option linter.unusedVariables false
set_option linter.unusedSimpArgs false
set_option linter.unusedSectionVars false
namespace Go.Proofs.YtlchgbfpoaipgaaDoor
open Go.RowKit
variable [Base]

set_option maxHeartbeats 400000 in
theorem rfind_any (l : List QRec) (x : Str) (v : Value) (w : World) (h : RecsAt w v l) : Calls Tryd.prog 36 #[v, qs x] w fun e w' => e = .returned (.int .i64 (findQ l x)) ∧ w' = w := by
  obtain ⟨a, c, rfl, hn, -, -, hc⟩ := h.cell
  have HC := Lib.hid hc
  obtain ⟨n, hl⟩ : ∃ n, l.length = n := ⟨_, rfl⟩
  rw [hl] at hn ⊢
  have HL := Lib.hid hl
  clear hc h hl
  unfold maxLen at hn
  go_enter Tryd.func36, Tryd.ntmps36
  go_wp2
  go_loop [5] (fun y => ∃ i : Nat, i ≤ n ∧ y = .int .i64 i ∧ Hid (findQ l x = findFrom x i (l.drop i))) (fun y => n - (intOf y).toNat)
  case atStart => exact ⟨0, Nat.zero_le _, rfl, rfl⟩
  case round =>
    obtain ⟨i, hi, rfl, HF⟩ := hrel
    by_cases hlt : i < n
    · obtain ⟨r, hr⟩ : ∃ r, l[i]? = some r := ⟨_, List.getElem?_eq_getElem (show i < l.length by have := HL.out; omega)⟩
      obtain ⟨rb, off, u, rfl, hrb, -, hcs⟩ := HC.out i r hr
      have gk := hcs 0 (by omega)
      simp only [List.getElem?_cons_zero, List.getElem?_cons_succ, Nat.add_zero] at gk
      have FD := findFrom_drop (x := x) hr
      by_cases hx : r.id = x
      · rw [if_pos hx] at FD
        have FE := Lib.hid (HF.out.trans FD)
        have hxb : (r.id == x) = true := by simpa using hx
        clear hcs hr hx FD HC
        go_wp2
        go_ret
        exact ⟨ret_intQ FE.out.symm, rfl⟩
      · rw [if_neg hx] at FD
        have FE := Lib.hid (HF.out.trans FD)
        have hxb : (r.id == x) = false := by simpa using hx
        clear hcs hr hx FD HC
        go_wp2
        go_round
        case rel => exact ⟨i + 1, by omega, by go_num, FE⟩
        case measure => simp [intOf]; omega
    · have FE := Lib.hid (HF.out.trans (findFrom_end (by have := HL.out; omega)))
      go_wp2
      go_ret
      exact ⟨ret_intQ FE.out.symm, rfl⟩
set_option maxHeartbeats 400000 in
theorem rpending_any (l : List QRec) (v : Value) (w : World) (h : RecsAt w v l) : Calls Tryd.prog 37 #[v] w fun e w' => e = .returned (.int .i64 (pend l)) ∧ w' = w := by
  obtain ⟨a, c, rfl, hn, -, -, hc⟩ := h.cell
  have HC := Lib.hid hc
  obtain ⟨n, hl⟩ : ∃ n, l.length = n := ⟨_, rfl⟩
  rw [hl] at hn ⊢
  have HL := Lib.hid hl
  clear hc h hl
  unfold maxLen at hn
  go_enter Tryd.func37, Tryd.ntmps37
  go_wp2
  go_loop [3, 4] (fun z y => ∃ i m : Nat, i ≤ n ∧ m ≤ i ∧ z = .int .i64 m ∧ y = .int .i64 i ∧ Hid (pend l = m + pend (l.drop i))) (fun _ y => n - (intOf y).toNat)
  case atStart => exact ⟨0, 0, Nat.zero_le _, Nat.le_refl _, rfl, rfl, by unfold Hid; simp⟩
  case round =>
    obtain ⟨i, m, hi, hm, rfl, rfl, HF⟩ := hrel
    by_cases hlt : i < n
    · obtain ⟨r, hr⟩ : ∃ r, l[i]? = some r := ⟨_, List.getElem?_eq_getElem (show i < l.length by have := HL.out; omega)⟩
      obtain ⟨rb, off, u, rfl, hrb, -, hcs⟩ := HC.out i r hr
      have gk := hcs 5 (by omega)
      simp only [List.getElem?_cons_zero, List.getElem?_cons_succ, Nat.add_zero] at gk
      have FD := pend_drop hr
      by_cases hx : r.status = 1
      · rw [if_pos hx] at FD
        have FE := Lib.hid (show pend l = (m + 1) + pend (l.drop (i + 1)) by rw [HF.out, FD]; omega)
        have hxb : (r.status == 1) = true := by simpa using hx
        clear hcs hr hx FD HC
        go_wp2
        go_round
        case rel => exact ⟨i + 1, m + 1, by omega, by omega, by go_num, by go_num, FE⟩
        case measure => simp [intOf]; omega
      · rw [if_neg hx] at FD
        have FE := Lib.hid (show pend l = m + pend (l.drop (i + 1)) by rw [HF.out, FD]; omega)
        have hxb : (r.status == 1) = false := by simpa using hx
        clear hcs hr hx FD HC
        go_wp2
        go_round
        case rel => exact ⟨i + 1, m, by omega, by omega, rfl, by go_num, FE⟩
        case measure => simp [intOf]; omega
    · have FE := Lib.hid (show pend l = m by rw [HF.out, pend_end (by have := HL.out; omega)]; rfl)
      go_wp2
      go_ret
      exact ⟨ret_intQ (by rw [FE.out]), rfl⟩
end Go.Proofs.YtlchgbfpoaipgaaDoor
