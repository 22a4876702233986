/- The law AuditRing, walked. Printed by wip/gen_aulr.py. -/
import Derived.Test.YtbgoogjhgeoapaaAuLg
import Derived.Test.YtbgoogjhgeoapaaAuRl
import Derived.Test.YtbgoogjhgeoapaaCfg
import Derived.Test.YtbgoogjhgeoapaaAuSn
set_option linter.unusedVariables false
set_option linter.unusedSimpArgs false
set_option linter.unusedSectionVars false
namespace Go.Proofs.Ytbgoogjhgeoapaa
open Go.RowKit
variable [Base]

theorem cell_lt {w : World} {b o : Nat} {v : Value} (h : w.cell? ⟨b, o, none⟩ = some v) : b < w.heap.size := by
  rcases Nat.lt_or_ge b w.heap.size with h' | h'
  · exact h'
  · simp [World.cell?, Array.getElem?_eq_none h'] at h
theorem cfg_bounds {c : CV} (hc : cfgB c = true) : (1 ≤ c.ba ∧ c.ba ≤ 64) ∧ (1 ≤ c.ag ∧ c.ag ≤ 1024) := by
  unfold cfgB btwB at hc
  simp only [Bool.and_eq_true, decide_eq_true_eq] at hc
  omega
set_option maxRecDepth 100000 in
set_option maxHeartbeats 4000000 in
theorem ringLaw_any (w : World) (a : Option Addr) (n c : Nat) (hbw : Base.b ≤ w.heap.size) (hn : n ≤ maxLen) (h : ∀ j : Nat, j < n → ∃ b off z, a = some ⟨b, off, none⟩ ∧ b < w.heap.size ∧ w.cell? ⟨b, off + j, none⟩ = some (.int .i64 z)) :
    Calls Try.prog 3 #[.slice a n c] w (BoolQ true w) := by
  have HH := Lib.hid h
  have HBW := Lib.hid hbw
  have HNN := Lib.hid hn
  obtain ⟨bt, hbt⟩ : ∃ b, w.heap.size = b := ⟨_, rfl⟩
  have HBT := Lib.hid hbt
  clear h hbw hn
  go_enter Try.func3, Try.ntmps3
  go_wp2_with fail
  refine (new_any rfl a n c HNN.out HH.out HBW.out).mono ?_
  rintro e w1 ⟨rfl, t1, b1⟩
  rw [hbt] at t1 ⊢
  have HT0 := Lib.hid t1
  have HB0 := Lib.hid (show But bt w w1 from ⟨b1.os, b1.tape, b1.output, b1.size, fun k hk _ => b1.block k hk⟩)
  clear t1 b1 hbt
  go_wp2_with fail
  go_loopw [4] (fun y wr => ∃ i : Nat, i ≤ 4 ∧ y = .int .i64 i ∧ Hid (TapeOk bt wr bt) ∧ Hid (But bt w wr)) (fun y _ => 4 - (intOf y).toNat)
  case atStart => exact ⟨0, by omega, rfl, HT0.out, HB0.out⟩
  case round =>
    obtain ⟨i, hi, rfl, HT, HB⟩ := hrel
    by_cases hlt : i < 4
    rotate_left
    · go_wp2_with (go_at_call 10; refine (sane_any _).mono ?_; rintro e w9 ⟨rfl, b9⟩; have B9 := Lib.hid b9; clear b9)
      go_ret
      exact ⟨rfl, (HB.out.below B9.out).toBelow (by have := HBT.out; omega) (Nat.le_refl _)⟩
    · go_wp2_with fail
      refine (config_any HT.out).mono ?_
      rintro e w2 ⟨cc, hcc, rfl, t2, b2⟩
      have HC := Lib.hid hcc
      have HT2 := Lib.hid t2
      have HB2 := Lib.hid (HB.out.trans b2)
      clear hcc t2 b2
      unfold cfgV
      obtain ⟨Y, hY⟩ : ∃ Y, w2.alloc (.cells #[iv cc.p, iv cc.pe, iv cc.me, iv cc.no, iv cc.ed, iv cc.ba, iv cc.ag] 26) = Y := ⟨_, rfl⟩
      have HCB := Lib.hid (show Y.heap[w2.heap.size]? = some (.cells #[iv cc.p, iv cc.pe, iv cc.me, iv cc.no, iv cc.ed, iv cc.ba, iv cc.ag] 26 (0, 0)) by rw [← hY]; exact heap_alloc_new _ _)
      have HT3 := Lib.hid (show TapeOk bt Y bt by rw [← hY]; exact HT2.out.alloc _)
      have HB3 := Lib.hid (show But bt w Y by rw [← hY]; exact HB2.out.alloc _)
      obtain ⟨k0, k1, k2, k3, k4, k5, k6⟩ := cells7' HCB.out
      have HYY := Lib.hid hY
      have hbs : w2.heap.size < Y.heap.size := lt_heap HCB.out
      have hbn : w2.heap.size ≠ bt := by have h1 := HT2.out.lt; omega
      clear hY
      obtain ⟨cb, hcb⟩ : ∃ b, w2.heap.size = b := ⟨_, rfl⟩
      rw [hcb] at HCB k0 k1 k2 k3 k4 k5 k6 hbs hbn
      have HCC := Lib.hid hcb
      clear hcb
      go_upto_region 6 with (fail)
      rw [show w2.alloc (.cells #[.int .i64 cc.p, .int .i64 cc.pe, .int .i64 cc.me, .int .i64 cc.no, .int .i64 cc.ed, .int .i64 cc.ba, .int .i64 cc.ag] 26) = Y from HYY.out, HCC.out]
      go_wp2_with fail
      refine (log_any HT3.out cc (cfg_bounds HC.out).1 (cfg_bounds HC.out).2).mono ?_
      rintro e w3 ⟨r, l, nx, v', hlg, rfl, htu, hot, t3, b3⟩
      obtain ⟨la, lc, rfl⟩ := hot.slice
      have HLG := Lib.hid hlg
      have HTU := Lib.hid htu
      have HT4 := Lib.hid t3
      have HB4 := Lib.hid (HB3.out.trans b3)
      have HCB2 := Lib.hid (show w3.heap[cb]? = _ from (b3.block cb hbs hbn).trans HCB.out)
      clear hlg htu hot t3 b3 k0 k1 k2 k3 k4 k5 k6
      obtain ⟨k0, k1, k2, k3, k4, k5, k6⟩ := cells7' HCB2.out
      obtain ⟨m, hm⟩ : ∃ m, l.length = m := ⟨_, rfl⟩
      rw [hm] at HTU ⊢
      have HMM := Lib.hid hm
      clear hm
      go_wp2_with fail
      refine (check_at (audit_ring HC.out HLG.out) _ _ HTU.out).mono ?_
      rintro e w4 ⟨rfl, b4⟩
      rw [HMM.out]
      have HT5 := Lib.hid (HT4.out.below b4)
      have HB5 := Lib.hid (HB4.out.below b4)
      clear b4
      have hmm : ((m : Int) != (m : Int)) = false := by simp
      go_wp2
      go_roundw
      case rel => exact ⟨i + 1, by omega, by go_num, HT5.out, HB5.out⟩
      case measure => simp [intOf]; omega
end Go.Proofs.Ytbgoogjhgeoapaa
