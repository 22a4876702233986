/- The law AuditPrefix, walked. Printed by wip/gen_aupl.py. -/
import Derived.Test.YtbgoogjhgeoapaaAuLr
import Derived.Test.YtbgoogjhgeoapaaAuSp
set_option linter.unusedVariables false
set_option linter.unusedSimpArgs false
set_option linter.unusedSectionVars false
namespace Go.Proofs.Ytbgoogjhgeoapaa
open Go.RowKit
variable [Base]

theorem prefix_plain {c : CV} (hc : cfgB c = true) {l : List TV} (hl : logB l = true) :
    ∃ k, k ≤ l.length ∧ auditT c (l.take k) = ((k : Int), 0) ∧ ((auditT c l = ((k : Int), 0) ∧ k = l.length) ∨ (auditT c l = ((k : Int), 15) ∧ k < l.length ∧ auditT c (l.take (k + 1)) = ((k : Int), 15))) := by
  obtain ⟨k, h1, h2, h3⟩ := go_prefix c l ⟨[], 0, false⟩ 0
  have e : ∀ m : List TV, logB m = true → auditT c m = auditGo c ⟨[], 0, false⟩ 0 m := fun m hm => by unfold auditT; rw [if_neg (by rw [hc, hm]; simp)]
  rw [Nat.zero_add] at h2 h3
  refine ⟨k, h1, by rw [e _ (logB_take l k hl)]; exact h3, ?_⟩
  rcases h2 with ⟨h4, h5⟩ | ⟨h4, h5, h6⟩
  · exact .inl ⟨by rw [e _ hl]; exact h4, h5⟩
  · exact .inr ⟨by rw [e _ hl]; exact h4, h5, by rw [e _ (logB_take l (k + 1) hl)]; exact h6⟩
theorem audit_bad {c : CV} {l : List TV} (hl : logB l = false) : auditT c l = (0, 1) := by unfold auditT; rw [if_pos (.inr hl)]
set_option maxRecDepth 100000 in
set_option maxHeartbeats 8000000 in
theorem prefixLaw_any (w : World) (a : Option Addr) (n c : Nat) (hbw : Base.b ≤ w.heap.size) (hn : n ≤ maxLen) (h : ∀ j : Nat, j < n → ∃ b off z, a = some ⟨b, off, none⟩ ∧ b < w.heap.size ∧ w.cell? ⟨b, off + j, none⟩ = some (.int .i64 z)) :
    Calls Try.prog 4 #[.slice a n c] w (BoolQ true w) := by
  have HH := Lib.hid h
  have HBW := Lib.hid hbw
  have HNN := Lib.hid hn
  obtain ⟨bt, hbt⟩ : ∃ b, w.heap.size = b := ⟨_, rfl⟩
  have HBT := Lib.hid hbt
  have hud : ∀ b : Bool, (undef = Value.bool b) = False := fun b => by simp [undef]
  clear h hbw hn
  go_enter Try.func4, Try.ntmps4
  go_wp2_with fail
  refine (new_any rfl a n c HNN.out HH.out HBW.out).mono ?_
  rintro e w1 ⟨rfl, t1, b1⟩
  rw [hbt] at t1 ⊢
  have HT0 := Lib.hid t1
  have HB0 := Lib.hid (show But bt w w1 from ⟨b1.os, b1.tape, b1.output, b1.size, fun k hk _ => b1.block k hk⟩)
  clear t1 b1 hbt
  go_wp2_with fail
  refine (config_any HT0.out).mono ?_
  rintro e w2 ⟨cc, hcc, rfl, t2, b2⟩
  have HC := Lib.hid hcc
  have HT2 := Lib.hid t2
  have HB2 := Lib.hid (HB0.out.trans b2)
  clear hcc t2 b2
  unfold cfgV
  obtain ⟨Y, hY⟩ : ∃ Y, w2.alloc (.cells #[iv cc.p, iv cc.pe, iv cc.me, iv cc.no, iv cc.ed, iv cc.ba, iv cc.ag] 26) = Y := ⟨_, rfl⟩
  have HCB := Lib.hid (show Y.heap[w2.heap.size]? = some (.cells #[iv cc.p, iv cc.pe, iv cc.me, iv cc.no, iv cc.ed, iv cc.ba, iv cc.ag] 26 (0, 0)) by rw [← hY]; exact heap_alloc_new _ _)
  have HT3 := Lib.hid (show TapeOk bt Y bt by rw [← hY]; exact HT2.out.alloc _)
  have HB3 := Lib.hid (show But bt w Y by rw [← hY]; exact HB2.out.alloc _)
  obtain ⟨k0, k1, k2, k3, k4, k5, k6⟩ := cells7' HCB.out
  have HYY := Lib.hid hY
  have hbs : w2.heap.size < Y.heap.size := lt_heap HCB.out
  have hbn : w2.heap.size ≠ bt := by have h1 := HT2.out.lt; omega
  clear hY
  obtain ⟨cb, hcb⟩ : ∃ b, w2.heap.size = b := ⟨_, rfl⟩
  rw [hcb] at HCB k0 k1 k2 k3 k4 k5 k6 hbs hbn
  have HCC := Lib.hid hcb
  clear hcb
  go_upto_region 3 with (fail)
  rw [show w2.alloc (.cells #[.int .i64 cc.p, .int .i64 cc.pe, .int .i64 cc.me, .int .i64 cc.no, .int .i64 cc.ed, .int .i64 cc.ba, .int .i64 cc.ag] 26) = Y from HYY.out, HCC.out]
  go_wp2_with fail
  refine (log_any HT3.out cc (cfg_bounds HC.out).1 (cfg_bounds HC.out).2).mono ?_
  rintro e w3 ⟨r, l0, nx, v', hlg, rfl, htu, hot, t3, b3⟩
  obtain ⟨la, lc, rfl⟩ := hot.slice
  have hl0 : l0.length ≤ 100000 := by have h1 := (hlg.facts (cfg_bounds HC.out).1 (cfg_bounds HC.out).2 (by decide)).ll; omega
  have HL0 := Lib.hid hl0
  have HTU0 := Lib.hid htu
  have HT4 := Lib.hid t3
  have HB4 := Lib.hid (HB3.out.trans b3)
  have HCB2 := Lib.hid (show w3.heap[cb]? = _ from (b3.block cb hbs hbn).trans HCB.out)
  clear hlg htu hot t3 b3 hl0 k0 k1 k2 k3 k4 k5 k6
  go_wp2_with fail
  refine (spoil_any HT4.out _ l0 HTU0.out HL0.out).mono ?_
  rintro e w4 ⟨l, sa, sc, rfl, hll, hot, t4, b4⟩
  have HCB3 := Lib.hid (show w4.heap[cb]? = _ from (b4.block cb (lt_heap HCB2.out) hbn).trans HCB2.out)
  have HT5 := Lib.hid t4
  have HB5 := Lib.hid (HB4.out.trans b4)
  have HOT := Lib.hid hot
  have HTU := Lib.hid hot.turns
  obtain ⟨k0, k1, k2, k3, k4, k5, k6⟩ := cells7' HCB3.out
  obtain ⟨m, hm⟩ : ∃ m, l.length = m := ⟨_, rfl⟩
  rw [hm] at HTU HOT ⊢
  have HM := Lib.hid hm
  clear hot t4 b4 hll hm
  have fin : ∀ x : World, Below w4.heap.size w4 x → Below w.heap.size w x := fun x hx => (HB5.out.below hx).toBelow (by have := HBT.out; omega) (Nat.le_refl _)
  have FIN := Lib.hid fin
  have hnz : ¬ (m : Int) < 0 := by omega
  have hmm : ((m : Int) == (m : Int)) = true := by simp
  have hmm2 : ((m : Int) != (m : Int)) = false := by simp
  clear fin
  cases hlb : logB l with
  | false =>
    have HLB := Lib.hid hlb
    clear hlb
    have HCK := Lib.hid (fun (w' : World) (h : TurnsAt w' (.slice sa m sc) l) => (show Calls Try.prog 9 #[.agg #[iv cc.p, iv cc.pe, iv cc.me, iv cc.no, iv cc.ed, iv cc.ba, iv cc.ag], .slice sa m sc] w' (PairQ (0, 1) w') from check_at (audit_bad HLB.out) _ w' h))
    have HVL := Lib.hid (fun (w' : World) (h : TurnsAt w' (.slice sa m sc) l) => (show Calls Try.prog 12 #[.slice sa m sc] w' (BoolQ false w') from by have h1 := rlvalid_any l _ w' h; rw [HLB.out] at h1; exact h1))
    go_wp2_with first
      | (go_at_call 9; refine (HCK.out _ HTU.out).mono ?_; rintro e w5 ⟨rfl, b5⟩; have B5 := Lib.hid b5; clear b5)
      | (go_at_call 12; refine (HVL.out _ (HTU.out.below B5.out)).mono ?_; rintro e w6 ⟨rfl, b6⟩; have B6 := Lib.hid (B5.out.trans (b6.mono B5.out.size)); clear b6)
      | (go_at_call 10; refine (sane_any _).mono ?_; rintro e w7 ⟨rfl, b7⟩; have B7 := Lib.hid (B6.out.trans (b7.mono B6.out.size)); clear b7)
    go_ret
    exact ⟨rfl, FIN.out _ B7.out⟩
  | true =>
    obtain ⟨k, hk, hk1, hk2⟩ := prefix_plain HC.out hlb
    have HK1 := Lib.hid hk1
    have hkm : k ≤ m := by rw [← HM.out]; exact hk
    have hkm1 : ¬ (m : Int) < (k : Int) := by omega
    have hk0 : ¬ (k : Int) < 0 := by omega
    have hkk : ((k : Int) != (k : Int)) = false := by simp
    have hkk2 : ((k : Int) == (k : Int)) = true := by simp
    have j1 : (0 : Int) ≤ (k : Int) := Int.natCast_nonneg _
    have hcap := HOT.out.2
    have hval : (sa = none ∧ m = 0 ∧ sc = 0) ∨ ∃ g, sa = some ⟨g, 0, none⟩ ∧ m ≤ sc := by
      rcases HOT.out.2 with ⟨h1, h2⟩ | ⟨g, cap, cur, h1, h2, h3, h4, h5, _⟩
      · injection h1 with h1 h3 h4
        exact .inl ⟨h1, h3, h4⟩
      · injection h1 with h1 h6 h7
        exact .inr ⟨g, h1, by rw [h7]; omega⟩
    clear hk hk1 hcap
    rcases hval with ⟨rfl, rfl, rfl⟩ | ⟨g, rfl, hmc⟩
    · have hl0 : l = [] := List.length_eq_zero_iff.1 HM.out
      obtain rfl : k = 0 := by omega
      have HCK := Lib.hid (fun (w' : World) => (show Calls Try.prog 9 #[.agg #[iv cc.p, iv cc.pe, iv cc.me, iv cc.no, iv cc.ed, iv cc.ba, iv cc.ag], .slice none 0 0] w' (PairQ (0, 0) w') from check_at (l := []) (by have h1 := HK1.out; rw [List.take_zero] at h1; exact h1) _ w' TurnsAt.nil))
      clear hk2 hl0 hlb
      go_upto_region 9 with (go_at_call 9; refine (HCK.out _).mono ?_; rintro e w5 ⟨rfl, b5⟩; have B5 := Lib.hid b5; clear b5 k0 k1 k2 k3 k4 k5 k6; have HCB4 := Lib.hid (lies_below HCB3.out B5.out (lt_heap HCB3.out)); obtain ⟨k0, k1, k2, k3, k4, k5, k6⟩ := cells7' HCB4.out)
      go_region_held3 (fun w' => w'.cell? ⟨cb, 0, none⟩ = some (iv cc.p) ∧ w'.cell? ⟨cb, 1, none⟩ = some (iv cc.pe) ∧ w'.cell? ⟨cb, 2, none⟩ = some (iv cc.me) ∧ w'.cell? ⟨cb, 3, none⟩ = some (iv cc.no) ∧ w'.cell? ⟨cb, 4, none⟩ = some (iv cc.ed) ∧ w'.cell? ⟨cb, 5, none⟩ = some (iv cc.ba) ∧ w'.cell? ⟨cb, 6, none⟩ = some (iv cc.ag)) (go_keep) ((go_at_call 9; refine (HCK.out _).mono ?_; rintro e w8 ⟨rfl, b8⟩; have B6 := Lib.hid ((below_drewQ B5.out 1).trans (b8.mono B5.out.size)); clear b8; have HCB5 := Lib.hid (lies_below HCB3.out B6.out (lt_heap HCB3.out)); obtain ⟨q0, q1, q2, q3, q4, q5, q6⟩ := cells7' HCB5.out))
      go_wp2_with (go_at_call 10; refine (sane_any _).mono ?_; rintro e w7 ⟨rfl, b7⟩; have B7 := Lib.hid (B6.out.trans (b7.mono B6.out.size)); clear b7)
      go_ret
      exact ⟨rfl, FIN.out _ B7.out⟩
    · have j2 : (k : Int) ≤ (sc : Int) := by omega
      have j3 : (m : Int) ≤ (sc : Int) := by omega
      have HTK := Lib.hid (show TurnsAt w4 (.slice (some ⟨g, 0, none⟩) k sc) (l.take k) from by
        have h1 := (show SliceAt w4 53 5 (.slice (some ⟨g, 0, none⟩) m sc) (turnsX l) from HTU.out).front k hkm
        rw [turnsX_take] at h1; exact h1)
      have HCK2 := Lib.hid (fun (w' : World) (h : TurnsAt w' (.slice (some ⟨g, 0, none⟩) k sc) (l.take k)) => (show Calls Try.prog 9 #[.agg #[iv cc.p, iv cc.pe, iv cc.me, iv cc.no, iv cc.ed, iv cc.ba, iv cc.ag], .slice (some ⟨g, 0, none⟩) k sc] w' (PairQ ((k : Int), 0) w') from check_at HK1.out _ w' h))
      rcases hk2 with ⟨hk3, hk4⟩ | ⟨hk3, hk4, hk5⟩
      · have hkm2 : k = m := by rw [← HM.out]; exact hk4
        subst hkm2
        have HCK := Lib.hid (fun (w' : World) (h : TurnsAt w' (.slice (some ⟨g, 0, none⟩) k sc) l) => (show Calls Try.prog 9 #[.agg #[iv cc.p, iv cc.pe, iv cc.me, iv cc.no, iv cc.ed, iv cc.ba, iv cc.ag], .slice (some ⟨g, 0, none⟩) k sc] w' (PairQ ((k : Int), 0) w') from check_at hk3 _ w' h))
        clear hlb hk4
        go_upto_region 9 with (go_at_call 9; refine (HCK.out _ HTU.out).mono ?_; rintro e w5 ⟨rfl, b5⟩; have B5 := Lib.hid b5; clear b5 k0 k1 k2 k3 k4 k5 k6; have HCB4 := Lib.hid (lies_below HCB3.out B5.out (lt_heap HCB3.out)); obtain ⟨k0, k1, k2, k3, k4, k5, k6⟩ := cells7' HCB4.out)
        go_region_held3 (fun w' => w'.cell? ⟨cb, 0, none⟩ = some (iv cc.p) ∧ w'.cell? ⟨cb, 1, none⟩ = some (iv cc.pe) ∧ w'.cell? ⟨cb, 2, none⟩ = some (iv cc.me) ∧ w'.cell? ⟨cb, 3, none⟩ = some (iv cc.no) ∧ w'.cell? ⟨cb, 4, none⟩ = some (iv cc.ed) ∧ w'.cell? ⟨cb, 5, none⟩ = some (iv cc.ba) ∧ w'.cell? ⟨cb, 6, none⟩ = some (iv cc.ag)) (go_keep) ((go_at_call 9; refine (HCK2.out _ (HTK.out.below (below_drewQ B5.out 1))).mono ?_; rintro e w8 ⟨rfl, b8⟩; have B6 := Lib.hid ((below_drewQ B5.out 1).trans (b8.mono B5.out.size)); clear b8; have HCB5 := Lib.hid (lies_below HCB3.out B6.out (lt_heap HCB3.out)); obtain ⟨q0, q1, q2, q3, q4, q5, q6⟩ := cells7' HCB5.out))
        go_wp2_with (go_at_call 10; refine (sane_any _).mono ?_; rintro e w7 ⟨rfl, b7⟩; have B7 := Lib.hid (B6.out.trans (b7.mono B6.out.size)); clear b7)
        go_ret
        exact ⟨rfl, FIN.out _ B7.out⟩
      · have hkm2 : k < m := by rw [← HM.out]; exact hk4
        have HCK := Lib.hid (fun (w' : World) (h : TurnsAt w' (.slice (some ⟨g, 0, none⟩) m sc) l) => (show Calls Try.prog 9 #[.agg #[iv cc.p, iv cc.pe, iv cc.me, iv cc.no, iv cc.ed, iv cc.ba, iv cc.ag], .slice (some ⟨g, 0, none⟩) m sc] w' (PairQ ((k : Int), 15) w') from check_at hk3 _ w' h))
        have hne1 : ((k : Int) == (m : Int)) = false := by simp; omega
        obtain ⟨k', hk'⟩ : ∃ k', k + 1 = k' := ⟨_, rfl⟩
        have HTK' := Lib.hid (show TurnsAt w4 (.slice (some ⟨g, 0, none⟩) k' sc) (l.take k') from by
          have h1 := (show SliceAt w4 53 5 (.slice (some ⟨g, 0, none⟩) m sc) (turnsX l) from HTU.out).front k' (by omega)
          rw [turnsX_take] at h1; exact h1)
        have HCK3 := Lib.hid (fun (w' : World) (h : TurnsAt w' (.slice (some ⟨g, 0, none⟩) k' sc) (l.take k')) => (show Calls Try.prog 9 #[.agg #[iv cc.p, iv cc.pe, iv cc.me, iv cc.no, iv cc.ed, iv cc.ba, iv cc.ag], .slice (some ⟨g, 0, none⟩) k' sc] w' (PairQ ((k : Int), 15) w') from check_at (by rw [← hk']; exact hk5) _ w' h))
        have HWK := Lib.hid (show wrap64 ((k : Int) + 1) = (k' : Int) by rw [IntWalk.wrap64_in _ (by have h1 := HM.out; have h2 := HL0.out; have h3 := HTU.out.cell; obtain ⟨_, _, _, h4, _⟩ := h3; unfold maxLen at h4; omega)]; omega)
        have HWK2 := Lib.hid (show IntKind.i64.wrap ((k : Int) + 1) = (k' : Int) from by rw [IntWalk.i64_left]; exact HWK.out)
        have j4 : (0 : Int) ≤ (k' : Int) := Int.natCast_nonneg _
        have j5 : (k' : Int) ≤ (sc : Int) := by omega
        clear hlb hk4 hk' hk5
        go_upto_region 9 with (go_at_call 9; refine (HCK.out _ HTU.out).mono ?_; rintro e w5 ⟨rfl, b5⟩; have B5 := Lib.hid b5; clear b5 k0 k1 k2 k3 k4 k5 k6; have HCB4 := Lib.hid (lies_below HCB3.out B5.out (lt_heap HCB3.out)); obtain ⟨k0, k1, k2, k3, k4, k5, k6⟩ := cells7' HCB4.out)
        go_region_held3 (fun w' => w'.cell? ⟨cb, 0, none⟩ = some (iv cc.p) ∧ w'.cell? ⟨cb, 1, none⟩ = some (iv cc.pe) ∧ w'.cell? ⟨cb, 2, none⟩ = some (iv cc.me) ∧ w'.cell? ⟨cb, 3, none⟩ = some (iv cc.no) ∧ w'.cell? ⟨cb, 4, none⟩ = some (iv cc.ed) ∧ w'.cell? ⟨cb, 5, none⟩ = some (iv cc.ba) ∧ w'.cell? ⟨cb, 6, none⟩ = some (iv cc.ag)) (go_keep) ((go_at_call 9; refine (HCK2.out _ (HTK.out.below (below_drewQ B5.out 1))).mono ?_; rintro e w8 ⟨rfl, b8⟩; have B6 := Lib.hid ((below_drewQ B5.out 1).trans (b8.mono B5.out.size)); clear b8; have HCB5 := Lib.hid (lies_below HCB3.out B6.out (lt_heap HCB3.out)); obtain ⟨q0, q1, q2, q3, q4, q5, q6⟩ := cells7' HCB5.out))
        go_upto_region 13 with (fail)
        have HCB6 := Lib.hid (lies_below HCB3.out B6.out (lt_heap HCB3.out))
        clear k0 k1 k2 k3 k4 k5 k6
        obtain ⟨k0, k1, k2, k3, k4, k5, k6⟩ := cells7' HCB6.out
        have hwk := HWK2.out
        go_region_held3 (fun w' => w'.cell? ⟨cb, 0, none⟩ = some (iv cc.p) ∧ w'.cell? ⟨cb, 1, none⟩ = some (iv cc.pe) ∧ w'.cell? ⟨cb, 2, none⟩ = some (iv cc.me) ∧ w'.cell? ⟨cb, 3, none⟩ = some (iv cc.no) ∧ w'.cell? ⟨cb, 4, none⟩ = some (iv cc.ed) ∧ w'.cell? ⟨cb, 5, none⟩ = some (iv cc.ba) ∧ w'.cell? ⟨cb, 6, none⟩ = some (iv cc.ag)) (go_keep) ((go_at_call 9; refine (HCK3.out _ (HTK'.out.below (below_drewQ B6.out 1))).mono ?_; rintro e w8 ⟨rfl, b8⟩; have B8 := Lib.hid ((below_drewQ B6.out 1).trans (b8.mono B6.out.size)); clear b8; have HCB5 := Lib.hid (lies_below HCB3.out B8.out (lt_heap HCB3.out)); obtain ⟨q0, q1, q2, q3, q4, q5, q6⟩ := cells7' HCB5.out))
        go_wp2_with (go_at_call 10; refine (sane_any _).mono ?_; rintro e w7 ⟨rfl, b7⟩; have B7 := Lib.hid (B8.out.trans (b7.mono B8.out.size)); clear b7)
        go_ret
        exact ⟨rfl, FIN.out _ B7.out⟩
end Go.Proofs.Ytbgoogjhgeoapaa
