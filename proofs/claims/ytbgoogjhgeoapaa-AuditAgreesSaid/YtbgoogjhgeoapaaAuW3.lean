/- Walks: ledger.Valid. Printed by wip/gen_auw3.py. -/
import Derived.Test.YtbgoogjhgeoapaaAuM
set_option linter.unusedVariables false
set_option linter.unusedSimpArgs false
set_option linter.unusedSectionVars false
namespace Go.Proofs.Ytbgoogjhgeoapaa
open Go.RowKit
variable [Base]

theorem lbetween_eq {n a b : Int} {r : Bool} (h : btwB n a b = r) (w : World) : Calls Try.prog 34 #[iv n, iv a, iv b] w fun e w' => e = .returned (.bool r) ∧ w' = w := h ▸ lbetween_any n a b w
theorem vgo_drop {l : List TV} {x : TV} {i : Nat} (h : l[i]? = some x) (f : Int → Bool) : vgo f (l.drop i) = (turnB x && (!f x.q && vgo (fun k => if k = x.q then x.fin else f k) (l.drop (i + 1)))) := by
  obtain ⟨h1, rfl⟩ := List.getElem?_eq_some_iff.1 h
  rw [List.drop_eq_getElem_cons h1]
  rfl
theorem vgo_end {l : List TV} {i : Nat} (h : l.length ≤ i) (f : Int → Bool) : vgo f (l.drop i) = true := by
  rw [List.drop_eq_nil_of_le h]; rfl
theorem MapB.look {w : World} {b n : Nat} {f : Int → Bool} (h : MapB w b n f) {k : Int} (wk : Wf k) : (Instr.lookup 72 (.map (some b)) (.int .i64 k) false).run Try.prog w = .ok (.bool (f k)) w := by
  obtain ⟨th, h⟩ := h
  exact h.look und_int und_mb (zeroB w) wk
theorem MapB.block {w w' : World} {b n : Nat} {f : Int → Bool} (h : MapB w b n f) (hb : w'.heap[b]? = w.heap[b]?) : MapB w' b n f := by
  obtain ⟨th, h⟩ := h
  exact ⟨th, h.block hb⟩
theorem MapB.lt {w : World} {b n : Nat} {f : Int → Bool} (h : MapB w b n f) : b < w.heap.size := by
  obtain ⟨th, h⟩ := h
  exact h.lt
theorem below_grown {B b : Nat} {a w w' : World} (h : Below B a w) (hg : w.grownBy w' (some b)) (hb : B ≤ b) (hw : B ≤ w.heap.size) : Below B a w' :=
  h.trans ⟨hg.os, hg.tape, hg.output, hg.size, fun k hk => hg.block k (by omega) (fun e => by cases e; omega)⟩
theorem turnB_eq (x : TV) : turnB x = (btwB x.q 0 1073741824 && (btwB x.qu 0 64 && (btwB x.st 0 1073741824 && btwB x.co x.st (min (8 * x.st) 1073741824)))) := rfl
set_option maxRecDepth 100000 in
set_option maxHeartbeats 2000000 in
theorem lvalid_any (l : List TV) (v : Value) (w : World) (h : TurnsAt w v l) : Calls Try.prog 21 #[v] w (BoolQ (logB l) w) := by
  obtain ⟨a, c, rfl, hn, -, -, hc⟩ := h.cell
  have HC := Lib.hid hc
  obtain ⟨n, hl⟩ : ∃ n, l.length = n := ⟨_, rfl⟩
  rw [hl] at hn ⊢
  have HL := Lib.hid hl
  clear hc h
  unfold maxLen at hn
  rcases (by omega : 4096 < n ∨ n ≤ 4096) with hbig | hsmall
  · have HR := Lib.hid (show logB l = false by unfold logB; rw [hl]; simp; intro h; omega)
    clear hl
    go_enter Try.func21, Try.ntmps21
    go_wp2
    go_ret
    exact ⟨ret_boolQ HR.out.symm, Below.refl _ _⟩
  have HR := Lib.hid (show logB l = vgo (fun _ => false) l by unfold logB; rw [hl]; simp [hsmall])
  clear hl
  have hmm := @run_makeMap Try.prog
  have hud : ∀ b : Bool, (undef = Value.bool b) = False := fun b => by simp [undef]
  go_enter Try.func21, Try.ntmps21
  go_wp2
  go_loopw [12] (fun y wr => ∃ (i : Nat) (f : Int → Bool), i ≤ n ∧ y = .int .i64 i ∧ Hid (Below w.heap.size w wr) ∧ Hid (MapB wr w.heap.size i f) ∧ Hid (logB l = vgo f (l.drop i))) (fun y _ => n - (intOf y).toNat)
  case atStart => exact ⟨0, _, Nat.zero_le _, rfl, (Below.refl _ _).alloc (Nat.le_refl _) _, ⟨_, MapF.made boolEnc w⟩, HR.out⟩
  case round =>
    obtain ⟨i, f, hi, rfl, HB, HM, HF⟩ := hrel
    clear hmm
    by_cases hlt : i < n
    rotate_left
    · have FE := Lib.hid (HF.out.trans (vgo_end (by have := HL.out; omega) f))
      go_wp2
      go_ret
      exact ⟨ret_boolQ FE.out.symm, HB.out⟩
    obtain ⟨x, hx⟩ : ∃ x, l[i]? = some x := ⟨_, List.getElem?_eq_getElem (show i < l.length by have := HL.out; omega)⟩
    obtain ⟨rb, off, rfl, hrb, hcs⟩ := HC.out i x hx
    have g0 := (HB.out.cell (p := ⟨rb, off + i * 5 + 0, none⟩) hrb).trans (hcs 0 (by omega))
    have g1 := (HB.out.cell (p := ⟨rb, off + i * 5 + 1, none⟩) hrb).trans (hcs 1 (by omega))
    have g2 := (HB.out.cell (p := ⟨rb, off + i * 5 + 2, none⟩) hrb).trans (hcs 2 (by omega))
    have g3 := (HB.out.cell (p := ⟨rb, off + i * 5 + 3, none⟩) hrb).trans (hcs 3 (by omega))
    have g4 := (HB.out.cell (p := ⟨rb, off + i * 5 + 4, none⟩) hrb).trans (hcs 4 (by omega))
    simp only [turnC, List.getElem?_cons_zero, List.getElem?_cons_succ, Nat.add_zero] at g0 g1 g2 g3 g4
    obtain ⟨W, hW⟩ : ∃ W, wr.alloc (.cells #[iv x.q, iv x.qu, iv x.st, iv x.co, .bool x.fin] 53) = W := ⟨_, rfl⟩
    have HB0 : W.heap[wr.heap.size]? = some (.cells #[iv x.q, iv x.qu, iv x.st, iv x.co, .bool x.fin] 53 (0, 0)) := by rw [← hW]; exact heap_alloc_new _ _
    obtain ⟨x0, x1, x2, x3, x4⟩ := cells5 HB0
    have BW := Lib.hid (show Below w.heap.size w W by rw [← hW]; exact HB.out.alloc HB.out.size _)
    have MW := Lib.hid (show MapB W w.heap.size i f by rw [← hW]; exact HM.out.block (Below.heap_alloc _ _ _ HM.out.lt))
    have HW := Lib.hid hW
    have FD := Lib.hid (HF.out.trans (vgo_drop hx f))
    have HI := Lib.hid hlt
    clear hcs hx HC hW HB0 HF
    rcases Bool.eq_false_or_eq_true (btwB x.q 0 1073741824) with b0 | b0
    rotate_left
    · have FE := Lib.hid (FD.out.trans (show _ = false by rw [turnB_eq, b0]; simp))
      go_wp2_with fail
      try rw [show wr.alloc (.cells #[iv x.q, iv x.qu, iv x.st, iv x.co, .bool x.fin] 53) = W from HW.out]
      go_wp2_with first | (go_at_call 34; with_reducible refine (lbetween_eq b0 _).mono ?_; rintro e w1 ⟨rfl, rfl⟩)
      go_ret
      exact ⟨ret_boolQ FE.out.symm, BW.out⟩
    rcases Bool.eq_false_or_eq_true (btwB x.qu 0 64) with b1 | b1
    rotate_left
    · have FE := Lib.hid (FD.out.trans (show _ = false by rw [turnB_eq, b0, b1]; simp))
      go_wp2_with fail
      try rw [show wr.alloc (.cells #[iv x.q, iv x.qu, iv x.st, iv x.co, .bool x.fin] 53) = W from HW.out]
      go_wp2_with first | (go_at_call 34; with_reducible refine (lbetween_eq b0 _).mono ?_; rintro e w1 ⟨rfl, rfl⟩) | (go_at_call 34; with_reducible refine (lbetween_eq b1 _).mono ?_; rintro e w1 ⟨rfl, rfl⟩)
      go_ret
      exact ⟨ret_boolQ FE.out.symm, BW.out⟩
    rcases Bool.eq_false_or_eq_true (btwB x.st 0 1073741824) with b2 | b2
    rotate_left
    · have FE := Lib.hid (FD.out.trans (show _ = false by rw [turnB_eq, b0, b1, b2]; simp))
      go_wp2_with fail
      try rw [show wr.alloc (.cells #[iv x.q, iv x.qu, iv x.st, iv x.co, .bool x.fin] 53) = W from HW.out]
      go_wp2_with first | (go_at_call 34; with_reducible refine (lbetween_eq b0 _).mono ?_; rintro e w1 ⟨rfl, rfl⟩) | (go_at_call 34; with_reducible refine (lbetween_eq b1 _).mono ?_; rintro e w1 ⟨rfl, rfl⟩) | (go_at_call 34; with_reducible refine (lbetween_eq b2 _).mono ?_; rintro e w1 ⟨rfl, rfl⟩)
      go_ret
      exact ⟨ret_boolQ FE.out.symm, BW.out⟩
    have hst : 0 ≤ x.st ∧ x.st ≤ 1073741824 := by unfold btwB at b2; simpa using b2
    have hq : 0 ≤ x.q ∧ x.q ≤ 1073741824 := by unfold btwB at b0; simpa using b0
    have hwr : wrap64 (8 * x.st) = 8 * x.st := IntWalk.wrap64_in _ (by omega)
    have wk : Wf x.q := wf_small (by omega)
    have WK := Lib.hid wk
    obtain ⟨th, mf⟩ := MW.out
    have MF := Lib.hid mf
    clear mf
    have hlk := MW.out.look wk
    clear wk hq
    have TB := Lib.hid (turnB_eq x)
    rcases (by omega : 8 * x.st ≤ 1073741824 ∨ 1073741824 < 8 * x.st) with hm | hm
    all_goals
      first
      | have hmin := Lib.hid (show min (8 * x.st) 1073741824 = 8 * x.st by omega)
      | have hmin := Lib.hid (show min (8 * x.st) 1073741824 = 1073741824 by omega)
      have TB2 := TB.out
      rw [hmin.out] at TB2
      have T2 := Lib.hid TB2
      clear TB2 TB
    · rcases Bool.eq_false_or_eq_true (btwB x.co x.st (8 * x.st)) with b3 | b3
      rotate_left
      · have FE := Lib.hid (FD.out.trans (show _ = false by rw [T2.out, b0, b1, b2, b3]; simp))
        go_wp2_with fail
        try rw [show wr.alloc (.cells #[iv x.q, iv x.qu, iv x.st, iv x.co, .bool x.fin] 53) = W from HW.out]
        go_wp2_with first | (go_at_call 34; with_reducible refine (lbetween_eq b0 _).mono ?_; rintro e w1 ⟨rfl, rfl⟩) | (go_at_call 34; with_reducible refine (lbetween_eq b1 _).mono ?_; rintro e w1 ⟨rfl, rfl⟩) | (go_at_call 34; with_reducible refine (lbetween_eq b2 _).mono ?_; rintro e w1 ⟨rfl, rfl⟩) | (go_at_call 34; with_reducible refine (lbetween_eq b3 _).mono ?_; rintro e w1 ⟨rfl, rfl⟩)
        go_ret
        exact ⟨ret_boolQ FE.out.symm, BW.out⟩
      rcases Bool.eq_false_or_eq_true (f x.q) with b4 | b4
      · have FE := Lib.hid (FD.out.trans (show _ = false by rw [T2.out, b0, b1, b2, b3, b4]; simp))
        rw [b4] at hlk
        go_wp2_with fail
        try rw [show wr.alloc (.cells #[iv x.q, iv x.qu, iv x.st, iv x.co, .bool x.fin] 53) = W from HW.out]
        go_wp2_with first | (go_at_call 34; with_reducible refine (lbetween_eq b0 _).mono ?_; rintro e w1 ⟨rfl, rfl⟩) | (go_at_call 34; with_reducible refine (lbetween_eq b1 _).mono ?_; rintro e w1 ⟨rfl, rfl⟩) | (go_at_call 34; with_reducible refine (lbetween_eq b2 _).mono ?_; rintro e w1 ⟨rfl, rfl⟩) | (go_at_call 34; with_reducible refine (lbetween_eq b3 _).mono ?_; rintro e w1 ⟨rfl, rfl⟩)
        go_ret
        exact ⟨ret_boolQ FE.out.symm, BW.out⟩
      have FE := Lib.hid (FD.out.trans (show _ = vgo (fun k => if k = x.q then x.fin else f k) (l.drop (i + 1)) by rw [T2.out, b0, b1, b2, b3, b4]; simp))
      rw [b4] at hlk
      go_wp2_with fail
      try rw [show wr.alloc (.cells #[iv x.q, iv x.qu, iv x.st, iv x.co, .bool x.fin] 53) = W from HW.out]
      go_wp2_with first | (go_at_call 34; with_reducible refine (lbetween_eq b0 _).mono ?_; rintro e w1 ⟨rfl, rfl⟩) | (go_at_call 34; with_reducible refine (lbetween_eq b1 _).mono ?_; rintro e w1 ⟨rfl, rfl⟩) | (go_at_call 34; with_reducible refine (lbetween_eq b2 _).mono ?_; rintro e w1 ⟨rfl, rfl⟩) | (go_at_call 34; with_reducible refine (lbetween_eq b3 _).mono ?_; rintro e w1 ⟨rfl, rfl⟩) | (at_mapUpdate; refine wpList_storeF boolEnc rfl _ _ _ _ rfl und_int und_mb rfl MF.out (by unfold maxLen; omega) rfl WK.out x.fin rfl ?_; intro w1 hm1 hg1; have HM1 := Lib.hid hm1; have HG1 := Lib.hid hg1; clear hm1 hg1)
      go_roundw
      case rel => exact ⟨i + 1, _, by omega, by go_num, below_grown BW.out HG1.out (Nat.le_refl _) BW.out.size, ⟨_, HM1.out⟩, FE.out⟩
      case measure => simp [intOf]; omega
    · rcases Bool.eq_false_or_eq_true (btwB x.co x.st (1073741824)) with b3 | b3
      rotate_left
      · have FE := Lib.hid (FD.out.trans (show _ = false by rw [T2.out, b0, b1, b2, b3]; simp))
        go_wp2_with fail
        try rw [show wr.alloc (.cells #[iv x.q, iv x.qu, iv x.st, iv x.co, .bool x.fin] 53) = W from HW.out]
        go_wp2_with first | (go_at_call 34; with_reducible refine (lbetween_eq b0 _).mono ?_; rintro e w1 ⟨rfl, rfl⟩) | (go_at_call 34; with_reducible refine (lbetween_eq b1 _).mono ?_; rintro e w1 ⟨rfl, rfl⟩) | (go_at_call 34; with_reducible refine (lbetween_eq b2 _).mono ?_; rintro e w1 ⟨rfl, rfl⟩) | (go_at_call 34; with_reducible refine (lbetween_eq b3 _).mono ?_; rintro e w1 ⟨rfl, rfl⟩)
        go_ret
        exact ⟨ret_boolQ FE.out.symm, BW.out⟩
      rcases Bool.eq_false_or_eq_true (f x.q) with b4 | b4
      · have FE := Lib.hid (FD.out.trans (show _ = false by rw [T2.out, b0, b1, b2, b3, b4]; simp))
        rw [b4] at hlk
        go_wp2_with fail
        try rw [show wr.alloc (.cells #[iv x.q, iv x.qu, iv x.st, iv x.co, .bool x.fin] 53) = W from HW.out]
        go_wp2_with first | (go_at_call 34; with_reducible refine (lbetween_eq b0 _).mono ?_; rintro e w1 ⟨rfl, rfl⟩) | (go_at_call 34; with_reducible refine (lbetween_eq b1 _).mono ?_; rintro e w1 ⟨rfl, rfl⟩) | (go_at_call 34; with_reducible refine (lbetween_eq b2 _).mono ?_; rintro e w1 ⟨rfl, rfl⟩) | (go_at_call 34; with_reducible refine (lbetween_eq b3 _).mono ?_; rintro e w1 ⟨rfl, rfl⟩)
        go_ret
        exact ⟨ret_boolQ FE.out.symm, BW.out⟩
      have FE := Lib.hid (FD.out.trans (show _ = vgo (fun k => if k = x.q then x.fin else f k) (l.drop (i + 1)) by rw [T2.out, b0, b1, b2, b3, b4]; simp))
      rw [b4] at hlk
      go_wp2_with fail
      try rw [show wr.alloc (.cells #[iv x.q, iv x.qu, iv x.st, iv x.co, .bool x.fin] 53) = W from HW.out]
      go_wp2_with first | (go_at_call 34; with_reducible refine (lbetween_eq b0 _).mono ?_; rintro e w1 ⟨rfl, rfl⟩) | (go_at_call 34; with_reducible refine (lbetween_eq b1 _).mono ?_; rintro e w1 ⟨rfl, rfl⟩) | (go_at_call 34; with_reducible refine (lbetween_eq b2 _).mono ?_; rintro e w1 ⟨rfl, rfl⟩) | (go_at_call 34; with_reducible refine (lbetween_eq b3 _).mono ?_; rintro e w1 ⟨rfl, rfl⟩) | (at_mapUpdate; refine wpList_storeF boolEnc rfl _ _ _ _ rfl und_int und_mb rfl MF.out (by unfold maxLen; omega) rfl WK.out x.fin rfl ?_; intro w1 hm1 hg1; have HM1 := Lib.hid hm1; have HG1 := Lib.hid hg1; clear hm1 hg1)
      go_roundw
      case rel => exact ⟨i + 1, _, by omega, by go_num, below_grown BW.out HG1.out (Nat.le_refl _) BW.out.size, ⟨_, HM1.out⟩, FE.out⟩
      case measure => simp [intOf]; omega
end Go.Proofs.Ytbgoogjhgeoapaa
