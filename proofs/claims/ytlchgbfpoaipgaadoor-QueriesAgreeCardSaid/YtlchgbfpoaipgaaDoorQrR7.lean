/- Walks: the reference's Forget. Printed by wip/gen_qrr6.py. -/
import Derived.Test.YtlchgbfpoaipgaaDoorQrR6
import Derived.Test.YtlchgbfpoaipgaaDoorQrW9
import Derived.Deep.RegionLaw
set_option linter.unusedVariables false
set_option linter.unusedSimpArgs false
set_option linter.unusedSectionVars false
namespace Go.Proofs.YtlchgbfpoaipgaaDoor
open Go.RowKit
variable [Base]

set_option maxHeartbeats 2000000 in
theorem rforget_any (l : List QRec) (x : Str) (v : Value) (w : World) (h : RecsAt w v l) :
    Calls Tryd.prog 31 #[v, qs x] w (TabQ (forgetQ l x) w) := by
  obtain ⟨a, c, rfl, hn, hcn, hcm, hc⟩ := h.cell
  have HC := Lib.hid hc
  obtain ⟨n, hl⟩ : ∃ n, l.length = n := ⟨_, rfl⟩
  rw [hl] at hn h hcn ⊢
  have HL := Lib.hid hl
  have HR := Lib.hid h
  unfold maxLen at hn hcm
  clear hc h hl
  rcases Bool.eq_false_or_eq_true (tabB l) with ht | ht
  rotate_left
  · have hr : forgetQ l x = ([], 1) := by unfold forgetQ; simp [ht]
    rw [hr]
    clear hr
    obtain ⟨m, hf⟩ : ∃ m, findQ l x = m := ⟨_, rfl⟩
    go_enter Tryd.func31, Tryd.ntmps31
    go_wp2_with first | (go_at_call 36; refine (rfind_eq hf _ _ HR.out).mono ?_; rintro e w3 ⟨rfl, rfl⟩) | (go_at_call 35; refine (rtvalid_eq ht _ _ HR.out).mono ?_; rintro e w1 ⟨rfl, b1⟩; have B1 := Lib.hid b1; clear b1)
    go_ret2
    exact ⟨_, rfl, RecsAt.nil, B1.out⟩
  by_cases h0 : findQ l x < 0
  · have hr : forgetQ l x = ([], 8) := by unfold forgetQ; simp [ht, h0]
    rw [hr]
    clear hr
    obtain ⟨m, hf⟩ : ∃ m, findQ l x = m := ⟨_, rfl⟩
    rw [hf] at h0
    go_enter Tryd.func31, Tryd.ntmps31
    go_wp2_with first | (go_at_call 36; refine (rfind_eq hf _ _ HR.out).mono ?_; rintro e w3 ⟨rfl, rfl⟩) | (go_at_call 35; refine (rtvalid_eq ht _ _ HR.out).mono ?_; rintro e w1 ⟨rfl, b1⟩; have B1 := Lib.hid b1; clear b1)
    go_ret2
    exact ⟨_, rfl, RecsAt.nil, B1.out⟩
  obtain ⟨i, r, hf, hri, -⟩ := findQ_some h0
  obtain ⟨rb, off, ru, rfl, hrb, -, hcs⟩ := HC.out i r hri
  have hin : i < n := by have := (List.getElem?_eq_some_iff.1 hri).1; have := HL.out; omega
  have G5 := Lib.hid (hcs 5 (by omega))
  simp only [List.getElem?_cons_zero, List.getElem?_cons_succ] at G5
  have h64 : n ≤ 64 := by have := tabB_len ht; have := HL.out; omega
  by_cases hst : r.status = 1
  · have hr : forgetQ l x = ([], 11) := by unfold forgetQ; simp [ht, hf, hri, hst]
    have hsb : (r.status == 1) = true := by simpa using hst
    rw [hr]
    clear hr hcs hri h0 HC hst
    go_enter Tryd.func31, Tryd.ntmps31
    go_wp2_with first | (go_at_call 36; refine (rfind_eq hf _ _ HR.out).mono ?_; rintro e w3 ⟨rfl, rfl⟩) | (go_at_call 35; refine (rtvalid_eq ht _ _ HR.out).mono ?_; rintro e w1 ⟨rfl, b1⟩; have B1 := Lib.hid b1; have g5 := (b1.cell (p := ⟨rb, off + i * 8 + 5, none⟩) hrb).trans G5.out; clear b1)
    go_ret2
    exact ⟨_, rfl, RecsAt.nil, B1.out⟩
  have hr : forgetQ l x = (l.eraseIdx i, 0) := by unfold forgetQ; simp [ht, hf, hri, hst]
  have hsb : (r.status == 1) = false := by simpa using hst
  rw [hr]
  obtain ⟨xss, sa, al, ln, oc⟩ := RecsAt.rows HR.out
  rw [HL.out] at ln
  have SA := Lib.hid sa
  have AL := Lib.hid al
  have LN := Lib.hid ln
  have OC := Lib.hid oc
  have e1 : IntKind.i64.wrap ((i : Int) + 1) = (i : Int) + 1 := IntWalk.i64_in _ (by omega)
  have e2 : 0 ≤ (i : Int) + 1 := by omega
  have e3 : ((i : Int) + 1).toNat = i + 1 := by omega
  have e4 : (i : Int) ≤ (i : Int) + 1 := by omega
  have e5 : (i : Int) ≤ (c : Int) := by omega
  have e6 : (i : Int) + 1 ≤ (n : Int) := by omega
  have e7 : (n : Int) ≤ (c : Int) := by omega
  have e8 : (i : Int) ≤ (n : Int) := by omega
  have e9 : (i : Int) + 1 ≤ (c : Int) := by omega
  clear hr hcs hri h0 HC hst sa al ln oc
  by_cases hcap : c = i + 1
  · subst hcap
    obtain rfl : n = i + 1 := by omega
    have SF := Lib.hid (SA.out.front i (by omega))
    have SB := Lib.hid (show SliceAt w 31 8 (.slice (some ⟨rb, off, none⟩) 0 0) (xss.flatten.drop ((i + 1) * 8)) by have := SA.out.backEnd (o := off) (i + 1) rfl; simpa using this)
    have LF := Lib.hid (show (xss.flatten.take (i * 8)).length = i * 8 by rw [List.length_take, LN.out]; omega)
    have LB := Lib.hid (show (xss.flatten.drop ((i + 1) * 8)).length = 0 * 8 by rw [List.length_drop, LN.out]; omega)
    go_enter Tryd.func31, Tryd.ntmps31
    go_wp2_with first | (go_at_call 36; refine (rfind_eq hf _ _ HR.out).mono ?_; rintro e w3 ⟨rfl, rfl⟩) | (go_at_call 35; refine (rtvalid_eq ht _ _ HR.out).mono ?_; rintro e w1 ⟨rfl, b1⟩; have B1 := Lib.hid b1; have g5 := (b1.cell (p := ⟨rb, off + i * 8 + 5, none⟩) hrb).trans G5.out; clear b1)
    go_region_law (first | (refine step_append_sl rfl (.tmp 24) (.tmp 27) 22 rfl w1.drew.heap.size 31 _ 8 88 Tryd.underlying22 info_rec rfl (by decide) _ _ _ (empty_rec w1.drew) rfl _ i _ rfl (SliceAt.same (SF.out.same (SameT.below B1.out)) SameT.alloc) LF.out (oc_take OC.out _) (by unfold maxLen; omega) (by omega) (by simp) ?_; intro g1 d1 w5 own1 gr1; simp only [Nat.zero_add, List.nil_append] at own1; have OW1 := Lib.hid own1; have B5 := Lib.hid (((Below.refl w1.drew.heap.size w1.drew).alloc (Nat.le_refl _) (.cells #[] 31)).trans (Below.of_grown gr1 (empty_rec w1.drew) (by simp))); clear own1 gr1) | (refine step_append_sl rfl (.tmp 28) (.tmp 32) 22 rfl w1.drew.heap.size 31 _ 8 88 Tryd.underlying22 info_rec rfl (by decide) _ _ _ OW1.out rfl _ (0) _ rfl (SliceAt.same (w := w1.drew) (SB.out.same (SameT.below B1.out.drew)) (SameT.below B5.out)) LB.out (oc_drop OC.out _) (by unfold maxLen; omega) (by omega) B5.out.size ?_; intro g2 d2 w6 own2 gr2; have OW2 := Lib.hid own2; have B6 := Lib.hid (B5.out.trans (Below.of_grown gr2 OW1.out B5.out.size)); clear own2 gr2) | fail)
    all_goals
      go_wp2
      go_ret2
      exact ⟨_, rfl, RecsAt.erased (SliceAt.of_owns (by simpa using OW2.out)) (AL.out.mono fun _ _ hx => RecCells.keep (SameT.trans (SameT.below B1.out) (SameT.below (w := w1.drew) B6.out)) hx) (by rw [HL.out]; exact hin), B1.out.drew.trans (B6.out.mono B1.out.size)⟩
  · have SF := Lib.hid (SA.out.front i (by omega))
    have SB := Lib.hid (SA.out.back (i + 1) (by omega))
    have LF := Lib.hid (show (xss.flatten.take (i * 8)).length = i * 8 by rw [List.length_take, LN.out]; omega)
    have LB := Lib.hid (show (xss.flatten.drop ((i + 1) * 8)).length = (n - (i + 1)) * 8 by rw [List.length_drop, LN.out]; omega)
    go_enter Tryd.func31, Tryd.ntmps31
    go_wp2_with first | (go_at_call 36; refine (rfind_eq hf _ _ HR.out).mono ?_; rintro e w3 ⟨rfl, rfl⟩) | (go_at_call 35; refine (rtvalid_eq ht _ _ HR.out).mono ?_; rintro e w1 ⟨rfl, b1⟩; have B1 := Lib.hid b1; have g5 := (b1.cell (p := ⟨rb, off + i * 8 + 5, none⟩) hrb).trans G5.out; clear b1)
    go_region_law (first | (refine step_append_sl rfl (.tmp 24) (.tmp 27) 22 rfl w1.drew.heap.size 31 _ 8 88 Tryd.underlying22 info_rec rfl (by decide) _ _ _ (empty_rec w1.drew) rfl _ i _ rfl (SliceAt.same (SF.out.same (SameT.below B1.out)) SameT.alloc) LF.out (oc_take OC.out _) (by unfold maxLen; omega) (by omega) (by simp) ?_; intro g1 d1 w5 own1 gr1; simp only [Nat.zero_add, List.nil_append] at own1; have OW1 := Lib.hid own1; have B5 := Lib.hid (((Below.refl w1.drew.heap.size w1.drew).alloc (Nat.le_refl _) (.cells #[] 31)).trans (Below.of_grown gr1 (empty_rec w1.drew) (by simp))); clear own1 gr1) | (refine step_append_sl rfl (.tmp 28) (.tmp 32) 22 rfl w1.drew.heap.size 31 _ 8 88 Tryd.underlying22 info_rec rfl (by decide) _ _ _ OW1.out rfl _ (n - (i + 1)) _ rfl (SliceAt.same (w := w1.drew) (SB.out.same (SameT.below B1.out.drew)) (SameT.below B5.out)) LB.out (oc_drop OC.out _) (by unfold maxLen; omega) (by omega) B5.out.size ?_; intro g2 d2 w6 own2 gr2; have OW2 := Lib.hid own2; have B6 := Lib.hid (B5.out.trans (Below.of_grown gr2 OW1.out B5.out.size)); clear own2 gr2) | fail)
    all_goals
      go_wp2
      go_ret2
      exact ⟨_, rfl, RecsAt.erased (SliceAt.of_owns (by simpa using OW2.out)) (AL.out.mono fun _ _ hx => RecCells.keep (SameT.trans (SameT.below B1.out) (SameT.below (w := w1.drew) B6.out)) hx) (by rw [HL.out]; exact hin), B1.out.drew.trans (B6.out.mono B1.out.size)⟩
end Go.Proofs.YtlchgbfpoaipgaaDoor
