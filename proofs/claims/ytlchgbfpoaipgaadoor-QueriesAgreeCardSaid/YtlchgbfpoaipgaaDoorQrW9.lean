/- Walks: queries.Forget. Printed by wip/gen_qrw9.py. -/
import Derived.Test.YtlchgbfpoaipgaaDoorQrW8
set_option linter.unusedVariables false
set_option linter.unusedSimpArgs false
set_option linter.unusedSectionVars false
namespace Go.Proofs.YtlchgbfpoaipgaaDoor
open Go.RowKit
variable [Base]

theorem RecsAt.erased {w : World} {a : Option Addr} {n c i : Nat} {xss : List (List Value)} {l : List QRec} (hs : SliceAt w 31 8 (.slice a n c) (xss.flatten.take (i * 8) ++ xss.flatten.drop ((i + 1) * 8))) (ha : All2 (RecCells w) xss l) (hi : i < l.length) : RecsAt w (.slice a n c) (l.eraseIdx i) := by
  rw [flatten_erase 8 xss i (rows_len ha) (by rw [ha.length]; exact hi)] at hs
  exact ⟨_, hs, ha.erase i⟩
theorem oc_take {xs : List Value} (h : xs.all Value.oneCell' = true) (k : Nat) : (xs.take k).all Value.oneCell' = true := by
  rw [List.all_eq_true] at h ⊢
  exact fun x hx => h x (List.mem_of_mem_take hx)
theorem oc_drop {xs : List Value} (h : xs.all Value.oneCell' = true) (k : Nat) : (xs.drop k).all Value.oneCell' = true := by
  rw [List.all_eq_true] at h ⊢
  exact fun x hx => h x (List.mem_of_mem_drop hx)
set_option maxHeartbeats 2000000 in
theorem forget_any {B : Nat} (l : List QRec) (x : Str) (v : Value) (w : World) (KW : KwIn B w) (hB : B ≤ w.heap.size) (h : RecsAt w v l) :
    Calls Tryd.prog 28 #[v, qs x] w (TabQ (forgetQ l x) w) := by
  obtain ⟨a, c, rfl, hn, hcn, hcm, hc⟩ := h.cell
  have HC := Lib.hid hc
  have HK := Lib.hid KW
  obtain ⟨n, hl⟩ : ∃ n, l.length = n := ⟨_, rfl⟩
  rw [hl] at hn h hcn ⊢
  have HL := Lib.hid hl
  have HR := Lib.hid h
  unfold maxLen at hn hcm
  clear hc h hl KW
  rcases Bool.eq_false_or_eq_true (tabB l) with ht | ht
  rotate_left
  · have hr : forgetQ l x = ([], 1) := by unfold forgetQ; simp [ht]
    rw [hr]
    clear hr
    go_enter Tryd.func28, Tryd.ntmps28
    go_wp2_with first | (go_at_call 22; refine (tvalid_eq (B := B) ht _ _ HK.out hB HR.out).mono ?_; rintro e w1 ⟨rfl, b1⟩; have B1 := Lib.hid b1; clear b1)
    go_ret2
    exact ⟨_, rfl, RecsAt.nil, B1.out⟩
  by_cases h0 : findQ l x < 0
  · have hr : forgetQ l x = ([], 8) := by unfold forgetQ; simp [ht, h0]
    rw [hr]
    clear hr
    obtain ⟨m, hf⟩ : ∃ m, findQ l x = m := ⟨_, rfl⟩
    rw [hf] at h0
    go_enter Tryd.func28, Tryd.ntmps28
    go_wp2_with first | (go_at_call 22; refine (tvalid_eq (B := B) ht _ _ HK.out hB HR.out).mono ?_; rintro e w1 ⟨rfl, b1⟩; have B1 := Lib.hid b1; clear b1) | (go_at_call 25; refine (find_eq hf _ _ (HR.out.below B1.out)).mono ?_; rintro e w3 ⟨rfl, b3⟩; have B3 := Lib.hid (B1.out.trans (b3.mono B1.out.size)); clear b3)
    go_ret2
    exact ⟨_, rfl, RecsAt.nil, B3.out⟩
  obtain ⟨i, r, hf, hri, -⟩ := findQ_some h0
  obtain ⟨rb, off, ru, rfl, hrb, -, hcs⟩ := HC.out i r hri
  have hin : i < n := by have := (List.getElem?_eq_some_iff.1 hri).1; have := HL.out; omega
  have G5 := Lib.hid (hcs 5 (by omega))
  simp only [List.getElem?_cons_zero, List.getElem?_cons_succ] at G5
  have h64 : n ≤ 64 := by have := tabB_len ht; have := HL.out; omega
  by_cases hst : r.status = 1
  · have hr : forgetQ l x = ([], 11) := by unfold forgetQ; simp [ht, hf, hri, hst]
    have hsb : (r.status == 1) = true := by simpa using hst
    rw [hr]
    clear hr hcs hri h0 HC hst
    go_enter Tryd.func28, Tryd.ntmps28
    go_wp2_with first | (go_at_call 22; refine (tvalid_eq (B := B) ht _ _ HK.out hB HR.out).mono ?_; rintro e w1 ⟨rfl, b1⟩; have B1 := Lib.hid b1; clear b1) | (go_at_call 25; refine (find_eq hf _ _ (HR.out.below B1.out)).mono ?_; rintro e w3 ⟨rfl, b3⟩; have B3 := Lib.hid (B1.out.trans (b3.mono B1.out.size)); have g5 := (B3.out.cell (p := ⟨rb, off + i * 8 + 5, none⟩) hrb).trans G5.out; clear b3)
    go_ret2
    exact ⟨_, rfl, RecsAt.nil, B3.out⟩
  have hr : forgetQ l x = (l.eraseIdx i, 0) := by unfold forgetQ; simp [ht, hf, hri, hst]
  have hsb : (r.status == 1) = false := by simpa using hst
  rw [hr]
  obtain ⟨xss, sa, al, ln, oc⟩ := RecsAt.rows HR.out
  rw [HL.out] at ln
  have SA := Lib.hid sa
  have AL := Lib.hid al
  have LN := Lib.hid ln
  have OC := Lib.hid oc
  have e1 : IntKind.i64.wrap ((i : Int) + 1) = (i : Int) + 1 := IntWalk.i64_in _ (by omega)
  have e2 : 0 ≤ (i : Int) + 1 := by omega
  have e3 : ((i : Int) + 1).toNat = i + 1 := by omega
  clear hr hcs hri h0 HC hst sa al ln oc
  by_cases hcap : c = i + 1
  · subst hcap
    obtain rfl : n = i + 1 := by omega
    have SF := Lib.hid (SA.out.front i (by omega))
    have SB := Lib.hid (show SliceAt w 31 8 (.slice (some ⟨rb, off, none⟩) 0 0) (xss.flatten.drop ((i + 1) * 8)) by have := SA.out.backEnd (o := off) (i + 1) rfl; simpa using this)
    have LF := Lib.hid (show (xss.flatten.take (i * 8)).length = i * 8 by rw [List.length_take, LN.out]; omega)
    have LB := Lib.hid (show (xss.flatten.drop ((i + 1) * 8)).length = 0 * 8 by rw [List.length_drop, LN.out]; omega)
    go_enter Tryd.func28, Tryd.ntmps28
    go_wp2_with first | (go_at_call 22; refine (tvalid_eq (B := B) ht _ _ HK.out hB HR.out).mono ?_; rintro e w1 ⟨rfl, b1⟩; have B1 := Lib.hid b1; clear b1) | (go_at_call 25; refine (find_eq hf _ _ (HR.out.below B1.out)).mono ?_; rintro e w3 ⟨rfl, b3⟩; have B3 := Lib.hid (B1.out.trans (b3.mono B1.out.size)); have g5 := (B3.out.cell (p := ⟨rb, off + i * 8 + 5, none⟩) hrb).trans G5.out; clear b3)
    go_region_with (go_at_call 45; refine (concat_rec w3.heap.size (w3.alloc (.cells #[.slice (some ⟨rb, off, none⟩) i (i + 1), .slice (some ⟨rb, off, none⟩) 0 0] 22)).drew (heap_alloc_new w3 _) ((SF.out.same (SameT.below B3.out)).same SameT.alloc) ((SB.out.same (SameT.below B3.out)).same SameT.alloc) LF.out LB.out (oc_take OC.out _) (oc_drop OC.out _) (by omega)).mono ?_; rintro e w4 ⟨g, d, rfl, own, b4⟩; have OW := Lib.hid own; have B4 := Lib.hid (show Below w.heap.size w w4 from (B3.out.alloc B3.out.size (.cells #[.slice (some ⟨rb, off, none⟩) i (i + 1), .slice (some ⟨rb, off, none⟩) 0 0] 22)).drew.trans (b4.mono (Nat.le_trans B3.out.size (Nat.le_of_lt (by simp))))); clear own b4)
    all_goals
      go_wp2
      go_ret2
      exact ⟨_, rfl, RecsAt.erased (SliceAt.of_owns OW.out) (AL.out.mono fun _ _ hx => RecCells.keep (SameT.below B4.out) hx) (by rw [HL.out]; exact hin), B4.out⟩
  · have SF := Lib.hid (SA.out.front i (by omega))
    have SB := Lib.hid (SA.out.back (i + 1) (by omega))
    have LF := Lib.hid (show (xss.flatten.take (i * 8)).length = i * 8 by rw [List.length_take, LN.out]; omega)
    have LB := Lib.hid (show (xss.flatten.drop ((i + 1) * 8)).length = (n - (i + 1)) * 8 by rw [List.length_drop, LN.out]; omega)
    go_enter Tryd.func28, Tryd.ntmps28
    go_wp2_with first | (go_at_call 22; refine (tvalid_eq (B := B) ht _ _ HK.out hB HR.out).mono ?_; rintro e w1 ⟨rfl, b1⟩; have B1 := Lib.hid b1; clear b1) | (go_at_call 25; refine (find_eq hf _ _ (HR.out.below B1.out)).mono ?_; rintro e w3 ⟨rfl, b3⟩; have B3 := Lib.hid (B1.out.trans (b3.mono B1.out.size)); have g5 := (B3.out.cell (p := ⟨rb, off + i * 8 + 5, none⟩) hrb).trans G5.out; clear b3)
    go_region_with (go_at_call 45; refine (concat_rec w3.heap.size (w3.alloc (.cells #[.slice (some ⟨rb, off, none⟩) i c, .slice (some ⟨rb, off + (i + 1) * 8, none⟩) (n - (i + 1)) (c - (i + 1))] 22)).drew (heap_alloc_new w3 _) ((SF.out.same (SameT.below B3.out)).same SameT.alloc) ((SB.out.same (SameT.below B3.out)).same SameT.alloc) LF.out LB.out (oc_take OC.out _) (oc_drop OC.out _) (by omega)).mono ?_; rintro e w4 ⟨g, d, rfl, own, b4⟩; have OW := Lib.hid own; have B4 := Lib.hid (show Below w.heap.size w w4 from (B3.out.alloc B3.out.size (.cells #[.slice (some ⟨rb, off, none⟩) i c, .slice (some ⟨rb, off + (i + 1) * 8, none⟩) (n - (i + 1)) (c - (i + 1))] 22)).drew.trans (b4.mono (Nat.le_trans B3.out.size (Nat.le_of_lt (by simp))))); clear own b4)
    all_goals
      go_wp2
      go_ret2
      exact ⟨_, rfl, RecsAt.erased (SliceAt.of_owns OW.out) (AL.out.mono fun _ _ hx => RecCells.keep (SameT.below B4.out) hx) (by rw [HL.out]; exact hin), B4.out⟩
end Go.Proofs.YtlchgbfpoaipgaaDoor
