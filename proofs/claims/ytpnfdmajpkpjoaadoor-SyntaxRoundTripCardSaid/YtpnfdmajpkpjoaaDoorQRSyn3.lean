/- The reference's parser: word, end, name. Printed by wip/gen_rsyn3.py. -/
import Derived.Test.YtpnfdmajpkpjoaaDoorQRSyn2
import Derived.Test.YtpnfdmajpkpjoaaDoorQSyn6
set_option linter.unusedVariables false
set_option linter.unusedSimpArgs false
namespace Go.Proofs.YtpnfdmajpkpjoaaDoor.R
open Go.RowKit

theorem in_lt {T : List Tok} {s : PS} (h : (s.next T).kind ≠ 0) : s.at_ + 1 ≤ T.length := by
  obtain ⟨_, t, ht, _⟩ := next_in h
  exact (List.getElem?_eq_some_iff.1 ht).1
theorem isK_kind {T : List Tok} {k : Int} {s : PS} (hk : k ≠ 0) (h : isK T k s = true) : (s.next T).kind ≠ 0 := by
  unfold isK at h
  rw [beq_iff_eq] at h
  rw [h]; exact hk
theorem isN_kind {T : List Tok} {s : PS} (h : isN T s = true) : (s.next T).kind ≠ 0 := by
  unfold isN at h
  simp only [Bool.and_eq_true, beq_iff_eq] at h
  omega

theorem word_any {B bp : Nat} {T : List Tok} {s : PS} {w : World} (h : PSt B bp T s w) (hT : T.length ≤ 1000000) (x : Str) :
    Calls Tryd.prog 62 #[.pointer (some ⟨bp, 0, none⟩), sv x] w (SP B bp T (takeM (isW T x s) s) (.tuple #[]) w) := by
  have H := Lib.hid h
  cases hb : isW T x s
  · have HB := Lib.hid hb
    have e1 : takeM false s = s.fail 4 := rfl
    rw [e1]
    clear h hb e1
    go_enter Tryd.func62, Tryd.ntmps62
    go_wp2_with fail
    refine (is_any H.out x).mono ?_
    rintro e w1 ⟨rfl, h1, b1⟩
    rw [HB.out]
    have H1 := Lib.hid h1
    have B1 := Lib.hid b1
    clear h1 b1
    go_wp2_with fail
    refine (fail_any H1.out 4 (by decide)).mono ?_
    rintro e w2 ⟨rfl, h2, b2⟩
    have H2 := Lib.hid h2
    have B2 := Lib.hid (B1.out.trans b2)
    clear h2 b2
    go_wp2
    go_end0
    exact ⟨rfl, H2.out, B2.out⟩
  · have HB := Lib.hid hb
    have hle := Lib.hid (in_lt (isW_kind hb))
    have e1 : takeM true s = ⟨s.at_ + 1, s.err⟩ := rfl
    rw [e1]
    have hat := h.le
    clear h hb e1
    go_enter Tryd.func62, Tryd.ntmps62
    go_wp2_with fail
    refine (is_any H.out x).mono ?_
    rintro e w1 ⟨rfl, h1, b1⟩
    rw [HB.out]
    have hlt := h1.lt
    have H1 := Lib.hid h1
    have B1 := Lib.hid b1
    obtain ⟨a, c, hb, hTk⟩ := h1.blk
    have c1 := (blk_cells hb).1 1
    have f1 := (blk_cells hb).2 1
    simp only [List.getElem?_toArray, List.getElem?_cons_succ, List.getElem?_cons_zero] at c1
    clear h1 b1 hb hTk
    go_wp2
    have H3 := Lib.hid (H1.out.setAt (s.at_ + 1) hle.out)
    have B3 := Lib.hid (B1.out.setCell ⟨bp, 1, none⟩ (.inl rfl) (.int .i64 ((s.at_ + 1 : Nat) : Int)))
    go_end0
    exact ⟨rfl, H3.out, B3.out⟩

theorem end_any {B bp : Nat} {T : List Tok} {s : PS} {w : World} (h : PSt B bp T s w) (hT : T.length ≤ 1000000)  :
    Calls Tryd.prog 64 #[.pointer (some ⟨bp, 0, none⟩)] w (SP B bp T (endM T s) (.tuple #[]) w) := by
  have H := Lib.hid h
  unfold endM
  cases hb : isK T 3 s
  · have HB := Lib.hid hb
    have e1 : takeM false s = s.fail 4 := rfl
    rw [e1]
    clear h hb e1
    go_enter Tryd.func64, Tryd.ntmps64
    go_wp2_with fail
    refine (isKind_any H.out 3 (by decide)).mono ?_
    rintro e w1 ⟨rfl, h1, b1⟩
    rw [HB.out]
    have H1 := Lib.hid h1
    have B1 := Lib.hid b1
    clear h1 b1
    go_wp2_with fail
    refine (fail_any H1.out 4 (by decide)).mono ?_
    rintro e w2 ⟨rfl, h2, b2⟩
    have H2 := Lib.hid h2
    have B2 := Lib.hid (B1.out.trans b2)
    clear h2 b2
    go_wp2
    go_end0
    exact ⟨rfl, H2.out, B2.out⟩
  · have HB := Lib.hid hb
    have hle := Lib.hid (in_lt (isK_kind (by decide) hb))
    have e1 : takeM true s = ⟨s.at_ + 1, s.err⟩ := rfl
    rw [e1]
    have hat := h.le
    clear h hb e1
    go_enter Tryd.func64, Tryd.ntmps64
    go_wp2_with fail
    refine (isKind_any H.out 3 (by decide)).mono ?_
    rintro e w1 ⟨rfl, h1, b1⟩
    rw [HB.out]
    have hlt := h1.lt
    have H1 := Lib.hid h1
    have B1 := Lib.hid b1
    obtain ⟨a, c, hb, hTk⟩ := h1.blk
    have c1 := (blk_cells hb).1 1
    have f1 := (blk_cells hb).2 1
    simp only [List.getElem?_toArray, List.getElem?_cons_succ, List.getElem?_cons_zero] at c1
    clear h1 b1 hb hTk
    go_wp2
    have H3 := Lib.hid (H1.out.setAt (s.at_ + 1) hle.out)
    have B3 := Lib.hid (B1.out.setCell ⟨bp, 1, none⟩ (.inl rfl) (.int .i64 ((s.at_ + 1 : Nat) : Int)))
    go_end0
    exact ⟨rfl, H3.out, B3.out⟩

theorem name_any {B bp : Nat} {T : List Tok} {s : PS} {w : World} (h : PSt B bp T s w) (hT : T.length ≤ 1000000) :
    Calls Tryd.prog 63 #[.pointer (some ⟨bp, 0, none⟩)] w (SP B bp T (nameM T s) (sv (nameV T s)) w) := by
  have H := Lib.hid h
  unfold nameM nameV
  cases hb : isN T s
  · have HB := Lib.hid hb
    have e1 : takeM false s = s.fail 4 := rfl
    have e2 : textM T false s = [] := rfl
    rw [e1, e2]
    clear h hb e1 e2
    go_enter Tryd.func63, Tryd.ntmps63
    go_wp2_with fail
    refine (isName_any H.out).mono ?_
    rintro e w1 ⟨rfl, h1, b1⟩
    rw [HB.out]
    have H1 := Lib.hid h1
    have B1 := Lib.hid b1
    clear h1 b1
    go_wp2_with fail
    refine (fail_any H1.out 4 (by decide)).mono ?_
    rintro e w2 ⟨rfl, h2, b2⟩
    have H2 := Lib.hid h2
    have B2 := Lib.hid (B1.out.trans b2)
    clear h2 b2
    go_wp2
    go_ret
    exact ⟨rfl, H2.out, B2.out⟩
  · have HB := Lib.hid hb
    have hle := Lib.hid (in_lt (isN_kind hb))
    obtain ⟨_, t, ht, en⟩ := next_in (isN_kind hb)
    have e1 : takeM true s = ⟨s.at_ + 1, s.err⟩ := rfl
    have e2 : textM T true s = (s.next T).text := rfl
    rw [e1, e2, en]
    have hat := h.le
    have HTT := Lib.hid ht
    clear h hb e1 e2 en ht
    go_enter Tryd.func63, Tryd.ntmps63
    go_wp2_with fail
    refine (isName_any H.out).mono ?_
    rintro e w1 ⟨rfl, h1, b1⟩
    rw [HB.out]
    have hlt := h1.lt
    have H1 := Lib.hid h1
    have B1 := Lib.hid b1
    obtain ⟨a, c, hb, hTk⟩ := h1.blk
    have c1 := (blk_cells hb).1 1
    have f1 := (blk_cells hb).2 1
    simp only [List.getElem?_toArray, List.getElem?_cons_succ, List.getElem?_cons_zero] at c1
    obtain ⟨a', c', e1, hml, _, _, hcell⟩ := TokensAt.form hTk
    injection e1 with e1 e2 e3
    subst e1 e3
    obtain ⟨tb, off, rfl, htb, hty, h4⟩ := hcell s.at_ t HTT.out
    obtain ⟨k, y, l, cc⟩ := t
    have hneb : tb ≠ bp := by intro e; rw [e, tyAt_of hb] at hty; exact absurd hty (by decide)
    have t1 : w1.cell? ⟨tb, off + s.at_ * 4 + 1, none⟩ = some (sv y) := h4 1 (by omega)
    have c0 := (blk_cells hb).1 0
    simp only [List.getElem?_toArray, List.getElem?_cons_succ, List.getElem?_cons_zero] at c0
    have hin := hle.out
    have hwr : IntKind.i64.wrap ((s.at_ : Int) + 1 - 1) = (s.at_ : Int) := by rw [IntKind.wrap_i64]; omega
    obtain ⟨n, hn⟩ : ∃ n, T.length = n := ⟨_, rfl⟩
    rw [hn] at c0 hin hml
    have hin2 : (s.at_ : Int) < (n : Int) := by omega
    have hb1 : (bp == tb) = false := by rw [beq_eq_false_iff_ne]; exact Ne.symm hneb
    clear h1 b1 hb hTk hcell h4 hn e2 hty
    have hneb2 : ¬ bp = tb := fun e => hneb e.symm
    go_wp2
    have H3 := Lib.hid (H1.out.setAt (s.at_ + 1) hle.out)
    have B3 := Lib.hid (B1.out.setCell ⟨bp, 1, none⟩ (.inl rfl) (.int .i64 ((s.at_ + 1 : Nat) : Int)))
    go_quiet (fail)
    go_wp2
    go_ret
    exact ⟨rfl, H3.out.drewN _, B3.out.drewN _⟩
end Go.Proofs.YtpnfdmajpkpjoaaDoor.R

