/- Walks: the reference's Text of sets. -/
import Derived.Test.YtmanmlankfoflaaDoorBsS2
import Derived.Test.YtmanmlankfoflaaDoorBsTx
set_option linter.unusedVariables false
set_option linter.unusedSimpArgs false
set_option linter.unusedSectionVars false
namespace Go.Proofs.YtmanmlankfoflaaDoor
open Go.RowKit
variable [Base]

theorem join_snoc (l : List Str) (x sep : Str) (h : l ≠ []) : Lib.join (l ++ [x]) sep = Lib.join l sep ++ sep ++ x := by
  cases l with
  | nil => exact absurd rfl h
  | cons y r =>
    rw [List.cons_append, Lib.join_cons, Lib.join_cons]
    unfold Lib.joinTail
    simp
theorem join_one (x sep : Str) : Lib.join [x] sep = x := by rw [Lib.join_cons]; unfold Lib.joinTail; simp
/-- The text of the first i members. -/
def textTo (s : QSet) (i : Nat) : Str := Lib.join (((memS s).take i).map dec10) [44]
theorem textTo_first {s : QSet} {x : Nat} (h : (memS s)[0]? = some x) : textTo s 1 = dec10 x := by
  unfold textTo
  rw [List.take_add_one, h]
  exact join_one _ _
theorem textTo_next {s : QSet} {i x : Nat} (h : (memS s)[i]? = some x) (hi : 0 < i) : textTo s (i + 1) = textTo s i ++ [44] ++ dec10 x := by
  unfold textTo
  rw [List.take_add_one, h, List.map_append]
  refine join_snoc _ _ _ fun e => ?_
  have hl := (List.getElem?_eq_some_iff.1 h).1
  have := congrArg List.length e
  simp at this
  rcases this with h | h
  · omega
  · rw [h] at hl; simp at hl
theorem textTo_len (s : QSet) (i : Nat) : (textTo s i).length ≤ 21 * i := by
  unfold textTo
  refine Nat.le_trans (join_len _ fun x hx => ?_) ?_
  · obtain ⟨y, hy, rfl⟩ := List.mem_map.1 hx
    exact decF_len 20 y
  · rw [List.length_map, List.length_take]; omega
set_option maxHeartbeats 2000000 in
theorem rtext_any (s : QSet) (u : Value) (w : World) (h : WordsAt w u s.words) : Calls Tryd.prog 38 #[setV s u] w (StrQ (textS s) w) := by
  have hud : ∀ b : Bool, (undef = Value.bool b) = False := fun b => by simp [undef]
  obtain ⟨a, n, c, rfl⟩ : ∃ a n c, u = .slice a n c := by obtain ⟨a, c, rfl, -⟩ := h.cell; exact ⟨_, _, _, rfl⟩
  obtain ⟨W, hW⟩ : ∃ W, w.alloc (.cells #[.int .i64 s.width, .slice a n c] 25) = W := ⟨_, rfl⟩
  have B0 : Below w.heap.size w W := by rw [← hW]; exact (Below.refl _ _).alloc (Nat.le_refl _) _
  have H0 := Lib.hid (show W.heap[w.heap.size]? = some (.cells #[.int .i64 s.width, .slice a n c] 25 (0, 0)) by rw [← hW]; exact heap_alloc_new _ _)
  have HW := Lib.hid hW
  have BB := Lib.hid B0
  have HR := Lib.hid (h.below B0)
  have HOK := Lib.hid h.2
  have x0 := (lies_cells H0.out).1 0
  have x1 := (lies_cells H0.out).1 1
  simp only [List.getElem?_toArray, List.getElem?_cons_zero, List.getElem?_cons_succ] at x0 x1
  clear hW B0 h
  rcases Bool.eq_false_or_eq_true (setB s) with hv | hv
  rotate_left
  · have HV := Lib.hid hv
    rw [textS_no hv]
    clear hv
    go_enter Tryd.func38, Tryd.ntmps38
    go_wp2_with fail
    rw [show w.alloc (.cells #[.int .i64 s.width, .slice a n c] 25) = W from HW.out]
    refine (rbvalid_to HV.out _ _ HR.out).mono ?_
    rintro e w1 ⟨rfl, b1⟩
    have B1 := Lib.hid (BB.out.trans (b1.mono BB.out.size))
    clear x0 x1 b1
    go_wp2
    go_ret
    exact ⟨rfl, B1.out⟩
  have HV := Lib.hid hv
  obtain ⟨m, hm, hm2, -⟩ := form_len (valid_form hv HOK.out)
  have HM := Lib.hid hm
  have HTX := Lib.hid (show textS s = Lib.join ((memS s).map dec10) [44] ++ (47 :: dec10 m) by unfold textS; rw [if_pos hv, hm]; rfl)
  clear hv hm
  go_enter Tryd.func38, Tryd.ntmps38
  go_wp2_with fail
  rw [show w.alloc (.cells #[.int .i64 s.width, .slice a n c] 25) = W from HW.out]
  refine (rbvalid_to HV.out _ _ HR.out).mono ?_
  rintro e w1 ⟨rfl, b1⟩
  have E1 := Lib.hid b1
  have G1 := Lib.hid (lies_below H0.out b1 (lt_heap H0.out))
  clear x0 x1 b1
  have x0 := (lies_cells G1.out).1 0
  have x1 := (lies_cells G1.out).1 1
  simp only [List.getElem?_toArray, List.getElem?_cons_zero, List.getElem?_cons_succ] at x0 x1
  go_wp2_with fail
  refine (rmembers_any s _ _ (HR.out.below E1.out)).mono ?_
  rintro e w2 ⟨mv, rfl, hi, b2⟩
  obtain ⟨ma, mc, rfl, -, -, -, hmc⟩ := hi.cell
  have E2 := Lib.hid (E1.out.trans (b2.mono E1.out.size))
  have G2 := Lib.hid (lies_below G1.out b2 (lt_heap G1.out))
  obtain ⟨ml, hml⟩ : ∃ ml, (memS s).length = ml := ⟨_, rfl⟩
  have hm256 : ml ≤ 256 := by rw [← hml]; exact memS_len s HOK.out
  rw [List.length_map, hml]
  have HML := Lib.hid hml
  have HMC := Lib.hid hmc
  clear x0 x1 b2 hi hmc hml
  go_wp2
  go_loopw [3, 5] (fun z y wr => ∃ i : Nat, i ≤ ml ∧ y = .int .i64 i ∧ z = qs (textTo s i) ∧ Hid (Below w2.heap.size w2 wr)) (fun _ y _ => ml - (intOf y).toNat)
  case atStart => exact ⟨0, Nat.zero_le _, rfl, rfl, Below.refl _ _⟩
  case round =>
    obtain ⟨i, hi, rfl, rfl, HB⟩ := hrel
    have htl := textTo_len s i
    obtain ⟨tx, htx⟩ : ∃ t, textTo s i = t := ⟨_, rfl⟩
    have HX := Lib.hid htx
    rw [htx] at htl ⊢
    clear htx
    by_cases hlt : i < ml
    · obtain ⟨x, hx⟩ : ∃ x, (memS s)[i]? = some x := ⟨_, List.getElem?_eq_getElem (show i < (memS s).length by have := HML.out; omega)⟩
      have hx256 : x < 256 := memS_lt HOK.out (List.mem_of_getElem? hx)
      obtain ⟨xb, off, rfl, hxb, hcell⟩ := HMC.out i (x : Int) (by rw [List.getElem?_map, hx]; rfl)
      have gc := (HB.out.cell (p := ⟨xb, off + i, none⟩) hxb).trans hcell
      unfold iv at gc
      have i1 : (0 : Int) ≤ (i : Int) := by omega
      have i2 : (i : Int) < (ml : Int) := by omega
      obtain ⟨d, hd⟩ : ∃ d, dec10 x = d := ⟨_, rfl⟩
      have hdl : d.length ≤ 20 := by rw [← hd]; exact decF_len 20 x
      have HD := Lib.hid hd
      have HXX := Lib.hid hx
      clear hx hcell hd
      by_cases hi0 : i = 0
      · have hs2 : ¬ 9223372036854775807 < tx.length + d.length := by omega
        have g1 : decide ((0 : Int) < (i : Int)) = false := by simp; omega
        have g2 : decide (0 < i) = false := by simp; omega
        have HN := Lib.hid (show textTo s (i + 1) = tx ++ d by rw [← HX.out, ← HD.out]; have h := HXX.out; rw [hi0] at h ⊢; rw [textTo_first h]; rfl)
        clear hi0
        go_wp2_with (go_at_call 68; go_must (refine (decimal_any x (by omega) _).mono ?_; rw [HD.out]; rintro e w' ⟨rfl, rfl⟩))
        go_roundw
        case rel => exact ⟨i + 1, by omega, by go_num, by rw [HN.out]; unfold qs; rw [← app_str], HB⟩
        case measure => simp [intOf]; omega
      · have hs1 : ¬ 9223372036854775807 < tx.length + 1 := by omega
        have hs2 : ¬ 9223372036854775807 < tx.length + 1 + d.length := by omega
        have g1 : decide ((0 : Int) < (i : Int)) = true := by simp; omega
        have g2 : decide (0 < i) = true := by simp; omega
        have HN := Lib.hid (show textTo s (i + 1) = tx ++ [44] ++ d by rw [← HX.out, ← HD.out]; exact textTo_next HXX.out (by omega))
        clear hi0
        go_wp2_with (go_at_call 68; go_must (refine (decimal_any x (by omega) _).mono ?_; rw [HD.out]; rintro e w' ⟨rfl, rfl⟩))
        go_roundw
        case rel => exact ⟨i + 1, by omega, by go_num, by rw [HN.out]; unfold qs; rw [← app_str, ← app_str], HB⟩
        case measure => simp [intOf]; omega
    · obtain rfl : i = ml := by omega
      have HJ := Lib.hid (show Lib.join ((memS s).map dec10) [44] = tx by rw [← HX.out]; unfold textTo; rw [List.take_of_length_le (by rw [HML.out]; exact Nat.le_refl _)])
      have G3 := Lib.hid (lies_below G2.out HB.out (lt_heap G2.out))
      have x0 := (lies_cells G3.out).1 0
      have x1 := (lies_cells G3.out).1 1
      simp only [List.getElem?_toArray, List.getElem?_cons_zero, List.getElem?_cons_succ] at x0 x1
      rw [HM.out] at x0
      obtain ⟨d, hd⟩ : ∃ d, dec10 m = d := ⟨_, rfl⟩
      have hdl : d.length ≤ 20 := by rw [← hd]; exact decF_len 20 m
      have HD := Lib.hid hd
      have hs1 : ¬ 9223372036854775807 < tx.length + 1 := by omega
      have hs2 : ¬ 9223372036854775807 < tx.length + 1 + d.length := by omega
      clear hd
      go_wp2_with (go_at_call 68; go_must (refine (decimal_any m (by omega) _).mono ?_; rw [HD.out]; rintro e w' ⟨rfl, rfl⟩))
      go_ret
      exact ⟨ret_strQ (by rw [HTX.out, HJ.out, HD.out]; apply ByteArray.ext; simp), BB.out.trans ((E2.out.trans (HB.out.mono E2.out.size)).mono BB.out.size)⟩
end Go.Proofs.YtmanmlankfoflaaDoor
