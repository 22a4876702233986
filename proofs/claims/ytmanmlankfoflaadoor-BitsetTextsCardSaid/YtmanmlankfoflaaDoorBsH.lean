/- Walks: Has, the program's and the reference's. Printed by wip/gen_bsh.py. -/
import Derived.Test.YtmanmlankfoflaaDoorBsE
import Derived.Test.YtmanmlankfoflaaDoorBsR2
set_option linter.unusedVariables false
set_option linter.unusedSimpArgs false
set_option linter.unusedSectionVars false
namespace Go.Proofs.YtmanmlankfoflaaDoor
open Go.RowKit
variable [Base]

/-- Whether b is a member. -/
def hasB (s : QSet) (b : Int) : Bool := setB s && (decide (0 ≤ b) && (decide (b < s.width) && bitOf s.words b.toNat))
theorem hasB_no {s : QSet} (h : setB s = false) (b : Int) : hasB s b = false := by unfold hasB; rw [h]; rfl
theorem hasB_neg {s : QSet} {b : Int} (h : b < 0) : hasB s b = false := by unfold hasB; rw [show decide (0 ≤ b) = false by simpa using h]; simp
theorem hasB_big {s : QSet} {b : Int} (h : s.width ≤ b) : hasB s b = false := by unfold hasB; rw [show decide (b < s.width) = false by simpa using h]; simp
theorem hasB_in {s : QSet} {k : Nat} (h : setB s = true) (hk : (k : Int) < s.width) : hasB s k = bitOf s.words k := by unfold hasB; rw [h, show decide ((k : Int) < s.width) = true by simpa using hk]; simp
theorem bvalid_to {s : QSet} {b : Bool} (hb : setB s = b) (u : Value) (w : World) (h : WordsAt w u s.words) : Calls Tryd.prog 39 #[setV s u] w (BoolQ b w) := hb ▸ bvalid_any s u w h
theorem rbvalid_to {s : QSet} {b : Bool} (hb : setB s = b) (u : Value) (w : World) (h : WordsAt w u s.words) : Calls Tryd.prog 21 #[setV s u] w (BoolQ b w) := hb ▸ rbvalid_any s u w h
theorem within_to {s : QSet} {k : Int} {b : Bool} (hb : (decide (0 ≤ k) && decide (k < s.width)) = b) (a : Option Addr) (n c : Nat) (w : World) : Calls Tryd.prog 72 #[.agg #[.int .i64 s.width, .slice a n c], .int .i64 k] w (BoolQ b w) := by
  subst hb
  by_cases h1 : 0 ≤ k
  · by_cases h2 : k < s.width
    · have d1 : decide (0 ≤ k) = true := by simpa using h1
      have d2 : decide (k < s.width) = true := by simpa using h2
      rw [d1, d2]
      go_enter Tryd.func72, Tryd.ntmps72
      go_wp2
      go_ret
      exact ⟨rfl, (Below.refl _ _).alloc (Nat.le_refl _) _⟩
    · have d1 : decide (0 ≤ k) = true := by simpa using h1
      have d2 : decide (k < s.width) = false := by simpa using h2
      rw [d1, d2]
      go_enter Tryd.func72, Tryd.ntmps72
      go_wp2
      go_ret
      exact ⟨rfl, (Below.refl _ _).alloc (Nat.le_refl _) _⟩
  · have d1 : decide (0 ≤ k) = false := by simpa using h1
    rw [d1]
    go_enter Tryd.func72, Tryd.ntmps72
    go_wp2
    go_ret
    exact ⟨rfl, (Below.refl _ _).alloc (Nat.le_refl _) _⟩
set_option maxHeartbeats 1000000 in
theorem rhas_any (s : QSet) (b : Int) (u : Value) (w : World) (h : WordsAt w u s.words) : Calls Tryd.prog 41 #[setV s u, .int .i64 b] w (BoolQ (hasB s b) w) := by
  obtain ⟨a, c, rfl, hm, hc, hcm, hk⟩ := h.cell
  obtain ⟨n, hn⟩ : ∃ n, s.words.length = n := ⟨_, rfl⟩
  obtain ⟨W, hW⟩ : ∃ W, w.alloc (.cells #[.int .i64 s.width, .slice a n c] 25) = W := ⟨_, rfl⟩
  have B0 : Below w.heap.size w W := by rw [← hW]; exact (Below.refl _ _).alloc (Nat.le_refl _) _
  have HB0 : W.heap[w.heap.size]? = some (.cells #[.int .i64 s.width, .slice a n c] 25 (0, 0)) := by rw [← hW]; exact heap_alloc_new _ _
  have x0 := (lies_cells HB0).1 0
  have x1 := (lies_cells HB0).1 1
  simp at x0 x1
  rw [hn] at hm hc ⊢
  have H0 := Lib.hid HB0
  have HW := Lib.hid hW
  have BB := Lib.hid B0
  have HN := Lib.hid hn
  have HR := Lib.hid (show WordsAt W (.slice a n c) s.words by rw [← hn] at *; exact h.below B0)
  have HK := Lib.hid hk
  have HOK := Lib.hid h.2
  have hud : ∀ b : Bool, (undef = Value.bool b) = False := fun b => by simp [undef]
  unfold maxLen at hm
  clear hW HB0 B0 hk hn
  rcases Bool.eq_false_or_eq_true (setB s) with hv | hv
  rotate_left
  · have HV := Lib.hid hv
    rw [hasB_no hv b]
    clear hv
    go_enter Tryd.func41, Tryd.ntmps41
    go_wp2_with fail
    rw [show w.alloc (.cells #[.int .i64 s.width, .slice a n c] 25) = W from HW.out]
    refine (rbvalid_to HV.out _ _ HR.out).mono ?_
    rintro e w1 ⟨rfl, b1⟩
    have B1 := Lib.hid (BB.out.trans (b1.mono BB.out.size))
    clear x0 x1 b1
    go_wp2
    go_ret
    exact ⟨rfl, B1.out⟩
  have HV := Lib.hid hv
  have hf := Lib.hid (form_len (valid_form hv h.2))
  by_cases h1 : 0 ≤ b
  rotate_left
  · rw [hasB_neg (by omega : b < 0)]
    have d1 : decide (0 ≤ b) = false := by simpa using h1
    clear hv h
    go_enter Tryd.func41, Tryd.ntmps41
    go_wp2_with fail
    rw [show w.alloc (.cells #[.int .i64 s.width, .slice a n c] 25) = W from HW.out]
    refine (rbvalid_to HV.out _ _ HR.out).mono ?_
    rintro e w1 ⟨rfl, b1⟩
    have B1 := Lib.hid (BB.out.trans (b1.mono BB.out.size))
    have L1 := Lib.hid (lies_below H0.out b1 (lt_heap H0.out))
    clear x0 x1 b1
    have x0 := (lies_cells L1.out).1 0
    have x1 := (lies_cells L1.out).1 1
    simp only [List.getElem?_toArray, List.getElem?_cons_zero, List.getElem?_cons_succ] at x0 x1
    go_wp2
    go_ret
    exact ⟨rfl, B1.out⟩
  by_cases h2 : b < s.width
  rotate_left
  · rw [hasB_big (by omega : s.width ≤ b)]
    have d1 : decide (0 ≤ b) = true := by simpa using h1
    have d2 : decide (b < s.width) = false := by simpa using h2
    clear hv h
    go_enter Tryd.func41, Tryd.ntmps41
    go_wp2_with fail
    rw [show w.alloc (.cells #[.int .i64 s.width, .slice a n c] 25) = W from HW.out]
    refine (rbvalid_to HV.out _ _ HR.out).mono ?_
    rintro e w1 ⟨rfl, b1⟩
    have B1 := Lib.hid (BB.out.trans (b1.mono BB.out.size))
    have L1 := Lib.hid (lies_below H0.out b1 (lt_heap H0.out))
    clear x0 x1 b1
    have x0 := (lies_cells L1.out).1 0
    have x1 := (lies_cells L1.out).1 1
    simp only [List.getElem?_toArray, List.getElem?_cons_zero, List.getElem?_cons_succ] at x0 x1
    go_wp2
    go_ret
    exact ⟨rfl, B1.out⟩
  obtain ⟨k, rfl⟩ := Int.eq_ofNat_of_zero_le h1
  have d1 : decide (0 ≤ (k : Int)) = true := by simp
  have d2 : decide ((k : Int) < s.width) = true := by simpa using h2
  rw [hasB_in hv h2]
  obtain ⟨m, f1, f2, f3⟩ := hf.out
  have hkn : k / 64 < n := by have := HN.out; unfold wordsN at f3; omega
  have hn5 : n ≤ 5 := by have := HN.out; unfold wordsN at f3; omega
  have hk256 : k < 256 := by omega
  obtain ⟨x, hx⟩ : ∃ x, s.words[k / 64]? = some x := ⟨_, List.getElem?_eq_getElem (show k / 64 < s.words.length by have := HN.out; omega)⟩
  obtain ⟨xb, off, rfl, hxb, -, hcell⟩ := HK.out (k / 64) x hx
  have hxl : x < 18446744073709551616 := HOK.out x (List.mem_of_getElem? hx)
  have hbit : bitOf s.words k = x.testBit (k % 64) := by unfold bitOf; rw [List.getD_eq_getElem?_getD, hx]; rfl
  have sh := shr_and1 x (k % 64) hxl
  have e1 : 0 ≤ (k : Int) / 64 := by omega
  have e2 : (k : Int) / 64 < n := by omega
  have e3 : ((k : Int) / 64).toNat = k / 64 := by omega
  have e4 : 0 ≤ (k : Int) % 64 := by omega
  have e5 : IntKind.u64.wrap ((k : Int) % 64) = (k : Int) % 64 := by rw [IntKind.wrap_u64]; omega
  have e7 : IntKind.u64.wrap (k : Int) = (k : Int) := by rw [IntKind.wrap_u64]; omega
  have e6 : ((k : Int) % 64).toNat = k % 64 := by omega
  rw [hbit]
  have HX := Lib.hid hbit
  have HCE := Lib.hid (show ∀ w9, Below w.heap.size w w9 → w9.cell? ⟨xb, off + k / 64, none⟩ = some (uv x) from fun w9 hb => (hb.cell (p := ⟨xb, off + k / 64, none⟩) hxb).trans hcell)
  clear hx hxl hbit hcell HK hv h f1 f2 f3 hf hxb
  go_enter Tryd.func41, Tryd.ntmps41
  go_wp2_with fail
  rw [show w.alloc (.cells #[.int .i64 s.width, .slice (some ⟨xb, off, none⟩) n c] 25) = W from HW.out]
  refine (rbvalid_to HV.out _ _ HR.out).mono ?_
  rintro e w1 ⟨rfl, b1⟩
  have B1 := Lib.hid (BB.out.trans (b1.mono BB.out.size))
  have L1 := Lib.hid (lies_below H0.out b1 (lt_heap H0.out))
  clear x0 x1 b1
  have x0 := (lies_cells L1.out).1 0
  have x1 := (lies_cells L1.out).1 1
  simp only [List.getElem?_toArray, List.getElem?_cons_zero, List.getElem?_cons_succ] at x0 x1
  have gc := HCE.out _ B1.out
  cases hb : x.testBit (k % 64)
  all_goals
    rw [hb] at sh
    have HB := Lib.hid hb
    clear hb
    go_wp2
    go_ret
    exact ⟨ret_boolQ HB.out.symm, B1.out⟩
set_option maxHeartbeats 1000000 in
theorem bhas_any (s : QSet) (b : Int) (u : Value) (w : World) (h : WordsAt w u s.words) : Calls Tryd.prog 40 #[setV s u, .int .i64 b] w (BoolQ (hasB s b) w) := by
  obtain ⟨a, c, rfl, hm, hc, hcm, hk⟩ := h.cell
  obtain ⟨n, hn⟩ : ∃ n, s.words.length = n := ⟨_, rfl⟩
  obtain ⟨W, hW⟩ : ∃ W, w.alloc (.cells #[.int .i64 s.width, .slice a n c] 25) = W := ⟨_, rfl⟩
  have B0 : Below w.heap.size w W := by rw [← hW]; exact (Below.refl _ _).alloc (Nat.le_refl _) _
  have HB0 : W.heap[w.heap.size]? = some (.cells #[.int .i64 s.width, .slice a n c] 25 (0, 0)) := by rw [← hW]; exact heap_alloc_new _ _
  have x0 := (lies_cells HB0).1 0
  have x1 := (lies_cells HB0).1 1
  simp at x0 x1
  rw [hn] at hm hc ⊢
  have H0 := Lib.hid HB0
  have HW := Lib.hid hW
  have BB := Lib.hid B0
  have HN := Lib.hid hn
  have HR := Lib.hid (show WordsAt W (.slice a n c) s.words by rw [← hn] at *; exact h.below B0)
  have HK := Lib.hid hk
  have HOK := Lib.hid h.2
  have hud : ∀ b : Bool, (undef = Value.bool b) = False := fun b => by simp [undef]
  unfold maxLen at hm
  clear hW HB0 B0 hk hn
  rcases Bool.eq_false_or_eq_true (setB s) with hv | hv
  rotate_left
  · have HV := Lib.hid hv
    rw [hasB_no hv b]
    clear hv
    go_enter Tryd.func40, Tryd.ntmps40
    go_wp2_with fail
    rw [show w.alloc (.cells #[.int .i64 s.width, .slice a n c] 25) = W from HW.out]
    refine (bvalid_to HV.out _ _ HR.out).mono ?_
    rintro e w1 ⟨rfl, b1⟩
    have B1 := Lib.hid (BB.out.trans (b1.mono BB.out.size))
    clear x0 x1 b1
    go_wp2
    go_ret
    exact ⟨rfl, B1.out⟩
  have HV := Lib.hid hv
  have hf := Lib.hid (form_len (valid_form hv h.2))
  by_cases h1 : 0 ≤ b
  rotate_left
  · rw [hasB_neg (by omega : b < 0)]
    have d1 : decide (0 ≤ b) = false := by simpa using h1
    clear hv h
    go_enter Tryd.func40, Tryd.ntmps40
    go_wp2_with fail
    rw [show w.alloc (.cells #[.int .i64 s.width, .slice a n c] 25) = W from HW.out]
    refine (bvalid_to HV.out _ _ HR.out).mono ?_
    rintro e w1 ⟨rfl, b1⟩
    have B1 := Lib.hid (BB.out.trans (b1.mono BB.out.size))
    have L1 := Lib.hid (lies_below H0.out b1 (lt_heap H0.out))
    clear x0 x1 b1
    have x0 := (lies_cells L1.out).1 0
    have x1 := (lies_cells L1.out).1 1
    simp only [List.getElem?_toArray, List.getElem?_cons_zero, List.getElem?_cons_succ] at x0 x1
    go_wp2_with fail
    refine (within_to (s := s) (b := false) (by rw [d1]; rfl) a n c _).mono ?_
    rintro e w2 ⟨rfl, b2⟩
    have B2 := Lib.hid (B1.out.trans (b2.mono B1.out.size))
    have L2 := Lib.hid (lies_below L1.out b2 (lt_heap L1.out))
    clear x0 x1 b2
    have x0 := (lies_cells L2.out).1 0
    have x1 := (lies_cells L2.out).1 1
    simp only [List.getElem?_toArray, List.getElem?_cons_zero, List.getElem?_cons_succ] at x0 x1
    go_wp2
    go_ret
    exact ⟨rfl, B2.out⟩
  by_cases h2 : b < s.width
  rotate_left
  · rw [hasB_big (by omega : s.width ≤ b)]
    have d1 : decide (0 ≤ b) = true := by simpa using h1
    have d2 : decide (b < s.width) = false := by simpa using h2
    clear hv h
    go_enter Tryd.func40, Tryd.ntmps40
    go_wp2_with fail
    rw [show w.alloc (.cells #[.int .i64 s.width, .slice a n c] 25) = W from HW.out]
    refine (bvalid_to HV.out _ _ HR.out).mono ?_
    rintro e w1 ⟨rfl, b1⟩
    have B1 := Lib.hid (BB.out.trans (b1.mono BB.out.size))
    have L1 := Lib.hid (lies_below H0.out b1 (lt_heap H0.out))
    clear x0 x1 b1
    have x0 := (lies_cells L1.out).1 0
    have x1 := (lies_cells L1.out).1 1
    simp only [List.getElem?_toArray, List.getElem?_cons_zero, List.getElem?_cons_succ] at x0 x1
    go_wp2_with fail
    refine (within_to (s := s) (b := false) (by rw [d1, d2]; rfl) a n c _).mono ?_
    rintro e w2 ⟨rfl, b2⟩
    have B2 := Lib.hid (B1.out.trans (b2.mono B1.out.size))
    have L2 := Lib.hid (lies_below L1.out b2 (lt_heap L1.out))
    clear x0 x1 b2
    have x0 := (lies_cells L2.out).1 0
    have x1 := (lies_cells L2.out).1 1
    simp only [List.getElem?_toArray, List.getElem?_cons_zero, List.getElem?_cons_succ] at x0 x1
    go_wp2
    go_ret
    exact ⟨rfl, B2.out⟩
  obtain ⟨k, rfl⟩ := Int.eq_ofNat_of_zero_le h1
  have d1 : decide (0 ≤ (k : Int)) = true := by simp
  have d2 : decide ((k : Int) < s.width) = true := by simpa using h2
  rw [hasB_in hv h2]
  obtain ⟨m, f1, f2, f3⟩ := hf.out
  have hkn : k / 64 < n := by have := HN.out; unfold wordsN at f3; omega
  have hn5 : n ≤ 5 := by have := HN.out; unfold wordsN at f3; omega
  have hk256 : k < 256 := by omega
  obtain ⟨x, hx⟩ : ∃ x, s.words[k / 64]? = some x := ⟨_, List.getElem?_eq_getElem (show k / 64 < s.words.length by have := HN.out; omega)⟩
  obtain ⟨xb, off, rfl, hxb, -, hcell⟩ := HK.out (k / 64) x hx
  have hxl : x < 18446744073709551616 := HOK.out x (List.mem_of_getElem? hx)
  have hbit : bitOf s.words k = x.testBit (k % 64) := by unfold bitOf; rw [List.getD_eq_getElem?_getD, hx]; rfl
  have sh := shr_and1 x (k % 64) hxl
  have e1 : 0 ≤ (k : Int) / 64 := by omega
  have e2 : (k : Int) / 64 < n := by omega
  have e3 : ((k : Int) / 64).toNat = k / 64 := by omega
  have e4 : 0 ≤ (k : Int) % 64 := by omega
  have e5 : IntKind.u64.wrap ((k : Int) % 64) = (k : Int) % 64 := by rw [IntKind.wrap_u64]; omega
  have e7 : IntKind.u64.wrap (k : Int) = (k : Int) := by rw [IntKind.wrap_u64]; omega
  have e6 : ((k : Int) % 64).toNat = k % 64 := by omega
  rw [hbit]
  have HX := Lib.hid hbit
  have HCE := Lib.hid (show ∀ w9, Below w.heap.size w w9 → w9.cell? ⟨xb, off + k / 64, none⟩ = some (uv x) from fun w9 hb => (hb.cell (p := ⟨xb, off + k / 64, none⟩) hxb).trans hcell)
  clear hx hxl hbit hcell HK hv h f1 f2 f3 hf hxb
  go_enter Tryd.func40, Tryd.ntmps40
  go_wp2_with fail
  rw [show w.alloc (.cells #[.int .i64 s.width, .slice (some ⟨xb, off, none⟩) n c] 25) = W from HW.out]
  refine (bvalid_to HV.out _ _ HR.out).mono ?_
  rintro e w1 ⟨rfl, b1⟩
  have B1 := Lib.hid (BB.out.trans (b1.mono BB.out.size))
  have L1 := Lib.hid (lies_below H0.out b1 (lt_heap H0.out))
  clear x0 x1 b1
  have x0 := (lies_cells L1.out).1 0
  have x1 := (lies_cells L1.out).1 1
  simp only [List.getElem?_toArray, List.getElem?_cons_zero, List.getElem?_cons_succ] at x0 x1
  go_wp2_with fail
  refine (within_to (s := s) (b := true) (by rw [d1, d2]; rfl) (some ⟨xb, off, none⟩) n c _).mono ?_
  rintro e w2 ⟨rfl, b2⟩
  have B2 := Lib.hid (B1.out.trans (b2.mono B1.out.size))
  have L2 := Lib.hid (lies_below L1.out b2 (lt_heap L1.out))
  clear x0 x1 b2
  have x0 := (lies_cells L2.out).1 0
  have x1 := (lies_cells L2.out).1 1
  simp only [List.getElem?_toArray, List.getElem?_cons_zero, List.getElem?_cons_succ] at x0 x1
  have gc := HCE.out _ B2.out
  cases hb : x.testBit (k % 64)
  all_goals
    rw [hb] at sh
    have HB := Lib.hid hb
    clear hb
    go_wp2
    go_ret
    exact ⟨ret_boolQ HB.out.symm, B2.out⟩
end Go.Proofs.YtmanmlankfoflaaDoor
