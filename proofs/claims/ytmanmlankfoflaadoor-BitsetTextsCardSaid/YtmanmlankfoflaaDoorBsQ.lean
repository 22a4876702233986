/- Walks: slices.Equal of words; the program's Equal, Subset; bothOf of the laws. Printed by wip/gen_bsq.py. -/
import Derived.Test.YtmanmlankfoflaaDoorBsC
import Derived.Test.YtmanmlankfoflaaDoorBsYd
import Derived.Test.YtmanmlankfoflaaDoorBsYi
import Derived.BigQuiet
set_option linter.unusedVariables false
set_option linter.unusedSimpArgs false
set_option linter.unusedSectionVars false
namespace Go.Proofs.YtmanmlankfoflaaDoor
open Go.RowKit
variable [Base]

set_option maxHeartbeats 1000000 in
theorem sleq_any (l1 l2 : List Nat) (u1 u2 : Value) (w : World) (h1 : WordsAt w u1 l1) (h2 : WordsAt w u2 l2) : Calls Tryd.prog 60 #[u1, u2] w (BoolQ (decide (l1 = l2)) w) := by
  obtain ⟨a1, c1, rfl, hm, -, -, hk1⟩ := h1.cell
  obtain ⟨a2, c2, rfl, hm2, -, -, hk2⟩ := h2.cell
  by_cases hl : l1.length = l2.length
  · obtain ⟨n, hn⟩ : ∃ n, l1.length = n := ⟨_, rfl⟩
    have hn2 : l2.length = n := hl ▸ hn
    rw [hn] at hm
    rw [hn2, hn]
    obtain ⟨d, hd⟩ : ∃ d, decide (l1 = l2) = d := ⟨_, rfl⟩
    rw [hd]
    have HD := Lib.hid hd
    have HN := Lib.hid hn
    have HN2 := Lib.hid hn2
    have HK1 := Lib.hid hk1
    have HK2 := Lib.hid hk2
    unfold maxLen at hm
    clear hk1 hk2 h1 h2 hd hn hn2 hl hm2
    go_enter Tryd.func60, Tryd.ntmps60
    have hnn : ((n : Int) != (n : Int)) = false := by simp
    go_wp2_with fail
    go_loopw [13] (fun y wr => ∃ i : Nat, i ≤ n ∧ y = .int .i64 i ∧ Hid (l1.take i = l2.take i) ∧ Hid (Below w.heap.size w wr)) (fun y _ => n - (intOf y).toNat)
    case atStart => exact ⟨0, Nat.zero_le _, rfl, rfl, Below.refl _ _⟩
    case round =>
      obtain ⟨i, hi, rfl, HE, HB⟩ := hrel
      by_cases hlt : i < n
      · obtain ⟨x, hx⟩ : ∃ x, l1[i]? = some x := ⟨_, List.getElem?_eq_getElem (show i < l1.length by have := HN.out; omega)⟩
        obtain ⟨y, hy⟩ : ∃ y, l2[i]? = some y := ⟨_, List.getElem?_eq_getElem (show i < l2.length by have := HN2.out; omega)⟩
        obtain ⟨b1, o1, rfl, hb1, -, hc1⟩ := HK1.out i x hx
        obtain ⟨b2, o2, rfl, hb2, -, hc2⟩ := HK2.out i y hy
        have g1 := (HB.out.cell (p := ⟨b1, o1 + i, none⟩) hb1).trans hc1
        have g2 := (HB.out.cell (p := ⟨b2, o2 + i, none⟩) hb2).trans hc2
        have e1 : (0 : Int) ≤ (i : Int) := by omega
        have e2 : (i : Int) < (n : Int) := by omega
        have HX := Lib.hid hx
        have HY := Lib.hid hy
        clear hc1 hc2 hx hy HK1 HK2
        by_cases hxy : x = y
        · subst hxy
          have q1 : ((x : Int) != (x : Int)) = false := by simp
          have HE2 := Lib.hid (show l1.take (i + 1) = l2.take (i + 1) by rw [List.take_add_one, List.take_add_one, HE.out, HX.out, HY.out])
          go_wp2
          go_quiet (fail)
          go_wp2
          go_roundw
          case rel => exact ⟨i + 1, by omega, by go_num, HE2, below_drewQ HB.out _⟩
          case measure => simp [intOf]; omega
        · have q1 : ((x : Int) != (y : Int)) = true := by simp; omega
          obtain rfl : d = false := by
            rw [← HD.out]
            have : l1 ≠ l2 := by
              rintro rfl
              have := HX.out.symm.trans HY.out
              injection this with this
              exact hxy this
            simpa using this
          go_wp2
          go_quiet (fail)
          go_wp2
          go_ret
          exact ⟨rfl, below_drewQ HB.out _⟩
      · obtain rfl : i = n := by omega
        obtain rfl : d = true := by
          rw [← HD.out]
          have h := HE.out
          rw [List.take_of_length_le (by have := HN.out; omega), List.take_of_length_le (by have := HN2.out; omega)] at h
          simpa using h
        go_wp2
        go_ret
        exact ⟨rfl, HB.out⟩
  · have hne : l1 ≠ l2 := fun e => hl (by rw [e])
    have hd : decide (l1 = l2) = false := by simpa using hne
    rw [hd]
    obtain ⟨n, hn⟩ : ∃ n, l1.length = n := ⟨_, rfl⟩
    obtain ⟨m, hn2⟩ : ∃ n, l2.length = n := ⟨_, rfl⟩
    have hlnm : n ≠ m := by omega
    rw [hn, hn2]
    have hnn : ((n : Int) != (m : Int)) = true := by simp; omega
    clear hk1 hk2 h1 h2 hd hn hn2 hne hl hm hm2
    go_enter Tryd.func60, Tryd.ntmps60
    go_wp2
    go_ret
    exact ⟨rfl, Below.refl _ _⟩
theorem sleq_to {l1 l2 : List Nat} {d : Bool} (h : decide (l1 = l2) = d) (u1 u2 : Value) (w : World) (h1 : WordsAt w u1 l1) (h2 : WordsAt w u2 l2) : Calls Tryd.prog 60 #[u1, u2] w (BoolQ d w) := h ▸ sleq_any l1 l2 u1 u2 w h1 h2
def eqB (s t : QSet) : Bool := setB s && setB t && decide (s.width = t.width) && decide (s.words = t.words)
set_option maxHeartbeats 1000000 in
theorem bequal_any (s t : QSet) (u1 u2 : Value) (w : World) (h1 : WordsAt w u1 s.words) (h2 : WordsAt w u2 t.words) : Calls Tryd.prog 30 #[setV s u1, setV t u2] w (BoolQ (eqB s t) w) := by
  obtain ⟨d, hd⟩ : ∃ d, eqB s t = d := ⟨_, rfl⟩
  rw [hd]
  have HD := Lib.hid hd
  have hud : ∀ b : Bool, (undef = Value.bool b) = False := fun b => by simp [undef]
  clear hd
  obtain ⟨a1, c1, rfl, -, -, -, -⟩ := h1.cell
  obtain ⟨a2, c2, rfl, -, -, -, -⟩ := h2.cell
  obtain ⟨n1, hn1⟩ : ∃ n, s.words.length = n := ⟨_, rfl⟩
  obtain ⟨n2, hn2⟩ : ∃ n, t.words.length = n := ⟨_, rfl⟩
  rw [hn1] at h1 ⊢
  rw [hn2] at h2 ⊢
  obtain ⟨W, hW⟩ : ∃ W, (w.alloc (.cells #[.int .i64 s.width, .slice a1 n1 c1] 25)).alloc (.cells #[.int .i64 t.width, .slice a2 n2 c2] 25) = W := ⟨_, rfl⟩
  have B0 : Below w.heap.size w W := by rw [← hW]; exact ((Below.refl _ _).alloc (Nat.le_refl _) _).alloc (by simp) _
  have HB1 : W.heap[w.heap.size]? = some (.cells #[.int .i64 s.width, .slice a1 n1 c1] 25 (0, 0)) := by rw [← hW]; exact lies_alloc _ (heap_alloc_new _ _)
  have HB2 : W.heap[w.heap.size + 1]? = some (.cells #[.int .i64 t.width, .slice a2 n2 c2] 25 (0, 0)) := by rw [← hW]; exact lies_new2 _ _
  have H1 := Lib.hid HB1
  have H2 := Lib.hid HB2
  have HW := Lib.hid hW
  have BB := Lib.hid B0
  have R1 := Lib.hid (h1.below B0)
  have R2 := Lib.hid (h2.below B0)
  clear hW HB1 HB2 B0 hn1 hn2 h1 h2
  rcases Bool.eq_false_or_eq_true (setB s) with hv | hv
  rotate_left
  · have HV := Lib.hid hv
    obtain rfl : d = false := by rw [← HD.out]; unfold eqB; rw [hv]; rfl
    clear hv
    have E0 := Lib.hid (Below.refl W.heap.size W)
    go_enter Tryd.func30, Tryd.ntmps30
    have x0 := (lies_cells H1.out).1 0
    have x1 := (lies_cells H1.out).1 1
    have y0 := (lies_cells H2.out).1 0
    have y1 := (lies_cells H2.out).1 1
    simp only [List.getElem?_toArray, List.getElem?_cons_zero, List.getElem?_cons_succ] at x0 x1 y0 y1
    go_wp2_with fail
    rw [show (w.alloc (.cells #[.int .i64 s.width, .slice a1 n1 c1] 25)).alloc (.cells #[.int .i64 t.width, .slice a2 n2 c2] 25) = W from HW.out]
    refine (bvalid_to HV.out _ _ R1.out).mono ?_
    rintro e w1 ⟨rfl, b⟩
    have E1 := Lib.hid (E0.out.trans (b.mono E0.out.size))
    clear x0 x1 y0 y1 b
    have G1 := Lib.hid (lies_below H1.out E1.out (lt_heap H1.out))
    have K1 := Lib.hid (lies_below H2.out E1.out (lt_heap H2.out))
    have x0 := (lies_cells G1.out).1 0
    have x1 := (lies_cells G1.out).1 1
    have y0 := (lies_cells K1.out).1 0
    have y1 := (lies_cells K1.out).1 1
    simp only [List.getElem?_toArray, List.getElem?_cons_zero, List.getElem?_cons_succ] at x0 x1 y0 y1
    go_wp2
    go_ret
    exact ⟨rfl, BB.out.trans (E1.out.mono BB.out.size)⟩
  have HV := Lib.hid hv
  rcases Bool.eq_false_or_eq_true (setB t) with ht | ht
  rotate_left
  · have HT := Lib.hid ht
    obtain rfl : d = false := by rw [← HD.out]; unfold eqB; rw [hv, ht]; rfl
    clear hv ht
    have E0 := Lib.hid (Below.refl W.heap.size W)
    go_enter Tryd.func30, Tryd.ntmps30
    have x0 := (lies_cells H1.out).1 0
    have x1 := (lies_cells H1.out).1 1
    have y0 := (lies_cells H2.out).1 0
    have y1 := (lies_cells H2.out).1 1
    simp only [List.getElem?_toArray, List.getElem?_cons_zero, List.getElem?_cons_succ] at x0 x1 y0 y1
    go_wp2_with fail
    rw [show (w.alloc (.cells #[.int .i64 s.width, .slice a1 n1 c1] 25)).alloc (.cells #[.int .i64 t.width, .slice a2 n2 c2] 25) = W from HW.out]
    refine (bvalid_to HV.out _ _ R1.out).mono ?_
    rintro e w1 ⟨rfl, b⟩
    have E1 := Lib.hid (E0.out.trans (b.mono E0.out.size))
    clear x0 x1 y0 y1 b
    have G1 := Lib.hid (lies_below H1.out E1.out (lt_heap H1.out))
    have K1 := Lib.hid (lies_below H2.out E1.out (lt_heap H2.out))
    have x0 := (lies_cells G1.out).1 0
    have x1 := (lies_cells G1.out).1 1
    have y0 := (lies_cells K1.out).1 0
    have y1 := (lies_cells K1.out).1 1
    simp only [List.getElem?_toArray, List.getElem?_cons_zero, List.getElem?_cons_succ] at x0 x1 y0 y1
    go_wp2_with fail
    refine (bvalid_to HT.out _ _ (R2.out.below E1.out)).mono ?_
    rintro e w2 ⟨rfl, b⟩
    have E2 := Lib.hid (E1.out.trans (b.mono E1.out.size))
    clear x0 x1 y0 y1 b
    have G2 := Lib.hid (lies_below H1.out E2.out (lt_heap H1.out))
    have K2 := Lib.hid (lies_below H2.out E2.out (lt_heap H2.out))
    have x0 := (lies_cells G2.out).1 0
    have x1 := (lies_cells G2.out).1 1
    have y0 := (lies_cells K2.out).1 0
    have y1 := (lies_cells K2.out).1 1
    simp only [List.getElem?_toArray, List.getElem?_cons_zero, List.getElem?_cons_succ] at x0 x1 y0 y1
    go_wp2
    go_ret
    exact ⟨rfl, BB.out.trans (E2.out.mono BB.out.size)⟩
  have HT := Lib.hid ht
  by_cases hw : s.width = t.width
  rotate_left
  · obtain rfl : d = false := by rw [← HD.out]; unfold eqB; rw [hv, ht]; simp [hw]
    have q1 : (s.width == t.width) = false := by simpa using hw
    clear hv ht
    have E0 := Lib.hid (Below.refl W.heap.size W)
    go_enter Tryd.func30, Tryd.ntmps30
    have x0 := (lies_cells H1.out).1 0
    have x1 := (lies_cells H1.out).1 1
    have y0 := (lies_cells H2.out).1 0
    have y1 := (lies_cells H2.out).1 1
    simp only [List.getElem?_toArray, List.getElem?_cons_zero, List.getElem?_cons_succ] at x0 x1 y0 y1
    go_wp2_with fail
    rw [show (w.alloc (.cells #[.int .i64 s.width, .slice a1 n1 c1] 25)).alloc (.cells #[.int .i64 t.width, .slice a2 n2 c2] 25) = W from HW.out]
    refine (bvalid_to HV.out _ _ R1.out).mono ?_
    rintro e w1 ⟨rfl, b⟩
    have E1 := Lib.hid (E0.out.trans (b.mono E0.out.size))
    clear x0 x1 y0 y1 b
    have G1 := Lib.hid (lies_below H1.out E1.out (lt_heap H1.out))
    have K1 := Lib.hid (lies_below H2.out E1.out (lt_heap H2.out))
    have x0 := (lies_cells G1.out).1 0
    have x1 := (lies_cells G1.out).1 1
    have y0 := (lies_cells K1.out).1 0
    have y1 := (lies_cells K1.out).1 1
    simp only [List.getElem?_toArray, List.getElem?_cons_zero, List.getElem?_cons_succ] at x0 x1 y0 y1
    go_wp2_with fail
    refine (bvalid_to HT.out _ _ (R2.out.below E1.out)).mono ?_
    rintro e w2 ⟨rfl, b⟩
    have E2 := Lib.hid (E1.out.trans (b.mono E1.out.size))
    clear x0 x1 y0 y1 b
    have G2 := Lib.hid (lies_below H1.out E2.out (lt_heap H1.out))
    have K2 := Lib.hid (lies_below H2.out E2.out (lt_heap H2.out))
    have x0 := (lies_cells G2.out).1 0
    have x1 := (lies_cells G2.out).1 1
    have y0 := (lies_cells K2.out).1 0
    have y1 := (lies_cells K2.out).1 1
    simp only [List.getElem?_toArray, List.getElem?_cons_zero, List.getElem?_cons_succ] at x0 x1 y0 y1
    go_wp2
    go_ret
    exact ⟨rfl, BB.out.trans (E2.out.mono BB.out.size)⟩
  · have HL : Hid (decide (s.words = t.words) = d) := Lib.hid (by rw [← HD.out]; unfold eqB; rw [hv, ht]; simp [hw])
    have q1 : (s.width == t.width) = true := by simpa using hw
    clear hv ht hw
    have E0 := Lib.hid (Below.refl W.heap.size W)
    go_enter Tryd.func30, Tryd.ntmps30
    have x0 := (lies_cells H1.out).1 0
    have x1 := (lies_cells H1.out).1 1
    have y0 := (lies_cells H2.out).1 0
    have y1 := (lies_cells H2.out).1 1
    simp only [List.getElem?_toArray, List.getElem?_cons_zero, List.getElem?_cons_succ] at x0 x1 y0 y1
    go_wp2_with fail
    rw [show (w.alloc (.cells #[.int .i64 s.width, .slice a1 n1 c1] 25)).alloc (.cells #[.int .i64 t.width, .slice a2 n2 c2] 25) = W from HW.out]
    refine (bvalid_to HV.out _ _ R1.out).mono ?_
    rintro e w1 ⟨rfl, b⟩
    have E1 := Lib.hid (E0.out.trans (b.mono E0.out.size))
    clear x0 x1 y0 y1 b
    have G1 := Lib.hid (lies_below H1.out E1.out (lt_heap H1.out))
    have K1 := Lib.hid (lies_below H2.out E1.out (lt_heap H2.out))
    have x0 := (lies_cells G1.out).1 0
    have x1 := (lies_cells G1.out).1 1
    have y0 := (lies_cells K1.out).1 0
    have y1 := (lies_cells K1.out).1 1
    simp only [List.getElem?_toArray, List.getElem?_cons_zero, List.getElem?_cons_succ] at x0 x1 y0 y1
    go_wp2_with fail
    refine (bvalid_to HT.out _ _ (R2.out.below E1.out)).mono ?_
    rintro e w2 ⟨rfl, b⟩
    have E2 := Lib.hid (E1.out.trans (b.mono E1.out.size))
    clear x0 x1 y0 y1 b
    have G2 := Lib.hid (lies_below H1.out E2.out (lt_heap H1.out))
    have K2 := Lib.hid (lies_below H2.out E2.out (lt_heap H2.out))
    have x0 := (lies_cells G2.out).1 0
    have x1 := (lies_cells G2.out).1 1
    have y0 := (lies_cells K2.out).1 0
    have y1 := (lies_cells K2.out).1 1
    simp only [List.getElem?_toArray, List.getElem?_cons_zero, List.getElem?_cons_succ] at x0 x1 y0 y1
    go_wp2_with fail
    refine (sleq_to HL.out _ _ _ (R1.out.below E2.out) (R2.out.below E2.out)).mono ?_
    rintro e w3 ⟨rfl, b⟩
    have E3 := Lib.hid (E2.out.trans (b.mono E2.out.size))
    clear x0 x1 y0 y1 b
    have G3 := Lib.hid (lies_below H1.out E3.out (lt_heap H1.out))
    have K3 := Lib.hid (lies_below H2.out E3.out (lt_heap H2.out))
    have x0 := (lies_cells G3.out).1 0
    have x1 := (lies_cells G3.out).1 1
    have y0 := (lies_cells K3.out).1 0
    have y1 := (lies_cells K3.out).1 1
    simp only [List.getElem?_toArray, List.getElem?_cons_zero, List.getElem?_cons_succ] at x0 x1 y0 y1
    go_wp2
    go_ret
    exact ⟨rfl, BB.out.trans (E3.out.mono BB.out.size)⟩
theorem bcount_to {s : QSet} {n : Nat} (hn : (memS s).length = n) (u : Value) (w : World) (h : WordsAt w u s.words) : Calls Tryd.prog 32 #[setV s u] w (IntQ (n : Int) w) := hn ▸ bcount_any s u w h
theorem bdiff_to {s t r : QSet} {n : Int} (h : mergeS clr s t = (r, n)) (u1 u2 : Value) (w : World) (h1 : WordsAt w u1 s.words) (h2 : WordsAt w u2 t.words) : Calls Tryd.prog 28 #[setV s u1, setV t u2] w (SetE (r, n) w) := h ▸ bdiff_any s t u1 u2 w h1 h2
def subB (s t : QSet) : Bool := decide ((mergeS clr s t).2 = 0) && decide ((memS (mergeS clr s t).1).length = 0)
set_option maxHeartbeats 1000000 in
theorem bsubset_any (s t : QSet) (u1 u2 : Value) (w : World) (h1 : WordsAt w u1 s.words) (h2 : WordsAt w u2 t.words) : Calls Tryd.prog 31 #[setV s u1, setV t u2] w (BoolQ (subB s t) w) := by
  have hud : ∀ b : Bool, (undef = Value.bool b) = False := fun b => by simp [undef]
  obtain ⟨q, hq⟩ : ∃ q, mergeS clr s t = q := ⟨_, rfl⟩
  obtain ⟨q1, q2⟩ := q
  obtain ⟨d, hd⟩ : ∃ d, subB s t = d := ⟨_, rfl⟩
  rw [hd]
  unfold subB at hd
  rw [hq] at hd
  simp only at hd
  have HD := Lib.hid hd
  have HQ := Lib.hid hq
  obtain ⟨m, hm⟩ : ∃ m, (memS q1).length = m := ⟨_, rfl⟩
  rw [hm] at hd
  have HM := Lib.hid hm
  clear hm hq HD
  have HD := Lib.hid hd
  clear hd
  obtain ⟨a1, c1, rfl, -, -, -, -⟩ := h1.cell
  obtain ⟨a2, c2, rfl, -, -, -, -⟩ := h2.cell
  obtain ⟨n1, hn1⟩ : ∃ n, s.words.length = n := ⟨_, rfl⟩
  obtain ⟨n2, hn2⟩ : ∃ n, t.words.length = n := ⟨_, rfl⟩
  rw [hn1] at h1 ⊢
  rw [hn2] at h2 ⊢
  obtain ⟨W, hW⟩ : ∃ W, (w.alloc (.cells #[.int .i64 s.width, .slice a1 n1 c1] 25)).alloc (.cells #[.int .i64 t.width, .slice a2 n2 c2] 25) = W := ⟨_, rfl⟩
  have B0 : Below w.heap.size w W := by rw [← hW]; exact ((Below.refl _ _).alloc (Nat.le_refl _) _).alloc (by simp) _
  have HB1 : W.heap[w.heap.size]? = some (.cells #[.int .i64 s.width, .slice a1 n1 c1] 25 (0, 0)) := by rw [← hW]; exact lies_alloc _ (heap_alloc_new _ _)
  have HB2 : W.heap[w.heap.size + 1]? = some (.cells #[.int .i64 t.width, .slice a2 n2 c2] 25 (0, 0)) := by rw [← hW]; exact lies_new2 _ _
  have H1 := Lib.hid HB1
  have H2 := Lib.hid HB2
  have HW := Lib.hid hW
  have BB := Lib.hid B0
  have R1 := Lib.hid (h1.below B0)
  have R2 := Lib.hid (h2.below B0)
  clear hW HB1 HB2 B0 hn1 hn2 h1 h2
  have x0 := (lies_cells H1.out).1 0
  have x1 := (lies_cells H1.out).1 1
  have y0 := (lies_cells H2.out).1 0
  have y1 := (lies_cells H2.out).1 1
  simp only [List.getElem?_toArray, List.getElem?_cons_zero, List.getElem?_cons_succ] at x0 x1 y0 y1
  go_enter Tryd.func31, Tryd.ntmps31
  go_wp2_with fail
  rw [show (w.alloc (.cells #[.int .i64 s.width, .slice a1 n1 c1] 25)).alloc (.cells #[.int .i64 t.width, .slice a2 n2 c2] 25) = W from HW.out]
  refine (bdiff_to HQ.out _ _ _ R1.out R2.out).mono ?_
  rintro e v ⟨u, rfl, hu, b⟩
  have HU := Lib.hid (NewS.words hu)
  obtain ⟨ua, un, uc, rfl⟩ := hu.shape
  have E1 := Lib.hid (BB.out.trans (b.mono BB.out.size))
  simp only at HU ⊢
  clear hu b x0 x1 y0 y1
  by_cases h0 : q2 = 0
  · subst h0
    go_wp2_with fail
    refine (bcount_to HM.out _ _ (HU.out.below ((Below.refl _ _).alloc (Nat.le_refl _) _))).mono ?_
    rintro e w2 ⟨rfl, b⟩
    have E2 := Lib.hid ((E1.out.alloc E1.out.size _).trans (b.mono (Nat.le_trans E1.out.size (by simp))))
    clear b
    by_cases hm0 : m = 0
    · subst hm0
      obtain rfl : d = true := by rw [← HD.out]; rfl
      go_wp2
      go_ret
      exact ⟨rfl, E2.out⟩
    · have g1 : ((m : Int) == 0) = false := by simp; omega
      obtain rfl : d = false := by rw [← HD.out]; simpa using hm0
      go_wp2
      go_ret
      exact ⟨rfl, E2.out⟩
  · have g1 : (q2 == 0) = false := by simpa using h0
    obtain rfl : d = false := by rw [← HD.out]; simp [h0]
    go_wp2
    go_ret
    exact ⟨rfl, E1.out.alloc E1.out.size _⟩
end Go.Proofs.YtmanmlankfoflaaDoor
