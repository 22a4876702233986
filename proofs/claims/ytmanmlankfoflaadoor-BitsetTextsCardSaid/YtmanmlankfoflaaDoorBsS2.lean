/- Walks: the reference's Same, Equal, Members, Subset; Ints at equal lists. Printed by wip/gen_bss2.py. -/
import Derived.Test.YtmanmlankfoflaaDoorBsAp
import Derived.Test.YtmanmlankfoflaaDoorBsZd
import Derived.Test.YtmanmlankfoflaaDoorBsS
set_option linter.unusedVariables false
set_option linter.unusedSimpArgs false
set_option linter.unusedSectionVars false
namespace Go.Proofs.YtmanmlankfoflaaDoor
open Go.RowKit
variable [Base]

def sameB (s t : QSet) : Bool := decide (s.width = t.width) && decide (s.words = t.words)
set_option maxHeartbeats 2000000 in
theorem rsame_gen (s t : QSet) (u1 u2 : Value) (w : World) (h1 : WordsAt w u1 s.words) (h2 : WordsAt w u2 t.words) : Calls Tryd.prog 25 #[setV s u1, setV t u2] w (BoolQ (sameB s t) w) := by
  have hud : ∀ b : Bool, (undef = Value.bool b) = False := fun b => by simp [undef]
  obtain ⟨d, hd⟩ : ∃ d, sameB s t = d := ⟨_, rfl⟩
  rw [hd]
  unfold sameB at hd
  have HD := Lib.hid hd
  obtain ⟨a1, c1, rfl, hm, -, -, hk1⟩ := h1.cell
  obtain ⟨a2, c2, rfl, -, -, -, hk2⟩ := h2.cell
  obtain ⟨n1, hn1⟩ : ∃ n, s.words.length = n := ⟨_, rfl⟩
  obtain ⟨n2, hn2⟩ : ∃ n, t.words.length = n := ⟨_, rfl⟩
  rw [hn1] at hm h1 ⊢
  rw [hn2] at h2 ⊢
  obtain ⟨W, hW⟩ : ∃ W, (w.alloc (.cells #[.int .i64 s.width, .slice a1 n1 c1] 25)).alloc (.cells #[.int .i64 t.width, .slice a2 n2 c2] 25) = W := ⟨_, rfl⟩
  have B0 : Below w.heap.size w W := by rw [← hW]; exact ((Below.refl _ _).alloc (Nat.le_refl _) _).alloc (by simp) _
  have HB1 : W.heap[w.heap.size]? = some (.cells #[.int .i64 s.width, .slice a1 n1 c1] 25 (0, 0)) := by rw [← hW]; exact lies_alloc _ (heap_alloc_new _ _)
  have HB2 : W.heap[w.heap.size + 1]? = some (.cells #[.int .i64 t.width, .slice a2 n2 c2] 25 (0, 0)) := by rw [← hW]; exact lies_new2 _ _
  have H1 := Lib.hid HB1
  have H2 := Lib.hid HB2
  have HW := Lib.hid hW
  have BB := Lib.hid B0
  have R1 := Lib.hid (h1.below B0)
  have R2 := Lib.hid (h2.below B0)
  have HK1 := Lib.hid hk1
  have HK2 := Lib.hid hk2
  have HN1 := Lib.hid hn1
  have HN2 := Lib.hid hn2
  unfold maxLen at hm
  clear hW HB1 HB2 B0 hn1 hn2 h1 h2 hk1 hk2 hd R1 R2
  by_cases hw : s.width = t.width
  rotate_left
  · obtain rfl : d = false := by rw [← HD.out]; simp [hw]
    have q1 : (s.width != t.width) = true := by simpa using hw
    clear hw
    go_enter Tryd.func25, Tryd.ntmps25
    go_wp2
    go_ret
    exact ⟨rfl, by rw [HW.out]; exact BB.out⟩
  have q1 : (s.width != t.width) = false := by simpa using hw
  by_cases hl : n1 = n2
  rotate_left
  · obtain rfl : d = false := by
      rw [← HD.out]
      have : s.words ≠ t.words := fun e => hl (by rw [← HN1.out, ← HN2.out, e])
      simp [this]
    have q2 : ((n1 : Int) != (n2 : Int)) = true := by simp; omega
    clear hw hl
    go_enter Tryd.func25, Tryd.ntmps25
    go_wp2
    go_ret
    exact ⟨rfl, by rw [HW.out]; exact BB.out⟩
  subst hl
  have HD2 := Lib.hid (show decide (s.words = t.words) = d by rw [← HD.out]; simp [hw])
  have q2 : ((n1 : Int) != (n1 : Int)) = false := by simp
  clear hw HD
  go_enter Tryd.func25, Tryd.ntmps25
  go_wp2_with fail
  rw [show (w.alloc (.cells #[.int .i64 s.width, .slice a1 n1 c1] 25)).alloc (.cells #[.int .i64 t.width, .slice a2 n1 c2] 25) = W from HW.out]
  go_loopw [5] (fun y wr => ∃ i : Nat, i ≤ n1 ∧ y = .int .i64 i ∧ Hid (s.words.take i = t.words.take i) ∧ Hid (Below W.heap.size W wr)) (fun y _ => n1 - (intOf y).toNat)
  case atStart => exact ⟨0, Nat.zero_le _, rfl, rfl, Below.refl _ _⟩
  case round =>
    obtain ⟨i, hi, rfl, HE, HB⟩ := hrel
    have G := Lib.hid (lies_below H1.out HB.out (lt_heap H1.out))
    have K := Lib.hid (lies_below H2.out HB.out (lt_heap H2.out))
    have x0 := (lies_cells G.out).1 0
    have x1 := (lies_cells G.out).1 1
    have y0 := (lies_cells K.out).1 0
    have y1 := (lies_cells K.out).1 1
    simp only [List.getElem?_toArray, List.getElem?_cons_zero, List.getElem?_cons_succ] at x0 x1 y0 y1
    by_cases hlt : i < n1
    · obtain ⟨x, hx⟩ : ∃ x, s.words[i]? = some x := ⟨_, List.getElem?_eq_getElem (show i < s.words.length by have := HN1.out; omega)⟩
      obtain ⟨y, hy⟩ : ∃ y, t.words[i]? = some y := ⟨_, List.getElem?_eq_getElem (show i < t.words.length by have := HN2.out; omega)⟩
      obtain ⟨b1, o1, rfl, hb1, -, hc1⟩ := HK1.out i x hx
      obtain ⟨b2, o2, rfl, hb2, -, hc2⟩ := HK2.out i y hy
      have g1 := ((BB.out.trans (HB.out.mono BB.out.size)).cell (p := ⟨b1, o1 + i, none⟩) hb1).trans hc1
      have g2 := ((BB.out.trans (HB.out.mono BB.out.size)).cell (p := ⟨b2, o2 + i, none⟩) hb2).trans hc2
      have e1 : (0 : Int) ≤ (i : Int) := by omega
      have e2 : (i : Int) < (n1 : Int) := by omega
      have HX := Lib.hid hx
      have HY := Lib.hid hy
      clear hc1 hc2 hx hy HK1 HK2
      by_cases hxy : x = y
      · subst hxy
        have q3 : ((x : Int) != (x : Int)) = false := by simp
        have HE2 := Lib.hid (show s.words.take (i + 1) = t.words.take (i + 1) by rw [List.take_add_one, List.take_add_one, HE.out, HX.out, HY.out])
        go_wp2
        go_quiet (fail)
        go_wp2
        go_roundw
        case rel => exact ⟨i + 1, by omega, by go_num, HE2, below_drewQ HB.out _⟩
        case measure => simp [intOf]; omega
      · have q3 : ((x : Int) != (y : Int)) = true := by simp; omega
        obtain rfl : d = false := by
          rw [← HD2.out]
          have : s.words ≠ t.words := by
            intro e
            have h1 := HX.out
            rw [e, HY.out] at h1
            injection h1 with h1
            exact hxy h1.symm
          simpa using this
        go_wp2
        go_quiet (fail)
        go_wp2
        go_ret
        exact ⟨rfl, below_drewQ (BB.out.trans (HB.out.mono BB.out.size)) _⟩
    · obtain rfl : i = n1 := by omega
      obtain rfl : d = true := by
        rw [← HD2.out]
        have h := HE.out
        rw [List.take_of_length_le (by have := HN1.out; omega), List.take_of_length_le (by have := HN2.out; omega)] at h
        simpa using h
      go_wp2
      go_ret
      exact ⟨rfl, BB.out.trans (HB.out.mono BB.out.size)⟩
theorem rsame_to {s t : QSet} {d : Bool} (h : sameB s t = d) (u1 u2 : Value) (w : World) (h1 : WordsAt w u1 s.words) (h2 : WordsAt w u2 t.words) : Calls Tryd.prog 25 #[setV s u1, setV t u2] w (BoolQ d w) := h ▸ rsame_gen s t u1 u2 w h1 h2
set_option maxHeartbeats 1000000 in
theorem requal_any (s t : QSet) (u1 u2 : Value) (w : World) (h1 : WordsAt w u1 s.words) (h2 : WordsAt w u2 t.words) : Calls Tryd.prog 52 #[setV s u1, setV t u2] w (BoolQ (eqB s t) w) := by
  obtain ⟨d, hd⟩ : ∃ d, eqB s t = d := ⟨_, rfl⟩
  rw [hd]
  have HD := Lib.hid hd
  have hud : ∀ b : Bool, (undef = Value.bool b) = False := fun b => by simp [undef]
  clear hd
  obtain ⟨a1, c1, rfl, -, -, -, -⟩ := h1.cell
  obtain ⟨a2, c2, rfl, -, -, -, -⟩ := h2.cell
  obtain ⟨n1, hn1⟩ : ∃ n, s.words.length = n := ⟨_, rfl⟩
  obtain ⟨n2, hn2⟩ : ∃ n, t.words.length = n := ⟨_, rfl⟩
  rw [hn1] at h1 ⊢
  rw [hn2] at h2 ⊢
  obtain ⟨W, hW⟩ : ∃ W, (w.alloc (.cells #[.int .i64 s.width, .slice a1 n1 c1] 25)).alloc (.cells #[.int .i64 t.width, .slice a2 n2 c2] 25) = W := ⟨_, rfl⟩
  have B0 : Below w.heap.size w W := by rw [← hW]; exact ((Below.refl _ _).alloc (Nat.le_refl _) _).alloc (by simp) _
  have HB1 : W.heap[w.heap.size]? = some (.cells #[.int .i64 s.width, .slice a1 n1 c1] 25 (0, 0)) := by rw [← hW]; exact lies_alloc _ (heap_alloc_new _ _)
  have HB2 : W.heap[w.heap.size + 1]? = some (.cells #[.int .i64 t.width, .slice a2 n2 c2] 25 (0, 0)) := by rw [← hW]; exact lies_new2 _ _
  have H1 := Lib.hid HB1
  have H2 := Lib.hid HB2
  have HW := Lib.hid hW
  have BB := Lib.hid B0
  have R1 := Lib.hid (h1.below B0)
  have R2 := Lib.hid (h2.below B0)
  clear hW HB1 HB2 B0 hn1 hn2 h1 h2
  rcases Bool.eq_false_or_eq_true (setB s) with hv | hv
  rotate_left
  · have HV := Lib.hid hv
    obtain rfl : d = false := by rw [← HD.out]; unfold eqB; rw [hv]; rfl
    clear hv
    have E0 := Lib.hid (Below.refl W.heap.size W)
    go_enter Tryd.func52, Tryd.ntmps52
    have x0 := (lies_cells H1.out).1 0
    have x1 := (lies_cells H1.out).1 1
    have y0 := (lies_cells H2.out).1 0
    have y1 := (lies_cells H2.out).1 1
    simp only [List.getElem?_toArray, List.getElem?_cons_zero, List.getElem?_cons_succ] at x0 x1 y0 y1
    go_wp2_with fail
    rw [show (w.alloc (.cells #[.int .i64 s.width, .slice a1 n1 c1] 25)).alloc (.cells #[.int .i64 t.width, .slice a2 n2 c2] 25) = W from HW.out]
    refine (rbvalid_to HV.out _ _ R1.out).mono ?_
    rintro e w1 ⟨rfl, b⟩
    have E1 := Lib.hid (E0.out.trans (b.mono E0.out.size))
    clear x0 x1 y0 y1 b
    have G1 := Lib.hid (lies_below H1.out E1.out (lt_heap H1.out))
    have K1 := Lib.hid (lies_below H2.out E1.out (lt_heap H2.out))
    have x0 := (lies_cells G1.out).1 0
    have x1 := (lies_cells G1.out).1 1
    have y0 := (lies_cells K1.out).1 0
    have y1 := (lies_cells K1.out).1 1
    simp only [List.getElem?_toArray, List.getElem?_cons_zero, List.getElem?_cons_succ] at x0 x1 y0 y1
    go_wp2
    go_ret
    exact ⟨rfl, BB.out.trans (E1.out.mono BB.out.size)⟩
  have HV := Lib.hid hv
  rcases Bool.eq_false_or_eq_true (setB t) with ht | ht
  rotate_left
  · have HT := Lib.hid ht
    obtain rfl : d = false := by rw [← HD.out]; unfold eqB; rw [hv, ht]; rfl
    clear hv ht
    have E0 := Lib.hid (Below.refl W.heap.size W)
    go_enter Tryd.func52, Tryd.ntmps52
    have x0 := (lies_cells H1.out).1 0
    have x1 := (lies_cells H1.out).1 1
    have y0 := (lies_cells H2.out).1 0
    have y1 := (lies_cells H2.out).1 1
    simp only [List.getElem?_toArray, List.getElem?_cons_zero, List.getElem?_cons_succ] at x0 x1 y0 y1
    go_wp2_with fail
    rw [show (w.alloc (.cells #[.int .i64 s.width, .slice a1 n1 c1] 25)).alloc (.cells #[.int .i64 t.width, .slice a2 n2 c2] 25) = W from HW.out]
    refine (rbvalid_to HV.out _ _ R1.out).mono ?_
    rintro e w1 ⟨rfl, b⟩
    have E1 := Lib.hid (E0.out.trans (b.mono E0.out.size))
    clear x0 x1 y0 y1 b
    have G1 := Lib.hid (lies_below H1.out E1.out (lt_heap H1.out))
    have K1 := Lib.hid (lies_below H2.out E1.out (lt_heap H2.out))
    have x0 := (lies_cells G1.out).1 0
    have x1 := (lies_cells G1.out).1 1
    have y0 := (lies_cells K1.out).1 0
    have y1 := (lies_cells K1.out).1 1
    simp only [List.getElem?_toArray, List.getElem?_cons_zero, List.getElem?_cons_succ] at x0 x1 y0 y1
    go_wp2_with fail
    refine (rbvalid_to HT.out _ _ (R2.out.below E1.out)).mono ?_
    rintro e w2 ⟨rfl, b⟩
    have E2 := Lib.hid (E1.out.trans (b.mono E1.out.size))
    clear x0 x1 y0 y1 b
    have G2 := Lib.hid (lies_below H1.out E2.out (lt_heap H1.out))
    have K2 := Lib.hid (lies_below H2.out E2.out (lt_heap H2.out))
    have x0 := (lies_cells G2.out).1 0
    have x1 := (lies_cells G2.out).1 1
    have y0 := (lies_cells K2.out).1 0
    have y1 := (lies_cells K2.out).1 1
    simp only [List.getElem?_toArray, List.getElem?_cons_zero, List.getElem?_cons_succ] at x0 x1 y0 y1
    go_wp2
    go_ret
    exact ⟨rfl, BB.out.trans (E2.out.mono BB.out.size)⟩
  · have HT := Lib.hid ht
    have HL : Hid (sameB s t = d) := Lib.hid (by rw [← HD.out]; unfold eqB sameB; rw [hv, ht]; simp)
    clear hv ht
    have E0 := Lib.hid (Below.refl W.heap.size W)
    go_enter Tryd.func52, Tryd.ntmps52
    have x0 := (lies_cells H1.out).1 0
    have x1 := (lies_cells H1.out).1 1
    have y0 := (lies_cells H2.out).1 0
    have y1 := (lies_cells H2.out).1 1
    simp only [List.getElem?_toArray, List.getElem?_cons_zero, List.getElem?_cons_succ] at x0 x1 y0 y1
    go_wp2_with fail
    rw [show (w.alloc (.cells #[.int .i64 s.width, .slice a1 n1 c1] 25)).alloc (.cells #[.int .i64 t.width, .slice a2 n2 c2] 25) = W from HW.out]
    refine (rbvalid_to HV.out _ _ R1.out).mono ?_
    rintro e w1 ⟨rfl, b⟩
    have E1 := Lib.hid (E0.out.trans (b.mono E0.out.size))
    clear x0 x1 y0 y1 b
    have G1 := Lib.hid (lies_below H1.out E1.out (lt_heap H1.out))
    have K1 := Lib.hid (lies_below H2.out E1.out (lt_heap H2.out))
    have x0 := (lies_cells G1.out).1 0
    have x1 := (lies_cells G1.out).1 1
    have y0 := (lies_cells K1.out).1 0
    have y1 := (lies_cells K1.out).1 1
    simp only [List.getElem?_toArray, List.getElem?_cons_zero, List.getElem?_cons_succ] at x0 x1 y0 y1
    go_wp2_with fail
    refine (rbvalid_to HT.out _ _ (R2.out.below E1.out)).mono ?_
    rintro e w2 ⟨rfl, b⟩
    have E2 := Lib.hid (E1.out.trans (b.mono E1.out.size))
    clear x0 x1 y0 y1 b
    have G2 := Lib.hid (lies_below H1.out E2.out (lt_heap H1.out))
    have K2 := Lib.hid (lies_below H2.out E2.out (lt_heap H2.out))
    have x0 := (lies_cells G2.out).1 0
    have x1 := (lies_cells G2.out).1 1
    have y0 := (lies_cells K2.out).1 0
    have y1 := (lies_cells K2.out).1 1
    simp only [List.getElem?_toArray, List.getElem?_cons_zero, List.getElem?_cons_succ] at x0 x1 y0 y1
    go_wp2_with fail
    refine (rsame_to HL.out _ _ _ (R1.out.below E2.out) (R2.out.below E2.out)).mono ?_
    rintro e w3 ⟨rfl, b⟩
    have E3 := Lib.hid (E2.out.trans (b.mono E2.out.size))
    clear x0 x1 y0 y1 b
    have G3 := Lib.hid (lies_below H1.out E3.out (lt_heap H1.out))
    have K3 := Lib.hid (lies_below H2.out E3.out (lt_heap H2.out))
    have x0 := (lies_cells G3.out).1 0
    have x1 := (lies_cells G3.out).1 1
    have y0 := (lies_cells K3.out).1 0
    have y1 := (lies_cells K3.out).1 1
    simp only [List.getElem?_toArray, List.getElem?_cons_zero, List.getElem?_cons_succ] at x0 x1 y0 y1
    go_wp2
    go_ret
    exact ⟨rfl, BB.out.trans (E3.out.mono BB.out.size)⟩
set_option maxHeartbeats 1000000 in
theorem rints_same (l : List Int) (u1 u2 : Value) (w : World) (h1 : IntsAt w u1 l) (h2 : IntsAt w u2 l) : Calls Tryd.prog 42 #[u1, u2] w (BoolQ true w) := by
  obtain ⟨a1, c1, rfl, hm, -, -, hk1⟩ := h1.cell
  obtain ⟨a2, c2, rfl, -, -, -, hk2⟩ := h2.cell
  obtain ⟨n, hn⟩ : ∃ n, l.length = n := ⟨_, rfl⟩
  rw [hn] at hm ⊢
  have HN := Lib.hid hn
  have HK1 := Lib.hid hk1
  have HK2 := Lib.hid hk2
  unfold maxLen at hm
  clear hk1 hk2 h1 h2 hn
  go_enter Tryd.func42, Tryd.ntmps42
  have hnn : ((n : Int) != (n : Int)) = false := by simp
  go_wp2_with fail
  go_loopw [5] (fun y wr => ∃ i : Nat, i ≤ n ∧ y = .int .i64 i ∧ Hid (Below w.heap.size w wr)) (fun y _ => n - (intOf y).toNat)
  case atStart => exact ⟨0, Nat.zero_le _, rfl, Below.refl _ _⟩
  case round =>
    obtain ⟨i, hi, rfl, HB⟩ := hrel
    by_cases hlt : i < n
    · obtain ⟨x, hx⟩ : ∃ x, l[i]? = some x := ⟨_, List.getElem?_eq_getElem (show i < l.length by have := HN.out; omega)⟩
      obtain ⟨b1, o1, rfl, hb1, hc1⟩ := HK1.out i x hx
      obtain ⟨b2, o2, rfl, hb2, hc2⟩ := HK2.out i x hx
      have g1 := (HB.out.cell (p := ⟨b1, o1 + i, none⟩) hb1).trans hc1
      have g2 := (HB.out.cell (p := ⟨b2, o2 + i, none⟩) hb2).trans hc2
      unfold iv at g1 g2
      have e1 : (0 : Int) ≤ (i : Int) := by omega
      have e2 : (i : Int) < (n : Int) := by omega
      have q1 : (x != x) = false := by simp
      clear hc1 hc2 hx HK1 HK2
      go_wp2
      go_quiet (fail)
      go_wp2
      go_roundw
      case rel => exact ⟨i + 1, by omega, by go_num, below_drewQ HB.out _⟩
      case measure => simp [intOf]; omega
    · obtain rfl : i = n := by omega
      go_wp2
      go_ret
      exact ⟨rfl, HB.out⟩
def memUp (s : QSet) (i : Nat) : List Nat := (List.range i).filter (bitOf s.words)
theorem memUp_yes {s : QSet} {i : Nat} (h : bitOf s.words i = true) : memUp s (i + 1) = memUp s i ++ [i] := by unfold memUp; rw [List.range_succ, List.filter_append]; simp [h]
theorem memUp_no {s : QSet} {i : Nat} (h : bitOf s.words i = false) : memUp s (i + 1) = memUp s i := by unfold memUp; rw [List.range_succ, List.filter_append]; simp [h]
theorem memUp_len (s : QSet) (i : Nat) : (memUp s i).length ≤ i := by unfold memUp; exact Nat.le_trans (List.length_filter_le _ _) (by simp)
theorem memUp_end {m : Nat} {s : QSet} (h : Ok m s) : memUp s m = memS s := by unfold memUp memS; rw [if_pos h.ok, h.width]; rfl
theorem MIn.after {w0 wr w2 : World} {v : Value} {l : List Nat} (h : MIn w0 wr v l) (hb : Below wr.heap.size wr w2) : MIn w0 w2 v l := by
  refine ⟨h.below.trans (hb.mono h.below.size), h.own.1, ?_⟩
  rcases h.own.2 with hn | ⟨g, cap, cur, rfl, hg, hh, rest⟩
  · exact .inl hn
  · exact .inr ⟨g, cap, cur, rfl, hg, (hb.block g (lt_heap hh)).trans hh, rest⟩
set_option maxHeartbeats 2000000 in
theorem rmembers_any (s : QSet) (u : Value) (w : World) (h : WordsAt w u s.words) : Calls Tryd.prog 44 #[setV s u] w (IntsQ ((memS s).map fun n : Nat => (n : Int)) w) := by
  have hud : ∀ b : Bool, (undef = Value.bool b) = False := fun b => by simp [undef]
  obtain ⟨a, n, c, rfl⟩ : ∃ a n c, u = .slice a n c := by obtain ⟨a, c, rfl, -⟩ := h.cell; exact ⟨_, _, _, rfl⟩
  obtain ⟨W, hW⟩ : ∃ W, w.alloc (.cells #[.int .i64 s.width, .slice a n c] 25) = W := ⟨_, rfl⟩
  have B0 : Below w.heap.size w W := by rw [← hW]; exact (Below.refl _ _).alloc (Nat.le_refl _) _
  have H0 := Lib.hid (show W.heap[w.heap.size]? = some (.cells #[.int .i64 s.width, .slice a n c] 25 (0, 0)) by rw [← hW]; exact heap_alloc_new _ _)
  have HW := Lib.hid hW
  have BB := Lib.hid B0
  have HR := Lib.hid (h.below B0)
  have HOK := Lib.hid h.2
  clear hW B0 h
  rcases Bool.eq_false_or_eq_true (setB s) with hv | hv
  rotate_left
  · have HV := Lib.hid hv
    rw [memS_no hv]
    have x0 := (lies_cells H0.out).1 0
    have x1 := (lies_cells H0.out).1 1
    simp only [List.getElem?_toArray, List.getElem?_cons_zero, List.getElem?_cons_succ] at x0 x1
    clear hv
    go_enter Tryd.func44, Tryd.ntmps44
    go_wp2_with fail
    rw [show w.alloc (.cells #[.int .i64 s.width, .slice a n c] 25) = W from HW.out]
    refine wp_loop_rounds 1 ?_
    rw [rounds_succ]
    go_wp2_with fail
    refine (rbvalid_to HV.out _ _ HR.out).mono ?_
    rintro e w1 ⟨rfl, b1⟩
    have B1 := Lib.hid (BB.out.trans (b1.mono BB.out.size))
    clear x0 x1 b1
    go_wp2
    go_ret
    exact ⟨_, rfl, IntsAt.nil, B1.out⟩
  have HV := Lib.hid hv
  obtain ⟨m, hm, hm2, -⟩ := form_len (valid_form hv HOK.out)
  have HM := Lib.hid (show Ok m s from ⟨valid_form hv HOK.out, hv, hm⟩)
  have HE := Lib.hid (memUp_end HM.out)
  clear hv hm
  go_enter Tryd.func44, Tryd.ntmps44
  go_wp2_with fail
  rw [show w.alloc (.cells #[.int .i64 s.width, .slice a n c] 25) = W from HW.out]
  have I0 := Lib.hid (show MIn W W (.slice none 0 0) (memUp s 0) from ⟨Below.refl _ _, World.ownsRow_nil _ _ _ _⟩)
  go_loopw [3, 4] (fun z y wr => ∃ i : Nat, i ≤ m ∧ y = .int .i64 i ∧ Hid (MIn W wr z (memUp s i))) (fun _ y _ => m - (intOf y).toNat)
  case atStart => exact ⟨0, Nat.zero_le _, rfl, I0⟩
  case round =>
    clear I0
    obtain ⟨i, hi, rfl, I⟩ := hrel
    obtain ⟨za, zc, rfl, zl, zm⟩ := I.out.shape
    obtain ⟨ln, hln⟩ : ∃ ln, (memUp s i).length = ln := ⟨_, rfl⟩
    have hl4 := memUp_len s i
    rw [hln] at zl hl4 I ⊢
    have HLN := Lib.hid hln
    clear hln
    have G := Lib.hid (lies_below H0.out I.out.below (lt_heap H0.out))
    have x0 := (lies_cells G.out).1 0
    have x1 := (lies_cells G.out).1 1
    simp only [List.getElem?_toArray, List.getElem?_cons_zero, List.getElem?_cons_succ] at x0 x1
    go_wp2_with fail
    refine (rbvalid_to HV.out _ _ (HR.out.below I.out.below)).mono ?_
    rintro e w1 ⟨rfl, b1⟩
    have J := Lib.hid (I.out.after b1)
    have G1 := Lib.hid (lies_below G.out b1 (lt_heap G.out))
    clear x0 x1 b1 I G
    have x0 := (lies_cells G1.out).1 0
    have x1 := (lies_cells G1.out).1 1
    simp only [List.getElem?_toArray, List.getElem?_cons_zero, List.getElem?_cons_succ] at x0 x1
    by_cases hlt : i < m
    · have i2 : decide ((i : Int) < s.width) = true := by rw [HM.out.width]; simpa using hlt
      obtain ⟨bx, hbx⟩ : ∃ b, bitOf s.words i = b := ⟨_, rfl⟩
      have hx := Lib.hid (show hasB s (i : Int) = bx by rw [← hbx]; exact hasB_bit HM.out hlt)
      go_wp2_with fail
      refine (rhas_at hx.out _ _ (HR.out.below J.out.below)).mono ?_
      rintro e w2 ⟨rfl, b2⟩
      have I := Lib.hid (J.out.after b2)
      clear x0 x1 b2 J
      cases bx with
      | true =>
        have HN := Lib.hid (memUp_yes hbx)
        have OWN := Lib.hid (show w2.ownsRow W.heap.size 3 1 (.slice za ln zc) ln (miv (memUp s i)) by have h := I.out.own; rw [HLN.out] at h; exact h)
        clear hbx
        go_wp2_with (at_builtin; go_must (refine wpList_push [iv (i : Int)] rfl _ _ 22 rfl W.heap.size 3 _ 1 8 Tryd.underlying22 info_int rfl (by decide) _ ln _ OWN.out rfl rfl rfl rfl (by unfold maxLen; omega) (by omega) I.out.below.size ?_; intro g cap w6 own2 gr2 p1 p2; have OW2 := Lib.hid own2; have GR2 := Lib.hid gr2; clear own2 gr2 p1 p2))
        have L6 := Lib.hid (I.out.push (x := i) (by rw [HLN.out]; exact OW2.out) GR2.out)
        rw [← HN.out] at L6
        go_roundw
        case rel => exact ⟨i + 1, by omega, by go_num, L6⟩
        case measure => simp [intOf]; omega
      | false =>
        have HN := Lib.hid (memUp_no hbx)
        rw [← HN.out] at I
        clear hbx
        go_wp2
        go_roundw
        case rel => exact ⟨i + 1, by omega, by go_num, I⟩
        case measure => simp [intOf]; omega
    · obtain rfl : i = m := by omega
      have i2 : decide ((i : Int) < s.width) = false := by rw [HM.out.width]; simp
      go_wp2
      go_ret
      refine ⟨_, rfl, ?_, BB.out.trans (J.out.below.mono BB.out.size)⟩
      rw [← HE.out]
      exact J.out.ints
theorem rdiff_to {s t r : QSet} {n : Int} (h : mergeS clr s t = (r, n)) (u1 u2 : Value) (w : World) (h1 : WordsAt w u1 s.words) (h2 : WordsAt w u2 t.words) : Calls Tryd.prog 24 #[setV s u1, setV t u2] w (SetE (r, n) w) := h ▸ rdiff_any s t u1 u2 w h1 h2
theorem rmembers_to {s : QSet} {n : Nat} (hn : (memS s).length = n) (u : Value) (w : World) (h : WordsAt w u s.words) : Calls Tryd.prog 44 #[setV s u] w (fun e w' => ∃ a c, e = .returned (.slice a n c) ∧ Below w.heap.size w w') :=
  (rmembers_any s u w h).mono fun e w' ⟨v, he, hi, hb⟩ => by
    obtain ⟨a, c, rfl, -⟩ := hi.cell
    rw [List.length_map, hn] at he
    exact ⟨a, c, he, hb⟩
set_option maxHeartbeats 1000000 in
theorem rsubset_any (s t : QSet) (u1 u2 : Value) (w : World) (h1 : WordsAt w u1 s.words) (h2 : WordsAt w u2 t.words) : Calls Tryd.prog 53 #[setV s u1, setV t u2] w (BoolQ (subB s t) w) := by
  have hud : ∀ b : Bool, (undef = Value.bool b) = False := fun b => by simp [undef]
  obtain ⟨q, hq⟩ : ∃ q, mergeS clr s t = q := ⟨_, rfl⟩
  obtain ⟨q1, q2⟩ := q
  obtain ⟨d, hd⟩ : ∃ d, subB s t = d := ⟨_, rfl⟩
  rw [hd]
  unfold subB at hd
  rw [hq] at hd
  simp only at hd
  have HD := Lib.hid hd
  have HQ := Lib.hid hq
  obtain ⟨m, hm⟩ : ∃ m, (memS q1).length = m := ⟨_, rfl⟩
  rw [hm] at hd
  have HM := Lib.hid hm
  clear hm hq HD
  have HD := Lib.hid hd
  clear hd
  obtain ⟨a1, c1, rfl, -, -, -, -⟩ := h1.cell
  obtain ⟨a2, c2, rfl, -, -, -, -⟩ := h2.cell
  obtain ⟨n1, hn1⟩ : ∃ n, s.words.length = n := ⟨_, rfl⟩
  obtain ⟨n2, hn2⟩ : ∃ n, t.words.length = n := ⟨_, rfl⟩
  rw [hn1] at h1 ⊢
  rw [hn2] at h2 ⊢
  obtain ⟨W, hW⟩ : ∃ W, (w.alloc (.cells #[.int .i64 s.width, .slice a1 n1 c1] 25)).alloc (.cells #[.int .i64 t.width, .slice a2 n2 c2] 25) = W := ⟨_, rfl⟩
  have B0 : Below w.heap.size w W := by rw [← hW]; exact ((Below.refl _ _).alloc (Nat.le_refl _) _).alloc (by simp) _
  have HB1 : W.heap[w.heap.size]? = some (.cells #[.int .i64 s.width, .slice a1 n1 c1] 25 (0, 0)) := by rw [← hW]; exact lies_alloc _ (heap_alloc_new _ _)
  have HB2 : W.heap[w.heap.size + 1]? = some (.cells #[.int .i64 t.width, .slice a2 n2 c2] 25 (0, 0)) := by rw [← hW]; exact lies_new2 _ _
  have H1 := Lib.hid HB1
  have H2 := Lib.hid HB2
  have HW := Lib.hid hW
  have BB := Lib.hid B0
  have R1 := Lib.hid (h1.below B0)
  have R2 := Lib.hid (h2.below B0)
  clear hW HB1 HB2 B0 hn1 hn2 h1 h2
  have x0 := (lies_cells H1.out).1 0
  have x1 := (lies_cells H1.out).1 1
  have y0 := (lies_cells H2.out).1 0
  have y1 := (lies_cells H2.out).1 1
  simp only [List.getElem?_toArray, List.getElem?_cons_zero, List.getElem?_cons_succ] at x0 x1 y0 y1
  go_enter Tryd.func53, Tryd.ntmps53
  go_wp2_with fail
  rw [show (w.alloc (.cells #[.int .i64 s.width, .slice a1 n1 c1] 25)).alloc (.cells #[.int .i64 t.width, .slice a2 n2 c2] 25) = W from HW.out]
  refine (rdiff_to HQ.out _ _ _ R1.out R2.out).mono ?_
  rintro e v ⟨u, rfl, hu, b⟩
  have HU := Lib.hid (NewS.words hu)
  obtain ⟨ua, un, uc, rfl⟩ := hu.shape
  have E1 := Lib.hid (BB.out.trans (b.mono BB.out.size))
  simp only at HU ⊢
  clear hu b x0 x1 y0 y1
  by_cases h0 : q2 = 0
  · subst h0
    go_wp2_with fail
    refine (rmembers_to HM.out _ _ (HU.out.below ((Below.refl _ _).alloc (Nat.le_refl _) _))).mono ?_
    rintro e w2 ⟨ra, rc, rfl, b⟩
    have E2 := Lib.hid ((E1.out.alloc E1.out.size _).trans (b.mono (Nat.le_trans E1.out.size (by simp))))
    clear b
    by_cases hm0 : m = 0
    · subst hm0
      obtain rfl : d = true := by rw [← HD.out]; rfl
      go_wp2
      go_ret
      exact ⟨rfl, E2.out⟩
    · have g1 : ((m : Int) == 0) = false := by simp; omega
      obtain rfl : d = false := by rw [← HD.out]; simpa using hm0
      go_wp2
      go_ret
      exact ⟨rfl, E2.out⟩
  · have g1 : (q2 == 0) = false := by simpa using h0
    obtain rfl : d = false := by rw [← HD.out]; simp [h0]
    go_wp2
    go_ret
    exact ⟨rfl, E1.out.alloc E1.out.size _⟩
end Go.Proofs.YtmanmlankfoflaaDoor
