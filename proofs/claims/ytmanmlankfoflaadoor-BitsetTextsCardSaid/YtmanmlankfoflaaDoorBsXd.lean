/- Walks: the program's merge with Diff's closure, Diff. Printed by wip/gen_bsx.py. -/
import Derived.Test.YtmanmlankfoflaaDoorBsX
set_option linter.unusedVariables false
set_option linter.unusedSimpArgs false
set_option linter.unusedSectionVars false
namespace Go.Proofs.YtmanmlankfoflaaDoor
open Go.RowKit
variable [Base]

set_option maxRecDepth 100000 in
set_option maxHeartbeats 4000000 in
theorem merged_any (f : Nat → Nat → Nat) (hf : FunQ 58 f) (s t : QSet) (u1 u2 : Value) (w : World) (h1 : WordsAt w u1 s.words) (h2 : WordsAt w u2 t.words) :
    Calls Tryd.prog 55 #[setV s u1, setV t u2, .func (.func 58) #[] #[]] w (SetE (mergeS f s t) w) := by
  have hud : ∀ b : Bool, (undef = Value.bool b) = False := fun b => by simp [undef]
  obtain ⟨a1, c1, rfl, hm1, hc1, hcm1, hk1⟩ := h1.cell
  obtain ⟨a2, c2, rfl, hm2, hc2, hcm2, hk2⟩ := h2.cell
  obtain ⟨n1, hn1⟩ : ∃ n, s.words.length = n := ⟨_, rfl⟩
  obtain ⟨n2, hn2⟩ : ∃ n, t.words.length = n := ⟨_, rfl⟩
  have R1 := Lib.hid h1
  have R2 := Lib.hid h2
  rw [hn1] at hm1 hc1 R1 ⊢
  rw [hn2] at hm2 hc2 R2 ⊢
  have N1 := Lib.hid hn1
  have N2 := Lib.hid hn2
  have K1 := Lib.hid hk1
  have K2 := Lib.hid hk2
  have OK1 := Lib.hid h1.2
  have OK2 := Lib.hid h2.2
  have HF := Lib.hid hf
  obtain ⟨W, hW⟩ : ∃ W, ((w.alloc (.cells #[.int .i64 s.width, .slice a1 n1 c1] 25)).alloc (.cells #[.int .i64 t.width, .slice a2 n2 c2] 25)).alloc (.cells #[.int .i64 0, .slice none 0 0] 25) = W := ⟨_, rfl⟩
  have B0 : Below w.heap.size w W := by rw [← hW]; exact (((Below.refl _ _).alloc (Nat.le_refl _) _).alloc (by simp) _).alloc (by simp; omega) _
  have L1 : W.heap[w.heap.size]? = some (.cells #[.int .i64 s.width, .slice a1 n1 c1] 25 (0, 0)) := by rw [← hW]; exact lies_alloc _ (lies_alloc _ (heap_alloc_new _ _))
  have L2 : W.heap[w.heap.size + 1]? = some (.cells #[.int .i64 t.width, .slice a2 n2 c2] 25 (0, 0)) := by rw [← hW]; exact lies_alloc _ (lies_new2 _ _)
  have L3 : W.heap[w.heap.size + 1 + 1]? = some (.cells #[.int .i64 0, .slice none 0 0] 25 (0, 0)) := by rw [← hW]; have k := heap_alloc_new ((w.alloc (.cells #[.int .i64 s.width, .slice a1 n1 c1] 25)).alloc (.cells #[.int .i64 t.width, .slice a2 n2 c2] 25)) (.cells #[.int .i64 0, .slice none 0 0] 25); simp only [World.size_alloc] at k; exact k
  have HW := Lib.hid hW
  have BB := Lib.hid B0
  have H1 := Lib.hid L1
  have H2 := Lib.hid L2
  have H3 := Lib.hid L3
  have x0 := (lies_cells L1).1 0
  have x1 := (lies_cells L1).1 1
  have y0 := (lies_cells L2).1 0
  have y1 := (lies_cells L2).1 1
  have z0 := (lies_cells L3).1 0
  have z1 := (lies_cells L3).1 1
  have f0 := (lies_cells L3).2 0
  have f1 := (lies_cells L3).2 1
  simp only [List.getElem?_toArray, List.getElem?_cons_zero, List.getElem?_cons_succ] at x0 x1 y0 y1 z0 z1
  unfold maxLen at hm1 hm2
  clear hW B0 L1 L2 L3 h1 h2 hn1 hn2 hk1 hk2 hf
  rcases Bool.eq_false_or_eq_true (setB s) with hv1 | hv1
  rotate_left
  · rw [show mergeS f s t = (zeroS, 1) from by unfold mergeS; rw [if_pos (Or.inl hv1)]]
    have HV1 := Lib.hid hv1
    clear hv1
    go_enter Tryd.func55, Tryd.ntmps55
    go_wp2_with fail
    rw [show ((w.alloc (.cells #[.int .i64 s.width, .slice a1 _ c1] 25)).alloc (.cells #[.int .i64 t.width, .slice a2 _ c2] 25)).alloc (.cells #[.int .i64 0, .slice none 0 0] 25) = W from HW.out]
    refine (bvalid_to HV1.out _ _ (R1.out.below BB.out)).mono ?_
    rintro e v1 ⟨rfl, b1⟩
    have B1 := Lib.hid (BB.out.trans (b1.mono BB.out.size))
    have M11 := Lib.hid (lies_below H1.out b1 (lt_heap H1.out))
    have M12 := Lib.hid (lies_below H2.out b1 (lt_heap H2.out))
    have M13 := Lib.hid (lies_below H3.out b1 (lt_heap H3.out))
    clear b1
    clear x0 x1 y0 y1 z0 z1 f0 f1
    have x0 := (lies_cells M11.out).1 0
    have x1 := (lies_cells M11.out).1 1
    have y0 := (lies_cells M12.out).1 0
    have y1 := (lies_cells M12.out).1 1
    have z0 := (lies_cells M13.out).1 0
    have z1 := (lies_cells M13.out).1 1
    have f0 := (lies_cells M13.out).2 0
    have f1 := (lies_cells M13.out).2 1
    simp only [List.getElem?_toArray, List.getElem?_cons_zero, List.getElem?_cons_succ] at x0 x1 y0 y1 z0 z1
    go_wp2
    refine bodyPost_ret (v := .tuple #[zeroV, .int .i64 1]) (by simp [results, Tryd.results55, go_sem, z0, z1]) rfl (ZeroE.set ⟨rfl, (B1.out.setCell (p := ⟨w.heap.size + 1 + 1, 0, none⟩) (by show w.heap.size ≤ w.heap.size + 1 + 1; omega) _).setCell (p := ⟨w.heap.size + 1 + 1, 1, none⟩) (by show w.heap.size ≤ w.heap.size + 1 + 1; omega) _⟩)
  have HV1 := Lib.hid hv1
  rcases Bool.eq_false_or_eq_true (setB t) with hv2 | hv2
  rotate_left
  · rw [show mergeS f s t = (zeroS, 1) from by unfold mergeS; rw [if_pos (Or.inr hv2)]]
    have HV2 := Lib.hid hv2
    clear hv1 hv2
    go_enter Tryd.func55, Tryd.ntmps55
    go_wp2_with fail
    rw [show ((w.alloc (.cells #[.int .i64 s.width, .slice a1 _ c1] 25)).alloc (.cells #[.int .i64 t.width, .slice a2 _ c2] 25)).alloc (.cells #[.int .i64 0, .slice none 0 0] 25) = W from HW.out]
    refine (bvalid_to HV1.out _ _ (R1.out.below BB.out)).mono ?_
    rintro e v1 ⟨rfl, b1⟩
    have B1 := Lib.hid (BB.out.trans (b1.mono BB.out.size))
    have M11 := Lib.hid (lies_below H1.out b1 (lt_heap H1.out))
    have M12 := Lib.hid (lies_below H2.out b1 (lt_heap H2.out))
    have M13 := Lib.hid (lies_below H3.out b1 (lt_heap H3.out))
    clear b1
    clear x0 x1 y0 y1 z0 z1 f0 f1
    have x0 := (lies_cells M11.out).1 0
    have x1 := (lies_cells M11.out).1 1
    have y0 := (lies_cells M12.out).1 0
    have y1 := (lies_cells M12.out).1 1
    have z0 := (lies_cells M13.out).1 0
    have z1 := (lies_cells M13.out).1 1
    have f0 := (lies_cells M13.out).2 0
    have f1 := (lies_cells M13.out).2 1
    simp only [List.getElem?_toArray, List.getElem?_cons_zero, List.getElem?_cons_succ] at x0 x1 y0 y1 z0 z1
    go_wp2_with fail
    refine (bvalid_to HV2.out _ _ (R2.out.below B1.out)).mono ?_
    rintro e v2 ⟨rfl, b2⟩
    have B2 := Lib.hid (B1.out.trans (b2.mono B1.out.size))
    have M21 := Lib.hid (lies_below M11.out b2 (lt_heap M11.out))
    have M22 := Lib.hid (lies_below M12.out b2 (lt_heap M12.out))
    have M23 := Lib.hid (lies_below M13.out b2 (lt_heap M13.out))
    clear b2
    clear x0 x1 y0 y1 z0 z1 f0 f1
    have x0 := (lies_cells M21.out).1 0
    have x1 := (lies_cells M21.out).1 1
    have y0 := (lies_cells M22.out).1 0
    have y1 := (lies_cells M22.out).1 1
    have z0 := (lies_cells M23.out).1 0
    have z1 := (lies_cells M23.out).1 1
    have f0 := (lies_cells M23.out).2 0
    have f1 := (lies_cells M23.out).2 1
    simp only [List.getElem?_toArray, List.getElem?_cons_zero, List.getElem?_cons_succ] at x0 x1 y0 y1 z0 z1
    go_wp2
    refine bodyPost_ret (v := .tuple #[zeroV, .int .i64 1]) (by simp [results, Tryd.results55, go_sem, z0, z1]) rfl (ZeroE.set ⟨rfl, (B2.out.setCell (p := ⟨w.heap.size + 1 + 1, 0, none⟩) (by show w.heap.size ≤ w.heap.size + 1 + 1; omega) _).setCell (p := ⟨w.heap.size + 1 + 1, 1, none⟩) (by show w.heap.size ≤ w.heap.size + 1 + 1; omega) _⟩)
  have HV2 := Lib.hid hv2
  by_cases hd : s.width = t.width
  rotate_left
  · rw [show mergeS f s t = (zeroS, 2) from by unfold mergeS; rw [if_neg (by rw [hv1, hv2]; simp), if_pos hd]]
    have hdb : (s.width != t.width) = true := by simpa using hd
    clear hv1 hv2
    go_enter Tryd.func55, Tryd.ntmps55
    go_wp2_with fail
    rw [show ((w.alloc (.cells #[.int .i64 s.width, .slice a1 _ c1] 25)).alloc (.cells #[.int .i64 t.width, .slice a2 _ c2] 25)).alloc (.cells #[.int .i64 0, .slice none 0 0] 25) = W from HW.out]
    refine (bvalid_to HV1.out _ _ (R1.out.below BB.out)).mono ?_
    rintro e v1 ⟨rfl, b1⟩
    have B1 := Lib.hid (BB.out.trans (b1.mono BB.out.size))
    have M11 := Lib.hid (lies_below H1.out b1 (lt_heap H1.out))
    have M12 := Lib.hid (lies_below H2.out b1 (lt_heap H2.out))
    have M13 := Lib.hid (lies_below H3.out b1 (lt_heap H3.out))
    clear b1
    clear x0 x1 y0 y1 z0 z1 f0 f1
    have x0 := (lies_cells M11.out).1 0
    have x1 := (lies_cells M11.out).1 1
    have y0 := (lies_cells M12.out).1 0
    have y1 := (lies_cells M12.out).1 1
    have z0 := (lies_cells M13.out).1 0
    have z1 := (lies_cells M13.out).1 1
    have f0 := (lies_cells M13.out).2 0
    have f1 := (lies_cells M13.out).2 1
    simp only [List.getElem?_toArray, List.getElem?_cons_zero, List.getElem?_cons_succ] at x0 x1 y0 y1 z0 z1
    go_wp2_with fail
    refine (bvalid_to HV2.out _ _ (R2.out.below B1.out)).mono ?_
    rintro e v2 ⟨rfl, b2⟩
    have B2 := Lib.hid (B1.out.trans (b2.mono B1.out.size))
    have M21 := Lib.hid (lies_below M11.out b2 (lt_heap M11.out))
    have M22 := Lib.hid (lies_below M12.out b2 (lt_heap M12.out))
    have M23 := Lib.hid (lies_below M13.out b2 (lt_heap M13.out))
    clear b2
    clear x0 x1 y0 y1 z0 z1 f0 f1
    have x0 := (lies_cells M21.out).1 0
    have x1 := (lies_cells M21.out).1 1
    have y0 := (lies_cells M22.out).1 0
    have y1 := (lies_cells M22.out).1 1
    have z0 := (lies_cells M23.out).1 0
    have z1 := (lies_cells M23.out).1 1
    have f0 := (lies_cells M23.out).2 0
    have f1 := (lies_cells M23.out).2 1
    simp only [List.getElem?_toArray, List.getElem?_cons_zero, List.getElem?_cons_succ] at x0 x1 y0 y1 z0 z1
    go_wp2
    refine bodyPost_ret (v := .tuple #[zeroV, .int .i64 2]) (by simp [results, Tryd.results55, go_sem, z0, z1]) rfl (ZeroE.set ⟨rfl, (B2.out.setCell (p := ⟨w.heap.size + 1 + 1, 0, none⟩) (by show w.heap.size ≤ w.heap.size + 1 + 1; omega) _).setCell (p := ⟨w.heap.size + 1 + 1, 1, none⟩) (by show w.heap.size ≤ w.heap.size + 1 + 1; omega) _⟩)
  rw [show mergeS f s t = (zipS f s t, 0) from by unfold mergeS; rw [if_neg (by rw [hv1, hv2]; simp), if_neg (by simpa using hd)]]
  have hdb : (s.width != t.width) = false := by simpa using hd
  have F1 := Lib.hid (valid_form hv1 OK1.out)
  have F2 := Lib.hid (valid_form hv2 OK2.out)
  obtain ⟨m, e1, e2, e3⟩ := form_len F1.out
  obtain ⟨m2, e4, e5, e6⟩ := form_len F2.out
  have HD := Lib.hid hd
  have hmm : m2 = m := by omega
  subst hmm
  have HM := Lib.hid e1
  have hnn : n1 = wordsN m2 := by have := N1.out; omega
  have hnn2 : n2 = wordsN m2 := by have := N2.out; omega
  subst hnn hnn2
  have hwn : wordsN m2 ≤ 4 := by unfold wordsN; omega
  have hmk := fun w => run_make_u64 (wordsN m2) (by omega) (wordsN m2 : Nat) rfl w
  clear hv1 hv2 e1 e3 e4 e6 hd
  go_enter Tryd.func55, Tryd.ntmps55
  go_wp2_with fail
  rw [show ((w.alloc (.cells #[.int .i64 s.width, .slice a1 _ c1] 25)).alloc (.cells #[.int .i64 t.width, .slice a2 _ c2] 25)).alloc (.cells #[.int .i64 0, .slice none 0 0] 25) = W from HW.out]
  refine (bvalid_to HV1.out _ _ (R1.out.below BB.out)).mono ?_
  rintro e v1 ⟨rfl, b1⟩
  have B1 := Lib.hid (BB.out.trans (b1.mono BB.out.size))
  have M11 := Lib.hid (lies_below H1.out b1 (lt_heap H1.out))
  have M12 := Lib.hid (lies_below H2.out b1 (lt_heap H2.out))
  have M13 := Lib.hid (lies_below H3.out b1 (lt_heap H3.out))
  clear b1
  clear x0 x1 y0 y1 z0 z1 f0 f1
  have x0 := (lies_cells M11.out).1 0
  have x1 := (lies_cells M11.out).1 1
  have y0 := (lies_cells M12.out).1 0
  have y1 := (lies_cells M12.out).1 1
  have z0 := (lies_cells M13.out).1 0
  have z1 := (lies_cells M13.out).1 1
  have f0 := (lies_cells M13.out).2 0
  have f1 := (lies_cells M13.out).2 1
  simp only [List.getElem?_toArray, List.getElem?_cons_zero, List.getElem?_cons_succ] at x0 x1 y0 y1 z0 z1
  go_wp2_with fail
  refine (bvalid_to HV2.out _ _ (R2.out.below B1.out)).mono ?_
  rintro e v2 ⟨rfl, b2⟩
  have B2 := Lib.hid (B1.out.trans (b2.mono B1.out.size))
  have M21 := Lib.hid (lies_below M11.out b2 (lt_heap M11.out))
  have M22 := Lib.hid (lies_below M12.out b2 (lt_heap M12.out))
  have M23 := Lib.hid (lies_below M13.out b2 (lt_heap M13.out))
  clear b2
  clear x0 x1 y0 y1 z0 z1 f0 f1
  have x0 := (lies_cells M21.out).1 0
  have x1 := (lies_cells M21.out).1 1
  have y0 := (lies_cells M22.out).1 0
  have y1 := (lies_cells M22.out).1 1
  have z0 := (lies_cells M23.out).1 0
  have z1 := (lies_cells M23.out).1 1
  have f0 := (lies_cells M23.out).2 0
  have f1 := (lies_cells M23.out).2 1
  simp only [List.getElem?_toArray, List.getElem?_cons_zero, List.getElem?_cons_succ] at x0 x1 y0 y1 z0 z1
  go_wp2_with fail
  have hz0 : w.heap.size + 1 + 1 < v2.heap.size := lt_heap M23.out
  have hz1 : w.heap.size ≠ v2.heap.size := by omega
  have hz2 : w.heap.size < v2.heap.size := by omega
  go_region
  · have I0 := Lib.hid (show XIn w v2 ((v2.alloc (.cells (zc (wordsN m2)) 62)).alloc (.cells #[.int .i64 s.width, .slice (some ⟨v2.heap.size, 0, none⟩) (wordsN m2) (wordsN m2)] 25)).drew (w.heap.size + 1 + 1) (v2.heap.size + 1) v2.heap.size m2 s.width (zipTo f s t 0) from ⟨((B2.out.alloc (by omega) _).alloc (by simp; omega) _).drew, (((Below.refl _ _).alloc (Nat.le_refl _) _).alloc (by simp) _).drew, lies_alloc _ (lies_alloc _ M23.out), lies_new2 _ _, by rw [zipTo_zero N1.out]; exact lies_alloc _ (heap_alloc_new _ _), by omega, by omega, by omega, by omega, by omega, by omega, by omega⟩)
    obtain ⟨V, hV⟩ : ∃ V, ((v2.alloc (.cells (zc (wordsN m2)) 62)).alloc (.cells #[.int .i64 s.width, .slice (some ⟨v2.heap.size, 0, none⟩) (wordsN m2) (wordsN m2)] 25)).drew = V := ⟨_, rfl⟩
    rw [hV] at I0
    have HV := Lib.hid hV
    have hrc : w.heap.size + 1 + 1 ≠ (v2.heap.size + 1) := by omega
    have h0c : w.heap.size ≠ (v2.heap.size + 1) := by omega
    have h1c : w.heap.size + 1 ≠ (v2.heap.size + 1) := by omega
    have h0g : w.heap.size ≠ v2.heap.size := by omega
    have h1g : w.heap.size + 1 ≠ v2.heap.size := by omega
    have hcg : (v2.heap.size + 1) ≠ v2.heap.size := by omega
    have hcur := I0.out.cur
    clear hV x0 x1 y0 y1 z0 z1 f0 f1
    have x0 := (lies_cells hcur).1 0
    have x1 := (lies_cells hcur).1 1
    simp only [List.getElem?_toArray, List.getElem?_cons_zero, List.getElem?_cons_succ] at x0 x1
    clear hcur
    go_wp2_with fail
    rw [show ((v2.alloc (.cells (zc (wordsN m2)) 62)).alloc (.cells #[.int .i64 s.width, .slice (some ⟨v2.heap.size, 0, none⟩) (wordsN m2) (wordsN m2)] 25)).drew = V from HV.out]
    go_loopw [37] (fun y wr => ∃ i : Nat, i ≤ wordsN m2 ∧ y = .int .i64 i ∧ Hid (XIn w v2 wr (w.heap.size + 1 + 1) (v2.heap.size + 1) v2.heap.size m2 s.width (zipTo f s t i))) (fun y _ => wordsN m2 - (intOf y).toNat)
    case atStart => exact ⟨0, Nat.zero_le _, rfl, I0.out⟩
    case round =>
      clear I0 x0 x1
      obtain ⟨i, hi, rfl, I⟩ := hrel
      have J0 := Lib.hid (lies_cells I.out.cur)
      have x0 := J0.out.1 0
      have x1 := J0.out.1 1
      have J1 := Lib.hid (lies_cells I.out.res)
      have z0 := J1.out.1 0
      have z1 := J1.out.1 1
      have f0 := J1.out.2 0
      have f1 := J1.out.2 1
      simp only [List.getElem?_toArray, List.getElem?_cons_zero, List.getElem?_cons_succ] at x0 x1 z0 z1
      by_cases hlt : i < wordsN m2
      · obtain ⟨x, hx⟩ : ∃ x, s.words[i]? = some x := ⟨_, List.getElem?_eq_getElem (show i < s.words.length by have := N1.out; omega)⟩
        obtain ⟨y, hy⟩ : ∃ y, t.words[i]? = some y := ⟨_, List.getElem?_eq_getElem (show i < t.words.length by have := N2.out; omega)⟩
        obtain ⟨b1, o1, rfl, hb1, -, hc1⟩ := K1.out i x hx
        obtain ⟨b2, o2, rfl, hb2, -, hc2⟩ := K2.out i y hy
        have g1 := (I.out.below.cell (p := ⟨b1, o1 + i, none⟩) hb1).trans hc1
        have g2 := (I.out.below.cell (p := ⟨b2, o2 + i, none⟩) hb2).trans hc2
        have hxl := OK1.out x (List.mem_of_getElem? hx)
        have hyl := OK2.out y (List.mem_of_getElem? hy)
        have p1 := (lies_cells (lies_below M21.out I.out.keep (lt_heap M21.out))).1 1
        have p2 := (lies_cells (lies_below M22.out I.out.keep (lt_heap M22.out))).1 1
        simp only [List.getElem?_toArray, List.getElem?_cons_zero, List.getElem?_cons_succ] at p1 p2
        have hgg := I.out.own
        have q0 := (lies_cells hgg).1 i
        have q1 := (lies_cells hgg).2 i
        obtain ⟨z, hz⟩ : ∃ z, (zipTo f s t i)[i]? = some z := ⟨_, List.getElem?_eq_getElem (by rw [zipTo_len (N1.out.trans N2.out.symm) (by rw [N1.out]; exact hi), N1.out]; exact hlt)⟩
        rw [List.getElem?_toArray, List.getElem?_map, hz] at q0
        simp only [Option.map_some] at q0
        have HS := Lib.hid (zipTo_succ (f := f) hx hy (N1.out.trans N2.out.symm))
        have i1 : (0 : Int) ≤ (i : Int) := by omega
        have i2 : (i : Int) < (wordsN m2 : Nat) := by omega
        have hc0 : b1 ≠ v2.heap.size := by omega
        have hc9 : b2 ≠ v2.heap.size := by omega
        clear hx hy hz hgg hc1 hc2
        go_wp2_with fail
        have hfl : f x y < 18446744073709551616 := (HF.out x y wr hxl hyl).1
        have k0 := Ne.symm h0g
        have k4 := Ne.symm hz1
        have k1 := Ne.symm h1g
        have k2 := Ne.symm hc0
        have k3 := Ne.symm hc9
        go_region_held3 (fun w' => w'.cell? ⟨(v2.heap.size + 1), 1, none⟩ = some (.slice (some ⟨v2.heap.size, 0, none⟩) (wordsN m2) (wordsN m2)) ∧ w'.cell? ⟨w.heap.size, 1, none⟩ = some (.slice (some ⟨b1, o1, none⟩) (wordsN m2) c1) ∧ w'.cell? ⟨w.heap.size + 1, 1, none⟩ = some (.slice (some ⟨b2, o2, none⟩) (wordsN m2) c2) ∧ w'.cell? ⟨b1, o1 + i, none⟩ = some (uv x) ∧ w'.cell? ⟨b2, o2 + i, none⟩ = some (uv y)) (first | go_keep | exact ⟨cell_off hcg x1, cell_off h0g p1, cell_off h1g p2, cell_off hc0 g1, cell_off hc9 g2⟩ | exact ⟨cell_offd h0g p1, cell_offd h1g p2, cell_offd hc0 g1, cell_offd hc9 g2⟩ | exact ⟨cell_offd hcg x1, cell_offd h0g p1, cell_offd h1g p2, cell_offd hc0 g1, cell_offd hc9 g2⟩) ((go_at_call 58; refine ((HF.out x y _ hxl hyl).2).mono ?_; rintro e w9 ⟨rfl, rfl⟩))
        all_goals
          go_wp2
          go_roundw
          case rel => exact ⟨i + 1, by omega, by go_num, by rw [HS.out]; exact ((I.out.put i (f x y)).drew 1)⟩
          case measure => simp [intOf]; omega
      · obtain rfl : i = wordsN m2 := by omega
        have HFI := Lib.hid (I.out.fin (.int .i64 s.width) (.slice (some ⟨v2.heap.size, 0, none⟩) (wordsN m2) (wordsN m2)))
        have HZ := Lib.hid (show zipTo f s t (wordsN m2) = (zipS f s t).words by rw [← N1.out]; exact zipTo_end (N1.out.trans N2.out.symm))
        have HZF := Lib.hid (zip_form (fun a b ha hb => (HF.out a b w ha hb).1) F1.out F2.out HD.out).1
        go_wp2
        refine bodyPost_ret (v := .tuple #[setV (zipS f s t) (.slice (some ⟨v2.heap.size, 0, none⟩) (wordsN m2) (wordsN m2)), .int .i64 0]) (by simp [results, Tryd.results55, go_sem, z0, z1, zipS]) rfl ⟨_, rfl, .inr ⟨v2.heap.size, ?_, by have := I.out.old.2.2.1; exact this, ?_, HZF.out⟩, HFI.out.2⟩
        · rw [← HZ.out, zipTo_len (N1.out.trans N2.out.symm) (by rw [N1.out]; exact Nat.le_refl _), N1.out]
        · rw [← HZ.out]
          exact HFI.out.1
  · have I0 := Lib.hid (show XIn w v2 ((v2.alloc (.cells #[.int .i64 s.width, .slice (some ⟨v2.heap.size + 1, 0, none⟩) (wordsN m2) (wordsN m2)] 25)).alloc (.cells (zc (wordsN m2)) 62)).drew (w.heap.size + 1 + 1) v2.heap.size (v2.heap.size + 1) m2 s.width (zipTo f s t 0) from ⟨((B2.out.alloc (by omega) _).alloc (by simp; omega) _).drew, (((Below.refl _ _).alloc (Nat.le_refl _) _).alloc (by simp) _).drew, lies_alloc _ (lies_alloc _ M23.out), lies_alloc _ (heap_alloc_new _ _), by rw [zipTo_zero N1.out]; exact lies_new2 _ _, by omega, by omega, by omega, by omega, by omega, by omega, by omega⟩)
    obtain ⟨V, hV⟩ : ∃ V, ((v2.alloc (.cells #[.int .i64 s.width, .slice (some ⟨v2.heap.size + 1, 0, none⟩) (wordsN m2) (wordsN m2)] 25)).alloc (.cells (zc (wordsN m2)) 62)).drew = V := ⟨_, rfl⟩
    rw [hV] at I0
    have HV := Lib.hid hV
    have hrc : w.heap.size + 1 + 1 ≠ v2.heap.size := by omega
    have h0c : w.heap.size ≠ v2.heap.size := by omega
    have h1c : w.heap.size + 1 ≠ v2.heap.size := by omega
    have h0g : w.heap.size ≠ (v2.heap.size + 1) := by omega
    have h1g : w.heap.size + 1 ≠ (v2.heap.size + 1) := by omega
    have hcg : v2.heap.size ≠ (v2.heap.size + 1) := by omega
    have hcur := I0.out.cur
    clear hV x0 x1 y0 y1 z0 z1 f0 f1
    have x0 := (lies_cells hcur).1 0
    have x1 := (lies_cells hcur).1 1
    simp only [List.getElem?_toArray, List.getElem?_cons_zero, List.getElem?_cons_succ] at x0 x1
    clear hcur
    go_wp2_with fail
    rw [show ((v2.alloc (.cells #[.int .i64 s.width, .slice (some ⟨v2.heap.size + 1, 0, none⟩) (wordsN m2) (wordsN m2)] 25)).alloc (.cells (zc (wordsN m2)) 62)).drew = V from HV.out]
    go_loopw [37] (fun y wr => ∃ i : Nat, i ≤ wordsN m2 ∧ y = .int .i64 i ∧ Hid (XIn w v2 wr (w.heap.size + 1 + 1) v2.heap.size (v2.heap.size + 1) m2 s.width (zipTo f s t i))) (fun y _ => wordsN m2 - (intOf y).toNat)
    case atStart => exact ⟨0, Nat.zero_le _, rfl, I0.out⟩
    case round =>
      clear I0 x0 x1
      obtain ⟨i, hi, rfl, I⟩ := hrel
      have J0 := Lib.hid (lies_cells I.out.cur)
      have x0 := J0.out.1 0
      have x1 := J0.out.1 1
      have J1 := Lib.hid (lies_cells I.out.res)
      have z0 := J1.out.1 0
      have z1 := J1.out.1 1
      have f0 := J1.out.2 0
      have f1 := J1.out.2 1
      simp only [List.getElem?_toArray, List.getElem?_cons_zero, List.getElem?_cons_succ] at x0 x1 z0 z1
      by_cases hlt : i < wordsN m2
      · obtain ⟨x, hx⟩ : ∃ x, s.words[i]? = some x := ⟨_, List.getElem?_eq_getElem (show i < s.words.length by have := N1.out; omega)⟩
        obtain ⟨y, hy⟩ : ∃ y, t.words[i]? = some y := ⟨_, List.getElem?_eq_getElem (show i < t.words.length by have := N2.out; omega)⟩
        obtain ⟨b1, o1, rfl, hb1, -, hc1⟩ := K1.out i x hx
        obtain ⟨b2, o2, rfl, hb2, -, hc2⟩ := K2.out i y hy
        have g1 := (I.out.below.cell (p := ⟨b1, o1 + i, none⟩) hb1).trans hc1
        have g2 := (I.out.below.cell (p := ⟨b2, o2 + i, none⟩) hb2).trans hc2
        have hxl := OK1.out x (List.mem_of_getElem? hx)
        have hyl := OK2.out y (List.mem_of_getElem? hy)
        have p1 := (lies_cells (lies_below M21.out I.out.keep (lt_heap M21.out))).1 1
        have p2 := (lies_cells (lies_below M22.out I.out.keep (lt_heap M22.out))).1 1
        simp only [List.getElem?_toArray, List.getElem?_cons_zero, List.getElem?_cons_succ] at p1 p2
        have hgg := I.out.own
        have q0 := (lies_cells hgg).1 i
        have q1 := (lies_cells hgg).2 i
        obtain ⟨z, hz⟩ : ∃ z, (zipTo f s t i)[i]? = some z := ⟨_, List.getElem?_eq_getElem (by rw [zipTo_len (N1.out.trans N2.out.symm) (by rw [N1.out]; exact hi), N1.out]; exact hlt)⟩
        rw [List.getElem?_toArray, List.getElem?_map, hz] at q0
        simp only [Option.map_some] at q0
        have HS := Lib.hid (zipTo_succ (f := f) hx hy (N1.out.trans N2.out.symm))
        have i1 : (0 : Int) ≤ (i : Int) := by omega
        have i2 : (i : Int) < (wordsN m2 : Nat) := by omega
        have hc0 : b1 ≠ (v2.heap.size + 1) := by omega
        have hc9 : b2 ≠ (v2.heap.size + 1) := by omega
        clear hx hy hz hgg hc1 hc2
        go_wp2_with fail
        have hfl : f x y < 18446744073709551616 := (HF.out x y wr hxl hyl).1
        have k0 := Ne.symm h0g
        have k4 := Ne.symm hz1
        have k1 := Ne.symm h1g
        have k2 := Ne.symm hc0
        have k3 := Ne.symm hc9
        go_region_held3 (fun w' => w'.cell? ⟨v2.heap.size, 1, none⟩ = some (.slice (some ⟨(v2.heap.size + 1), 0, none⟩) (wordsN m2) (wordsN m2)) ∧ w'.cell? ⟨w.heap.size, 1, none⟩ = some (.slice (some ⟨b1, o1, none⟩) (wordsN m2) c1) ∧ w'.cell? ⟨w.heap.size + 1, 1, none⟩ = some (.slice (some ⟨b2, o2, none⟩) (wordsN m2) c2) ∧ w'.cell? ⟨b1, o1 + i, none⟩ = some (uv x) ∧ w'.cell? ⟨b2, o2 + i, none⟩ = some (uv y)) (first | go_keep | exact ⟨cell_off hcg x1, cell_off h0g p1, cell_off h1g p2, cell_off hc0 g1, cell_off hc9 g2⟩ | exact ⟨cell_offd h0g p1, cell_offd h1g p2, cell_offd hc0 g1, cell_offd hc9 g2⟩ | exact ⟨cell_offd hcg x1, cell_offd h0g p1, cell_offd h1g p2, cell_offd hc0 g1, cell_offd hc9 g2⟩) ((go_at_call 58; refine ((HF.out x y _ hxl hyl).2).mono ?_; rintro e w9 ⟨rfl, rfl⟩))
        all_goals
          go_wp2
          go_roundw
          case rel => exact ⟨i + 1, by omega, by go_num, by rw [HS.out]; exact ((I.out.put i (f x y)).drew 1)⟩
          case measure => simp [intOf]; omega
      · obtain rfl : i = wordsN m2 := by omega
        have HFI := Lib.hid (I.out.fin (.int .i64 s.width) (.slice (some ⟨(v2.heap.size + 1), 0, none⟩) (wordsN m2) (wordsN m2)))
        have HZ := Lib.hid (show zipTo f s t (wordsN m2) = (zipS f s t).words by rw [← N1.out]; exact zipTo_end (N1.out.trans N2.out.symm))
        have HZF := Lib.hid (zip_form (fun a b ha hb => (HF.out a b w ha hb).1) F1.out F2.out HD.out).1
        go_wp2
        refine bodyPost_ret (v := .tuple #[setV (zipS f s t) (.slice (some ⟨(v2.heap.size + 1), 0, none⟩) (wordsN m2) (wordsN m2)), .int .i64 0]) (by simp [results, Tryd.results55, go_sem, z0, z1, zipS]) rfl ⟨_, rfl, .inr ⟨(v2.heap.size + 1), ?_, by have := I.out.old.2.2.1; exact this, ?_, HZF.out⟩, HFI.out.2⟩
        · rw [← HZ.out, zipTo_len (N1.out.trans N2.out.symm) (by rw [N1.out]; exact Nat.le_refl _), N1.out]
        · rw [← HZ.out]
          exact HFI.out.1
end Go.Proofs.YtmanmlankfoflaaDoor
