/- Walks: the reference's mix at the flags of Diff, Diff of the reference. Printed by wip/gen_bsz.py. -/
import Derived.Test.YtmanmlankfoflaaDoorBsAp
import Derived.Test.YtmanmlankfoflaaDoorBsRF
import Derived.Test.YtmanmlankfoflaaDoorBsH
import Derived.Deep.RegionHeld3
set_option linter.unusedVariables false
set_option linter.unusedSimpArgs false
set_option linter.unusedSectionVars false
namespace Go.Proofs.YtmanmlankfoflaaDoor
open Go.RowKit
variable [Base]

set_option maxHeartbeats 2000000 in
theorem rmixd_bad (s t : QSet) (r : Int) (hr : mergeS clr s t = (zeroS, r)) (hbad : setB s = false ∨ (setB s = true ∧ setB t = false) ∨ (setB s = true ∧ setB t = true ∧ s.width ≠ t.width)) (u1 u2 : Value) (w : World) (h1 : WordsAt w u1 s.words) (h2 : WordsAt w u2 t.words) :
    Calls Tryd.prog 50 #[setV s u1, setV t u2, .bool true, .bool false, .bool false] w (SetE (zeroS, r) w) := by
  have hud : ∀ b : Bool, (undef = Value.bool b) = False := fun b => by simp [undef]
  obtain ⟨a1, n1, c1, rfl⟩ : ∃ a n c, u1 = .slice a n c := by obtain ⟨a, c, rfl, -⟩ := h1.cell; exact ⟨_, _, _, rfl⟩
  obtain ⟨a2, n2, c2, rfl⟩ : ∃ a n c, u2 = .slice a n c := by obtain ⟨a, c, rfl, -⟩ := h2.cell; exact ⟨_, _, _, rfl⟩
  obtain ⟨W1, hW1⟩ : ∃ W1, (w.alloc (.cells #[.int .i64 s.width, .slice a1 n1 c1] 25)).alloc (.cells #[.int .i64 t.width, .slice a2 n2 c2] 25) = W1 := ⟨_, rfl⟩
  have B0 := Lib.hid (show Below w.heap.size w W1 by rw [← hW1]; exact ((Below.refl _ _).alloc (Nat.le_refl _) _).alloc (by simp) _)
  have H1 := Lib.hid (show W1.heap[w.heap.size]? = some (.cells #[.int .i64 s.width, .slice a1 n1 c1] 25 (0, 0)) by rw [← hW1]; exact lies_alloc _ (heap_alloc_new _ _))
  have H2 := Lib.hid (show W1.heap[w.heap.size + 1]? = some (.cells #[.int .i64 t.width, .slice a2 n2 c2] 25 (0, 0)) by rw [← hW1]; exact lies_new2 _ _)
  have hz1 : W1.heap.size = w.heap.size + 1 + 1 := by rw [← hW1]; simp
  obtain ⟨W, hW⟩ : ∃ W, W1.alloc (.cells #[.int .i64 0, .slice none 0 0] 25) = W := ⟨_, rfl⟩
  have b : Below W1.heap.size W1 W := by rw [← hW]; exact (Below.refl _ _).alloc (Nat.le_refl _) _
  have H3 := Lib.hid (show W.heap[W1.heap.size]? = some (.cells #[.int .i64 0, .slice none 0 0] 25 (0, 0)) by rw [← hW]; exact heap_alloc_new _ _)
  have E0 := Lib.hid b
  have R1 := Lib.hid (h1.below B0.out)
  have R2 := Lib.hid (h2.below B0.out)
  have HW := Lib.hid hW
  have HW1 := Lib.hid hW1
  have HZ1 := Lib.hid hz1
  clear hW hW1 b h1 h2 hz1
  rcases hbad with hv | ⟨hv, ht⟩ | ⟨hv, ht, hne⟩
  · have HV := Lib.hid hv
    obtain rfl : r = 1 := by unfold mergeS at hr; rw [if_pos (by left; exact hv)] at hr; injection hr with _ hr; exact hr.symm
    clear hv hr
    have M0 := H3
    rw [HZ1.out] at M0
    have G := Lib.hid (lies_below H1.out E0.out (lt_heap H1.out))
    have K := Lib.hid (lies_below H2.out E0.out (lt_heap H2.out))
    have M := M0
    have x0 := (lies_cells G.out).1 0
    have x1 := (lies_cells G.out).1 1
    have y0 := (lies_cells K.out).1 0
    have y1 := (lies_cells K.out).1 1
    have z0 := (lies_cells M.out).1 0
    have z1 := (lies_cells M.out).1 1
    have f0 := (lies_cells M.out).2 0
    have f1 := (lies_cells M.out).2 1
    simp only [List.getElem?_toArray, List.getElem?_cons_zero, List.getElem?_cons_succ] at x0 x1 y0 y1 z0 z1
    go_enter Tryd.func50, Tryd.ntmps50
    go_wp2_with fail
    rw [show ((w.alloc (.cells #[.int .i64 s.width, .slice a1 n1 c1] 25)).alloc (.cells #[.int .i64 t.width, .slice a2 n2 c2] 25)).alloc (.cells #[.int .i64 0, .slice none 0 0] 25) = W from by rw [HW1.out, HW.out]]
    refine (rbvalid_to HV.out _ _ (R1.out.below E0.out)).mono ?_
    rintro e v1 ⟨rfl, b⟩
    have E1 := Lib.hid (E0.out.trans (b.mono E0.out.size))
    have M1 := Lib.hid (lies_below M0.out b (lt_heap M0.out))
    clear x0 x1 y0 y1 z0 z1 f0 f1 G K M b
    have G := Lib.hid (lies_below H1.out E1.out (lt_heap H1.out))
    have K := Lib.hid (lies_below H2.out E1.out (lt_heap H2.out))
    have M := M1
    have x0 := (lies_cells G.out).1 0
    have x1 := (lies_cells G.out).1 1
    have y0 := (lies_cells K.out).1 0
    have y1 := (lies_cells K.out).1 1
    have z0 := (lies_cells M.out).1 0
    have z1 := (lies_cells M.out).1 1
    have f0 := (lies_cells M.out).2 0
    have f1 := (lies_cells M.out).2 1
    simp only [List.getElem?_toArray, List.getElem?_cons_zero, List.getElem?_cons_succ] at x0 x1 y0 y1 z0 z1
    go_wp2
    refine bodyPost_ret (v := .tuple #[zeroV, .int .i64 1]) (by simp [results, Tryd.results50, go_sem, z0, z1]) rfl ?_
    exact ZeroE.set ⟨rfl, (B0.out.trans (E1.out.mono B0.out.size)).setCell (p := ⟨w.heap.size + 1 + 1, 0, none⟩) (by show w.heap.size ≤ w.heap.size + 1 + 1; omega) _ |>.setCell (p := ⟨w.heap.size + 1 + 1, 1, none⟩) (by show w.heap.size ≤ w.heap.size + 1 + 1; omega) _⟩
  · have HV := Lib.hid hv
    have HT := Lib.hid ht
    obtain rfl : r = 1 := by unfold mergeS at hr; rw [if_pos (by right; exact ht)] at hr; injection hr with _ hr; exact hr.symm
    clear hv hr ht
    have M0 := H3
    rw [HZ1.out] at M0
    have G := Lib.hid (lies_below H1.out E0.out (lt_heap H1.out))
    have K := Lib.hid (lies_below H2.out E0.out (lt_heap H2.out))
    have M := M0
    have x0 := (lies_cells G.out).1 0
    have x1 := (lies_cells G.out).1 1
    have y0 := (lies_cells K.out).1 0
    have y1 := (lies_cells K.out).1 1
    have z0 := (lies_cells M.out).1 0
    have z1 := (lies_cells M.out).1 1
    have f0 := (lies_cells M.out).2 0
    have f1 := (lies_cells M.out).2 1
    simp only [List.getElem?_toArray, List.getElem?_cons_zero, List.getElem?_cons_succ] at x0 x1 y0 y1 z0 z1
    go_enter Tryd.func50, Tryd.ntmps50
    go_wp2_with fail
    rw [show ((w.alloc (.cells #[.int .i64 s.width, .slice a1 n1 c1] 25)).alloc (.cells #[.int .i64 t.width, .slice a2 n2 c2] 25)).alloc (.cells #[.int .i64 0, .slice none 0 0] 25) = W from by rw [HW1.out, HW.out]]
    refine (rbvalid_to HV.out _ _ (R1.out.below E0.out)).mono ?_
    rintro e v1 ⟨rfl, b⟩
    have E1 := Lib.hid (E0.out.trans (b.mono E0.out.size))
    have M1 := Lib.hid (lies_below M0.out b (lt_heap M0.out))
    clear x0 x1 y0 y1 z0 z1 f0 f1 G K M b
    have G := Lib.hid (lies_below H1.out E1.out (lt_heap H1.out))
    have K := Lib.hid (lies_below H2.out E1.out (lt_heap H2.out))
    have M := M1
    have x0 := (lies_cells G.out).1 0
    have x1 := (lies_cells G.out).1 1
    have y0 := (lies_cells K.out).1 0
    have y1 := (lies_cells K.out).1 1
    have z0 := (lies_cells M.out).1 0
    have z1 := (lies_cells M.out).1 1
    have f0 := (lies_cells M.out).2 0
    have f1 := (lies_cells M.out).2 1
    simp only [List.getElem?_toArray, List.getElem?_cons_zero, List.getElem?_cons_succ] at x0 x1 y0 y1 z0 z1
    go_wp2_with fail
    refine (rbvalid_to HT.out _ _ (R2.out.below E1.out)).mono ?_
    rintro e v2 ⟨rfl, b⟩
    have E2 := Lib.hid (E1.out.trans (b.mono E1.out.size))
    have M2 := Lib.hid (lies_below M1.out b (lt_heap M1.out))
    clear x0 x1 y0 y1 z0 z1 f0 f1 G K M b
    have G := Lib.hid (lies_below H1.out E2.out (lt_heap H1.out))
    have K := Lib.hid (lies_below H2.out E2.out (lt_heap H2.out))
    have M := M2
    have x0 := (lies_cells G.out).1 0
    have x1 := (lies_cells G.out).1 1
    have y0 := (lies_cells K.out).1 0
    have y1 := (lies_cells K.out).1 1
    have z0 := (lies_cells M.out).1 0
    have z1 := (lies_cells M.out).1 1
    have f0 := (lies_cells M.out).2 0
    have f1 := (lies_cells M.out).2 1
    simp only [List.getElem?_toArray, List.getElem?_cons_zero, List.getElem?_cons_succ] at x0 x1 y0 y1 z0 z1
    go_wp2
    refine bodyPost_ret (v := .tuple #[zeroV, .int .i64 1]) (by simp [results, Tryd.results50, go_sem, z0, z1]) rfl ?_
    exact ZeroE.set ⟨rfl, (B0.out.trans (E2.out.mono B0.out.size)).setCell (p := ⟨w.heap.size + 1 + 1, 0, none⟩) (by show w.heap.size ≤ w.heap.size + 1 + 1; omega) _ |>.setCell (p := ⟨w.heap.size + 1 + 1, 1, none⟩) (by show w.heap.size ≤ w.heap.size + 1 + 1; omega) _⟩
  · have HV := Lib.hid hv
    have HT := Lib.hid ht
    obtain rfl : r = 2 := by unfold mergeS at hr; rw [if_neg (by rw [hv, ht]; simp), if_pos hne] at hr; injection hr with _ hr; exact hr.symm
    have q1 : (s.width != t.width) = true := by simpa using hne
    clear hv hr ht hne
    have M0 := H3
    rw [HZ1.out] at M0
    have G := Lib.hid (lies_below H1.out E0.out (lt_heap H1.out))
    have K := Lib.hid (lies_below H2.out E0.out (lt_heap H2.out))
    have M := M0
    have x0 := (lies_cells G.out).1 0
    have x1 := (lies_cells G.out).1 1
    have y0 := (lies_cells K.out).1 0
    have y1 := (lies_cells K.out).1 1
    have z0 := (lies_cells M.out).1 0
    have z1 := (lies_cells M.out).1 1
    have f0 := (lies_cells M.out).2 0
    have f1 := (lies_cells M.out).2 1
    simp only [List.getElem?_toArray, List.getElem?_cons_zero, List.getElem?_cons_succ] at x0 x1 y0 y1 z0 z1
    go_enter Tryd.func50, Tryd.ntmps50
    go_wp2_with fail
    rw [show ((w.alloc (.cells #[.int .i64 s.width, .slice a1 n1 c1] 25)).alloc (.cells #[.int .i64 t.width, .slice a2 n2 c2] 25)).alloc (.cells #[.int .i64 0, .slice none 0 0] 25) = W from by rw [HW1.out, HW.out]]
    refine (rbvalid_to HV.out _ _ (R1.out.below E0.out)).mono ?_
    rintro e v1 ⟨rfl, b⟩
    have E1 := Lib.hid (E0.out.trans (b.mono E0.out.size))
    have M1 := Lib.hid (lies_below M0.out b (lt_heap M0.out))
    clear x0 x1 y0 y1 z0 z1 f0 f1 G K M b
    have G := Lib.hid (lies_below H1.out E1.out (lt_heap H1.out))
    have K := Lib.hid (lies_below H2.out E1.out (lt_heap H2.out))
    have M := M1
    have x0 := (lies_cells G.out).1 0
    have x1 := (lies_cells G.out).1 1
    have y0 := (lies_cells K.out).1 0
    have y1 := (lies_cells K.out).1 1
    have z0 := (lies_cells M.out).1 0
    have z1 := (lies_cells M.out).1 1
    have f0 := (lies_cells M.out).2 0
    have f1 := (lies_cells M.out).2 1
    simp only [List.getElem?_toArray, List.getElem?_cons_zero, List.getElem?_cons_succ] at x0 x1 y0 y1 z0 z1
    go_wp2_with fail
    refine (rbvalid_to HT.out _ _ (R2.out.below E1.out)).mono ?_
    rintro e v2 ⟨rfl, b⟩
    have E2 := Lib.hid (E1.out.trans (b.mono E1.out.size))
    have M2 := Lib.hid (lies_below M1.out b (lt_heap M1.out))
    clear x0 x1 y0 y1 z0 z1 f0 f1 G K M b
    have G := Lib.hid (lies_below H1.out E2.out (lt_heap H1.out))
    have K := Lib.hid (lies_below H2.out E2.out (lt_heap H2.out))
    have M := M2
    have x0 := (lies_cells G.out).1 0
    have x1 := (lies_cells G.out).1 1
    have y0 := (lies_cells K.out).1 0
    have y1 := (lies_cells K.out).1 1
    have z0 := (lies_cells M.out).1 0
    have z1 := (lies_cells M.out).1 1
    have f0 := (lies_cells M.out).2 0
    have f1 := (lies_cells M.out).2 1
    simp only [List.getElem?_toArray, List.getElem?_cons_zero, List.getElem?_cons_succ] at x0 x1 y0 y1 z0 z1
    go_wp2
    refine bodyPost_ret (v := .tuple #[zeroV, .int .i64 2]) (by simp [results, Tryd.results50, go_sem, z0, z1]) rfl ?_
    exact ZeroE.set ⟨rfl, (B0.out.trans (E2.out.mono B0.out.size)).setCell (p := ⟨w.heap.size + 1 + 1, 0, none⟩) (by show w.heap.size ≤ w.heap.size + 1 + 1; omega) _ |>.setCell (p := ⟨w.heap.size + 1 + 1, 1, none⟩) (by show w.heap.size ≤ w.heap.size + 1 + 1; omega) _⟩
set_option maxHeartbeats 4000000 in
theorem rmixd_go (m : Nat) (sl tl : List Nat) (hs : Ok m ⟨m, sl⟩) (ht : Ok m ⟨m, tl⟩) (u1 u2 : Value) (w : World) (h1 : WordsAt w u1 sl) (h2 : WordsAt w u2 tl) :
    Calls Tryd.prog 50 #[.agg #[.int .i64 (m : Int), u1], .agg #[.int .i64 (m : Int), u2], .bool true, .bool false, .bool false] w (SetE (zipS clr ⟨m, sl⟩ ⟨m, tl⟩, 0) w) := by
  have hud : ∀ b : Bool, (undef = Value.bool b) = False := fun b => by simp [undef]
  have hz := mix_zip (f := clr) (g := (fun x y => x && !y)) bit_clr (fun _ _ h _ => clr_lt h) rfl (m := m) (s := ⟨m, sl⟩) (t := ⟨m, tl⟩) rfl hs.ok ht.ok hs.words ht.words rfl
  rw [← hz]
  have HS := Lib.hid hs
  have HT2 := Lib.hid ht
  have HV := Lib.hid hs.ok
  have HT := Lib.hid ht.ok
  have hm := hs.le
  clear hz hs ht
  obtain ⟨a1, n1, c1, rfl⟩ : ∃ a n c, u1 = .slice a n c := by obtain ⟨a, c, rfl, -⟩ := h1.cell; exact ⟨_, _, _, rfl⟩
  obtain ⟨a2, n2, c2, rfl⟩ : ∃ a n c, u2 = .slice a n c := by obtain ⟨a, c, rfl, -⟩ := h2.cell; exact ⟨_, _, _, rfl⟩
  obtain ⟨W1, hW1⟩ : ∃ W1, (w.alloc (.cells #[.int .i64 (m : Int), .slice a1 n1 c1] 25)).alloc (.cells #[.int .i64 (m : Int), .slice a2 n2 c2] 25) = W1 := ⟨_, rfl⟩
  have B0 := Lib.hid (show Below w.heap.size w W1 by rw [← hW1]; exact ((Below.refl _ _).alloc (Nat.le_refl _) _).alloc (by simp) _)
  have H1 := Lib.hid (show W1.heap[w.heap.size]? = some (.cells #[.int .i64 (m : Int), .slice a1 n1 c1] 25 (0, 0)) by rw [← hW1]; exact lies_alloc _ (heap_alloc_new _ _))
  have H2 := Lib.hid (show W1.heap[w.heap.size + 1]? = some (.cells #[.int .i64 (m : Int), .slice a2 n2 c2] 25 (0, 0)) by rw [← hW1]; exact lies_new2 _ _)
  have hz1 : W1.heap.size = w.heap.size + 1 + 1 := by rw [← hW1]; simp
  obtain ⟨W, hW⟩ : ∃ W, W1.alloc (.cells #[.int .i64 0, .slice none 0 0] 25) = W := ⟨_, rfl⟩
  have b : Below W1.heap.size W1 W := by rw [← hW]; exact (Below.refl _ _).alloc (Nat.le_refl _) _
  have H3 := Lib.hid (show W.heap[W1.heap.size]? = some (.cells #[.int .i64 0, .slice none 0 0] 25 (0, 0)) by rw [← hW]; exact heap_alloc_new _ _)
  have E0 := Lib.hid b
  have R1 := Lib.hid (h1.below B0.out)
  have R2 := Lib.hid (h2.below B0.out)
  have HW := Lib.hid hW
  have HW1 := Lib.hid hW1
  have HZ1 := Lib.hid hz1
  clear hW hW1 b h1 h2 hz1
  have q1 : ((m : Int) != (m : Int)) = false := by simp
  have M0 := H3
  rw [HZ1.out] at M0
  have G := Lib.hid (lies_below H1.out E0.out (lt_heap H1.out))
  have K := Lib.hid (lies_below H2.out E0.out (lt_heap H2.out))
  have M := M0
  have x0 := (lies_cells G.out).1 0
  have x1 := (lies_cells G.out).1 1
  have y0 := (lies_cells K.out).1 0
  have y1 := (lies_cells K.out).1 1
  have z0 := (lies_cells M.out).1 0
  have z1 := (lies_cells M.out).1 1
  have f0 := (lies_cells M.out).2 0
  have f1 := (lies_cells M.out).2 1
  simp only [List.getElem?_toArray, List.getElem?_cons_zero, List.getElem?_cons_succ] at x0 x1 y0 y1 z0 z1
  go_enter Tryd.func50, Tryd.ntmps50
  go_wp2_with fail
  rw [show ((w.alloc (.cells #[.int .i64 (m : Int), .slice a1 n1 c1] 25)).alloc (.cells #[.int .i64 (m : Int), .slice a2 n2 c2] 25)).alloc (.cells #[.int .i64 0, .slice none 0 0] 25) = W from by rw [HW1.out, HW.out]]
  refine (rbvalid_to (s := ⟨m, sl⟩) HV.out _ _ (R1.out.below E0.out)).mono ?_
  rintro e v1 ⟨rfl, b⟩
  have E1 := Lib.hid (E0.out.trans (b.mono E0.out.size))
  have M1 := Lib.hid (lies_below M0.out b (lt_heap M0.out))
  clear x0 x1 y0 y1 z0 z1 f0 f1 G K M b
  have G := Lib.hid (lies_below H1.out E1.out (lt_heap H1.out))
  have K := Lib.hid (lies_below H2.out E1.out (lt_heap H2.out))
  have M := M1
  have x0 := (lies_cells G.out).1 0
  have x1 := (lies_cells G.out).1 1
  have y0 := (lies_cells K.out).1 0
  have y1 := (lies_cells K.out).1 1
  have z0 := (lies_cells M.out).1 0
  have z1 := (lies_cells M.out).1 1
  have f0 := (lies_cells M.out).2 0
  have f1 := (lies_cells M.out).2 1
  simp only [List.getElem?_toArray, List.getElem?_cons_zero, List.getElem?_cons_succ] at x0 x1 y0 y1 z0 z1
  go_wp2_with fail
  refine (rbvalid_to (s := ⟨m, tl⟩) HT.out _ _ (R2.out.below E1.out)).mono ?_
  rintro e v2 ⟨rfl, b⟩
  have E2 := Lib.hid (E1.out.trans (b.mono E1.out.size))
  have M2 := Lib.hid (lies_below M1.out b (lt_heap M1.out))
  clear x0 x1 y0 y1 z0 z1 f0 f1 G K M b
  have G := Lib.hid (lies_below H1.out E2.out (lt_heap H1.out))
  have K := Lib.hid (lies_below H2.out E2.out (lt_heap H2.out))
  have M := M2
  have x0 := (lies_cells G.out).1 0
  have x1 := (lies_cells G.out).1 1
  have y0 := (lies_cells K.out).1 0
  have y1 := (lies_cells K.out).1 1
  have z0 := (lies_cells M.out).1 0
  have z1 := (lies_cells M.out).1 1
  have f0 := (lies_cells M.out).2 0
  have f1 := (lies_cells M.out).2 1
  simp only [List.getElem?_toArray, List.getElem?_cons_zero, List.getElem?_cons_succ] at x0 x1 y0 y1 z0 z1
  go_wp2_with fail
  refine (empty_any m hm _).mono ?_
  rintro e v ⟨u, rfl, ho, b1⟩
  have I0 := Lib.hid (RIn.start E2.out M2.out (by rw [HZ1.out]; omega) ho b1 (rfl : (emptyS m).width = (m : Int)))
  have hzz : w.heap.size + 1 + 1 < v.heap.size := by have := b1.size; have := lt_heap M2.out; omega
  obtain ⟨ga, gn, gc, rfl⟩ : ∃ a n c, u = .slice a n c := by obtain ⟨g, e, _⟩ := ho; exact ⟨_, _, _, e⟩
  obtain ⟨V, hV⟩ : ∃ V, v.alloc (.cells #[.int .i64 (m : Int), .slice ga gn gc] 25) = V := ⟨_, rfl⟩
  rw [hV] at I0
  have HV2 := Lib.hid hV
  rw [show setV (emptyS m) (.slice ga gn gc) = .agg #[.int .i64 (m : Int), .slice ga gn gc] from rfl]
  clear hV ho b1 x0 x1 y0 y1 z0 z1 f0 f1 G K M
  go_wp2_with fail
  rw [show v.alloc (.cells #[.int .i64 (m : Int), .slice ga gn gc] 25) = V from HV2.out]
  go_loopw [13] (fun y wr => ∃ i : Nat, i ≤ m ∧ y = .int .i64 i ∧ Hid (∃ u, RIn W1 wr (w.heap.size + 1 + 1) v.heap.size m u (mixTo (fun x y => x && !y) m ⟨m, sl⟩ ⟨m, tl⟩ i))) (fun y _ => m - (intOf y).toNat)
  case atStart => exact ⟨0, Nat.zero_le _, rfl, _, I0.out⟩
  case round =>
    clear I0
    obtain ⟨i, hi, rfl, II⟩ := hrel
    obtain ⟨u, I⟩ := II.out
    have I := Lib.hid I
    obtain ⟨ua, un, uc, rfl⟩ : ∃ a n c, u = .slice a n c := by obtain ⟨g, e, _⟩ := I.out.own; exact ⟨_, _, _, e⟩
    clear II
    have G := Lib.hid (lies_below H1.out I.out.below (lt_heap H1.out))
    have K := Lib.hid (lies_below H2.out I.out.below (lt_heap H2.out))
    have x0 := (lies_cells G.out).1 0
    have x1 := (lies_cells G.out).1 1
    have y0 := (lies_cells K.out).1 0
    have y1 := (lies_cells K.out).1 1
    simp only [List.getElem?_toArray, List.getElem?_cons_zero, List.getElem?_cons_succ] at x0 x1 y0 y1
    by_cases hlt : i < m
    · have i2 : (i : Int) < (m : Int) := by omega
      have hsum := Lib.hid (mixTo_succ (fun x y => x && !y) m ⟨m, sl⟩ ⟨m, tl⟩ i)
      obtain ⟨bx, hbx⟩ : ∃ b, bitOf sl i = b := ⟨_, rfl⟩
      obtain ⟨by', hby⟩ : ∃ b, bitOf tl i = b := ⟨_, rfl⟩
      have hx := Lib.hid (show hasB ⟨m, sl⟩ (i : Int) = bx by rw [← hbx]; exact hasB_bit HS.out hlt)
      have hy := Lib.hid (show hasB ⟨m, tl⟩ (i : Int) = by' by rw [← hby]; exact hasB_bit HT2.out hlt)
      have HBX := Lib.hid hbx
      have HBY := Lib.hid hby
      have HSS : Hid (∀ w', Below wr.heap.size wr w' → w'.cell? ⟨w.heap.size, 0, none⟩ = some (.int .i64 (m : Int)) ∧ w'.cell? ⟨w.heap.size, 1, none⟩ = some (.slice a1 n1 c1) ∧ w'.cell? ⟨w.heap.size + 1, 0, none⟩ = some (.int .i64 (m : Int)) ∧ w'.cell? ⟨w.heap.size + 1, 1, none⟩ = some (.slice a2 n2 c2)) :=
        Lib.hid fun w' hb => ⟨(hb.cell (p := ⟨w.heap.size, 0, none⟩) (lt_heap G.out)).trans x0, (hb.cell (p := ⟨w.heap.size, 1, none⟩) (lt_heap G.out)).trans x1, (hb.cell (p := ⟨w.heap.size + 1, 0, none⟩) (lt_heap K.out)).trans y0, (hb.cell (p := ⟨w.heap.size + 1, 1, none⟩) (lt_heap K.out)).trans y1⟩
      have F0 := Lib.hid (show Below wr.heap.size wr wr.drew from (Below.refl _ _).drew)
      have Q1 := Lib.hid (R1.out.below I.out.below)
      have Q2 := Lib.hid (R2.out.below I.out.below)
      clear hbx hby
      go_wp2_with fail
      go_region_held3 (fun w' => w'.cell? ⟨w.heap.size, 0, none⟩ = some (.int .i64 (m : Int)) ∧ w'.cell? ⟨w.heap.size, 1, none⟩ = some (.slice a1 n1 c1) ∧ w'.cell? ⟨w.heap.size + 1, 0, none⟩ = some (.int .i64 (m : Int)) ∧ w'.cell? ⟨w.heap.size + 1, 1, none⟩ = some (.slice a2 n2 c2)) (first | exact HSS.out _ F2.out | exact HSS.out _ F1.out | exact HSS.out _ F0.out | exact HSS.out _ (Below.refl _ _) | go_keep) (first | (go_at_call 41; ((with_reducible refine (rhas_at (s := ⟨m, sl⟩) hx.out (.slice a1 n1 c1) wr.drew (Q1.out.below F0.out)).mono ?_)); go_must (rintro e r1 ⟨rfl, b⟩; have F1 := Lib.hid (F0.out.trans (b.mono F0.out.size)); clear b)) | (go_at_call 41; ((with_reducible refine (rhas_at (s := ⟨m, tl⟩) hy.out (.slice a2 n2 c2) r1 (Q2.out.below F1.out)).mono ?_)); go_must (rintro e r2 ⟨rfl, b⟩; have F2 := Lib.hid (F1.out.trans (b.mono F1.out.size)); clear b)))
      all_goals
        have J := Lib.hid (I.out.after F2.out)
        clear x0 x1 y0 y1
        have k0 := (lies_cells J.out.cur).1 0
        have k1 := (lies_cells J.out.cur).1 1
        have k2 := (lies_cells J.out.cur).2 0
        have k3 := (lies_cells J.out.cur).2 1
        simp only [List.getElem?_toArray, List.getElem?_cons_zero, List.getElem?_cons_succ] at k0 k1
        have hgo : (fun x y => x && !y) bx by' = true ∨ (fun x y => x && !y) bx by' = false := by cases (fun x y => x && !y) bx by' <;> simp
        rcases hgo with hg | hg
        · have HN := Lib.hid (show mixTo (fun x y => x && !y) m ⟨m, sl⟩ ⟨m, tl⟩ (i + 1) = putS (mixTo (fun x y => x && !y) m ⟨m, sl⟩ ⟨m, tl⟩ i) i by rw [hsum.out, if_pos (by rw [HBX.out, HBY.out]; exact hg)])
          cases bx <;> cases by' <;> first | (exfalso; revert hg; decide) | skip
          all_goals
            clear hg
            go_wp2_with fail
            refine (rput_in J.out hlt).mono ?_
            rintro e r3 ⟨u3, rfl, ho, b3⟩
            obtain ⟨va, vn, vc, rfl⟩ := OwnS.shape ho
            have k0 := (b3.cell (p := ⟨v.heap.size, 0, none⟩) (lt_heap J.out.cur)).trans k0
            have k1 := (b3.cell (p := ⟨v.heap.size, 1, none⟩) (lt_heap J.out.cur)).trans k1
            have k2 := (b3.frozen (p := ⟨v.heap.size, 0, none⟩) (lt_heap J.out.cur)).trans k2
            have k3 := (b3.frozen (p := ⟨v.heap.size, 1, none⟩) (lt_heap J.out.cur)).trans k3
            rw [show setV (putS (mixTo (fun x y => x && !y) m ⟨m, sl⟩ ⟨m, tl⟩ i) i) (.slice va vn vc) = .agg #[.int .i64 (m : Int), .slice va vn vc] from by unfold setV; rw [show (putS (mixTo (fun x y => x && !y) m ⟨m, sl⟩ ⟨m, tl⟩ i) i).width = (mixTo (fun x y => x && !y) m ⟨m, sl⟩ ⟨m, tl⟩ i).width from rfl, J.out.width]]
            have J3 := Lib.hid (J.out.put ho b3)
            rw [← HN.out] at J3
            clear ho b3
            go_wp2
            go_roundw
            case rel => exact ⟨i + 1, by omega, by go_num, _, J3.out⟩
            case measure => simp [intOf]; omega
        · have HN := Lib.hid (show mixTo (fun x y => x && !y) m ⟨m, sl⟩ ⟨m, tl⟩ (i + 1) = mixTo (fun x y => x && !y) m ⟨m, sl⟩ ⟨m, tl⟩ i by rw [hsum.out, if_neg (by rw [HBX.out, HBY.out]; intro h; exact absurd (h.symm.trans hg) (by simp))])
          rw [← HN.out] at J
          cases bx <;> cases by' <;> first | (exfalso; revert hg; decide) | skip
          all_goals
            clear hg
            go_wp2
            go_roundw
            case rel => exact ⟨i + 1, by omega, by go_num, _, J.out⟩
            case measure => simp [intOf]; omega
    · obtain rfl : i = m := by omega
      have k0 := (lies_cells I.out.cur).1 0
      have k1 := (lies_cells I.out.cur).1 1
      have z0 := (lies_cells I.out.res).1 0
      have z1 := (lies_cells I.out.res).1 1
      have f0 := (lies_cells I.out.res).2 0
      have f1 := (lies_cells I.out.res).2 1
      simp only [List.getElem?_toArray, List.getElem?_cons_zero, List.getElem?_cons_succ] at k0 k1 z0 z1
      have hrc := I.out.old.2.2
      go_wp2
      refine bodyPost_ret (v := .tuple #[setV (mixTo (fun x y => x && !y) i ⟨i, sl⟩ ⟨i, tl⟩ i) (.slice ua un uc), .int .i64 0]) (by rw [show setV (mixTo (fun x y => x && !y) i ⟨i, sl⟩ ⟨i, tl⟩ i) (.slice ua un uc) = .agg #[.int .i64 (i : Int), .slice ua un uc] from by unfold setV; rw [I.out.width]]; simp [results, Tryd.results50, go_sem, z0, z1]) rfl ?_
      have fin := I.out.fin (.int .i64 (i : Int)) (.slice ua un uc)
      exact ⟨_, rfl, fin.1.mono B0.out.size, B0.out.trans (fin.2.mono B0.out.size)⟩
theorem rmixd_any (s t : QSet) (u1 u2 : Value) (w : World) (h1 : WordsAt w u1 s.words) (h2 : WordsAt w u2 t.words) :
    Calls Tryd.prog 50 #[setV s u1, setV t u2, .bool true, .bool false, .bool false] w (SetE (mergeS clr s t) w) := by
  rcases Bool.eq_false_or_eq_true (setB s) with hv | hv
  rotate_left
  · have e : mergeS clr s t = (zeroS, 1) := by unfold mergeS; rw [if_pos (.inl hv)]
    rw [e]
    exact rmixd_bad s t 1 e (.inl hv) u1 u2 w h1 h2
  rcases Bool.eq_false_or_eq_true (setB t) with ht | ht
  rotate_left
  · have e : mergeS clr s t = (zeroS, 1) := by unfold mergeS; rw [if_pos (.inr ht)]
    rw [e]
    exact rmixd_bad s t 1 e (.inr (.inl ⟨hv, ht⟩)) u1 u2 w h1 h2
  by_cases hw : s.width = t.width
  · have e : mergeS clr s t = (zipS clr s t, 0) := by unfold mergeS; rw [if_neg (by rw [hv, ht]; simp), if_neg (by simpa using hw)]
    rw [e]
    obtain ⟨sw, sl⟩ := s
    obtain ⟨tw, tl⟩ := t
    obtain ⟨m, hm1, hm2, -⟩ := form_len (valid_form hv h1.2)
    simp only at hm1 hw
    subst hm1
    obtain rfl : tw = (m : Int) := hw.symm
    exact rmixd_go m sl tl ⟨valid_form hv h1.2, hv, rfl⟩ ⟨valid_form ht h2.2, ht, rfl⟩ u1 u2 w h1 h2
  · have e : mergeS clr s t = (zeroS, 2) := by unfold mergeS; rw [if_neg (by rw [hv, ht]; simp), if_pos hw]
    rw [e]
    exact rmixd_bad s t 2 e (.inr (.inr ⟨hv, ht, hw⟩)) u1 u2 w h1 h2
set_option maxHeartbeats 1000000 in
theorem rdiff_any (s t : QSet) (u1 u2 : Value) (w : World) (h1 : WordsAt w u1 s.words) (h2 : WordsAt w u2 t.words) :
    Calls Tryd.prog 24 #[setV s u1, setV t u2] w (SetE (mergeS clr s t) w) := by
  obtain ⟨a1, n1, c1, rfl⟩ : ∃ a n c, u1 = .slice a n c := by obtain ⟨a, c, rfl, -⟩ := h1.cell; exact ⟨_, _, _, rfl⟩
  obtain ⟨a2, n2, c2, rfl⟩ : ∃ a n c, u2 = .slice a n c := by obtain ⟨a, c, rfl, -⟩ := h2.cell; exact ⟨_, _, _, rfl⟩
  have R1 := Lib.hid h1
  have R2 := Lib.hid h2
  obtain ⟨W, hW⟩ : ∃ W, ((w.alloc (.cells #[.int .i64 s.width, .slice a1 n1 c1] 25)).alloc (.cells #[.int .i64 t.width, .slice a2 n2 c2] 25)).alloc (.cells #[.int .i64 0, .slice none 0 0] 25) = W := ⟨_, rfl⟩
  have B0 : Below w.heap.size w W := by rw [← hW]; exact (((Below.refl _ _).alloc (Nat.le_refl _) _).alloc (by simp) _).alloc (by simp; omega) _
  have L3 : W.heap[w.heap.size + 1 + 1]? = some (.cells #[.int .i64 0, .slice none 0 0] 25 (0, 0)) := by rw [← hW]; have k := heap_alloc_new ((w.alloc (.cells #[.int .i64 s.width, .slice a1 n1 c1] 25)).alloc (.cells #[.int .i64 t.width, .slice a2 n2 c2] 25)) (.cells #[.int .i64 0, .slice none 0 0] 25); simp only [World.size_alloc] at k; exact k
  have HW := Lib.hid hW
  have BB := Lib.hid B0
  have H3 := Lib.hid L3
  clear hW B0 L3 h1 h2
  go_enter Tryd.func24, Tryd.ntmps24
  go_wp2_with fail
  rw [show ((w.alloc (.cells #[.int .i64 s.width, .slice a1 n1 c1] 25)).alloc (.cells #[.int .i64 t.width, .slice a2 n2 c2] 25)).alloc (.cells #[.int .i64 0, .slice none 0 0] 25) = W from HW.out]
  refine (rmixd_any s t _ _ _ (R1.out.below BB.out) (R2.out.below BB.out)).mono ?_
  rintro e v ⟨u, rfl, hu, b1⟩
  obtain ⟨ua, un, uc, rfl⟩ := hu.shape
  obtain ⟨q, hq⟩ : ∃ q, mergeS clr s t = q := ⟨_, rfl⟩
  rw [hq] at hu ⊢
  have HU := Lib.hid hu
  have L3 := Lib.hid (lies_below H3.out b1 (lt_heap H3.out))
  have B1 := Lib.hid (BB.out.trans (b1.mono BB.out.size))
  have z0 := (lies_cells L3.out).1 0
  have z1 := (lies_cells L3.out).1 1
  have f0 := (lies_cells L3.out).2 0
  have f1 := (lies_cells L3.out).2 1
  simp only [List.getElem?_toArray, List.getElem?_cons_zero, List.getElem?_cons_succ] at z0 z1
  have hsz := lt_heap L3.out
  have HLT := Lib.hid (lt_heap H3.out)
  have HQ := Lib.hid hq
  clear hu b1 hq
  go_wp2
  refine bodyPost_ret (v := .tuple #[setV q.1 (.slice ua un uc), .int .i64 q.2]) (by simp [results, Tryd.results24, go_sem, z0, z1]) rfl ?_
  rw [HQ.out]
  exact ⟨_, rfl, ((HU.out.setCell HLT.out).setCell HLT.out).mono BB.out.size, (B1.out.setCell (p := ⟨w.heap.size + 1 + 1, 0, none⟩) (by show w.heap.size ≤ w.heap.size + 1 + 1; omega) _).setCell (p := ⟨w.heap.size + 1 + 1, 1, none⟩) (by show w.heap.size ≤ w.heap.size + 1 + 1; omega) _⟩
end Go.Proofs.YtmanmlankfoflaaDoor
