/- Walk: the reference's ParseOp. Printed by wip/gen_scr4.py. -/
import Derived.Test.YtgmlnbheceeklaaDoorScR3
import Derived.Test.YtgmlnbheceeklaaDoorScW5
set_option linter.unusedVariables false
set_option linter.unusedSimpArgs false
set_option linter.unusedSectionVars false
namespace Go.Proofs.YtgmlnbheceeklaaDoor
open Go.RowKit
variable [Base]

theorem rverbs_to (w : World) : Calls Tryd.prog 30 #[] w (fun e w' => ∃ b, e = .returned (.slice (some ⟨b, 0, none⟩) 10 10) ∧ RowAt w' (some ⟨b, 0, none⟩) verbsL ∧ Below w.heap.size w w') :=
  (rverbs w).mono fun e w' k => ⟨w.heap.size, k.1, by rw [k.2]; exact strs_new w verbsL 9, by rw [k.2]; exact (Below.refl _ _).alloc (Nat.le_refl _) _⟩
theorem ranas_to (w : World) : Calls Tryd.prog 31 #[] w (fun e w' => ∃ b, e = .returned (.slice (some ⟨b, 0, none⟩) 4 4) ∧ RowAt w' (some ⟨b, 0, none⟩) anas4 ∧ Below w.heap.size w w') :=
  (ranas w).mono fun e w' k => ⟨w.heap.size, k.1, by rw [k.2]; exact strs_new w anas4 9, by rw [k.2]; exact (Below.refl _ _).alloc (Nat.le_refl _) _⟩
theorem word_to {l a r : Str} (h : wordS l = (a, r)) (hl : l.length ≤ 281474976710656) (w : World) : Calls Tryd.prog 50 #[qs l] w (fun e w' => e = .returned (.tuple #[qs a, qs r]) ∧ ∃ n, w' = w.drewN n) := by
  have k := word_any ⟨l.toArray⟩ (by rw [size_str]; exact hl) w
  unfold WordQ at k
  rw [show (⟨l.toArray⟩ : ByteArray).data.toList = l from rfl, h] at k
  exact k
theorem rnumber_to {l : Str} {v : Int} (h : numO l = v) (hl : l.length ≤ 281474976710656) (w : World) : Calls Tryd.prog 52 #[qs l] w (fun e w' => e = .returned (.int .i64 v) ∧ w' = w) := h ▸ rnumber_any l hl w
theorem rplace_to {ls : List Str} {l : Str} {n c : Nat} {v : Int} {a : Option Addr} (h : placeI ls l = v) (w : World) (hx : ls.length = n) (hn : n ≤ 1000000) (F : RowAt w a ls) : Calls Tryd.prog 51 #[.slice a n c, qs l] w (fun e w' => e = .returned (.int .i64 v) ∧ w' = w) := h ▸ place_any ls l n c a w hx hn F
theorem rprint_to {o : POp} {x : Str} (h : opT o = x) (ht : o.text.length ≤ 9223372036854775807) (w : World) : Calls Tryd.prog 12 #[opV o] w (StrQ x w) := h ▸ rprint_any o ht w
theorem place_ana (s : Str) : (match posS 0 anas4 s with | some i => (i : Int) + 1 | none => 0) = placeI anas4 s + 1 := by
  unfold placeI
  cases posS 0 anas4 s <;> simp
theorem place_lt (s : Str) : -1 ≤ placeI anas4 s ∧ placeI anas4 s < 4 := by
  unfold placeI
  cases h : posS 0 anas4 s with
  | none => simp
  | some k => have := pos_lt _ _ _ _ h; simp [anas4] at this; simp; omega
set_option maxRecDepth 100000 in
set_option maxHeartbeats 8000000 in
theorem rparsex (l vb rs : Str) (hl : l.length ≤ 281474976710656) (w : World) (hw1 : wordS l = (vb, rs)) (hk : kindOf l = 0) (hp : placeI verbsL vb = -1) : Calls Tryd.prog 34 #[qs l] w (POpE (takeO l (candR l)) w) := by
  have hud : ∀ b : Bool, (undef = Value.bool b) = False := fun b => by simp [undef]
  obtain ⟨hl1, hl2⟩ := word_len l
  rw [hw1] at hl1 hl2
  have hl1 : vb.length ≤ l.length := hl1
  have hl2 : rs.length ≤ l.length := hl2
  have HW1 := Lib.hid hw1
  have HPL := Lib.hid hp
  have HK := Lib.hid hk
  clear hw1 hk hp
  go_enter Tryd.func34, Tryd.ntmps34
  go_wp2_with fail
  obtain ⟨W, hW⟩ : ∃ W, w.alloc (.cells #[.int .i64 0, .string ⟨#[]⟩, .string ⟨#[]⟩, .int .i64 0, .int .i64 0, .int .i64 0] 24) = W := ⟨_, rfl⟩
  have b0 : Below w.heap.size w W := by rw [← hW]; exact (Below.refl _ _).alloc (Nat.le_refl _) _
  have LR := Lib.hid (show W.heap[w.heap.size]? = some (.cells (opC zeroO) 24 (0, 0)) by rw [← hW]; exact heap_alloc_new _ _)
  have B0 := Lib.hid b0
  rw [hW]
  clear hW b0
  refine (word_to HW1.out hl W).mono ?_
  rintro e w' ⟨rfl, dn, rfl⟩
  go_wp2_with fail
  refine (rverbs_to _).mono ?_
  rintro e Z ⟨gb, rfl, hv, bz⟩
  have LZ := Lib.hid (show Z.heap[w.heap.size]? = some (.cells (opC zeroO) 24 (0, 0)) from lies_below (show (W.drewN dn).heap[w.heap.size]? = _ from LR.out) bz (lt_heap LR.out))
  have BZ0 := Lib.hid ((below_drewQ B0.out dn).trans (bz.mono B0.out.size))
  have HVV := Lib.hid hv
  clear hv bz
  go_wp2_with fail
  refine (rplace_to HPL.out Z rfl (by decide) HVV.out).mono ?_
  rintro e w' ⟨rfl, rfl⟩
  obtain ⟨V, hV⟩ : ∃ V, w'.alloc (.cells #[.int .i64 0, .string ⟨#[]⟩, .string ⟨#[]⟩, .int .i64 0, .int .i64 0, .int .i64 0] 24) = V := ⟨_, rfl⟩
  have J0 := Lib.hid (show OpIn w V w'.heap.size ⟨0, [], [], 0, 0, 0⟩ by
    rw [← hV]
    exact ⟨BZ0.out.alloc BZ0.out.size _, lies_alloc _ LZ.out, heap_alloc_new _ _, lt_heap LZ.out⟩)
  have hbo : ∃ bo, w'.heap.size = bo := ⟨_, rfl⟩
  obtain ⟨bo, hbo⟩ := hbo
  have HVE := Lib.hid hV
  clear hV HVV
  have HBO := Lib.hid hbo
  go_upto_region 3 with fail
  try rw [show (max 0 (-1) : Int) = 0 by decide]
  rw [show w'.alloc (.cells #[.int .i64 0, .string ⟨#[]⟩, .string ⟨#[]⟩, .int .i64 0, .int .i64 0, .int .i64 0] 24) = V from HVE.out]
  rw [hbo] at J0
  clear hbo HBO
  have HCA := Lib.hid (show candR l = ⟨0, [], [], 0, 0, 0⟩ by
    unfold candR
    simp only [HK.out, HW1.out]
    rfl)
  have HZ := Lib.hid (show takeO l (candR l) = (zeroO, 4) by rw [HCA.out]; rfl)
  have x0 := (lies_cells J0.out.cur).1 0
  have x1 := (lies_cells J0.out.cur).1 1
  have x2 := (lies_cells J0.out.cur).1 2
  have x3 := (lies_cells J0.out.cur).1 3
  have x4 := (lies_cells J0.out.cur).1 4
  have x5 := (lies_cells J0.out.cur).1 5
  have q0 := (lies_cells J0.out.cur).2 0
  have q1 := (lies_cells J0.out.cur).2 1
  have q2 := (lies_cells J0.out.cur).2 2
  have q3 := (lies_cells J0.out.cur).2 3
  have q4 := (lies_cells J0.out.cur).2 4
  have q5 := (lies_cells J0.out.cur).2 5
  simp only [opC, List.getElem?_toArray, List.getElem?_cons_zero, List.getElem?_cons_succ] at x0 x1 x2 x3 x4 x5
  have r0 := (lies_cells J0.out.res).1 0
  have r1 := (lies_cells J0.out.res).1 1
  have r2 := (lies_cells J0.out.res).1 2
  have r3 := (lies_cells J0.out.res).1 3
  have r4 := (lies_cells J0.out.res).1 4
  have r5 := (lies_cells J0.out.res).1 5
  have f0 := (lies_cells J0.out.res).2 0
  have f1 := (lies_cells J0.out.res).2 1
  have f2 := (lies_cells J0.out.res).2 2
  have f3 := (lies_cells J0.out.res).2 3
  have f4 := (lies_cells J0.out.res).2 4
  have f5 := (lies_cells J0.out.res).2 5
  simp only [opC, zeroO, List.getElem?_toArray, List.getElem?_cons_zero, List.getElem?_cons_succ] at r0 r1 r2 r3 r4 r5
  have hrb := J0.out.old
  have hrb2 : w.heap.size ≠ bo := by omega
  have hrb3 : bo ≠ w.heap.size := by omega
  have BZ := Lib.hid (fun (v0 v1 v2 v3 v4 v5 : Value) => ((((((J0.out.below.setCell (p := ⟨w.heap.size, 0, none⟩) (Nat.le_refl _) v0).setCell (p := ⟨w.heap.size, 1, none⟩) (Nat.le_refl _) v1).setCell (p := ⟨w.heap.size, 2, none⟩) (Nat.le_refl _) v2).setCell (p := ⟨w.heap.size, 3, none⟩) (Nat.le_refl _) v3).setCell (p := ⟨w.heap.size, 4, none⟩) (Nat.le_refl _) v4).setCell (p := ⟨w.heap.size, 5, none⟩) (Nat.le_refl _) v5))
  go_wp2
  refine bodyPost_ret (v := .tuple #[opV zeroO, .int .i64 4]) (by simp [results, Tryd.results34, go_sem, r0, r1, r2, r3, r4, r5, zeroO]) rfl ?_
  rw [HZ.out]
  exact ⟨rfl, BZ.out _ _ _ _ _ _⟩
set_option maxRecDepth 100000 in
set_option maxHeartbeats 8000000 in
theorem rparse0 (l vb rs : Str) (hl : l.length ≤ 281474976710656) (w : World) (hw1 : wordS l = (vb, rs)) (hk : kindOf l = 0) (hp : placeI verbsL vb = 0) : Calls Tryd.prog 34 #[qs l] w (POpE (takeO l (candR l)) w) := by
  have hud : ∀ b : Bool, (undef = Value.bool b) = False := fun b => by simp [undef]
  obtain ⟨hl1, hl2⟩ := word_len l
  rw [hw1] at hl1 hl2
  have hl1 : vb.length ≤ l.length := hl1
  have hl2 : rs.length ≤ l.length := hl2
  have HW1 := Lib.hid hw1
  have HPL := Lib.hid hp
  have HK := Lib.hid hk
  clear hw1 hk hp
  go_enter Tryd.func34, Tryd.ntmps34
  go_wp2_with fail
  obtain ⟨W, hW⟩ : ∃ W, w.alloc (.cells #[.int .i64 0, .string ⟨#[]⟩, .string ⟨#[]⟩, .int .i64 0, .int .i64 0, .int .i64 0] 24) = W := ⟨_, rfl⟩
  have b0 : Below w.heap.size w W := by rw [← hW]; exact (Below.refl _ _).alloc (Nat.le_refl _) _
  have LR := Lib.hid (show W.heap[w.heap.size]? = some (.cells (opC zeroO) 24 (0, 0)) by rw [← hW]; exact heap_alloc_new _ _)
  have B0 := Lib.hid b0
  rw [hW]
  clear hW b0
  refine (word_to HW1.out hl W).mono ?_
  rintro e w' ⟨rfl, dn, rfl⟩
  go_wp2_with fail
  refine (rverbs_to _).mono ?_
  rintro e Z ⟨gb, rfl, hv, bz⟩
  have LZ := Lib.hid (show Z.heap[w.heap.size]? = some (.cells (opC zeroO) 24 (0, 0)) from lies_below (show (W.drewN dn).heap[w.heap.size]? = _ from LR.out) bz (lt_heap LR.out))
  have BZ0 := Lib.hid ((below_drewQ B0.out dn).trans (bz.mono B0.out.size))
  have HVV := Lib.hid hv
  clear hv bz
  go_wp2_with fail
  refine (rplace_to HPL.out Z rfl (by decide) HVV.out).mono ?_
  rintro e w' ⟨rfl, rfl⟩
  obtain ⟨V, hV⟩ : ∃ V, w'.alloc (.cells #[.int .i64 0, .string ⟨#[]⟩, .string ⟨#[]⟩, .int .i64 0, .int .i64 0, .int .i64 0] 24) = V := ⟨_, rfl⟩
  have J0 := Lib.hid (show OpIn w V w'.heap.size ⟨0, [], [], 0, 0, 0⟩ by
    rw [← hV]
    exact ⟨BZ0.out.alloc BZ0.out.size _, lies_alloc _ LZ.out, heap_alloc_new _ _, lt_heap LZ.out⟩)
  have hbo : ∃ bo, w'.heap.size = bo := ⟨_, rfl⟩
  obtain ⟨bo, hbo⟩ := hbo
  have HVE := Lib.hid hV
  clear hV HVV
  have HBO := Lib.hid hbo
  go_upto_region 3 with fail
  try rw [show (max 0 (0) : Int) = 0 by decide]
  rw [show w'.alloc (.cells #[.int .i64 0, .string ⟨#[]⟩, .string ⟨#[]⟩, .int .i64 0, .int .i64 0, .int .i64 0] 24) = V from HVE.out]
  rw [hbo] at J0
  clear hbo HBO
  have HCA := Lib.hid (show candR l = ⟨0, [], [], 0, 0, 0⟩ by
    unfold candR
    simp only [HK.out, HW1.out]
    rfl)
  have HZ := Lib.hid (show takeO l (candR l) = (zeroO, 4) by rw [HCA.out]; rfl)
  have x0 := (lies_cells J0.out.cur).1 0
  have x1 := (lies_cells J0.out.cur).1 1
  have x2 := (lies_cells J0.out.cur).1 2
  have x3 := (lies_cells J0.out.cur).1 3
  have x4 := (lies_cells J0.out.cur).1 4
  have x5 := (lies_cells J0.out.cur).1 5
  have q0 := (lies_cells J0.out.cur).2 0
  have q1 := (lies_cells J0.out.cur).2 1
  have q2 := (lies_cells J0.out.cur).2 2
  have q3 := (lies_cells J0.out.cur).2 3
  have q4 := (lies_cells J0.out.cur).2 4
  have q5 := (lies_cells J0.out.cur).2 5
  simp only [opC, List.getElem?_toArray, List.getElem?_cons_zero, List.getElem?_cons_succ] at x0 x1 x2 x3 x4 x5
  have r0 := (lies_cells J0.out.res).1 0
  have r1 := (lies_cells J0.out.res).1 1
  have r2 := (lies_cells J0.out.res).1 2
  have r3 := (lies_cells J0.out.res).1 3
  have r4 := (lies_cells J0.out.res).1 4
  have r5 := (lies_cells J0.out.res).1 5
  have f0 := (lies_cells J0.out.res).2 0
  have f1 := (lies_cells J0.out.res).2 1
  have f2 := (lies_cells J0.out.res).2 2
  have f3 := (lies_cells J0.out.res).2 3
  have f4 := (lies_cells J0.out.res).2 4
  have f5 := (lies_cells J0.out.res).2 5
  simp only [opC, zeroO, List.getElem?_toArray, List.getElem?_cons_zero, List.getElem?_cons_succ] at r0 r1 r2 r3 r4 r5
  have hrb := J0.out.old
  have hrb2 : w.heap.size ≠ bo := by omega
  have hrb3 : bo ≠ w.heap.size := by omega
  have BZ := Lib.hid (fun (v0 v1 v2 v3 v4 v5 : Value) => ((((((J0.out.below.setCell (p := ⟨w.heap.size, 0, none⟩) (Nat.le_refl _) v0).setCell (p := ⟨w.heap.size, 1, none⟩) (Nat.le_refl _) v1).setCell (p := ⟨w.heap.size, 2, none⟩) (Nat.le_refl _) v2).setCell (p := ⟨w.heap.size, 3, none⟩) (Nat.le_refl _) v3).setCell (p := ⟨w.heap.size, 4, none⟩) (Nat.le_refl _) v4).setCell (p := ⟨w.heap.size, 5, none⟩) (Nat.le_refl _) v5))
  go_wp2
  refine bodyPost_ret (v := .tuple #[opV zeroO, .int .i64 4]) (by simp [results, Tryd.results34, go_sem, r0, r1, r2, r3, r4, r5, zeroO]) rfl ?_
  rw [HZ.out]
  exact ⟨rfl, BZ.out _ _ _ _ _ _⟩
set_option maxRecDepth 100000 in
set_option maxHeartbeats 8000000 in
theorem rparse1 (l vb rs : Str) (hl : l.length ≤ 281474976710656) (w : World) (hw1 : wordS l = (vb, rs)) (hk : kindOf l = 1) (hp : placeI verbsL vb = 1) : Calls Tryd.prog 34 #[qs l] w (POpE (takeO l (candR l)) w) := by
  have hud : ∀ b : Bool, (undef = Value.bool b) = False := fun b => by simp [undef]
  obtain ⟨hl1, hl2⟩ := word_len l
  rw [hw1] at hl1 hl2
  have hl1 : vb.length ≤ l.length := hl1
  have hl2 : rs.length ≤ l.length := hl2
  have HW1 := Lib.hid hw1
  have HPL := Lib.hid hp
  have HK := Lib.hid hk
  clear hw1 hk hp
  go_enter Tryd.func34, Tryd.ntmps34
  go_wp2_with fail
  obtain ⟨W, hW⟩ : ∃ W, w.alloc (.cells #[.int .i64 0, .string ⟨#[]⟩, .string ⟨#[]⟩, .int .i64 0, .int .i64 0, .int .i64 0] 24) = W := ⟨_, rfl⟩
  have b0 : Below w.heap.size w W := by rw [← hW]; exact (Below.refl _ _).alloc (Nat.le_refl _) _
  have LR := Lib.hid (show W.heap[w.heap.size]? = some (.cells (opC zeroO) 24 (0, 0)) by rw [← hW]; exact heap_alloc_new _ _)
  have B0 := Lib.hid b0
  rw [hW]
  clear hW b0
  refine (word_to HW1.out hl W).mono ?_
  rintro e w' ⟨rfl, dn, rfl⟩
  go_wp2_with fail
  refine (rverbs_to _).mono ?_
  rintro e Z ⟨gb, rfl, hv, bz⟩
  have LZ := Lib.hid (show Z.heap[w.heap.size]? = some (.cells (opC zeroO) 24 (0, 0)) from lies_below (show (W.drewN dn).heap[w.heap.size]? = _ from LR.out) bz (lt_heap LR.out))
  have BZ0 := Lib.hid ((below_drewQ B0.out dn).trans (bz.mono B0.out.size))
  have HVV := Lib.hid hv
  clear hv bz
  go_wp2_with fail
  refine (rplace_to HPL.out Z rfl (by decide) HVV.out).mono ?_
  rintro e w' ⟨rfl, rfl⟩
  obtain ⟨V, hV⟩ : ∃ V, w'.alloc (.cells #[.int .i64 1, .string ⟨#[]⟩, .string ⟨#[]⟩, .int .i64 0, .int .i64 0, .int .i64 0] 24) = V := ⟨_, rfl⟩
  have J0 := Lib.hid (show OpIn w V w'.heap.size ⟨1, [], [], 0, 0, 0⟩ by
    rw [← hV]
    exact ⟨BZ0.out.alloc BZ0.out.size _, lies_alloc _ LZ.out, heap_alloc_new _ _, lt_heap LZ.out⟩)
  have hbo : ∃ bo, w'.heap.size = bo := ⟨_, rfl⟩
  obtain ⟨bo, hbo⟩ := hbo
  have HVE := Lib.hid hV
  clear hV HVV
  have HBO := Lib.hid hbo
  go_upto_region 3 with fail
  try rw [show (max 0 (1) : Int) = 1 by decide]
  rw [show w'.alloc (.cells #[.int .i64 1, .string ⟨#[]⟩, .string ⟨#[]⟩, .int .i64 0, .int .i64 0, .int .i64 0] 24) = V from HVE.out]
  rw [hbo] at J0
  clear hbo HBO
  obtain ⟨hm1, hm2⟩ := word_len rs
  obtain ⟨⟨sa, sb⟩, hw2⟩ : ∃ q, wordS rs = q := ⟨_, rfl⟩
  rw [hw2] at hm1 hm2
  have hm1 : sa.length ≤ rs.length := hm1
  have hm2 : sb.length ≤ rs.length := hm2
  have HCA := Lib.hid (show candR l = ⟨1, sa, sb, 0, 0, 0⟩ by
    unfold candR
    simp only [HK.out, HW1.out, hw2]
    rfl)
  have HW2 := Lib.hid hw2
  clear hw2
  have x0 := (lies_cells J0.out.cur).1 0
  have x1 := (lies_cells J0.out.cur).1 1
  have x2 := (lies_cells J0.out.cur).1 2
  have x3 := (lies_cells J0.out.cur).1 3
  have x4 := (lies_cells J0.out.cur).1 4
  have x5 := (lies_cells J0.out.cur).1 5
  have q0 := (lies_cells J0.out.cur).2 0
  have q1 := (lies_cells J0.out.cur).2 1
  have q2 := (lies_cells J0.out.cur).2 2
  have q3 := (lies_cells J0.out.cur).2 3
  have q4 := (lies_cells J0.out.cur).2 4
  have q5 := (lies_cells J0.out.cur).2 5
  simp only [opC, List.getElem?_toArray, List.getElem?_cons_zero, List.getElem?_cons_succ] at x0 x1 x2 x3 x4 x5
  go_wp2_with fail
  refine (word_to HW2.out (by omega) V).mono ?_
  rintro e z1 ⟨rfl, n1, rfl⟩
  have J1 := Lib.hid (J0.out.draws n1)
  clear x0 x1 x2 x3 x4 x5 q0 q1 q2 q3 q4 q5
  have x0 := (lies_cells J1.out.cur).1 0
  have x1 := (lies_cells J1.out.cur).1 1
  have x2 := (lies_cells J1.out.cur).1 2
  have x3 := (lies_cells J1.out.cur).1 3
  have x4 := (lies_cells J1.out.cur).1 4
  have x5 := (lies_cells J1.out.cur).1 5
  have q0 := (lies_cells J1.out.cur).2 0
  have q1 := (lies_cells J1.out.cur).2 1
  have q2 := (lies_cells J1.out.cur).2 2
  have q3 := (lies_cells J1.out.cur).2 3
  have q4 := (lies_cells J1.out.cur).2 4
  have q5 := (lies_cells J1.out.cur).2 5
  simp only [opC, List.getElem?_toArray, List.getElem?_cons_zero, List.getElem?_cons_succ] at x0 x1 x2 x3 x4 x5
  have J2 := Lib.hid ((J1.out.ids (z := sa)).txt (z := sb))
  have HC := Lib.hid (show takeO l (candR l) = (if opB ⟨1, sa, sb, 0, 0, 0⟩ = true ∧ opT ⟨1, sa, sb, 0, 0, 0⟩ = l then (⟨1, sa, sb, 0, 0, 0⟩, 0) else (zeroO, 4)) by rw [show candR l = ⟨1, sa, sb, 0, 0, 0⟩ from HCA.out]; rfl)
  obtain ⟨dv, hdv⟩ : ∃ d, opB ⟨1, sa, sb, 0, 0, 0⟩ = d := ⟨_, rfl⟩
  have HDV := Lib.hid hdv
  clear hdv
  go_wp2_with fail
  refine (rvalid_to (o := ⟨1, sa, sb, 0, 0, 0⟩) HDV.out (by show sb.length ≤ _; omega) _).mono ?_
  rintro e y1 ⟨rfl, c1⟩
  clear x0 x1 x2 x3 x4 x5 q0 q1 q2 q3 q4 q5
  have K1 := Lib.hid (J2.out.after c1)
  clear c1
  have x0 := (lies_cells K1.out.cur).1 0
  have x1 := (lies_cells K1.out.cur).1 1
  have x2 := (lies_cells K1.out.cur).1 2
  have x3 := (lies_cells K1.out.cur).1 3
  have x4 := (lies_cells K1.out.cur).1 4
  have x5 := (lies_cells K1.out.cur).1 5
  simp only [opC, List.getElem?_toArray, List.getElem?_cons_zero, List.getElem?_cons_succ] at x0 x1 x2 x3 x4 x5
  have r0 := (lies_cells K1.out.res).1 0
  have r1 := (lies_cells K1.out.res).1 1
  have r2 := (lies_cells K1.out.res).1 2
  have r3 := (lies_cells K1.out.res).1 3
  have r4 := (lies_cells K1.out.res).1 4
  have r5 := (lies_cells K1.out.res).1 5
  have f0 := (lies_cells K1.out.res).2 0
  have f1 := (lies_cells K1.out.res).2 1
  have f2 := (lies_cells K1.out.res).2 2
  have f3 := (lies_cells K1.out.res).2 3
  have f4 := (lies_cells K1.out.res).2 4
  have f5 := (lies_cells K1.out.res).2 5
  simp only [opC, zeroO, List.getElem?_toArray, List.getElem?_cons_zero, List.getElem?_cons_succ] at r0 r1 r2 r3 r4 r5
  have hrb := K1.out.old
  have hrb2 : w.heap.size ≠ bo := by omega
  have hrb3 : bo ≠ w.heap.size := by omega
  cases dv
  · have HZ := Lib.hid (show takeO l (candR l) = (zeroO, 4) by rw [HC.out, HDV.out]; simp)
    have BZ := Lib.hid (fun (v0 v1 v2 v3 v4 v5 : Value) => ((((((K1.out.below.setCell (p := ⟨w.heap.size, 0, none⟩) (Nat.le_refl _) v0).setCell (p := ⟨w.heap.size, 1, none⟩) (Nat.le_refl _) v1).setCell (p := ⟨w.heap.size, 2, none⟩) (Nat.le_refl _) v2).setCell (p := ⟨w.heap.size, 3, none⟩) (Nat.le_refl _) v3).setCell (p := ⟨w.heap.size, 4, none⟩) (Nat.le_refl _) v4).setCell (p := ⟨w.heap.size, 5, none⟩) (Nat.le_refl _) v5))
    go_wp2
    refine bodyPost_ret (v := .tuple #[opV zeroO, .int .i64 4]) (by simp [results, Tryd.results34, go_sem, r0, r1, r2, r3, r4, r5, zeroO]) rfl ?_
    rw [HZ.out]
    exact ⟨rfl, BZ.out _ _ _ _ _ _⟩
  go_wp2_with fail
  refine (rprint_to (o := ⟨1, sa, sb, 0, 0, 0⟩) rfl (by show sb.length ≤ _; omega) y1).mono ?_
  obtain ⟨tx, htx⟩ : ∃ t, opT ⟨1, sa, sb, 0, 0, 0⟩ = t := ⟨_, rfl⟩
  rw [htx] at HC ⊢
  rintro e y2 ⟨rfl, c2⟩
  have K2 := Lib.hid (K1.out.after c2)
  clear c2 htx x0 x1 x2 x3 x4 x5 r0 r1 r2 r3 r4 r5 f0 f1 f2 f3 f4 f5
  have x0 := (lies_cells K2.out.cur).1 0
  have x1 := (lies_cells K2.out.cur).1 1
  have x2 := (lies_cells K2.out.cur).1 2
  have x3 := (lies_cells K2.out.cur).1 3
  have x4 := (lies_cells K2.out.cur).1 4
  have x5 := (lies_cells K2.out.cur).1 5
  simp only [opC, List.getElem?_toArray, List.getElem?_cons_zero, List.getElem?_cons_succ] at x0 x1 x2 x3 x4 x5
  have r0 := (lies_cells K2.out.res).1 0
  have r1 := (lies_cells K2.out.res).1 1
  have r2 := (lies_cells K2.out.res).1 2
  have r3 := (lies_cells K2.out.res).1 3
  have r4 := (lies_cells K2.out.res).1 4
  have r5 := (lies_cells K2.out.res).1 5
  have f0 := (lies_cells K2.out.res).2 0
  have f1 := (lies_cells K2.out.res).2 1
  have f2 := (lies_cells K2.out.res).2 2
  have f3 := (lies_cells K2.out.res).2 3
  have f4 := (lies_cells K2.out.res).2 4
  have f5 := (lies_cells K2.out.res).2 5
  simp only [opC, zeroO, List.getElem?_toArray, List.getElem?_cons_zero, List.getElem?_cons_succ] at r0 r1 r2 r3 r4 r5
  have BZ := Lib.hid (fun (v0 v1 v2 v3 v4 v5 : Value) => ((((((K2.out.below.setCell (p := ⟨w.heap.size, 0, none⟩) (Nat.le_refl _) v0).setCell (p := ⟨w.heap.size, 1, none⟩) (Nat.le_refl _) v1).setCell (p := ⟨w.heap.size, 2, none⟩) (Nat.le_refl _) v2).setCell (p := ⟨w.heap.size, 3, none⟩) (Nat.le_refl _) v3).setCell (p := ⟨w.heap.size, 4, none⟩) (Nat.le_refl _) v4).setCell (p := ⟨w.heap.size, 5, none⟩) (Nat.le_refl _) v5))
  by_cases ht : tx = l
  rotate_left
  · have ht1 : (tx == l) = false := by simpa using ht
    have ht2 : (tx != l) = true := by simp [bne, ht1]
    have HZ := Lib.hid (show takeO l (candR l) = (zeroO, 4) by rw [HC.out]; exact if_neg (fun h => ht h.2))
    clear ht
    go_wp2
    refine bodyPost_ret (v := .tuple #[opV zeroO, .int .i64 4]) (by simp [results, Tryd.results34, go_sem, r0, r1, r2, r3, r4, r5, zeroO]) rfl ?_
    rw [HZ.out]
    exact ⟨rfl, BZ.out _ _ _ _ _ _⟩
  have ht1 : (l == l) = true := by simp
  have ht2 : (l != l) = false := by simp
  have HZ := Lib.hid (show takeO l (candR l) = (⟨1, sa, sb, 0, 0, 0⟩, 0) by rw [HC.out]; exact if_pos ⟨HDV.out, ht⟩)
  rw [ht]
  clear ht
  go_wp2
  refine bodyPost_ret (v := .tuple #[opV ⟨1, sa, sb, 0, 0, 0⟩, .int .i64 0]) (by simp [results, Tryd.results34, go_sem, r0, r1, r2, r3, r4, r5, zeroO]) rfl ?_
  rw [HZ.out]
  exact ⟨rfl, BZ.out _ _ _ _ _ _⟩
set_option maxRecDepth 100000 in
set_option maxHeartbeats 8000000 in
theorem rparse2 (l vb rs : Str) (hl : l.length ≤ 281474976710656) (w : World) (hw1 : wordS l = (vb, rs)) (hk : kindOf l = 2) (hp : placeI verbsL vb = 2) : Calls Tryd.prog 34 #[qs l] w (POpE (takeO l (candR l)) w) := by
  have hud : ∀ b : Bool, (undef = Value.bool b) = False := fun b => by simp [undef]
  obtain ⟨hl1, hl2⟩ := word_len l
  rw [hw1] at hl1 hl2
  have hl1 : vb.length ≤ l.length := hl1
  have hl2 : rs.length ≤ l.length := hl2
  have HW1 := Lib.hid hw1
  have HPL := Lib.hid hp
  have HK := Lib.hid hk
  clear hw1 hk hp
  go_enter Tryd.func34, Tryd.ntmps34
  go_wp2_with fail
  obtain ⟨W, hW⟩ : ∃ W, w.alloc (.cells #[.int .i64 0, .string ⟨#[]⟩, .string ⟨#[]⟩, .int .i64 0, .int .i64 0, .int .i64 0] 24) = W := ⟨_, rfl⟩
  have b0 : Below w.heap.size w W := by rw [← hW]; exact (Below.refl _ _).alloc (Nat.le_refl _) _
  have LR := Lib.hid (show W.heap[w.heap.size]? = some (.cells (opC zeroO) 24 (0, 0)) by rw [← hW]; exact heap_alloc_new _ _)
  have B0 := Lib.hid b0
  rw [hW]
  clear hW b0
  refine (word_to HW1.out hl W).mono ?_
  rintro e w' ⟨rfl, dn, rfl⟩
  go_wp2_with fail
  refine (rverbs_to _).mono ?_
  rintro e Z ⟨gb, rfl, hv, bz⟩
  have LZ := Lib.hid (show Z.heap[w.heap.size]? = some (.cells (opC zeroO) 24 (0, 0)) from lies_below (show (W.drewN dn).heap[w.heap.size]? = _ from LR.out) bz (lt_heap LR.out))
  have BZ0 := Lib.hid ((below_drewQ B0.out dn).trans (bz.mono B0.out.size))
  have HVV := Lib.hid hv
  clear hv bz
  go_wp2_with fail
  refine (rplace_to HPL.out Z rfl (by decide) HVV.out).mono ?_
  rintro e w' ⟨rfl, rfl⟩
  obtain ⟨V, hV⟩ : ∃ V, w'.alloc (.cells #[.int .i64 2, .string ⟨#[]⟩, .string ⟨#[]⟩, .int .i64 0, .int .i64 0, .int .i64 0] 24) = V := ⟨_, rfl⟩
  have J0 := Lib.hid (show OpIn w V w'.heap.size ⟨2, [], [], 0, 0, 0⟩ by
    rw [← hV]
    exact ⟨BZ0.out.alloc BZ0.out.size _, lies_alloc _ LZ.out, heap_alloc_new _ _, lt_heap LZ.out⟩)
  have hbo : ∃ bo, w'.heap.size = bo := ⟨_, rfl⟩
  obtain ⟨bo, hbo⟩ := hbo
  have HVE := Lib.hid hV
  clear hV HVV
  have HBO := Lib.hid hbo
  go_upto_region 3 with fail
  try rw [show (max 0 (2) : Int) = 2 by decide]
  rw [show w'.alloc (.cells #[.int .i64 2, .string ⟨#[]⟩, .string ⟨#[]⟩, .int .i64 0, .int .i64 0, .int .i64 0] 24) = V from HVE.out]
  rw [hbo] at J0
  clear hbo HBO
  have HCA := Lib.hid (show candR l = ⟨2, rs, [], 0, 0, 0⟩ by
    unfold candR
    simp only [HK.out, HW1.out]
    rfl)
  have J1 := Lib.hid (J0.out.ids (z := rs))
  have x0 := (lies_cells J0.out.cur).1 0
  have x1 := (lies_cells J0.out.cur).1 1
  have x2 := (lies_cells J0.out.cur).1 2
  have x3 := (lies_cells J0.out.cur).1 3
  have x4 := (lies_cells J0.out.cur).1 4
  have x5 := (lies_cells J0.out.cur).1 5
  have q0 := (lies_cells J0.out.cur).2 0
  have q1 := (lies_cells J0.out.cur).2 1
  have q2 := (lies_cells J0.out.cur).2 2
  have q3 := (lies_cells J0.out.cur).2 3
  have q4 := (lies_cells J0.out.cur).2 4
  have q5 := (lies_cells J0.out.cur).2 5
  simp only [opC, List.getElem?_toArray, List.getElem?_cons_zero, List.getElem?_cons_succ] at x0 x1 x2 x3 x4 x5
  have HC := Lib.hid (show takeO l (candR l) = (if opB ⟨2, rs, [], 0, 0, 0⟩ = true ∧ opT ⟨2, rs, [], 0, 0, 0⟩ = l then (⟨2, rs, [], 0, 0, 0⟩, 0) else (zeroO, 4)) by rw [show candR l = ⟨2, rs, [], 0, 0, 0⟩ from HCA.out]; rfl)
  obtain ⟨dv, hdv⟩ : ∃ d, opB ⟨2, rs, [], 0, 0, 0⟩ = d := ⟨_, rfl⟩
  have HDV := Lib.hid hdv
  clear hdv
  go_wp2_with fail
  refine (rvalid_to (o := ⟨2, rs, [], 0, 0, 0⟩) HDV.out (by show ([] : Str).length ≤ _; simp) _).mono ?_
  rintro e y1 ⟨rfl, c1⟩
  clear x0 x1 x2 x3 x4 x5 q0 q1 q2 q3 q4 q5
  have K1 := Lib.hid (J1.out.after c1)
  clear c1
  have x0 := (lies_cells K1.out.cur).1 0
  have x1 := (lies_cells K1.out.cur).1 1
  have x2 := (lies_cells K1.out.cur).1 2
  have x3 := (lies_cells K1.out.cur).1 3
  have x4 := (lies_cells K1.out.cur).1 4
  have x5 := (lies_cells K1.out.cur).1 5
  simp only [opC, List.getElem?_toArray, List.getElem?_cons_zero, List.getElem?_cons_succ] at x0 x1 x2 x3 x4 x5
  have r0 := (lies_cells K1.out.res).1 0
  have r1 := (lies_cells K1.out.res).1 1
  have r2 := (lies_cells K1.out.res).1 2
  have r3 := (lies_cells K1.out.res).1 3
  have r4 := (lies_cells K1.out.res).1 4
  have r5 := (lies_cells K1.out.res).1 5
  have f0 := (lies_cells K1.out.res).2 0
  have f1 := (lies_cells K1.out.res).2 1
  have f2 := (lies_cells K1.out.res).2 2
  have f3 := (lies_cells K1.out.res).2 3
  have f4 := (lies_cells K1.out.res).2 4
  have f5 := (lies_cells K1.out.res).2 5
  simp only [opC, zeroO, List.getElem?_toArray, List.getElem?_cons_zero, List.getElem?_cons_succ] at r0 r1 r2 r3 r4 r5
  have hrb := K1.out.old
  have hrb2 : w.heap.size ≠ bo := by omega
  have hrb3 : bo ≠ w.heap.size := by omega
  cases dv
  · have HZ := Lib.hid (show takeO l (candR l) = (zeroO, 4) by rw [HC.out, HDV.out]; simp)
    have BZ := Lib.hid (fun (v0 v1 v2 v3 v4 v5 : Value) => ((((((K1.out.below.setCell (p := ⟨w.heap.size, 0, none⟩) (Nat.le_refl _) v0).setCell (p := ⟨w.heap.size, 1, none⟩) (Nat.le_refl _) v1).setCell (p := ⟨w.heap.size, 2, none⟩) (Nat.le_refl _) v2).setCell (p := ⟨w.heap.size, 3, none⟩) (Nat.le_refl _) v3).setCell (p := ⟨w.heap.size, 4, none⟩) (Nat.le_refl _) v4).setCell (p := ⟨w.heap.size, 5, none⟩) (Nat.le_refl _) v5))
    go_wp2
    refine bodyPost_ret (v := .tuple #[opV zeroO, .int .i64 4]) (by simp [results, Tryd.results34, go_sem, r0, r1, r2, r3, r4, r5, zeroO]) rfl ?_
    rw [HZ.out]
    exact ⟨rfl, BZ.out _ _ _ _ _ _⟩
  go_wp2_with fail
  refine (rprint_to (o := ⟨2, rs, [], 0, 0, 0⟩) rfl (by show ([] : Str).length ≤ _; simp) y1).mono ?_
  obtain ⟨tx, htx⟩ : ∃ t, opT ⟨2, rs, [], 0, 0, 0⟩ = t := ⟨_, rfl⟩
  rw [htx] at HC ⊢
  rintro e y2 ⟨rfl, c2⟩
  have K2 := Lib.hid (K1.out.after c2)
  clear c2 htx x0 x1 x2 x3 x4 x5 r0 r1 r2 r3 r4 r5 f0 f1 f2 f3 f4 f5
  have x0 := (lies_cells K2.out.cur).1 0
  have x1 := (lies_cells K2.out.cur).1 1
  have x2 := (lies_cells K2.out.cur).1 2
  have x3 := (lies_cells K2.out.cur).1 3
  have x4 := (lies_cells K2.out.cur).1 4
  have x5 := (lies_cells K2.out.cur).1 5
  simp only [opC, List.getElem?_toArray, List.getElem?_cons_zero, List.getElem?_cons_succ] at x0 x1 x2 x3 x4 x5
  have r0 := (lies_cells K2.out.res).1 0
  have r1 := (lies_cells K2.out.res).1 1
  have r2 := (lies_cells K2.out.res).1 2
  have r3 := (lies_cells K2.out.res).1 3
  have r4 := (lies_cells K2.out.res).1 4
  have r5 := (lies_cells K2.out.res).1 5
  have f0 := (lies_cells K2.out.res).2 0
  have f1 := (lies_cells K2.out.res).2 1
  have f2 := (lies_cells K2.out.res).2 2
  have f3 := (lies_cells K2.out.res).2 3
  have f4 := (lies_cells K2.out.res).2 4
  have f5 := (lies_cells K2.out.res).2 5
  simp only [opC, zeroO, List.getElem?_toArray, List.getElem?_cons_zero, List.getElem?_cons_succ] at r0 r1 r2 r3 r4 r5
  have BZ := Lib.hid (fun (v0 v1 v2 v3 v4 v5 : Value) => ((((((K2.out.below.setCell (p := ⟨w.heap.size, 0, none⟩) (Nat.le_refl _) v0).setCell (p := ⟨w.heap.size, 1, none⟩) (Nat.le_refl _) v1).setCell (p := ⟨w.heap.size, 2, none⟩) (Nat.le_refl _) v2).setCell (p := ⟨w.heap.size, 3, none⟩) (Nat.le_refl _) v3).setCell (p := ⟨w.heap.size, 4, none⟩) (Nat.le_refl _) v4).setCell (p := ⟨w.heap.size, 5, none⟩) (Nat.le_refl _) v5))
  by_cases ht : tx = l
  rotate_left
  · have ht1 : (tx == l) = false := by simpa using ht
    have ht2 : (tx != l) = true := by simp [bne, ht1]
    have HZ := Lib.hid (show takeO l (candR l) = (zeroO, 4) by rw [HC.out]; exact if_neg (fun h => ht h.2))
    clear ht
    go_wp2
    refine bodyPost_ret (v := .tuple #[opV zeroO, .int .i64 4]) (by simp [results, Tryd.results34, go_sem, r0, r1, r2, r3, r4, r5, zeroO]) rfl ?_
    rw [HZ.out]
    exact ⟨rfl, BZ.out _ _ _ _ _ _⟩
  have ht1 : (l == l) = true := by simp
  have ht2 : (l != l) = false := by simp
  have HZ := Lib.hid (show takeO l (candR l) = (⟨2, rs, [], 0, 0, 0⟩, 0) by rw [HC.out]; exact if_pos ⟨HDV.out, ht⟩)
  rw [ht]
  clear ht
  go_wp2
  refine bodyPost_ret (v := .tuple #[opV ⟨2, rs, [], 0, 0, 0⟩, .int .i64 0]) (by simp [results, Tryd.results34, go_sem, r0, r1, r2, r3, r4, r5, zeroO]) rfl ?_
  rw [HZ.out]
  exact ⟨rfl, BZ.out _ _ _ _ _ _⟩
set_option maxRecDepth 100000 in
set_option maxHeartbeats 8000000 in
theorem rparse3 (l vb rs : Str) (hl : l.length ≤ 281474976710656) (w : World) (hw1 : wordS l = (vb, rs)) (hk : kindOf l = 3) (hp : placeI verbsL vb = 3) : Calls Tryd.prog 34 #[qs l] w (POpE (takeO l (candR l)) w) := by
  have hud : ∀ b : Bool, (undef = Value.bool b) = False := fun b => by simp [undef]
  obtain ⟨hl1, hl2⟩ := word_len l
  rw [hw1] at hl1 hl2
  have hl1 : vb.length ≤ l.length := hl1
  have hl2 : rs.length ≤ l.length := hl2
  have HW1 := Lib.hid hw1
  have HPL := Lib.hid hp
  have HK := Lib.hid hk
  clear hw1 hk hp
  go_enter Tryd.func34, Tryd.ntmps34
  go_wp2_with fail
  obtain ⟨W, hW⟩ : ∃ W, w.alloc (.cells #[.int .i64 0, .string ⟨#[]⟩, .string ⟨#[]⟩, .int .i64 0, .int .i64 0, .int .i64 0] 24) = W := ⟨_, rfl⟩
  have b0 : Below w.heap.size w W := by rw [← hW]; exact (Below.refl _ _).alloc (Nat.le_refl _) _
  have LR := Lib.hid (show W.heap[w.heap.size]? = some (.cells (opC zeroO) 24 (0, 0)) by rw [← hW]; exact heap_alloc_new _ _)
  have B0 := Lib.hid b0
  rw [hW]
  clear hW b0
  refine (word_to HW1.out hl W).mono ?_
  rintro e w' ⟨rfl, dn, rfl⟩
  go_wp2_with fail
  refine (rverbs_to _).mono ?_
  rintro e Z ⟨gb, rfl, hv, bz⟩
  have LZ := Lib.hid (show Z.heap[w.heap.size]? = some (.cells (opC zeroO) 24 (0, 0)) from lies_below (show (W.drewN dn).heap[w.heap.size]? = _ from LR.out) bz (lt_heap LR.out))
  have BZ0 := Lib.hid ((below_drewQ B0.out dn).trans (bz.mono B0.out.size))
  have HVV := Lib.hid hv
  clear hv bz
  go_wp2_with fail
  refine (rplace_to HPL.out Z rfl (by decide) HVV.out).mono ?_
  rintro e w' ⟨rfl, rfl⟩
  obtain ⟨V, hV⟩ : ∃ V, w'.alloc (.cells #[.int .i64 3, .string ⟨#[]⟩, .string ⟨#[]⟩, .int .i64 0, .int .i64 0, .int .i64 0] 24) = V := ⟨_, rfl⟩
  have J0 := Lib.hid (show OpIn w V w'.heap.size ⟨3, [], [], 0, 0, 0⟩ by
    rw [← hV]
    exact ⟨BZ0.out.alloc BZ0.out.size _, lies_alloc _ LZ.out, heap_alloc_new _ _, lt_heap LZ.out⟩)
  have hbo : ∃ bo, w'.heap.size = bo := ⟨_, rfl⟩
  obtain ⟨bo, hbo⟩ := hbo
  have HVE := Lib.hid hV
  clear hV HVV
  have HBO := Lib.hid hbo
  go_upto_region 3 with fail
  try rw [show (max 0 (3) : Int) = 3 by decide]
  rw [show w'.alloc (.cells #[.int .i64 3, .string ⟨#[]⟩, .string ⟨#[]⟩, .int .i64 0, .int .i64 0, .int .i64 0] 24) = V from HVE.out]
  rw [hbo] at J0
  clear hbo HBO
  obtain ⟨hm0, hn0⟩ := word_len rs
  obtain ⟨⟨sa, r1⟩, hw0⟩ : ∃ q, wordS rs = q := ⟨_, rfl⟩
  rw [hw0] at hm0 hn0
  have hm0 : sa.length ≤ rs.length := hm0
  have hn0 : r1.length ≤ rs.length := hn0
  have HX0 := Lib.hid hw0
  obtain ⟨hm1, hn1⟩ := word_len r1
  obtain ⟨⟨sb, r2⟩, hw1⟩ : ∃ q, wordS r1 = q := ⟨_, rfl⟩
  rw [hw1] at hm1 hn1
  have hm1 : sb.length ≤ r1.length := hm1
  have hn1 : r2.length ≤ r1.length := hn1
  have HX1 := Lib.hid hw1
  obtain ⟨hm2, hn2⟩ := word_len r2
  obtain ⟨⟨sc, r3⟩, hw2⟩ : ∃ q, wordS r2 = q := ⟨_, rfl⟩
  rw [hw2] at hm2 hn2
  have hm2 : sc.length ≤ r2.length := hm2
  have hn2 : r3.length ≤ r2.length := hn2
  have HX2 := Lib.hid hw2
  obtain ⟨hm3, hn3⟩ := word_len r3
  obtain ⟨⟨sd, r4⟩, hw3⟩ : ∃ q, wordS r3 = q := ⟨_, rfl⟩
  rw [hw3] at hm3 hn3
  have hm3 : sd.length ≤ r3.length := hm3
  have hn3 : r4.length ≤ r3.length := hn3
  have HX3 := Lib.hid hw3
  obtain ⟨hi1, hi2⟩ := place_lt sc
  obtain ⟨ia, hia⟩ : ∃ v, placeI anas4 sc = v := ⟨_, rfl⟩
  rw [hia] at hi1 hi2
  have hwi : IntKind.i64.wrap (ia + 1) = ia + 1 := IntWalk.i64_in _ (by omega)
  obtain ⟨vd, hvd⟩ : ∃ v, numO sd = v := ⟨_, rfl⟩
  obtain ⟨vn, hvn⟩ : ∃ v, numO r4 = v := ⟨_, rfl⟩
  have HCA := Lib.hid (show candR l = ⟨3, sa, sb, ia + 1, vd, vn⟩ by
    unfold candR
    simp only [HK.out, HW1.out, hw0, hw1, hw2, hw3, hvd, hvn]
    rw [← hia, ← place_ana sc]
    rfl)
  have HIA := Lib.hid hia
  have HVD := Lib.hid hvd
  have HVN := Lib.hid hvn
  clear hw0 hw1 hw2 hw3 hia hvd hvn
  have x0 := (lies_cells J0.out.cur).1 0
  have x1 := (lies_cells J0.out.cur).1 1
  have x2 := (lies_cells J0.out.cur).1 2
  have x3 := (lies_cells J0.out.cur).1 3
  have x4 := (lies_cells J0.out.cur).1 4
  have x5 := (lies_cells J0.out.cur).1 5
  have q0 := (lies_cells J0.out.cur).2 0
  have q1 := (lies_cells J0.out.cur).2 1
  have q2 := (lies_cells J0.out.cur).2 2
  have q3 := (lies_cells J0.out.cur).2 3
  have q4 := (lies_cells J0.out.cur).2 4
  have q5 := (lies_cells J0.out.cur).2 5
  simp only [opC, List.getElem?_toArray, List.getElem?_cons_zero, List.getElem?_cons_succ] at x0 x1 x2 x3 x4 x5
  go_wp2_with fail
  refine (word_to HX0.out (by omega) V).mono ?_
  rintro e z1 ⟨rfl, n1, rfl⟩
  have J1 := Lib.hid (J0.out.draws n1)
  clear x0 x1 x2 x3 x4 x5 q0 q1 q2 q3 q4 q5
  have x0 := (lies_cells J1.out.cur).1 0
  have x1 := (lies_cells J1.out.cur).1 1
  have x2 := (lies_cells J1.out.cur).1 2
  have x3 := (lies_cells J1.out.cur).1 3
  have x4 := (lies_cells J1.out.cur).1 4
  have x5 := (lies_cells J1.out.cur).1 5
  have q0 := (lies_cells J1.out.cur).2 0
  have q1 := (lies_cells J1.out.cur).2 1
  have q2 := (lies_cells J1.out.cur).2 2
  have q3 := (lies_cells J1.out.cur).2 3
  have q4 := (lies_cells J1.out.cur).2 4
  have q5 := (lies_cells J1.out.cur).2 5
  simp only [opC, List.getElem?_toArray, List.getElem?_cons_zero, List.getElem?_cons_succ] at x0 x1 x2 x3 x4 x5
  go_wp2_with fail
  refine (word_to HX1.out (by omega) _).mono ?_
  rintro e z1 ⟨rfl, n2, rfl⟩
  have J2 := Lib.hid ((J1.out.ids (z := sa)).draws n2)
  clear x0 x1 x2 x3 x4 x5 q0 q1 q2 q3 q4 q5
  have x0 := (lies_cells J2.out.cur).1 0
  have x1 := (lies_cells J2.out.cur).1 1
  have x2 := (lies_cells J2.out.cur).1 2
  have x3 := (lies_cells J2.out.cur).1 3
  have x4 := (lies_cells J2.out.cur).1 4
  have x5 := (lies_cells J2.out.cur).1 5
  have q0 := (lies_cells J2.out.cur).2 0
  have q1 := (lies_cells J2.out.cur).2 1
  have q2 := (lies_cells J2.out.cur).2 2
  have q3 := (lies_cells J2.out.cur).2 3
  have q4 := (lies_cells J2.out.cur).2 4
  have q5 := (lies_cells J2.out.cur).2 5
  simp only [opC, List.getElem?_toArray, List.getElem?_cons_zero, List.getElem?_cons_succ] at x0 x1 x2 x3 x4 x5
  go_wp2_with fail
  refine (word_to HX2.out (by omega) _).mono ?_
  rintro e z1 ⟨rfl, n3, rfl⟩
  have J3 := Lib.hid ((J2.out.txt (z := sb)).draws n3)
  clear x0 x1 x2 x3 x4 x5 q0 q1 q2 q3 q4 q5
  have x0 := (lies_cells J3.out.cur).1 0
  have x1 := (lies_cells J3.out.cur).1 1
  have x2 := (lies_cells J3.out.cur).1 2
  have x3 := (lies_cells J3.out.cur).1 3
  have x4 := (lies_cells J3.out.cur).1 4
  have x5 := (lies_cells J3.out.cur).1 5
  have q0 := (lies_cells J3.out.cur).2 0
  have q1 := (lies_cells J3.out.cur).2 1
  have q2 := (lies_cells J3.out.cur).2 2
  have q3 := (lies_cells J3.out.cur).2 3
  have q4 := (lies_cells J3.out.cur).2 4
  have q5 := (lies_cells J3.out.cur).2 5
  simp only [opC, List.getElem?_toArray, List.getElem?_cons_zero, List.getElem?_cons_succ] at x0 x1 x2 x3 x4 x5
  go_wp2_with fail
  refine (word_to HX3.out (by omega) _).mono ?_
  rintro e z1 ⟨rfl, n4, rfl⟩
  have J4 := Lib.hid ((J2.out.txt (z := sb)).draws (n3 + n4))
  clear x0 x1 x2 x3 x4 x5 q0 q1 q2 q3 q4 q5
  have x0 := (lies_cells J4.out.cur).1 0
  have x1 := (lies_cells J4.out.cur).1 1
  have x2 := (lies_cells J4.out.cur).1 2
  have x3 := (lies_cells J4.out.cur).1 3
  have x4 := (lies_cells J4.out.cur).1 4
  have x5 := (lies_cells J4.out.cur).1 5
  have q0 := (lies_cells J4.out.cur).2 0
  have q1 := (lies_cells J4.out.cur).2 1
  have q2 := (lies_cells J4.out.cur).2 2
  have q3 := (lies_cells J4.out.cur).2 3
  have q4 := (lies_cells J4.out.cur).2 4
  have q5 := (lies_cells J4.out.cur).2 5
  simp only [opC, List.getElem?_toArray, List.getElem?_cons_zero, List.getElem?_cons_succ] at x0 x1 x2 x3 x4 x5
  go_wp2_with fail
  refine (ranas_to _).mono ?_
  rintro e Y ⟨ab, rfl, ra, by1⟩
  have J5 := Lib.hid (J4.out.after by1)
  have RA := Lib.hid ra
  clear ra by1
  clear x0 x1 x2 x3 x4 x5 q0 q1 q2 q3 q4 q5
  have x0 := (lies_cells J5.out.cur).1 0
  have x1 := (lies_cells J5.out.cur).1 1
  have x2 := (lies_cells J5.out.cur).1 2
  have x3 := (lies_cells J5.out.cur).1 3
  have x4 := (lies_cells J5.out.cur).1 4
  have x5 := (lies_cells J5.out.cur).1 5
  have q0 := (lies_cells J5.out.cur).2 0
  have q1 := (lies_cells J5.out.cur).2 1
  have q2 := (lies_cells J5.out.cur).2 2
  have q3 := (lies_cells J5.out.cur).2 3
  have q4 := (lies_cells J5.out.cur).2 4
  have q5 := (lies_cells J5.out.cur).2 5
  simp only [opC, List.getElem?_toArray, List.getElem?_cons_zero, List.getElem?_cons_succ] at x0 x1 x2 x3 x4 x5
  go_wp2_with fail
  refine (rplace_to HIA.out Y rfl (by decide) RA.out).mono ?_
  rintro e z1 ⟨rfl, h9⟩
  subst h9
  go_wp2_with fail
  refine (rnumber_to HVD.out (by omega) _).mono ?_
  rintro e z2 ⟨rfl, h9⟩
  subst h9
  go_wp2_with fail
  refine (rnumber_to HVN.out (by omega) _).mono ?_
  rintro e z3 ⟨rfl, h9⟩
  subst h9
  have J6 := Lib.hid (((J5.out.an (z := ia + 1)).nd (z := vd)).nn (z := vn))
  have HC := Lib.hid (show takeO l (candR l) = (if opB ⟨3, sa, sb, ia + 1, vd, vn⟩ = true ∧ opT ⟨3, sa, sb, ia + 1, vd, vn⟩ = l then (⟨3, sa, sb, ia + 1, vd, vn⟩, 0) else (zeroO, 4)) by rw [show candR l = ⟨3, sa, sb, ia + 1, vd, vn⟩ from HCA.out]; rfl)
  obtain ⟨dv, hdv⟩ : ∃ d, opB ⟨3, sa, sb, ia + 1, vd, vn⟩ = d := ⟨_, rfl⟩
  have HDV := Lib.hid hdv
  clear hdv
  go_wp2_with fail
  refine (rvalid_to (o := ⟨3, sa, sb, ia + 1, vd, vn⟩) HDV.out (by show sb.length ≤ _; omega) _).mono ?_
  rintro e y1 ⟨rfl, c1⟩
  clear x0 x1 x2 x3 x4 x5 q0 q1 q2 q3 q4 q5
  have K1 := Lib.hid (J6.out.after c1)
  clear c1
  have x0 := (lies_cells K1.out.cur).1 0
  have x1 := (lies_cells K1.out.cur).1 1
  have x2 := (lies_cells K1.out.cur).1 2
  have x3 := (lies_cells K1.out.cur).1 3
  have x4 := (lies_cells K1.out.cur).1 4
  have x5 := (lies_cells K1.out.cur).1 5
  simp only [opC, List.getElem?_toArray, List.getElem?_cons_zero, List.getElem?_cons_succ] at x0 x1 x2 x3 x4 x5
  have r0 := (lies_cells K1.out.res).1 0
  have r1 := (lies_cells K1.out.res).1 1
  have r2 := (lies_cells K1.out.res).1 2
  have r3 := (lies_cells K1.out.res).1 3
  have r4 := (lies_cells K1.out.res).1 4
  have r5 := (lies_cells K1.out.res).1 5
  have f0 := (lies_cells K1.out.res).2 0
  have f1 := (lies_cells K1.out.res).2 1
  have f2 := (lies_cells K1.out.res).2 2
  have f3 := (lies_cells K1.out.res).2 3
  have f4 := (lies_cells K1.out.res).2 4
  have f5 := (lies_cells K1.out.res).2 5
  simp only [opC, zeroO, List.getElem?_toArray, List.getElem?_cons_zero, List.getElem?_cons_succ] at r0 r1 r2 r3 r4 r5
  have hrb := K1.out.old
  have hrb2 : w.heap.size ≠ bo := by omega
  have hrb3 : bo ≠ w.heap.size := by omega
  cases dv
  · have HZ := Lib.hid (show takeO l (candR l) = (zeroO, 4) by rw [HC.out, HDV.out]; simp)
    have BZ := Lib.hid (fun (v0 v1 v2 v3 v4 v5 : Value) => ((((((K1.out.below.setCell (p := ⟨w.heap.size, 0, none⟩) (Nat.le_refl _) v0).setCell (p := ⟨w.heap.size, 1, none⟩) (Nat.le_refl _) v1).setCell (p := ⟨w.heap.size, 2, none⟩) (Nat.le_refl _) v2).setCell (p := ⟨w.heap.size, 3, none⟩) (Nat.le_refl _) v3).setCell (p := ⟨w.heap.size, 4, none⟩) (Nat.le_refl _) v4).setCell (p := ⟨w.heap.size, 5, none⟩) (Nat.le_refl _) v5))
    go_wp2
    refine bodyPost_ret (v := .tuple #[opV zeroO, .int .i64 4]) (by simp [results, Tryd.results34, go_sem, r0, r1, r2, r3, r4, r5, zeroO]) rfl ?_
    rw [HZ.out]
    exact ⟨rfl, BZ.out _ _ _ _ _ _⟩
  go_wp2_with fail
  refine (rprint_to (o := ⟨3, sa, sb, ia + 1, vd, vn⟩) rfl (by show sb.length ≤ _; omega) y1).mono ?_
  obtain ⟨tx, htx⟩ : ∃ t, opT ⟨3, sa, sb, ia + 1, vd, vn⟩ = t := ⟨_, rfl⟩
  rw [htx] at HC ⊢
  rintro e y2 ⟨rfl, c2⟩
  have K2 := Lib.hid (K1.out.after c2)
  clear c2 htx x0 x1 x2 x3 x4 x5 r0 r1 r2 r3 r4 r5 f0 f1 f2 f3 f4 f5
  have x0 := (lies_cells K2.out.cur).1 0
  have x1 := (lies_cells K2.out.cur).1 1
  have x2 := (lies_cells K2.out.cur).1 2
  have x3 := (lies_cells K2.out.cur).1 3
  have x4 := (lies_cells K2.out.cur).1 4
  have x5 := (lies_cells K2.out.cur).1 5
  simp only [opC, List.getElem?_toArray, List.getElem?_cons_zero, List.getElem?_cons_succ] at x0 x1 x2 x3 x4 x5
  have r0 := (lies_cells K2.out.res).1 0
  have r1 := (lies_cells K2.out.res).1 1
  have r2 := (lies_cells K2.out.res).1 2
  have r3 := (lies_cells K2.out.res).1 3
  have r4 := (lies_cells K2.out.res).1 4
  have r5 := (lies_cells K2.out.res).1 5
  have f0 := (lies_cells K2.out.res).2 0
  have f1 := (lies_cells K2.out.res).2 1
  have f2 := (lies_cells K2.out.res).2 2
  have f3 := (lies_cells K2.out.res).2 3
  have f4 := (lies_cells K2.out.res).2 4
  have f5 := (lies_cells K2.out.res).2 5
  simp only [opC, zeroO, List.getElem?_toArray, List.getElem?_cons_zero, List.getElem?_cons_succ] at r0 r1 r2 r3 r4 r5
  have BZ := Lib.hid (fun (v0 v1 v2 v3 v4 v5 : Value) => ((((((K2.out.below.setCell (p := ⟨w.heap.size, 0, none⟩) (Nat.le_refl _) v0).setCell (p := ⟨w.heap.size, 1, none⟩) (Nat.le_refl _) v1).setCell (p := ⟨w.heap.size, 2, none⟩) (Nat.le_refl _) v2).setCell (p := ⟨w.heap.size, 3, none⟩) (Nat.le_refl _) v3).setCell (p := ⟨w.heap.size, 4, none⟩) (Nat.le_refl _) v4).setCell (p := ⟨w.heap.size, 5, none⟩) (Nat.le_refl _) v5))
  by_cases ht : tx = l
  rotate_left
  · have ht1 : (tx == l) = false := by simpa using ht
    have ht2 : (tx != l) = true := by simp [bne, ht1]
    have HZ := Lib.hid (show takeO l (candR l) = (zeroO, 4) by rw [HC.out]; exact if_neg (fun h => ht h.2))
    clear ht
    go_wp2
    refine bodyPost_ret (v := .tuple #[opV zeroO, .int .i64 4]) (by simp [results, Tryd.results34, go_sem, r0, r1, r2, r3, r4, r5, zeroO]) rfl ?_
    rw [HZ.out]
    exact ⟨rfl, BZ.out _ _ _ _ _ _⟩
  have ht1 : (l == l) = true := by simp
  have ht2 : (l != l) = false := by simp
  have HZ := Lib.hid (show takeO l (candR l) = (⟨3, sa, sb, ia + 1, vd, vn⟩, 0) by rw [HC.out]; exact if_pos ⟨HDV.out, ht⟩)
  rw [ht]
  clear ht
  go_wp2
  refine bodyPost_ret (v := .tuple #[opV ⟨3, sa, sb, ia + 1, vd, vn⟩, .int .i64 0]) (by simp [results, Tryd.results34, go_sem, r0, r1, r2, r3, r4, r5, zeroO]) rfl ?_
  rw [HZ.out]
  exact ⟨rfl, BZ.out _ _ _ _ _ _⟩
set_option maxRecDepth 100000 in
set_option maxHeartbeats 8000000 in
theorem rparse4 (l vb rs : Str) (hl : l.length ≤ 281474976710656) (w : World) (hw1 : wordS l = (vb, rs)) (hk : kindOf l = 4) (hp : placeI verbsL vb = 4) : Calls Tryd.prog 34 #[qs l] w (POpE (takeO l (candR l)) w) := by
  have hud : ∀ b : Bool, (undef = Value.bool b) = False := fun b => by simp [undef]
  obtain ⟨hl1, hl2⟩ := word_len l
  rw [hw1] at hl1 hl2
  have hl1 : vb.length ≤ l.length := hl1
  have hl2 : rs.length ≤ l.length := hl2
  have HW1 := Lib.hid hw1
  have HPL := Lib.hid hp
  have HK := Lib.hid hk
  clear hw1 hk hp
  go_enter Tryd.func34, Tryd.ntmps34
  go_wp2_with fail
  obtain ⟨W, hW⟩ : ∃ W, w.alloc (.cells #[.int .i64 0, .string ⟨#[]⟩, .string ⟨#[]⟩, .int .i64 0, .int .i64 0, .int .i64 0] 24) = W := ⟨_, rfl⟩
  have b0 : Below w.heap.size w W := by rw [← hW]; exact (Below.refl _ _).alloc (Nat.le_refl _) _
  have LR := Lib.hid (show W.heap[w.heap.size]? = some (.cells (opC zeroO) 24 (0, 0)) by rw [← hW]; exact heap_alloc_new _ _)
  have B0 := Lib.hid b0
  rw [hW]
  clear hW b0
  refine (word_to HW1.out hl W).mono ?_
  rintro e w' ⟨rfl, dn, rfl⟩
  go_wp2_with fail
  refine (rverbs_to _).mono ?_
  rintro e Z ⟨gb, rfl, hv, bz⟩
  have LZ := Lib.hid (show Z.heap[w.heap.size]? = some (.cells (opC zeroO) 24 (0, 0)) from lies_below (show (W.drewN dn).heap[w.heap.size]? = _ from LR.out) bz (lt_heap LR.out))
  have BZ0 := Lib.hid ((below_drewQ B0.out dn).trans (bz.mono B0.out.size))
  have HVV := Lib.hid hv
  clear hv bz
  go_wp2_with fail
  refine (rplace_to HPL.out Z rfl (by decide) HVV.out).mono ?_
  rintro e w' ⟨rfl, rfl⟩
  obtain ⟨V, hV⟩ : ∃ V, w'.alloc (.cells #[.int .i64 4, .string ⟨#[]⟩, .string ⟨#[]⟩, .int .i64 0, .int .i64 0, .int .i64 0] 24) = V := ⟨_, rfl⟩
  have J0 := Lib.hid (show OpIn w V w'.heap.size ⟨4, [], [], 0, 0, 0⟩ by
    rw [← hV]
    exact ⟨BZ0.out.alloc BZ0.out.size _, lies_alloc _ LZ.out, heap_alloc_new _ _, lt_heap LZ.out⟩)
  have hbo : ∃ bo, w'.heap.size = bo := ⟨_, rfl⟩
  obtain ⟨bo, hbo⟩ := hbo
  have HVE := Lib.hid hV
  clear hV HVV
  have HBO := Lib.hid hbo
  go_upto_region 3 with fail
  try rw [show (max 0 (4) : Int) = 4 by decide]
  rw [show w'.alloc (.cells #[.int .i64 4, .string ⟨#[]⟩, .string ⟨#[]⟩, .int .i64 0, .int .i64 0, .int .i64 0] 24) = V from HVE.out]
  rw [hbo] at J0
  clear hbo HBO
  have HCA := Lib.hid (show candR l = ⟨4, rs, [], 0, 0, 0⟩ by
    unfold candR
    simp only [HK.out, HW1.out]
    rfl)
  have J1 := Lib.hid (J0.out.ids (z := rs))
  have x0 := (lies_cells J0.out.cur).1 0
  have x1 := (lies_cells J0.out.cur).1 1
  have x2 := (lies_cells J0.out.cur).1 2
  have x3 := (lies_cells J0.out.cur).1 3
  have x4 := (lies_cells J0.out.cur).1 4
  have x5 := (lies_cells J0.out.cur).1 5
  have q0 := (lies_cells J0.out.cur).2 0
  have q1 := (lies_cells J0.out.cur).2 1
  have q2 := (lies_cells J0.out.cur).2 2
  have q3 := (lies_cells J0.out.cur).2 3
  have q4 := (lies_cells J0.out.cur).2 4
  have q5 := (lies_cells J0.out.cur).2 5
  simp only [opC, List.getElem?_toArray, List.getElem?_cons_zero, List.getElem?_cons_succ] at x0 x1 x2 x3 x4 x5
  have HC := Lib.hid (show takeO l (candR l) = (if opB ⟨4, rs, [], 0, 0, 0⟩ = true ∧ opT ⟨4, rs, [], 0, 0, 0⟩ = l then (⟨4, rs, [], 0, 0, 0⟩, 0) else (zeroO, 4)) by rw [show candR l = ⟨4, rs, [], 0, 0, 0⟩ from HCA.out]; rfl)
  obtain ⟨dv, hdv⟩ : ∃ d, opB ⟨4, rs, [], 0, 0, 0⟩ = d := ⟨_, rfl⟩
  have HDV := Lib.hid hdv
  clear hdv
  go_wp2_with fail
  refine (rvalid_to (o := ⟨4, rs, [], 0, 0, 0⟩) HDV.out (by show ([] : Str).length ≤ _; simp) _).mono ?_
  rintro e y1 ⟨rfl, c1⟩
  clear x0 x1 x2 x3 x4 x5 q0 q1 q2 q3 q4 q5
  have K1 := Lib.hid (J1.out.after c1)
  clear c1
  have x0 := (lies_cells K1.out.cur).1 0
  have x1 := (lies_cells K1.out.cur).1 1
  have x2 := (lies_cells K1.out.cur).1 2
  have x3 := (lies_cells K1.out.cur).1 3
  have x4 := (lies_cells K1.out.cur).1 4
  have x5 := (lies_cells K1.out.cur).1 5
  simp only [opC, List.getElem?_toArray, List.getElem?_cons_zero, List.getElem?_cons_succ] at x0 x1 x2 x3 x4 x5
  have r0 := (lies_cells K1.out.res).1 0
  have r1 := (lies_cells K1.out.res).1 1
  have r2 := (lies_cells K1.out.res).1 2
  have r3 := (lies_cells K1.out.res).1 3
  have r4 := (lies_cells K1.out.res).1 4
  have r5 := (lies_cells K1.out.res).1 5
  have f0 := (lies_cells K1.out.res).2 0
  have f1 := (lies_cells K1.out.res).2 1
  have f2 := (lies_cells K1.out.res).2 2
  have f3 := (lies_cells K1.out.res).2 3
  have f4 := (lies_cells K1.out.res).2 4
  have f5 := (lies_cells K1.out.res).2 5
  simp only [opC, zeroO, List.getElem?_toArray, List.getElem?_cons_zero, List.getElem?_cons_succ] at r0 r1 r2 r3 r4 r5
  have hrb := K1.out.old
  have hrb2 : w.heap.size ≠ bo := by omega
  have hrb3 : bo ≠ w.heap.size := by omega
  cases dv
  · have HZ := Lib.hid (show takeO l (candR l) = (zeroO, 4) by rw [HC.out, HDV.out]; simp)
    have BZ := Lib.hid (fun (v0 v1 v2 v3 v4 v5 : Value) => ((((((K1.out.below.setCell (p := ⟨w.heap.size, 0, none⟩) (Nat.le_refl _) v0).setCell (p := ⟨w.heap.size, 1, none⟩) (Nat.le_refl _) v1).setCell (p := ⟨w.heap.size, 2, none⟩) (Nat.le_refl _) v2).setCell (p := ⟨w.heap.size, 3, none⟩) (Nat.le_refl _) v3).setCell (p := ⟨w.heap.size, 4, none⟩) (Nat.le_refl _) v4).setCell (p := ⟨w.heap.size, 5, none⟩) (Nat.le_refl _) v5))
    go_wp2
    refine bodyPost_ret (v := .tuple #[opV zeroO, .int .i64 4]) (by simp [results, Tryd.results34, go_sem, r0, r1, r2, r3, r4, r5, zeroO]) rfl ?_
    rw [HZ.out]
    exact ⟨rfl, BZ.out _ _ _ _ _ _⟩
  go_wp2_with fail
  refine (rprint_to (o := ⟨4, rs, [], 0, 0, 0⟩) rfl (by show ([] : Str).length ≤ _; simp) y1).mono ?_
  obtain ⟨tx, htx⟩ : ∃ t, opT ⟨4, rs, [], 0, 0, 0⟩ = t := ⟨_, rfl⟩
  rw [htx] at HC ⊢
  rintro e y2 ⟨rfl, c2⟩
  have K2 := Lib.hid (K1.out.after c2)
  clear c2 htx x0 x1 x2 x3 x4 x5 r0 r1 r2 r3 r4 r5 f0 f1 f2 f3 f4 f5
  have x0 := (lies_cells K2.out.cur).1 0
  have x1 := (lies_cells K2.out.cur).1 1
  have x2 := (lies_cells K2.out.cur).1 2
  have x3 := (lies_cells K2.out.cur).1 3
  have x4 := (lies_cells K2.out.cur).1 4
  have x5 := (lies_cells K2.out.cur).1 5
  simp only [opC, List.getElem?_toArray, List.getElem?_cons_zero, List.getElem?_cons_succ] at x0 x1 x2 x3 x4 x5
  have r0 := (lies_cells K2.out.res).1 0
  have r1 := (lies_cells K2.out.res).1 1
  have r2 := (lies_cells K2.out.res).1 2
  have r3 := (lies_cells K2.out.res).1 3
  have r4 := (lies_cells K2.out.res).1 4
  have r5 := (lies_cells K2.out.res).1 5
  have f0 := (lies_cells K2.out.res).2 0
  have f1 := (lies_cells K2.out.res).2 1
  have f2 := (lies_cells K2.out.res).2 2
  have f3 := (lies_cells K2.out.res).2 3
  have f4 := (lies_cells K2.out.res).2 4
  have f5 := (lies_cells K2.out.res).2 5
  simp only [opC, zeroO, List.getElem?_toArray, List.getElem?_cons_zero, List.getElem?_cons_succ] at r0 r1 r2 r3 r4 r5
  have BZ := Lib.hid (fun (v0 v1 v2 v3 v4 v5 : Value) => ((((((K2.out.below.setCell (p := ⟨w.heap.size, 0, none⟩) (Nat.le_refl _) v0).setCell (p := ⟨w.heap.size, 1, none⟩) (Nat.le_refl _) v1).setCell (p := ⟨w.heap.size, 2, none⟩) (Nat.le_refl _) v2).setCell (p := ⟨w.heap.size, 3, none⟩) (Nat.le_refl _) v3).setCell (p := ⟨w.heap.size, 4, none⟩) (Nat.le_refl _) v4).setCell (p := ⟨w.heap.size, 5, none⟩) (Nat.le_refl _) v5))
  by_cases ht : tx = l
  rotate_left
  · have ht1 : (tx == l) = false := by simpa using ht
    have ht2 : (tx != l) = true := by simp [bne, ht1]
    have HZ := Lib.hid (show takeO l (candR l) = (zeroO, 4) by rw [HC.out]; exact if_neg (fun h => ht h.2))
    clear ht
    go_wp2
    refine bodyPost_ret (v := .tuple #[opV zeroO, .int .i64 4]) (by simp [results, Tryd.results34, go_sem, r0, r1, r2, r3, r4, r5, zeroO]) rfl ?_
    rw [HZ.out]
    exact ⟨rfl, BZ.out _ _ _ _ _ _⟩
  have ht1 : (l == l) = true := by simp
  have ht2 : (l != l) = false := by simp
  have HZ := Lib.hid (show takeO l (candR l) = (⟨4, rs, [], 0, 0, 0⟩, 0) by rw [HC.out]; exact if_pos ⟨HDV.out, ht⟩)
  rw [ht]
  clear ht
  go_wp2
  refine bodyPost_ret (v := .tuple #[opV ⟨4, rs, [], 0, 0, 0⟩, .int .i64 0]) (by simp [results, Tryd.results34, go_sem, r0, r1, r2, r3, r4, r5, zeroO]) rfl ?_
  rw [HZ.out]
  exact ⟨rfl, BZ.out _ _ _ _ _ _⟩
set_option maxRecDepth 100000 in
set_option maxHeartbeats 8000000 in
theorem rparse5 (l vb rs : Str) (hl : l.length ≤ 281474976710656) (w : World) (hw1 : wordS l = (vb, rs)) (hk : kindOf l = 5) (hp : placeI verbsL vb = 5) : Calls Tryd.prog 34 #[qs l] w (POpE (takeO l (candR l)) w) := by
  have hud : ∀ b : Bool, (undef = Value.bool b) = False := fun b => by simp [undef]
  obtain ⟨hl1, hl2⟩ := word_len l
  rw [hw1] at hl1 hl2
  have hl1 : vb.length ≤ l.length := hl1
  have hl2 : rs.length ≤ l.length := hl2
  have HW1 := Lib.hid hw1
  have HPL := Lib.hid hp
  have HK := Lib.hid hk
  clear hw1 hk hp
  go_enter Tryd.func34, Tryd.ntmps34
  go_wp2_with fail
  obtain ⟨W, hW⟩ : ∃ W, w.alloc (.cells #[.int .i64 0, .string ⟨#[]⟩, .string ⟨#[]⟩, .int .i64 0, .int .i64 0, .int .i64 0] 24) = W := ⟨_, rfl⟩
  have b0 : Below w.heap.size w W := by rw [← hW]; exact (Below.refl _ _).alloc (Nat.le_refl _) _
  have LR := Lib.hid (show W.heap[w.heap.size]? = some (.cells (opC zeroO) 24 (0, 0)) by rw [← hW]; exact heap_alloc_new _ _)
  have B0 := Lib.hid b0
  rw [hW]
  clear hW b0
  refine (word_to HW1.out hl W).mono ?_
  rintro e w' ⟨rfl, dn, rfl⟩
  go_wp2_with fail
  refine (rverbs_to _).mono ?_
  rintro e Z ⟨gb, rfl, hv, bz⟩
  have LZ := Lib.hid (show Z.heap[w.heap.size]? = some (.cells (opC zeroO) 24 (0, 0)) from lies_below (show (W.drewN dn).heap[w.heap.size]? = _ from LR.out) bz (lt_heap LR.out))
  have BZ0 := Lib.hid ((below_drewQ B0.out dn).trans (bz.mono B0.out.size))
  have HVV := Lib.hid hv
  clear hv bz
  go_wp2_with fail
  refine (rplace_to HPL.out Z rfl (by decide) HVV.out).mono ?_
  rintro e w' ⟨rfl, rfl⟩
  obtain ⟨V, hV⟩ : ∃ V, w'.alloc (.cells #[.int .i64 5, .string ⟨#[]⟩, .string ⟨#[]⟩, .int .i64 0, .int .i64 0, .int .i64 0] 24) = V := ⟨_, rfl⟩
  have J0 := Lib.hid (show OpIn w V w'.heap.size ⟨5, [], [], 0, 0, 0⟩ by
    rw [← hV]
    exact ⟨BZ0.out.alloc BZ0.out.size _, lies_alloc _ LZ.out, heap_alloc_new _ _, lt_heap LZ.out⟩)
  have hbo : ∃ bo, w'.heap.size = bo := ⟨_, rfl⟩
  obtain ⟨bo, hbo⟩ := hbo
  have HVE := Lib.hid hV
  clear hV HVV
  have HBO := Lib.hid hbo
  go_upto_region 3 with fail
  try rw [show (max 0 (5) : Int) = 5 by decide]
  rw [show w'.alloc (.cells #[.int .i64 5, .string ⟨#[]⟩, .string ⟨#[]⟩, .int .i64 0, .int .i64 0, .int .i64 0] 24) = V from HVE.out]
  rw [hbo] at J0
  clear hbo HBO
  obtain ⟨vn, hvn⟩ : ∃ v, numO rs = v := ⟨_, rfl⟩
  have HCA := Lib.hid (show candR l = ⟨5, [], [], 0, 0, vn⟩ by
    unfold candR
    simp only [HK.out, HW1.out, hvn]
    rfl)
  have HVN := Lib.hid hvn
  clear hvn
  have x0 := (lies_cells J0.out.cur).1 0
  have x1 := (lies_cells J0.out.cur).1 1
  have x2 := (lies_cells J0.out.cur).1 2
  have x3 := (lies_cells J0.out.cur).1 3
  have x4 := (lies_cells J0.out.cur).1 4
  have x5 := (lies_cells J0.out.cur).1 5
  have q0 := (lies_cells J0.out.cur).2 0
  have q1 := (lies_cells J0.out.cur).2 1
  have q2 := (lies_cells J0.out.cur).2 2
  have q3 := (lies_cells J0.out.cur).2 3
  have q4 := (lies_cells J0.out.cur).2 4
  have q5 := (lies_cells J0.out.cur).2 5
  simp only [opC, List.getElem?_toArray, List.getElem?_cons_zero, List.getElem?_cons_succ] at x0 x1 x2 x3 x4 x5
  go_wp2_with fail
  refine (rnumber_to HVN.out (by omega) V).mono ?_
  rintro e z1 ⟨rfl, h9⟩
  subst h9
  have J1 := Lib.hid (J0.out.nn (z := vn))
  have HC := Lib.hid (show takeO l (candR l) = (if opB ⟨5, [], [], 0, 0, vn⟩ = true ∧ opT ⟨5, [], [], 0, 0, vn⟩ = l then (⟨5, [], [], 0, 0, vn⟩, 0) else (zeroO, 4)) by rw [show candR l = ⟨5, [], [], 0, 0, vn⟩ from HCA.out]; rfl)
  obtain ⟨dv, hdv⟩ : ∃ d, opB ⟨5, [], [], 0, 0, vn⟩ = d := ⟨_, rfl⟩
  have HDV := Lib.hid hdv
  clear hdv
  go_wp2_with fail
  refine (rvalid_to (o := ⟨5, [], [], 0, 0, vn⟩) HDV.out (by show ([] : Str).length ≤ _; simp) _).mono ?_
  rintro e y1 ⟨rfl, c1⟩
  clear x0 x1 x2 x3 x4 x5 q0 q1 q2 q3 q4 q5
  have K1 := Lib.hid (J1.out.after c1)
  clear c1
  have x0 := (lies_cells K1.out.cur).1 0
  have x1 := (lies_cells K1.out.cur).1 1
  have x2 := (lies_cells K1.out.cur).1 2
  have x3 := (lies_cells K1.out.cur).1 3
  have x4 := (lies_cells K1.out.cur).1 4
  have x5 := (lies_cells K1.out.cur).1 5
  simp only [opC, List.getElem?_toArray, List.getElem?_cons_zero, List.getElem?_cons_succ] at x0 x1 x2 x3 x4 x5
  have r0 := (lies_cells K1.out.res).1 0
  have r1 := (lies_cells K1.out.res).1 1
  have r2 := (lies_cells K1.out.res).1 2
  have r3 := (lies_cells K1.out.res).1 3
  have r4 := (lies_cells K1.out.res).1 4
  have r5 := (lies_cells K1.out.res).1 5
  have f0 := (lies_cells K1.out.res).2 0
  have f1 := (lies_cells K1.out.res).2 1
  have f2 := (lies_cells K1.out.res).2 2
  have f3 := (lies_cells K1.out.res).2 3
  have f4 := (lies_cells K1.out.res).2 4
  have f5 := (lies_cells K1.out.res).2 5
  simp only [opC, zeroO, List.getElem?_toArray, List.getElem?_cons_zero, List.getElem?_cons_succ] at r0 r1 r2 r3 r4 r5
  have hrb := K1.out.old
  have hrb2 : w.heap.size ≠ bo := by omega
  have hrb3 : bo ≠ w.heap.size := by omega
  cases dv
  · have HZ := Lib.hid (show takeO l (candR l) = (zeroO, 4) by rw [HC.out, HDV.out]; simp)
    have BZ := Lib.hid (fun (v0 v1 v2 v3 v4 v5 : Value) => ((((((K1.out.below.setCell (p := ⟨w.heap.size, 0, none⟩) (Nat.le_refl _) v0).setCell (p := ⟨w.heap.size, 1, none⟩) (Nat.le_refl _) v1).setCell (p := ⟨w.heap.size, 2, none⟩) (Nat.le_refl _) v2).setCell (p := ⟨w.heap.size, 3, none⟩) (Nat.le_refl _) v3).setCell (p := ⟨w.heap.size, 4, none⟩) (Nat.le_refl _) v4).setCell (p := ⟨w.heap.size, 5, none⟩) (Nat.le_refl _) v5))
    go_wp2
    refine bodyPost_ret (v := .tuple #[opV zeroO, .int .i64 4]) (by simp [results, Tryd.results34, go_sem, r0, r1, r2, r3, r4, r5, zeroO]) rfl ?_
    rw [HZ.out]
    exact ⟨rfl, BZ.out _ _ _ _ _ _⟩
  go_wp2_with fail
  refine (rprint_to (o := ⟨5, [], [], 0, 0, vn⟩) rfl (by show ([] : Str).length ≤ _; simp) y1).mono ?_
  obtain ⟨tx, htx⟩ : ∃ t, opT ⟨5, [], [], 0, 0, vn⟩ = t := ⟨_, rfl⟩
  rw [htx] at HC ⊢
  rintro e y2 ⟨rfl, c2⟩
  have K2 := Lib.hid (K1.out.after c2)
  clear c2 htx x0 x1 x2 x3 x4 x5 r0 r1 r2 r3 r4 r5 f0 f1 f2 f3 f4 f5
  have x0 := (lies_cells K2.out.cur).1 0
  have x1 := (lies_cells K2.out.cur).1 1
  have x2 := (lies_cells K2.out.cur).1 2
  have x3 := (lies_cells K2.out.cur).1 3
  have x4 := (lies_cells K2.out.cur).1 4
  have x5 := (lies_cells K2.out.cur).1 5
  simp only [opC, List.getElem?_toArray, List.getElem?_cons_zero, List.getElem?_cons_succ] at x0 x1 x2 x3 x4 x5
  have r0 := (lies_cells K2.out.res).1 0
  have r1 := (lies_cells K2.out.res).1 1
  have r2 := (lies_cells K2.out.res).1 2
  have r3 := (lies_cells K2.out.res).1 3
  have r4 := (lies_cells K2.out.res).1 4
  have r5 := (lies_cells K2.out.res).1 5
  have f0 := (lies_cells K2.out.res).2 0
  have f1 := (lies_cells K2.out.res).2 1
  have f2 := (lies_cells K2.out.res).2 2
  have f3 := (lies_cells K2.out.res).2 3
  have f4 := (lies_cells K2.out.res).2 4
  have f5 := (lies_cells K2.out.res).2 5
  simp only [opC, zeroO, List.getElem?_toArray, List.getElem?_cons_zero, List.getElem?_cons_succ] at r0 r1 r2 r3 r4 r5
  have BZ := Lib.hid (fun (v0 v1 v2 v3 v4 v5 : Value) => ((((((K2.out.below.setCell (p := ⟨w.heap.size, 0, none⟩) (Nat.le_refl _) v0).setCell (p := ⟨w.heap.size, 1, none⟩) (Nat.le_refl _) v1).setCell (p := ⟨w.heap.size, 2, none⟩) (Nat.le_refl _) v2).setCell (p := ⟨w.heap.size, 3, none⟩) (Nat.le_refl _) v3).setCell (p := ⟨w.heap.size, 4, none⟩) (Nat.le_refl _) v4).setCell (p := ⟨w.heap.size, 5, none⟩) (Nat.le_refl _) v5))
  by_cases ht : tx = l
  rotate_left
  · have ht1 : (tx == l) = false := by simpa using ht
    have ht2 : (tx != l) = true := by simp [bne, ht1]
    have HZ := Lib.hid (show takeO l (candR l) = (zeroO, 4) by rw [HC.out]; exact if_neg (fun h => ht h.2))
    clear ht
    go_wp2
    refine bodyPost_ret (v := .tuple #[opV zeroO, .int .i64 4]) (by simp [results, Tryd.results34, go_sem, r0, r1, r2, r3, r4, r5, zeroO]) rfl ?_
    rw [HZ.out]
    exact ⟨rfl, BZ.out _ _ _ _ _ _⟩
  have ht1 : (l == l) = true := by simp
  have ht2 : (l != l) = false := by simp
  have HZ := Lib.hid (show takeO l (candR l) = (⟨5, [], [], 0, 0, vn⟩, 0) by rw [HC.out]; exact if_pos ⟨HDV.out, ht⟩)
  rw [ht]
  clear ht
  go_wp2
  refine bodyPost_ret (v := .tuple #[opV ⟨5, [], [], 0, 0, vn⟩, .int .i64 0]) (by simp [results, Tryd.results34, go_sem, r0, r1, r2, r3, r4, r5, zeroO]) rfl ?_
  rw [HZ.out]
  exact ⟨rfl, BZ.out _ _ _ _ _ _⟩
set_option maxRecDepth 100000 in
set_option maxHeartbeats 8000000 in
theorem rparse6 (l vb rs : Str) (hl : l.length ≤ 281474976710656) (w : World) (hw1 : wordS l = (vb, rs)) (hk : kindOf l = 6) (hp : placeI verbsL vb = 6) : Calls Tryd.prog 34 #[qs l] w (POpE (takeO l (candR l)) w) := by
  have hud : ∀ b : Bool, (undef = Value.bool b) = False := fun b => by simp [undef]
  obtain ⟨hl1, hl2⟩ := word_len l
  rw [hw1] at hl1 hl2
  have hl1 : vb.length ≤ l.length := hl1
  have hl2 : rs.length ≤ l.length := hl2
  have HW1 := Lib.hid hw1
  have HPL := Lib.hid hp
  have HK := Lib.hid hk
  clear hw1 hk hp
  go_enter Tryd.func34, Tryd.ntmps34
  go_wp2_with fail
  obtain ⟨W, hW⟩ : ∃ W, w.alloc (.cells #[.int .i64 0, .string ⟨#[]⟩, .string ⟨#[]⟩, .int .i64 0, .int .i64 0, .int .i64 0] 24) = W := ⟨_, rfl⟩
  have b0 : Below w.heap.size w W := by rw [← hW]; exact (Below.refl _ _).alloc (Nat.le_refl _) _
  have LR := Lib.hid (show W.heap[w.heap.size]? = some (.cells (opC zeroO) 24 (0, 0)) by rw [← hW]; exact heap_alloc_new _ _)
  have B0 := Lib.hid b0
  rw [hW]
  clear hW b0
  refine (word_to HW1.out hl W).mono ?_
  rintro e w' ⟨rfl, dn, rfl⟩
  go_wp2_with fail
  refine (rverbs_to _).mono ?_
  rintro e Z ⟨gb, rfl, hv, bz⟩
  have LZ := Lib.hid (show Z.heap[w.heap.size]? = some (.cells (opC zeroO) 24 (0, 0)) from lies_below (show (W.drewN dn).heap[w.heap.size]? = _ from LR.out) bz (lt_heap LR.out))
  have BZ0 := Lib.hid ((below_drewQ B0.out dn).trans (bz.mono B0.out.size))
  have HVV := Lib.hid hv
  clear hv bz
  go_wp2_with fail
  refine (rplace_to HPL.out Z rfl (by decide) HVV.out).mono ?_
  rintro e w' ⟨rfl, rfl⟩
  obtain ⟨V, hV⟩ : ∃ V, w'.alloc (.cells #[.int .i64 6, .string ⟨#[]⟩, .string ⟨#[]⟩, .int .i64 0, .int .i64 0, .int .i64 0] 24) = V := ⟨_, rfl⟩
  have J0 := Lib.hid (show OpIn w V w'.heap.size ⟨6, [], [], 0, 0, 0⟩ by
    rw [← hV]
    exact ⟨BZ0.out.alloc BZ0.out.size _, lies_alloc _ LZ.out, heap_alloc_new _ _, lt_heap LZ.out⟩)
  have hbo : ∃ bo, w'.heap.size = bo := ⟨_, rfl⟩
  obtain ⟨bo, hbo⟩ := hbo
  have HVE := Lib.hid hV
  clear hV HVV
  have HBO := Lib.hid hbo
  go_upto_region 3 with fail
  try rw [show (max 0 (6) : Int) = 6 by decide]
  rw [show w'.alloc (.cells #[.int .i64 6, .string ⟨#[]⟩, .string ⟨#[]⟩, .int .i64 0, .int .i64 0, .int .i64 0] 24) = V from HVE.out]
  rw [hbo] at J0
  clear hbo HBO
  have HCA := Lib.hid (show candR l = ⟨6, rs, [], 0, 0, 0⟩ by
    unfold candR
    simp only [HK.out, HW1.out]
    rfl)
  have J1 := Lib.hid (J0.out.ids (z := rs))
  have x0 := (lies_cells J0.out.cur).1 0
  have x1 := (lies_cells J0.out.cur).1 1
  have x2 := (lies_cells J0.out.cur).1 2
  have x3 := (lies_cells J0.out.cur).1 3
  have x4 := (lies_cells J0.out.cur).1 4
  have x5 := (lies_cells J0.out.cur).1 5
  have q0 := (lies_cells J0.out.cur).2 0
  have q1 := (lies_cells J0.out.cur).2 1
  have q2 := (lies_cells J0.out.cur).2 2
  have q3 := (lies_cells J0.out.cur).2 3
  have q4 := (lies_cells J0.out.cur).2 4
  have q5 := (lies_cells J0.out.cur).2 5
  simp only [opC, List.getElem?_toArray, List.getElem?_cons_zero, List.getElem?_cons_succ] at x0 x1 x2 x3 x4 x5
  have HC := Lib.hid (show takeO l (candR l) = (if opB ⟨6, rs, [], 0, 0, 0⟩ = true ∧ opT ⟨6, rs, [], 0, 0, 0⟩ = l then (⟨6, rs, [], 0, 0, 0⟩, 0) else (zeroO, 4)) by rw [show candR l = ⟨6, rs, [], 0, 0, 0⟩ from HCA.out]; rfl)
  obtain ⟨dv, hdv⟩ : ∃ d, opB ⟨6, rs, [], 0, 0, 0⟩ = d := ⟨_, rfl⟩
  have HDV := Lib.hid hdv
  clear hdv
  go_wp2_with fail
  refine (rvalid_to (o := ⟨6, rs, [], 0, 0, 0⟩) HDV.out (by show ([] : Str).length ≤ _; simp) _).mono ?_
  rintro e y1 ⟨rfl, c1⟩
  clear x0 x1 x2 x3 x4 x5 q0 q1 q2 q3 q4 q5
  have K1 := Lib.hid (J1.out.after c1)
  clear c1
  have x0 := (lies_cells K1.out.cur).1 0
  have x1 := (lies_cells K1.out.cur).1 1
  have x2 := (lies_cells K1.out.cur).1 2
  have x3 := (lies_cells K1.out.cur).1 3
  have x4 := (lies_cells K1.out.cur).1 4
  have x5 := (lies_cells K1.out.cur).1 5
  simp only [opC, List.getElem?_toArray, List.getElem?_cons_zero, List.getElem?_cons_succ] at x0 x1 x2 x3 x4 x5
  have r0 := (lies_cells K1.out.res).1 0
  have r1 := (lies_cells K1.out.res).1 1
  have r2 := (lies_cells K1.out.res).1 2
  have r3 := (lies_cells K1.out.res).1 3
  have r4 := (lies_cells K1.out.res).1 4
  have r5 := (lies_cells K1.out.res).1 5
  have f0 := (lies_cells K1.out.res).2 0
  have f1 := (lies_cells K1.out.res).2 1
  have f2 := (lies_cells K1.out.res).2 2
  have f3 := (lies_cells K1.out.res).2 3
  have f4 := (lies_cells K1.out.res).2 4
  have f5 := (lies_cells K1.out.res).2 5
  simp only [opC, zeroO, List.getElem?_toArray, List.getElem?_cons_zero, List.getElem?_cons_succ] at r0 r1 r2 r3 r4 r5
  have hrb := K1.out.old
  have hrb2 : w.heap.size ≠ bo := by omega
  have hrb3 : bo ≠ w.heap.size := by omega
  cases dv
  · have HZ := Lib.hid (show takeO l (candR l) = (zeroO, 4) by rw [HC.out, HDV.out]; simp)
    have BZ := Lib.hid (fun (v0 v1 v2 v3 v4 v5 : Value) => ((((((K1.out.below.setCell (p := ⟨w.heap.size, 0, none⟩) (Nat.le_refl _) v0).setCell (p := ⟨w.heap.size, 1, none⟩) (Nat.le_refl _) v1).setCell (p := ⟨w.heap.size, 2, none⟩) (Nat.le_refl _) v2).setCell (p := ⟨w.heap.size, 3, none⟩) (Nat.le_refl _) v3).setCell (p := ⟨w.heap.size, 4, none⟩) (Nat.le_refl _) v4).setCell (p := ⟨w.heap.size, 5, none⟩) (Nat.le_refl _) v5))
    go_wp2
    refine bodyPost_ret (v := .tuple #[opV zeroO, .int .i64 4]) (by simp [results, Tryd.results34, go_sem, r0, r1, r2, r3, r4, r5, zeroO]) rfl ?_
    rw [HZ.out]
    exact ⟨rfl, BZ.out _ _ _ _ _ _⟩
  go_wp2_with fail
  refine (rprint_to (o := ⟨6, rs, [], 0, 0, 0⟩) rfl (by show ([] : Str).length ≤ _; simp) y1).mono ?_
  obtain ⟨tx, htx⟩ : ∃ t, opT ⟨6, rs, [], 0, 0, 0⟩ = t := ⟨_, rfl⟩
  rw [htx] at HC ⊢
  rintro e y2 ⟨rfl, c2⟩
  have K2 := Lib.hid (K1.out.after c2)
  clear c2 htx x0 x1 x2 x3 x4 x5 r0 r1 r2 r3 r4 r5 f0 f1 f2 f3 f4 f5
  have x0 := (lies_cells K2.out.cur).1 0
  have x1 := (lies_cells K2.out.cur).1 1
  have x2 := (lies_cells K2.out.cur).1 2
  have x3 := (lies_cells K2.out.cur).1 3
  have x4 := (lies_cells K2.out.cur).1 4
  have x5 := (lies_cells K2.out.cur).1 5
  simp only [opC, List.getElem?_toArray, List.getElem?_cons_zero, List.getElem?_cons_succ] at x0 x1 x2 x3 x4 x5
  have r0 := (lies_cells K2.out.res).1 0
  have r1 := (lies_cells K2.out.res).1 1
  have r2 := (lies_cells K2.out.res).1 2
  have r3 := (lies_cells K2.out.res).1 3
  have r4 := (lies_cells K2.out.res).1 4
  have r5 := (lies_cells K2.out.res).1 5
  have f0 := (lies_cells K2.out.res).2 0
  have f1 := (lies_cells K2.out.res).2 1
  have f2 := (lies_cells K2.out.res).2 2
  have f3 := (lies_cells K2.out.res).2 3
  have f4 := (lies_cells K2.out.res).2 4
  have f5 := (lies_cells K2.out.res).2 5
  simp only [opC, zeroO, List.getElem?_toArray, List.getElem?_cons_zero, List.getElem?_cons_succ] at r0 r1 r2 r3 r4 r5
  have BZ := Lib.hid (fun (v0 v1 v2 v3 v4 v5 : Value) => ((((((K2.out.below.setCell (p := ⟨w.heap.size, 0, none⟩) (Nat.le_refl _) v0).setCell (p := ⟨w.heap.size, 1, none⟩) (Nat.le_refl _) v1).setCell (p := ⟨w.heap.size, 2, none⟩) (Nat.le_refl _) v2).setCell (p := ⟨w.heap.size, 3, none⟩) (Nat.le_refl _) v3).setCell (p := ⟨w.heap.size, 4, none⟩) (Nat.le_refl _) v4).setCell (p := ⟨w.heap.size, 5, none⟩) (Nat.le_refl _) v5))
  by_cases ht : tx = l
  rotate_left
  · have ht1 : (tx == l) = false := by simpa using ht
    have ht2 : (tx != l) = true := by simp [bne, ht1]
    have HZ := Lib.hid (show takeO l (candR l) = (zeroO, 4) by rw [HC.out]; exact if_neg (fun h => ht h.2))
    clear ht
    go_wp2
    refine bodyPost_ret (v := .tuple #[opV zeroO, .int .i64 4]) (by simp [results, Tryd.results34, go_sem, r0, r1, r2, r3, r4, r5, zeroO]) rfl ?_
    rw [HZ.out]
    exact ⟨rfl, BZ.out _ _ _ _ _ _⟩
  have ht1 : (l == l) = true := by simp
  have ht2 : (l != l) = false := by simp
  have HZ := Lib.hid (show takeO l (candR l) = (⟨6, rs, [], 0, 0, 0⟩, 0) by rw [HC.out]; exact if_pos ⟨HDV.out, ht⟩)
  rw [ht]
  clear ht
  go_wp2
  refine bodyPost_ret (v := .tuple #[opV ⟨6, rs, [], 0, 0, 0⟩, .int .i64 0]) (by simp [results, Tryd.results34, go_sem, r0, r1, r2, r3, r4, r5, zeroO]) rfl ?_
  rw [HZ.out]
  exact ⟨rfl, BZ.out _ _ _ _ _ _⟩
set_option maxRecDepth 100000 in
set_option maxHeartbeats 8000000 in
theorem rparse7 (l vb rs : Str) (hl : l.length ≤ 281474976710656) (w : World) (hw1 : wordS l = (vb, rs)) (hk : kindOf l = 7) (hp : placeI verbsL vb = 7) : Calls Tryd.prog 34 #[qs l] w (POpE (takeO l (candR l)) w) := by
  have hud : ∀ b : Bool, (undef = Value.bool b) = False := fun b => by simp [undef]
  obtain ⟨hl1, hl2⟩ := word_len l
  rw [hw1] at hl1 hl2
  have hl1 : vb.length ≤ l.length := hl1
  have hl2 : rs.length ≤ l.length := hl2
  have HW1 := Lib.hid hw1
  have HPL := Lib.hid hp
  have HK := Lib.hid hk
  clear hw1 hk hp
  go_enter Tryd.func34, Tryd.ntmps34
  go_wp2_with fail
  obtain ⟨W, hW⟩ : ∃ W, w.alloc (.cells #[.int .i64 0, .string ⟨#[]⟩, .string ⟨#[]⟩, .int .i64 0, .int .i64 0, .int .i64 0] 24) = W := ⟨_, rfl⟩
  have b0 : Below w.heap.size w W := by rw [← hW]; exact (Below.refl _ _).alloc (Nat.le_refl _) _
  have LR := Lib.hid (show W.heap[w.heap.size]? = some (.cells (opC zeroO) 24 (0, 0)) by rw [← hW]; exact heap_alloc_new _ _)
  have B0 := Lib.hid b0
  rw [hW]
  clear hW b0
  refine (word_to HW1.out hl W).mono ?_
  rintro e w' ⟨rfl, dn, rfl⟩
  go_wp2_with fail
  refine (rverbs_to _).mono ?_
  rintro e Z ⟨gb, rfl, hv, bz⟩
  have LZ := Lib.hid (show Z.heap[w.heap.size]? = some (.cells (opC zeroO) 24 (0, 0)) from lies_below (show (W.drewN dn).heap[w.heap.size]? = _ from LR.out) bz (lt_heap LR.out))
  have BZ0 := Lib.hid ((below_drewQ B0.out dn).trans (bz.mono B0.out.size))
  have HVV := Lib.hid hv
  clear hv bz
  go_wp2_with fail
  refine (rplace_to HPL.out Z rfl (by decide) HVV.out).mono ?_
  rintro e w' ⟨rfl, rfl⟩
  obtain ⟨V, hV⟩ : ∃ V, w'.alloc (.cells #[.int .i64 7, .string ⟨#[]⟩, .string ⟨#[]⟩, .int .i64 0, .int .i64 0, .int .i64 0] 24) = V := ⟨_, rfl⟩
  have J0 := Lib.hid (show OpIn w V w'.heap.size ⟨7, [], [], 0, 0, 0⟩ by
    rw [← hV]
    exact ⟨BZ0.out.alloc BZ0.out.size _, lies_alloc _ LZ.out, heap_alloc_new _ _, lt_heap LZ.out⟩)
  have hbo : ∃ bo, w'.heap.size = bo := ⟨_, rfl⟩
  obtain ⟨bo, hbo⟩ := hbo
  have HVE := Lib.hid hV
  clear hV HVV
  have HBO := Lib.hid hbo
  go_upto_region 3 with fail
  try rw [show (max 0 (7) : Int) = 7 by decide]
  rw [show w'.alloc (.cells #[.int .i64 7, .string ⟨#[]⟩, .string ⟨#[]⟩, .int .i64 0, .int .i64 0, .int .i64 0] 24) = V from HVE.out]
  rw [hbo] at J0
  clear hbo HBO
  have HCA := Lib.hid (show candR l = ⟨7, rs, [], 0, 0, 0⟩ by
    unfold candR
    simp only [HK.out, HW1.out]
    rfl)
  have J1 := Lib.hid (J0.out.ids (z := rs))
  have x0 := (lies_cells J0.out.cur).1 0
  have x1 := (lies_cells J0.out.cur).1 1
  have x2 := (lies_cells J0.out.cur).1 2
  have x3 := (lies_cells J0.out.cur).1 3
  have x4 := (lies_cells J0.out.cur).1 4
  have x5 := (lies_cells J0.out.cur).1 5
  have q0 := (lies_cells J0.out.cur).2 0
  have q1 := (lies_cells J0.out.cur).2 1
  have q2 := (lies_cells J0.out.cur).2 2
  have q3 := (lies_cells J0.out.cur).2 3
  have q4 := (lies_cells J0.out.cur).2 4
  have q5 := (lies_cells J0.out.cur).2 5
  simp only [opC, List.getElem?_toArray, List.getElem?_cons_zero, List.getElem?_cons_succ] at x0 x1 x2 x3 x4 x5
  have HC := Lib.hid (show takeO l (candR l) = (if opB ⟨7, rs, [], 0, 0, 0⟩ = true ∧ opT ⟨7, rs, [], 0, 0, 0⟩ = l then (⟨7, rs, [], 0, 0, 0⟩, 0) else (zeroO, 4)) by rw [show candR l = ⟨7, rs, [], 0, 0, 0⟩ from HCA.out]; rfl)
  obtain ⟨dv, hdv⟩ : ∃ d, opB ⟨7, rs, [], 0, 0, 0⟩ = d := ⟨_, rfl⟩
  have HDV := Lib.hid hdv
  clear hdv
  go_wp2_with fail
  refine (rvalid_to (o := ⟨7, rs, [], 0, 0, 0⟩) HDV.out (by show ([] : Str).length ≤ _; simp) _).mono ?_
  rintro e y1 ⟨rfl, c1⟩
  clear x0 x1 x2 x3 x4 x5 q0 q1 q2 q3 q4 q5
  have K1 := Lib.hid (J1.out.after c1)
  clear c1
  have x0 := (lies_cells K1.out.cur).1 0
  have x1 := (lies_cells K1.out.cur).1 1
  have x2 := (lies_cells K1.out.cur).1 2
  have x3 := (lies_cells K1.out.cur).1 3
  have x4 := (lies_cells K1.out.cur).1 4
  have x5 := (lies_cells K1.out.cur).1 5
  simp only [opC, List.getElem?_toArray, List.getElem?_cons_zero, List.getElem?_cons_succ] at x0 x1 x2 x3 x4 x5
  have r0 := (lies_cells K1.out.res).1 0
  have r1 := (lies_cells K1.out.res).1 1
  have r2 := (lies_cells K1.out.res).1 2
  have r3 := (lies_cells K1.out.res).1 3
  have r4 := (lies_cells K1.out.res).1 4
  have r5 := (lies_cells K1.out.res).1 5
  have f0 := (lies_cells K1.out.res).2 0
  have f1 := (lies_cells K1.out.res).2 1
  have f2 := (lies_cells K1.out.res).2 2
  have f3 := (lies_cells K1.out.res).2 3
  have f4 := (lies_cells K1.out.res).2 4
  have f5 := (lies_cells K1.out.res).2 5
  simp only [opC, zeroO, List.getElem?_toArray, List.getElem?_cons_zero, List.getElem?_cons_succ] at r0 r1 r2 r3 r4 r5
  have hrb := K1.out.old
  have hrb2 : w.heap.size ≠ bo := by omega
  have hrb3 : bo ≠ w.heap.size := by omega
  cases dv
  · have HZ := Lib.hid (show takeO l (candR l) = (zeroO, 4) by rw [HC.out, HDV.out]; simp)
    have BZ := Lib.hid (fun (v0 v1 v2 v3 v4 v5 : Value) => ((((((K1.out.below.setCell (p := ⟨w.heap.size, 0, none⟩) (Nat.le_refl _) v0).setCell (p := ⟨w.heap.size, 1, none⟩) (Nat.le_refl _) v1).setCell (p := ⟨w.heap.size, 2, none⟩) (Nat.le_refl _) v2).setCell (p := ⟨w.heap.size, 3, none⟩) (Nat.le_refl _) v3).setCell (p := ⟨w.heap.size, 4, none⟩) (Nat.le_refl _) v4).setCell (p := ⟨w.heap.size, 5, none⟩) (Nat.le_refl _) v5))
    go_wp2
    refine bodyPost_ret (v := .tuple #[opV zeroO, .int .i64 4]) (by simp [results, Tryd.results34, go_sem, r0, r1, r2, r3, r4, r5, zeroO]) rfl ?_
    rw [HZ.out]
    exact ⟨rfl, BZ.out _ _ _ _ _ _⟩
  go_wp2_with fail
  refine (rprint_to (o := ⟨7, rs, [], 0, 0, 0⟩) rfl (by show ([] : Str).length ≤ _; simp) y1).mono ?_
  obtain ⟨tx, htx⟩ : ∃ t, opT ⟨7, rs, [], 0, 0, 0⟩ = t := ⟨_, rfl⟩
  rw [htx] at HC ⊢
  rintro e y2 ⟨rfl, c2⟩
  have K2 := Lib.hid (K1.out.after c2)
  clear c2 htx x0 x1 x2 x3 x4 x5 r0 r1 r2 r3 r4 r5 f0 f1 f2 f3 f4 f5
  have x0 := (lies_cells K2.out.cur).1 0
  have x1 := (lies_cells K2.out.cur).1 1
  have x2 := (lies_cells K2.out.cur).1 2
  have x3 := (lies_cells K2.out.cur).1 3
  have x4 := (lies_cells K2.out.cur).1 4
  have x5 := (lies_cells K2.out.cur).1 5
  simp only [opC, List.getElem?_toArray, List.getElem?_cons_zero, List.getElem?_cons_succ] at x0 x1 x2 x3 x4 x5
  have r0 := (lies_cells K2.out.res).1 0
  have r1 := (lies_cells K2.out.res).1 1
  have r2 := (lies_cells K2.out.res).1 2
  have r3 := (lies_cells K2.out.res).1 3
  have r4 := (lies_cells K2.out.res).1 4
  have r5 := (lies_cells K2.out.res).1 5
  have f0 := (lies_cells K2.out.res).2 0
  have f1 := (lies_cells K2.out.res).2 1
  have f2 := (lies_cells K2.out.res).2 2
  have f3 := (lies_cells K2.out.res).2 3
  have f4 := (lies_cells K2.out.res).2 4
  have f5 := (lies_cells K2.out.res).2 5
  simp only [opC, zeroO, List.getElem?_toArray, List.getElem?_cons_zero, List.getElem?_cons_succ] at r0 r1 r2 r3 r4 r5
  have BZ := Lib.hid (fun (v0 v1 v2 v3 v4 v5 : Value) => ((((((K2.out.below.setCell (p := ⟨w.heap.size, 0, none⟩) (Nat.le_refl _) v0).setCell (p := ⟨w.heap.size, 1, none⟩) (Nat.le_refl _) v1).setCell (p := ⟨w.heap.size, 2, none⟩) (Nat.le_refl _) v2).setCell (p := ⟨w.heap.size, 3, none⟩) (Nat.le_refl _) v3).setCell (p := ⟨w.heap.size, 4, none⟩) (Nat.le_refl _) v4).setCell (p := ⟨w.heap.size, 5, none⟩) (Nat.le_refl _) v5))
  by_cases ht : tx = l
  rotate_left
  · have ht1 : (tx == l) = false := by simpa using ht
    have ht2 : (tx != l) = true := by simp [bne, ht1]
    have HZ := Lib.hid (show takeO l (candR l) = (zeroO, 4) by rw [HC.out]; exact if_neg (fun h => ht h.2))
    clear ht
    go_wp2
    refine bodyPost_ret (v := .tuple #[opV zeroO, .int .i64 4]) (by simp [results, Tryd.results34, go_sem, r0, r1, r2, r3, r4, r5, zeroO]) rfl ?_
    rw [HZ.out]
    exact ⟨rfl, BZ.out _ _ _ _ _ _⟩
  have ht1 : (l == l) = true := by simp
  have ht2 : (l != l) = false := by simp
  have HZ := Lib.hid (show takeO l (candR l) = (⟨7, rs, [], 0, 0, 0⟩, 0) by rw [HC.out]; exact if_pos ⟨HDV.out, ht⟩)
  rw [ht]
  clear ht
  go_wp2
  refine bodyPost_ret (v := .tuple #[opV ⟨7, rs, [], 0, 0, 0⟩, .int .i64 0]) (by simp [results, Tryd.results34, go_sem, r0, r1, r2, r3, r4, r5, zeroO]) rfl ?_
  rw [HZ.out]
  exact ⟨rfl, BZ.out _ _ _ _ _ _⟩
set_option maxRecDepth 100000 in
set_option maxHeartbeats 8000000 in
theorem rparse8 (l vb rs : Str) (hl : l.length ≤ 281474976710656) (w : World) (hw1 : wordS l = (vb, rs)) (hk : kindOf l = 8) (hp : placeI verbsL vb = 8) : Calls Tryd.prog 34 #[qs l] w (POpE (takeO l (candR l)) w) := by
  have hud : ∀ b : Bool, (undef = Value.bool b) = False := fun b => by simp [undef]
  obtain ⟨hl1, hl2⟩ := word_len l
  rw [hw1] at hl1 hl2
  have hl1 : vb.length ≤ l.length := hl1
  have hl2 : rs.length ≤ l.length := hl2
  have HW1 := Lib.hid hw1
  have HPL := Lib.hid hp
  have HK := Lib.hid hk
  clear hw1 hk hp
  go_enter Tryd.func34, Tryd.ntmps34
  go_wp2_with fail
  obtain ⟨W, hW⟩ : ∃ W, w.alloc (.cells #[.int .i64 0, .string ⟨#[]⟩, .string ⟨#[]⟩, .int .i64 0, .int .i64 0, .int .i64 0] 24) = W := ⟨_, rfl⟩
  have b0 : Below w.heap.size w W := by rw [← hW]; exact (Below.refl _ _).alloc (Nat.le_refl _) _
  have LR := Lib.hid (show W.heap[w.heap.size]? = some (.cells (opC zeroO) 24 (0, 0)) by rw [← hW]; exact heap_alloc_new _ _)
  have B0 := Lib.hid b0
  rw [hW]
  clear hW b0
  refine (word_to HW1.out hl W).mono ?_
  rintro e w' ⟨rfl, dn, rfl⟩
  go_wp2_with fail
  refine (rverbs_to _).mono ?_
  rintro e Z ⟨gb, rfl, hv, bz⟩
  have LZ := Lib.hid (show Z.heap[w.heap.size]? = some (.cells (opC zeroO) 24 (0, 0)) from lies_below (show (W.drewN dn).heap[w.heap.size]? = _ from LR.out) bz (lt_heap LR.out))
  have BZ0 := Lib.hid ((below_drewQ B0.out dn).trans (bz.mono B0.out.size))
  have HVV := Lib.hid hv
  clear hv bz
  go_wp2_with fail
  refine (rplace_to HPL.out Z rfl (by decide) HVV.out).mono ?_
  rintro e w' ⟨rfl, rfl⟩
  obtain ⟨V, hV⟩ : ∃ V, w'.alloc (.cells #[.int .i64 8, .string ⟨#[]⟩, .string ⟨#[]⟩, .int .i64 0, .int .i64 0, .int .i64 0] 24) = V := ⟨_, rfl⟩
  have J0 := Lib.hid (show OpIn w V w'.heap.size ⟨8, [], [], 0, 0, 0⟩ by
    rw [← hV]
    exact ⟨BZ0.out.alloc BZ0.out.size _, lies_alloc _ LZ.out, heap_alloc_new _ _, lt_heap LZ.out⟩)
  have hbo : ∃ bo, w'.heap.size = bo := ⟨_, rfl⟩
  obtain ⟨bo, hbo⟩ := hbo
  have HVE := Lib.hid hV
  clear hV HVV
  have HBO := Lib.hid hbo
  go_upto_region 3 with fail
  try rw [show (max 0 (8) : Int) = 8 by decide]
  rw [show w'.alloc (.cells #[.int .i64 8, .string ⟨#[]⟩, .string ⟨#[]⟩, .int .i64 0, .int .i64 0, .int .i64 0] 24) = V from HVE.out]
  rw [hbo] at J0
  clear hbo HBO
  obtain ⟨vn, hvn⟩ : ∃ v, numO rs = v := ⟨_, rfl⟩
  have HCA := Lib.hid (show candR l = ⟨8, [], [], 0, 0, vn⟩ by
    unfold candR
    simp only [HK.out, HW1.out, hvn]
    rfl)
  have HVN := Lib.hid hvn
  clear hvn
  have x0 := (lies_cells J0.out.cur).1 0
  have x1 := (lies_cells J0.out.cur).1 1
  have x2 := (lies_cells J0.out.cur).1 2
  have x3 := (lies_cells J0.out.cur).1 3
  have x4 := (lies_cells J0.out.cur).1 4
  have x5 := (lies_cells J0.out.cur).1 5
  have q0 := (lies_cells J0.out.cur).2 0
  have q1 := (lies_cells J0.out.cur).2 1
  have q2 := (lies_cells J0.out.cur).2 2
  have q3 := (lies_cells J0.out.cur).2 3
  have q4 := (lies_cells J0.out.cur).2 4
  have q5 := (lies_cells J0.out.cur).2 5
  simp only [opC, List.getElem?_toArray, List.getElem?_cons_zero, List.getElem?_cons_succ] at x0 x1 x2 x3 x4 x5
  go_wp2_with fail
  refine (rnumber_to HVN.out (by omega) V).mono ?_
  rintro e z1 ⟨rfl, h9⟩
  subst h9
  have J1 := Lib.hid (J0.out.nn (z := vn))
  have HC := Lib.hid (show takeO l (candR l) = (if opB ⟨8, [], [], 0, 0, vn⟩ = true ∧ opT ⟨8, [], [], 0, 0, vn⟩ = l then (⟨8, [], [], 0, 0, vn⟩, 0) else (zeroO, 4)) by rw [show candR l = ⟨8, [], [], 0, 0, vn⟩ from HCA.out]; rfl)
  obtain ⟨dv, hdv⟩ : ∃ d, opB ⟨8, [], [], 0, 0, vn⟩ = d := ⟨_, rfl⟩
  have HDV := Lib.hid hdv
  clear hdv
  go_wp2_with fail
  refine (rvalid_to (o := ⟨8, [], [], 0, 0, vn⟩) HDV.out (by show ([] : Str).length ≤ _; simp) _).mono ?_
  rintro e y1 ⟨rfl, c1⟩
  clear x0 x1 x2 x3 x4 x5 q0 q1 q2 q3 q4 q5
  have K1 := Lib.hid (J1.out.after c1)
  clear c1
  have x0 := (lies_cells K1.out.cur).1 0
  have x1 := (lies_cells K1.out.cur).1 1
  have x2 := (lies_cells K1.out.cur).1 2
  have x3 := (lies_cells K1.out.cur).1 3
  have x4 := (lies_cells K1.out.cur).1 4
  have x5 := (lies_cells K1.out.cur).1 5
  simp only [opC, List.getElem?_toArray, List.getElem?_cons_zero, List.getElem?_cons_succ] at x0 x1 x2 x3 x4 x5
  have r0 := (lies_cells K1.out.res).1 0
  have r1 := (lies_cells K1.out.res).1 1
  have r2 := (lies_cells K1.out.res).1 2
  have r3 := (lies_cells K1.out.res).1 3
  have r4 := (lies_cells K1.out.res).1 4
  have r5 := (lies_cells K1.out.res).1 5
  have f0 := (lies_cells K1.out.res).2 0
  have f1 := (lies_cells K1.out.res).2 1
  have f2 := (lies_cells K1.out.res).2 2
  have f3 := (lies_cells K1.out.res).2 3
  have f4 := (lies_cells K1.out.res).2 4
  have f5 := (lies_cells K1.out.res).2 5
  simp only [opC, zeroO, List.getElem?_toArray, List.getElem?_cons_zero, List.getElem?_cons_succ] at r0 r1 r2 r3 r4 r5
  have hrb := K1.out.old
  have hrb2 : w.heap.size ≠ bo := by omega
  have hrb3 : bo ≠ w.heap.size := by omega
  cases dv
  · have HZ := Lib.hid (show takeO l (candR l) = (zeroO, 4) by rw [HC.out, HDV.out]; simp)
    have BZ := Lib.hid (fun (v0 v1 v2 v3 v4 v5 : Value) => ((((((K1.out.below.setCell (p := ⟨w.heap.size, 0, none⟩) (Nat.le_refl _) v0).setCell (p := ⟨w.heap.size, 1, none⟩) (Nat.le_refl _) v1).setCell (p := ⟨w.heap.size, 2, none⟩) (Nat.le_refl _) v2).setCell (p := ⟨w.heap.size, 3, none⟩) (Nat.le_refl _) v3).setCell (p := ⟨w.heap.size, 4, none⟩) (Nat.le_refl _) v4).setCell (p := ⟨w.heap.size, 5, none⟩) (Nat.le_refl _) v5))
    go_wp2
    refine bodyPost_ret (v := .tuple #[opV zeroO, .int .i64 4]) (by simp [results, Tryd.results34, go_sem, r0, r1, r2, r3, r4, r5, zeroO]) rfl ?_
    rw [HZ.out]
    exact ⟨rfl, BZ.out _ _ _ _ _ _⟩
  go_wp2_with fail
  refine (rprint_to (o := ⟨8, [], [], 0, 0, vn⟩) rfl (by show ([] : Str).length ≤ _; simp) y1).mono ?_
  obtain ⟨tx, htx⟩ : ∃ t, opT ⟨8, [], [], 0, 0, vn⟩ = t := ⟨_, rfl⟩
  rw [htx] at HC ⊢
  rintro e y2 ⟨rfl, c2⟩
  have K2 := Lib.hid (K1.out.after c2)
  clear c2 htx x0 x1 x2 x3 x4 x5 r0 r1 r2 r3 r4 r5 f0 f1 f2 f3 f4 f5
  have x0 := (lies_cells K2.out.cur).1 0
  have x1 := (lies_cells K2.out.cur).1 1
  have x2 := (lies_cells K2.out.cur).1 2
  have x3 := (lies_cells K2.out.cur).1 3
  have x4 := (lies_cells K2.out.cur).1 4
  have x5 := (lies_cells K2.out.cur).1 5
  simp only [opC, List.getElem?_toArray, List.getElem?_cons_zero, List.getElem?_cons_succ] at x0 x1 x2 x3 x4 x5
  have r0 := (lies_cells K2.out.res).1 0
  have r1 := (lies_cells K2.out.res).1 1
  have r2 := (lies_cells K2.out.res).1 2
  have r3 := (lies_cells K2.out.res).1 3
  have r4 := (lies_cells K2.out.res).1 4
  have r5 := (lies_cells K2.out.res).1 5
  have f0 := (lies_cells K2.out.res).2 0
  have f1 := (lies_cells K2.out.res).2 1
  have f2 := (lies_cells K2.out.res).2 2
  have f3 := (lies_cells K2.out.res).2 3
  have f4 := (lies_cells K2.out.res).2 4
  have f5 := (lies_cells K2.out.res).2 5
  simp only [opC, zeroO, List.getElem?_toArray, List.getElem?_cons_zero, List.getElem?_cons_succ] at r0 r1 r2 r3 r4 r5
  have BZ := Lib.hid (fun (v0 v1 v2 v3 v4 v5 : Value) => ((((((K2.out.below.setCell (p := ⟨w.heap.size, 0, none⟩) (Nat.le_refl _) v0).setCell (p := ⟨w.heap.size, 1, none⟩) (Nat.le_refl _) v1).setCell (p := ⟨w.heap.size, 2, none⟩) (Nat.le_refl _) v2).setCell (p := ⟨w.heap.size, 3, none⟩) (Nat.le_refl _) v3).setCell (p := ⟨w.heap.size, 4, none⟩) (Nat.le_refl _) v4).setCell (p := ⟨w.heap.size, 5, none⟩) (Nat.le_refl _) v5))
  by_cases ht : tx = l
  rotate_left
  · have ht1 : (tx == l) = false := by simpa using ht
    have ht2 : (tx != l) = true := by simp [bne, ht1]
    have HZ := Lib.hid (show takeO l (candR l) = (zeroO, 4) by rw [HC.out]; exact if_neg (fun h => ht h.2))
    clear ht
    go_wp2
    refine bodyPost_ret (v := .tuple #[opV zeroO, .int .i64 4]) (by simp [results, Tryd.results34, go_sem, r0, r1, r2, r3, r4, r5, zeroO]) rfl ?_
    rw [HZ.out]
    exact ⟨rfl, BZ.out _ _ _ _ _ _⟩
  have ht1 : (l == l) = true := by simp
  have ht2 : (l != l) = false := by simp
  have HZ := Lib.hid (show takeO l (candR l) = (⟨8, [], [], 0, 0, vn⟩, 0) by rw [HC.out]; exact if_pos ⟨HDV.out, ht⟩)
  rw [ht]
  clear ht
  go_wp2
  refine bodyPost_ret (v := .tuple #[opV ⟨8, [], [], 0, 0, vn⟩, .int .i64 0]) (by simp [results, Tryd.results34, go_sem, r0, r1, r2, r3, r4, r5, zeroO]) rfl ?_
  rw [HZ.out]
  exact ⟨rfl, BZ.out _ _ _ _ _ _⟩
set_option maxRecDepth 100000 in
set_option maxHeartbeats 8000000 in
theorem rparse9 (l vb rs : Str) (hl : l.length ≤ 281474976710656) (w : World) (hw1 : wordS l = (vb, rs)) (hk : kindOf l = 9) (hp : placeI verbsL vb = 9) : Calls Tryd.prog 34 #[qs l] w (POpE (takeO l (candR l)) w) := by
  have hud : ∀ b : Bool, (undef = Value.bool b) = False := fun b => by simp [undef]
  obtain ⟨hl1, hl2⟩ := word_len l
  rw [hw1] at hl1 hl2
  have hl1 : vb.length ≤ l.length := hl1
  have hl2 : rs.length ≤ l.length := hl2
  have HW1 := Lib.hid hw1
  have HPL := Lib.hid hp
  have HK := Lib.hid hk
  clear hw1 hk hp
  go_enter Tryd.func34, Tryd.ntmps34
  go_wp2_with fail
  obtain ⟨W, hW⟩ : ∃ W, w.alloc (.cells #[.int .i64 0, .string ⟨#[]⟩, .string ⟨#[]⟩, .int .i64 0, .int .i64 0, .int .i64 0] 24) = W := ⟨_, rfl⟩
  have b0 : Below w.heap.size w W := by rw [← hW]; exact (Below.refl _ _).alloc (Nat.le_refl _) _
  have LR := Lib.hid (show W.heap[w.heap.size]? = some (.cells (opC zeroO) 24 (0, 0)) by rw [← hW]; exact heap_alloc_new _ _)
  have B0 := Lib.hid b0
  rw [hW]
  clear hW b0
  refine (word_to HW1.out hl W).mono ?_
  rintro e w' ⟨rfl, dn, rfl⟩
  go_wp2_with fail
  refine (rverbs_to _).mono ?_
  rintro e Z ⟨gb, rfl, hv, bz⟩
  have LZ := Lib.hid (show Z.heap[w.heap.size]? = some (.cells (opC zeroO) 24 (0, 0)) from lies_below (show (W.drewN dn).heap[w.heap.size]? = _ from LR.out) bz (lt_heap LR.out))
  have BZ0 := Lib.hid ((below_drewQ B0.out dn).trans (bz.mono B0.out.size))
  have HVV := Lib.hid hv
  clear hv bz
  go_wp2_with fail
  refine (rplace_to HPL.out Z rfl (by decide) HVV.out).mono ?_
  rintro e w' ⟨rfl, rfl⟩
  obtain ⟨V, hV⟩ : ∃ V, w'.alloc (.cells #[.int .i64 9, .string ⟨#[]⟩, .string ⟨#[]⟩, .int .i64 0, .int .i64 0, .int .i64 0] 24) = V := ⟨_, rfl⟩
  have J0 := Lib.hid (show OpIn w V w'.heap.size ⟨9, [], [], 0, 0, 0⟩ by
    rw [← hV]
    exact ⟨BZ0.out.alloc BZ0.out.size _, lies_alloc _ LZ.out, heap_alloc_new _ _, lt_heap LZ.out⟩)
  have hbo : ∃ bo, w'.heap.size = bo := ⟨_, rfl⟩
  obtain ⟨bo, hbo⟩ := hbo
  have HVE := Lib.hid hV
  clear hV HVV
  have HBO := Lib.hid hbo
  go_upto_region 3 with fail
  try rw [show (max 0 (9) : Int) = 9 by decide]
  rw [show w'.alloc (.cells #[.int .i64 9, .string ⟨#[]⟩, .string ⟨#[]⟩, .int .i64 0, .int .i64 0, .int .i64 0] 24) = V from HVE.out]
  rw [hbo] at J0
  clear hbo HBO
  have HCA := Lib.hid (show candR l = ⟨9, [], [], 0, 0, 0⟩ by
    unfold candR
    simp only [HK.out, HW1.out]
    rfl)
  have x0 := (lies_cells J0.out.cur).1 0
  have x1 := (lies_cells J0.out.cur).1 1
  have x2 := (lies_cells J0.out.cur).1 2
  have x3 := (lies_cells J0.out.cur).1 3
  have x4 := (lies_cells J0.out.cur).1 4
  have x5 := (lies_cells J0.out.cur).1 5
  have q0 := (lies_cells J0.out.cur).2 0
  have q1 := (lies_cells J0.out.cur).2 1
  have q2 := (lies_cells J0.out.cur).2 2
  have q3 := (lies_cells J0.out.cur).2 3
  have q4 := (lies_cells J0.out.cur).2 4
  have q5 := (lies_cells J0.out.cur).2 5
  simp only [opC, List.getElem?_toArray, List.getElem?_cons_zero, List.getElem?_cons_succ] at x0 x1 x2 x3 x4 x5
  have HC := Lib.hid (show takeO l (candR l) = (if opB ⟨9, [], [], 0, 0, 0⟩ = true ∧ opT ⟨9, [], [], 0, 0, 0⟩ = l then (⟨9, [], [], 0, 0, 0⟩, 0) else (zeroO, 4)) by rw [show candR l = ⟨9, [], [], 0, 0, 0⟩ from HCA.out]; rfl)
  obtain ⟨dv, hdv⟩ : ∃ d, opB ⟨9, [], [], 0, 0, 0⟩ = d := ⟨_, rfl⟩
  have HDV := Lib.hid hdv
  clear hdv
  go_wp2_with fail
  refine (rvalid_to (o := ⟨9, [], [], 0, 0, 0⟩) HDV.out (by show ([] : Str).length ≤ _; simp) _).mono ?_
  rintro e y1 ⟨rfl, c1⟩
  clear x0 x1 x2 x3 x4 x5 q0 q1 q2 q3 q4 q5
  have K1 := Lib.hid (J0.out.after c1)
  clear c1
  have x0 := (lies_cells K1.out.cur).1 0
  have x1 := (lies_cells K1.out.cur).1 1
  have x2 := (lies_cells K1.out.cur).1 2
  have x3 := (lies_cells K1.out.cur).1 3
  have x4 := (lies_cells K1.out.cur).1 4
  have x5 := (lies_cells K1.out.cur).1 5
  simp only [opC, List.getElem?_toArray, List.getElem?_cons_zero, List.getElem?_cons_succ] at x0 x1 x2 x3 x4 x5
  have r0 := (lies_cells K1.out.res).1 0
  have r1 := (lies_cells K1.out.res).1 1
  have r2 := (lies_cells K1.out.res).1 2
  have r3 := (lies_cells K1.out.res).1 3
  have r4 := (lies_cells K1.out.res).1 4
  have r5 := (lies_cells K1.out.res).1 5
  have f0 := (lies_cells K1.out.res).2 0
  have f1 := (lies_cells K1.out.res).2 1
  have f2 := (lies_cells K1.out.res).2 2
  have f3 := (lies_cells K1.out.res).2 3
  have f4 := (lies_cells K1.out.res).2 4
  have f5 := (lies_cells K1.out.res).2 5
  simp only [opC, zeroO, List.getElem?_toArray, List.getElem?_cons_zero, List.getElem?_cons_succ] at r0 r1 r2 r3 r4 r5
  have hrb := K1.out.old
  have hrb2 : w.heap.size ≠ bo := by omega
  have hrb3 : bo ≠ w.heap.size := by omega
  cases dv
  · have HZ := Lib.hid (show takeO l (candR l) = (zeroO, 4) by rw [HC.out, HDV.out]; simp)
    have BZ := Lib.hid (fun (v0 v1 v2 v3 v4 v5 : Value) => ((((((K1.out.below.setCell (p := ⟨w.heap.size, 0, none⟩) (Nat.le_refl _) v0).setCell (p := ⟨w.heap.size, 1, none⟩) (Nat.le_refl _) v1).setCell (p := ⟨w.heap.size, 2, none⟩) (Nat.le_refl _) v2).setCell (p := ⟨w.heap.size, 3, none⟩) (Nat.le_refl _) v3).setCell (p := ⟨w.heap.size, 4, none⟩) (Nat.le_refl _) v4).setCell (p := ⟨w.heap.size, 5, none⟩) (Nat.le_refl _) v5))
    go_wp2
    refine bodyPost_ret (v := .tuple #[opV zeroO, .int .i64 4]) (by simp [results, Tryd.results34, go_sem, r0, r1, r2, r3, r4, r5, zeroO]) rfl ?_
    rw [HZ.out]
    exact ⟨rfl, BZ.out _ _ _ _ _ _⟩
  go_wp2_with fail
  refine (rprint_to (o := ⟨9, [], [], 0, 0, 0⟩) rfl (by show ([] : Str).length ≤ _; simp) y1).mono ?_
  obtain ⟨tx, htx⟩ : ∃ t, opT ⟨9, [], [], 0, 0, 0⟩ = t := ⟨_, rfl⟩
  rw [htx] at HC ⊢
  rintro e y2 ⟨rfl, c2⟩
  have K2 := Lib.hid (K1.out.after c2)
  clear c2 htx x0 x1 x2 x3 x4 x5 r0 r1 r2 r3 r4 r5 f0 f1 f2 f3 f4 f5
  have x0 := (lies_cells K2.out.cur).1 0
  have x1 := (lies_cells K2.out.cur).1 1
  have x2 := (lies_cells K2.out.cur).1 2
  have x3 := (lies_cells K2.out.cur).1 3
  have x4 := (lies_cells K2.out.cur).1 4
  have x5 := (lies_cells K2.out.cur).1 5
  simp only [opC, List.getElem?_toArray, List.getElem?_cons_zero, List.getElem?_cons_succ] at x0 x1 x2 x3 x4 x5
  have r0 := (lies_cells K2.out.res).1 0
  have r1 := (lies_cells K2.out.res).1 1
  have r2 := (lies_cells K2.out.res).1 2
  have r3 := (lies_cells K2.out.res).1 3
  have r4 := (lies_cells K2.out.res).1 4
  have r5 := (lies_cells K2.out.res).1 5
  have f0 := (lies_cells K2.out.res).2 0
  have f1 := (lies_cells K2.out.res).2 1
  have f2 := (lies_cells K2.out.res).2 2
  have f3 := (lies_cells K2.out.res).2 3
  have f4 := (lies_cells K2.out.res).2 4
  have f5 := (lies_cells K2.out.res).2 5
  simp only [opC, zeroO, List.getElem?_toArray, List.getElem?_cons_zero, List.getElem?_cons_succ] at r0 r1 r2 r3 r4 r5
  have BZ := Lib.hid (fun (v0 v1 v2 v3 v4 v5 : Value) => ((((((K2.out.below.setCell (p := ⟨w.heap.size, 0, none⟩) (Nat.le_refl _) v0).setCell (p := ⟨w.heap.size, 1, none⟩) (Nat.le_refl _) v1).setCell (p := ⟨w.heap.size, 2, none⟩) (Nat.le_refl _) v2).setCell (p := ⟨w.heap.size, 3, none⟩) (Nat.le_refl _) v3).setCell (p := ⟨w.heap.size, 4, none⟩) (Nat.le_refl _) v4).setCell (p := ⟨w.heap.size, 5, none⟩) (Nat.le_refl _) v5))
  by_cases ht : tx = l
  rotate_left
  · have ht1 : (tx == l) = false := by simpa using ht
    have ht2 : (tx != l) = true := by simp [bne, ht1]
    have HZ := Lib.hid (show takeO l (candR l) = (zeroO, 4) by rw [HC.out]; exact if_neg (fun h => ht h.2))
    clear ht
    go_wp2
    refine bodyPost_ret (v := .tuple #[opV zeroO, .int .i64 4]) (by simp [results, Tryd.results34, go_sem, r0, r1, r2, r3, r4, r5, zeroO]) rfl ?_
    rw [HZ.out]
    exact ⟨rfl, BZ.out _ _ _ _ _ _⟩
  have ht1 : (l == l) = true := by simp
  have ht2 : (l != l) = false := by simp
  have HZ := Lib.hid (show takeO l (candR l) = (⟨9, [], [], 0, 0, 0⟩, 0) by rw [HC.out]; exact if_pos ⟨HDV.out, ht⟩)
  rw [ht]
  clear ht
  go_wp2
  refine bodyPost_ret (v := .tuple #[opV ⟨9, [], [], 0, 0, 0⟩, .int .i64 0]) (by simp [results, Tryd.results34, go_sem, r0, r1, r2, r3, r4, r5, zeroO]) rfl ?_
  rw [HZ.out]
  exact ⟨rfl, BZ.out _ _ _ _ _ _⟩
theorem rparse_any (l : Str) (hl : l.length ≤ 281474976710656) (w : World) : Calls Tryd.prog 34 #[qs l] w (POpE (takeO l (candR l)) w) := by
  obtain ⟨⟨vb, rs⟩, hw1⟩ : ∃ q, wordS l = q := ⟨_, rfl⟩
  cases hp : posS 0 verbsL vb with
  | none => exact rparsex l vb rs hl w hw1 (by unfold kindOf; rw [hw1]; dsimp only; rw [hp]; rfl) (by unfold placeI; rw [hp])
  | some k =>
    have hk : kindOf l = k := by unfold kindOf; rw [hw1]; dsimp only; rw [hp]; rfl
    have hpi : placeI verbsL vb = (k : Int) := by unfold placeI; rw [hp]
    have h10 : k < 10 := by rw [← hk]; exact kind_lt l
    have hc : k = 0 ∨ k = 1 ∨ k = 2 ∨ k = 3 ∨ k = 4 ∨ k = 5 ∨ k = 6 ∨ k = 7 ∨ k = 8 ∨ k = 9 := by omega
    rcases hc with rfl | rfl | rfl | rfl | rfl | rfl | rfl | rfl | rfl | rfl
    · exact rparse0 l vb rs hl w hw1 hk hpi
    · exact rparse1 l vb rs hl w hw1 hk hpi
    · exact rparse2 l vb rs hl w hw1 hk hpi
    · exact rparse3 l vb rs hl w hw1 hk hpi
    · exact rparse4 l vb rs hl w hw1 hk hpi
    · exact rparse5 l vb rs hl w hw1 hk hpi
    · exact rparse6 l vb rs hl w hw1 hk hpi
    · exact rparse7 l vb rs hl w hw1 hk hpi
    · exact rparse8 l vb rs hl w hw1 hk hpi
    · exact rparse9 l vb rs hl w hw1 hk hpi
end Go.Proofs.YtgmlnbheceeklaaDoor
