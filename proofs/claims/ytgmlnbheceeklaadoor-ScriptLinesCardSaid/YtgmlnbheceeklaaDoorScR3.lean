/- Walk: the reference's PrintOp. Printed by wip/gen_scr3.py. -/
import Derived.Test.YtgmlnbheceeklaaDoorScR2
import Derived.Test.YtgmlnbheceeklaaDoorScD
import Derived.Test.YtgmlnbheceeklaaDoorHold2
set_option linter.unusedVariables false
set_option linter.unusedSimpArgs false
set_option linter.unusedSectionVars false
namespace Go.Proofs.YtgmlnbheceeklaaDoor
open Go.RowKit
variable [Base]

theorem rverbs (w : World) : Calls Tryd.prog 30 #[] w (fun e w' => e = .returned (.slice (some ⟨w.heap.size, 0, none⟩) 10 10) ∧ w' = w.alloc (.cells #[qs [], qs [108, 111, 97, 100], qs [117, 110, 108, 111, 97, 100], qs [115, 117, 98, 109, 105, 116], qs [99, 97, 110, 99, 101, 108], qs [103, 114, 97, 110, 116], qs [112, 111, 108, 108], qs [102, 111, 114, 103, 101, 116], qs [101, 118, 105, 99, 116], qs [115, 116, 97, 116, 115]] 9)) := by
  go_enter Tryd.func30, Tryd.ntmps30
  go_wp2
  go_ret
  exact ⟨rfl, rfl⟩
theorem ranas (w : World) : Calls Tryd.prog 31 #[] w (fun e w' => e = .returned (.slice (some ⟨w.heap.size, 0, none⟩) 4 4) ∧ w' = w.alloc (.cells #[qs [114, 101, 97, 99, 104], qs [108, 105, 118, 101], qs [116, 97, 105, 110, 116], qs [117, 110, 105, 110, 105, 116]] 9)) := by
  go_enter Tryd.func31, Tryd.ntmps31
  go_wp2
  go_ret
  exact ⟨rfl, rfl⟩
theorem rvalid_to {o : POp} {d : Bool} (h : opB o = d) (ht : o.text.length ≤ 9223372036854775807) (w : World) : Calls Tryd.prog 10 #[opV o] w (fun e w' => e = .returned (.bool d) ∧ Below w.heap.size w w') := h ▸ rvalid_any o ht w
theorem decimal_to {n : Nat} {d : Str} (h : dec10 n = d) (hn : n < 1000000000) (w : World) : Calls Tryd.prog 32 #[.int .i64 n] w fun e w' => e = .returned (qs d) ∧ w = w' := h ▸ decimal_any n hn w
set_option maxRecDepth 100000 in
set_option maxHeartbeats 2000000 in
theorem rprint1 (id text : Str) (w : World) (hi : id.length ≤ 16) (ht : text.length ≤ 4096) (HO : Hid (opB ⟨1, id, text, 0, 0, 0⟩ = true)) :
    Calls Tryd.prog 12 #[.agg #[.int .i64 1, qs id, qs text, .int .i64 0, .int .i64 0, .int .i64 0]] w (StrQ (opT ⟨1, id, text, 0, 0, 0⟩) w) := by
  have hud : ∀ b : Bool, (undef = Value.bool b) = False := fun b => by simp [undef]
  obtain ⟨W, hW⟩ : ∃ W, w.alloc (.cells #[.int .i64 1, qs id, qs text, .int .i64 0, .int .i64 0, .int .i64 0] 24) = W := ⟨_, rfl⟩
  have b0 : Below w.heap.size w W := by rw [← hW]; exact (Below.refl _ _).alloc (Nat.le_refl _) _
  have L0 := Lib.hid (show W.heap[w.heap.size]? = some (.cells #[.int .i64 1, qs id, qs text, .int .i64 0, .int .i64 0, .int .i64 0] 24 (0, 0)) by rw [← hW]; exact heap_alloc_new _ _)
  have B0 := Lib.hid b0
  have HW := Lib.hid hW
  clear hW b0
  go_enter Tryd.func12, Tryd.ntmps12
  go_wp2_with fail
  rw [show w.alloc (.cells #[.int .i64 1, qs id, qs text, .int .i64 0, .int .i64 0, .int .i64 0] 24) = W from HW.out]
  refine (rvalid_to (o := ⟨1, id, text, 0, 0, 0⟩) HO.out (by show text.length ≤ _; omega) W).mono ?_
  rintro e y1 ⟨rfl, b1⟩
  have B1 := Lib.hid (B0.out.trans (b1.mono B0.out.size))
  have L1 := Lib.hid (lies_below L0.out b1 (lt_heap L0.out))
  clear b1
  have hlt1 : w.heap.size < y1.heap.size := lt_heap L1.out
  have hlt2 : w.heap.size ≠ y1.heap.size := by omega
  have x0 := (lies_cells L1.out).1 0
  have x1 := (lies_cells L1.out).1 1
  have x2 := (lies_cells L1.out).1 2
  have x3 := (lies_cells L1.out).1 3
  have x4 := (lies_cells L1.out).1 4
  have x5 := (lies_cells L1.out).1 5
  simp only [List.getElem?_toArray, List.getElem?_cons_zero, List.getElem?_cons_succ] at x0 x1 x2 x3 x4 x5
  have HS : Hid (∀ w', Below y1.heap.size y1 w' → w'.cell? ⟨w.heap.size, 0, none⟩ = some (.int .i64 1)) := Lib.hid fun w' hbw => (hbw.cell (p := ⟨w.heap.size, 0, none⟩) (lt_heap L1.out)).trans x0
  have F0 := Lib.hid (show Below y1.heap.size y1 (y1.drewN 1) from below_drewQ (Below.refl _ _) 1)
  have F1 := Lib.hid (show Below y1.heap.size y1 ((y1.drewN 1).alloc (.cells #[qs [], qs [108, 111, 97, 100], qs [117, 110, 108, 111, 97, 100], qs [115, 117, 98, 109, 105, 116], qs [99, 97, 110, 99, 101, 108], qs [103, 114, 97, 110, 116], qs [112, 111, 108, 108], qs [102, 111, 114, 103, 101, 116], qs [101, 118, 105, 99, 116], qs [115, 116, 97, 116, 115]] 9)) from F0.out.alloc (Nat.le_refl _) _)
  have B2 := Lib.hid (B1.out.trans (F1.out.mono B1.out.size))
  have hfr : ((y1.drewN 1).alloc (.cells #[qs [], qs [108, 111, 97, 100], qs [117, 110, 108, 111, 97, 100], qs [115, 117, 98, 109, 105, 116], qs [99, 97, 110, 99, 101, 108], qs [103, 114, 97, 110, 116], qs [112, 111, 108, 108], qs [102, 111, 114, 103, 101, 116], qs [101, 118, 105, 99, 116], qs [115, 116, 97, 116, 115]] 9)).cell? ⟨y1.heap.size, 1, none⟩ = some (qs [108, 111, 97, 100]) := by
    show ((y1.drewN 1).alloc (.cells #[qs [], qs [108, 111, 97, 100], qs [117, 110, 108, 111, 97, 100], qs [115, 117, 98, 109, 105, 116], qs [99, 97, 110, 99, 101, 108], qs [103, 114, 97, 110, 116], qs [112, 111, 108, 108], qs [102, 111, 114, 103, 101, 116], qs [101, 118, 105, 99, 116], qs [115, 116, 97, 116, 115]] 9)).cell? ⟨(y1.drewN 1).heap.size, 1, none⟩ = _
    rw [World.cell?_alloc_new]
    rfl
  have HT := Lib.hid (show opT ⟨1, id, text, 0, 0, 0⟩ = [108, 111, 97, 100] ++ [32] ++ id ++ [32] ++ text by unfold opT; rw [HO.out]; rfl)
  have hs1 : ¬ 9223372036854775807 < 4 + 1 + id.length := by omega
  have hs2 : ¬ 9223372036854775807 < 4 + 1 + id.length + 1 := by omega
  have hs3 : ¬ 9223372036854775807 < 4 + 1 + id.length + 1 + text.length := by omega
  go_wp2_with fail
  refine wp_region_D (S := fun w' => w'.cell? ⟨w.heap.size, 0, none⟩ = some (.int .i64 1)) (st := 5) (by kernel_rfl) ?_
  refine wpAnyT_pure 1 ?v34 rfl (by kernel_rfl) (by kernel_rfl) (by kernel_rfl) (by kernel_rfl) (fun _ _ _ h => h) (HS.out _ F0.out) rfl ?run34 ?rest34
  case run34 => intro w hS; obtain s0 := hS; go_simp; rfl
  refine wpAnyT_pure 2 ?v35 rfl (by kernel_rfl) (by kernel_rfl) (by kernel_rfl) (by kernel_rfl) (fun _ _ _ h => h) (HS.out _ F0.out) rfl ?run35 ?rest35
  case run35 => intro w hS; obtain s0 := hS; go_simp; rfl
  refine wpAnyT_all (rs := [0]) (by kernel_rfl) (by decide) ?_
  intro i hi
  obtain rfl : i = 0 := by simpa using hi
  clear hi
  refine wpOp_of_list rfl ?_
  go_wp2_with fail
  refine (rverbs _).mono ?_
  rintro e z1 ⟨rfl, rfl⟩
  go_wp2
  refine ⟨fun _ => HS.out _ F1.out, ?_⟩
  refine wpAnyT_pure 3 ?v36 rfl (by kernel_rfl) (by kernel_rfl) (by kernel_rfl) (by kernel_rfl) (fun _ _ _ h => h) (HS.out _ F1.out) rfl ?run36 ?rest36
  case run36 => intro w hS; obtain s0 := hS; go_simp; rfl
  refine wpAnyT_all (rs := [4]) (by kernel_rfl) (by decide) ?_
  intro i hi
  obtain rfl : i = 4 := by simpa using hi
  clear hi
  refine wpOp_of_list rfl ?_
  go_wp2
  refine ⟨fun _ => HS.out _ F1.out, ?_⟩
  refine wpAnyT_all (rs := [5]) (by kernel_rfl) (by decide) ?_
  intro i hi
  obtain rfl : i = 5 := by simpa using hi
  clear hi
  refine wpOp_of_list rfl ?_
  go_wp2
  refine ⟨fun h => absurd rfl h, ?_⟩
  refine wpAnyT_done (by kernel_rfl) ?_ _
  obtain ⟨V, hV⟩ : ∃ V, (y1.drewN 1).alloc (.cells #[qs [], qs [108, 111, 97, 100], qs [117, 110, 108, 111, 97, 100], qs [115, 117, 98, 109, 105, 116], qs [99, 97, 110, 99, 101, 108], qs [103, 114, 97, 110, 116], qs [112, 111, 108, 108], qs [102, 111, 114, 103, 101, 116], qs [101, 118, 105, 99, 116], qs [115, 116, 97, 116, 115]] 9) = V := ⟨_, rfl⟩
  have L2 := Lib.hid (show V.heap[w.heap.size]? = some (.cells #[.int .i64 1, qs id, qs text, .int .i64 0, .int .i64 0, .int .i64 0] 24 (0, 0)) by rw [← hV]; exact lies_below L1.out F1.out (lt_heap L1.out))
  have B3 := Lib.hid (show Below w.heap.size w V by rw [← hV]; exact B2.out)
  rw [hV]
  clear hV hfr x0 x1 x2 x3 x4 x5 HS F0
  have g0 := (lies_cells L2.out).1 0
  have g1 := (lies_cells L2.out).1 1
  have g2 := (lies_cells L2.out).1 2
  have g3 := (lies_cells L2.out).1 3
  have g4 := (lies_cells L2.out).1 4
  have g5 := (lies_cells L2.out).1 5
  simp only [List.getElem?_toArray, List.getElem?_cons_zero, List.getElem?_cons_succ] at g0 g1 g2 g3 g4 g5
  have hltV : w.heap.size < V.heap.size := lt_heap L2.out
  all_goals
    go_wp2
    go_ret
    refine ⟨ret_strQ ?_, B3.out⟩
    first | (rw [HT.out]; done) | (rw [HT.out]; simp [app_str])
set_option maxRecDepth 100000 in
set_option maxHeartbeats 2000000 in
theorem rprint2 (id : Str) (w : World) (hi : id.length ≤ 16) (HO : Hid (opB ⟨2, id, [], 0, 0, 0⟩ = true)) :
    Calls Tryd.prog 12 #[.agg #[.int .i64 2, qs id, qs [], .int .i64 0, .int .i64 0, .int .i64 0]] w (StrQ (opT ⟨2, id, [], 0, 0, 0⟩) w) := by
  have hud : ∀ b : Bool, (undef = Value.bool b) = False := fun b => by simp [undef]
  obtain ⟨W, hW⟩ : ∃ W, w.alloc (.cells #[.int .i64 2, qs id, qs [], .int .i64 0, .int .i64 0, .int .i64 0] 24) = W := ⟨_, rfl⟩
  have b0 : Below w.heap.size w W := by rw [← hW]; exact (Below.refl _ _).alloc (Nat.le_refl _) _
  have L0 := Lib.hid (show W.heap[w.heap.size]? = some (.cells #[.int .i64 2, qs id, qs [], .int .i64 0, .int .i64 0, .int .i64 0] 24 (0, 0)) by rw [← hW]; exact heap_alloc_new _ _)
  have B0 := Lib.hid b0
  have HW := Lib.hid hW
  clear hW b0
  go_enter Tryd.func12, Tryd.ntmps12
  go_wp2_with fail
  rw [show w.alloc (.cells #[.int .i64 2, qs id, qs [], .int .i64 0, .int .i64 0, .int .i64 0] 24) = W from HW.out]
  refine (rvalid_to (o := ⟨2, id, [], 0, 0, 0⟩) HO.out (by show ([] : Str).length ≤ _; simp) W).mono ?_
  rintro e y1 ⟨rfl, b1⟩
  have B1 := Lib.hid (B0.out.trans (b1.mono B0.out.size))
  have L1 := Lib.hid (lies_below L0.out b1 (lt_heap L0.out))
  clear b1
  have hlt1 : w.heap.size < y1.heap.size := lt_heap L1.out
  have hlt2 : w.heap.size ≠ y1.heap.size := by omega
  have x0 := (lies_cells L1.out).1 0
  have x1 := (lies_cells L1.out).1 1
  have x2 := (lies_cells L1.out).1 2
  have x3 := (lies_cells L1.out).1 3
  have x4 := (lies_cells L1.out).1 4
  have x5 := (lies_cells L1.out).1 5
  simp only [List.getElem?_toArray, List.getElem?_cons_zero, List.getElem?_cons_succ] at x0 x1 x2 x3 x4 x5
  have HS : Hid (∀ w', Below y1.heap.size y1 w' → w'.cell? ⟨w.heap.size, 0, none⟩ = some (.int .i64 2)) := Lib.hid fun w' hbw => (hbw.cell (p := ⟨w.heap.size, 0, none⟩) (lt_heap L1.out)).trans x0
  have F0 := Lib.hid (show Below y1.heap.size y1 (y1.drewN 1) from below_drewQ (Below.refl _ _) 1)
  have F1 := Lib.hid (show Below y1.heap.size y1 ((y1.drewN 1).alloc (.cells #[qs [], qs [108, 111, 97, 100], qs [117, 110, 108, 111, 97, 100], qs [115, 117, 98, 109, 105, 116], qs [99, 97, 110, 99, 101, 108], qs [103, 114, 97, 110, 116], qs [112, 111, 108, 108], qs [102, 111, 114, 103, 101, 116], qs [101, 118, 105, 99, 116], qs [115, 116, 97, 116, 115]] 9)) from F0.out.alloc (Nat.le_refl _) _)
  have B2 := Lib.hid (B1.out.trans (F1.out.mono B1.out.size))
  have hfr : ((y1.drewN 1).alloc (.cells #[qs [], qs [108, 111, 97, 100], qs [117, 110, 108, 111, 97, 100], qs [115, 117, 98, 109, 105, 116], qs [99, 97, 110, 99, 101, 108], qs [103, 114, 97, 110, 116], qs [112, 111, 108, 108], qs [102, 111, 114, 103, 101, 116], qs [101, 118, 105, 99, 116], qs [115, 116, 97, 116, 115]] 9)).cell? ⟨y1.heap.size, 2, none⟩ = some (qs [117, 110, 108, 111, 97, 100]) := by
    show ((y1.drewN 1).alloc (.cells #[qs [], qs [108, 111, 97, 100], qs [117, 110, 108, 111, 97, 100], qs [115, 117, 98, 109, 105, 116], qs [99, 97, 110, 99, 101, 108], qs [103, 114, 97, 110, 116], qs [112, 111, 108, 108], qs [102, 111, 114, 103, 101, 116], qs [101, 118, 105, 99, 116], qs [115, 116, 97, 116, 115]] 9)).cell? ⟨(y1.drewN 1).heap.size, 2, none⟩ = _
    rw [World.cell?_alloc_new]
    rfl
  have HT := Lib.hid (show opT ⟨2, id, [], 0, 0, 0⟩ = [117, 110, 108, 111, 97, 100] ++ [32] ++ id by unfold opT; rw [HO.out]; rfl)
  have hs1 : ¬ 9223372036854775807 < 6 + 1 + id.length := by omega
  go_wp2_with fail
  refine wp_region_D (S := fun w' => w'.cell? ⟨w.heap.size, 0, none⟩ = some (.int .i64 2)) (st := 5) (by kernel_rfl) ?_
  refine wpAnyT_pure 1 ?v34 rfl (by kernel_rfl) (by kernel_rfl) (by kernel_rfl) (by kernel_rfl) (fun _ _ _ h => h) (HS.out _ F0.out) rfl ?run34 ?rest34
  case run34 => intro w hS; obtain s0 := hS; go_simp; rfl
  refine wpAnyT_pure 2 ?v35 rfl (by kernel_rfl) (by kernel_rfl) (by kernel_rfl) (by kernel_rfl) (fun _ _ _ h => h) (HS.out _ F0.out) rfl ?run35 ?rest35
  case run35 => intro w hS; obtain s0 := hS; go_simp; rfl
  refine wpAnyT_all (rs := [0]) (by kernel_rfl) (by decide) ?_
  intro i hi
  obtain rfl : i = 0 := by simpa using hi
  clear hi
  refine wpOp_of_list rfl ?_
  go_wp2_with fail
  refine (rverbs _).mono ?_
  rintro e z1 ⟨rfl, rfl⟩
  go_wp2
  refine ⟨fun _ => HS.out _ F1.out, ?_⟩
  refine wpAnyT_pure 3 ?v36 rfl (by kernel_rfl) (by kernel_rfl) (by kernel_rfl) (by kernel_rfl) (fun _ _ _ h => h) (HS.out _ F1.out) rfl ?run36 ?rest36
  case run36 => intro w hS; obtain s0 := hS; go_simp; rfl
  refine wpAnyT_all (rs := [4]) (by kernel_rfl) (by decide) ?_
  intro i hi
  obtain rfl : i = 4 := by simpa using hi
  clear hi
  refine wpOp_of_list rfl ?_
  go_wp2
  refine ⟨fun _ => HS.out _ F1.out, ?_⟩
  refine wpAnyT_all (rs := [5]) (by kernel_rfl) (by decide) ?_
  intro i hi
  obtain rfl : i = 5 := by simpa using hi
  clear hi
  refine wpOp_of_list rfl ?_
  go_wp2
  refine ⟨fun h => absurd rfl h, ?_⟩
  refine wpAnyT_done (by kernel_rfl) ?_ _
  obtain ⟨V, hV⟩ : ∃ V, (y1.drewN 1).alloc (.cells #[qs [], qs [108, 111, 97, 100], qs [117, 110, 108, 111, 97, 100], qs [115, 117, 98, 109, 105, 116], qs [99, 97, 110, 99, 101, 108], qs [103, 114, 97, 110, 116], qs [112, 111, 108, 108], qs [102, 111, 114, 103, 101, 116], qs [101, 118, 105, 99, 116], qs [115, 116, 97, 116, 115]] 9) = V := ⟨_, rfl⟩
  have L2 := Lib.hid (show V.heap[w.heap.size]? = some (.cells #[.int .i64 2, qs id, qs [], .int .i64 0, .int .i64 0, .int .i64 0] 24 (0, 0)) by rw [← hV]; exact lies_below L1.out F1.out (lt_heap L1.out))
  have B3 := Lib.hid (show Below w.heap.size w V by rw [← hV]; exact B2.out)
  rw [hV]
  clear hV hfr x0 x1 x2 x3 x4 x5 HS F0
  have g0 := (lies_cells L2.out).1 0
  have g1 := (lies_cells L2.out).1 1
  have g2 := (lies_cells L2.out).1 2
  have g3 := (lies_cells L2.out).1 3
  have g4 := (lies_cells L2.out).1 4
  have g5 := (lies_cells L2.out).1 5
  simp only [List.getElem?_toArray, List.getElem?_cons_zero, List.getElem?_cons_succ] at g0 g1 g2 g3 g4 g5
  have hltV : w.heap.size < V.heap.size := lt_heap L2.out
  all_goals
    go_wp2
    go_ret
    refine ⟨ret_strQ ?_, B3.out⟩
    first | (rw [HT.out]; done) | (rw [HT.out]; simp [app_str])
set_option maxRecDepth 100000 in
set_option maxHeartbeats 2000000 in
theorem rprint4 (id : Str) (w : World) (hi : id.length ≤ 16) (HO : Hid (opB ⟨4, id, [], 0, 0, 0⟩ = true)) :
    Calls Tryd.prog 12 #[.agg #[.int .i64 4, qs id, qs [], .int .i64 0, .int .i64 0, .int .i64 0]] w (StrQ (opT ⟨4, id, [], 0, 0, 0⟩) w) := by
  have hud : ∀ b : Bool, (undef = Value.bool b) = False := fun b => by simp [undef]
  obtain ⟨W, hW⟩ : ∃ W, w.alloc (.cells #[.int .i64 4, qs id, qs [], .int .i64 0, .int .i64 0, .int .i64 0] 24) = W := ⟨_, rfl⟩
  have b0 : Below w.heap.size w W := by rw [← hW]; exact (Below.refl _ _).alloc (Nat.le_refl _) _
  have L0 := Lib.hid (show W.heap[w.heap.size]? = some (.cells #[.int .i64 4, qs id, qs [], .int .i64 0, .int .i64 0, .int .i64 0] 24 (0, 0)) by rw [← hW]; exact heap_alloc_new _ _)
  have B0 := Lib.hid b0
  have HW := Lib.hid hW
  clear hW b0
  go_enter Tryd.func12, Tryd.ntmps12
  go_wp2_with fail
  rw [show w.alloc (.cells #[.int .i64 4, qs id, qs [], .int .i64 0, .int .i64 0, .int .i64 0] 24) = W from HW.out]
  refine (rvalid_to (o := ⟨4, id, [], 0, 0, 0⟩) HO.out (by show ([] : Str).length ≤ _; simp) W).mono ?_
  rintro e y1 ⟨rfl, b1⟩
  have B1 := Lib.hid (B0.out.trans (b1.mono B0.out.size))
  have L1 := Lib.hid (lies_below L0.out b1 (lt_heap L0.out))
  clear b1
  have hlt1 : w.heap.size < y1.heap.size := lt_heap L1.out
  have hlt2 : w.heap.size ≠ y1.heap.size := by omega
  have x0 := (lies_cells L1.out).1 0
  have x1 := (lies_cells L1.out).1 1
  have x2 := (lies_cells L1.out).1 2
  have x3 := (lies_cells L1.out).1 3
  have x4 := (lies_cells L1.out).1 4
  have x5 := (lies_cells L1.out).1 5
  simp only [List.getElem?_toArray, List.getElem?_cons_zero, List.getElem?_cons_succ] at x0 x1 x2 x3 x4 x5
  have HS : Hid (∀ w', Below y1.heap.size y1 w' → w'.cell? ⟨w.heap.size, 0, none⟩ = some (.int .i64 4)) := Lib.hid fun w' hbw => (hbw.cell (p := ⟨w.heap.size, 0, none⟩) (lt_heap L1.out)).trans x0
  have F0 := Lib.hid (show Below y1.heap.size y1 (y1.drewN 1) from below_drewQ (Below.refl _ _) 1)
  have F1 := Lib.hid (show Below y1.heap.size y1 ((y1.drewN 1).alloc (.cells #[qs [], qs [108, 111, 97, 100], qs [117, 110, 108, 111, 97, 100], qs [115, 117, 98, 109, 105, 116], qs [99, 97, 110, 99, 101, 108], qs [103, 114, 97, 110, 116], qs [112, 111, 108, 108], qs [102, 111, 114, 103, 101, 116], qs [101, 118, 105, 99, 116], qs [115, 116, 97, 116, 115]] 9)) from F0.out.alloc (Nat.le_refl _) _)
  have B2 := Lib.hid (B1.out.trans (F1.out.mono B1.out.size))
  have hfr : ((y1.drewN 1).alloc (.cells #[qs [], qs [108, 111, 97, 100], qs [117, 110, 108, 111, 97, 100], qs [115, 117, 98, 109, 105, 116], qs [99, 97, 110, 99, 101, 108], qs [103, 114, 97, 110, 116], qs [112, 111, 108, 108], qs [102, 111, 114, 103, 101, 116], qs [101, 118, 105, 99, 116], qs [115, 116, 97, 116, 115]] 9)).cell? ⟨y1.heap.size, 4, none⟩ = some (qs [99, 97, 110, 99, 101, 108]) := by
    show ((y1.drewN 1).alloc (.cells #[qs [], qs [108, 111, 97, 100], qs [117, 110, 108, 111, 97, 100], qs [115, 117, 98, 109, 105, 116], qs [99, 97, 110, 99, 101, 108], qs [103, 114, 97, 110, 116], qs [112, 111, 108, 108], qs [102, 111, 114, 103, 101, 116], qs [101, 118, 105, 99, 116], qs [115, 116, 97, 116, 115]] 9)).cell? ⟨(y1.drewN 1).heap.size, 4, none⟩ = _
    rw [World.cell?_alloc_new]
    rfl
  have HT := Lib.hid (show opT ⟨4, id, [], 0, 0, 0⟩ = [99, 97, 110, 99, 101, 108] ++ [32] ++ id by unfold opT; rw [HO.out]; rfl)
  have hs1 : ¬ 9223372036854775807 < 6 + 1 + id.length := by omega
  go_wp2_with fail
  refine wp_region_D (S := fun w' => w'.cell? ⟨w.heap.size, 0, none⟩ = some (.int .i64 4)) (st := 5) (by kernel_rfl) ?_
  refine wpAnyT_pure 1 ?v34 rfl (by kernel_rfl) (by kernel_rfl) (by kernel_rfl) (by kernel_rfl) (fun _ _ _ h => h) (HS.out _ F0.out) rfl ?run34 ?rest34
  case run34 => intro w hS; obtain s0 := hS; go_simp; rfl
  refine wpAnyT_pure 2 ?v35 rfl (by kernel_rfl) (by kernel_rfl) (by kernel_rfl) (by kernel_rfl) (fun _ _ _ h => h) (HS.out _ F0.out) rfl ?run35 ?rest35
  case run35 => intro w hS; obtain s0 := hS; go_simp; rfl
  refine wpAnyT_all (rs := [0]) (by kernel_rfl) (by decide) ?_
  intro i hi
  obtain rfl : i = 0 := by simpa using hi
  clear hi
  refine wpOp_of_list rfl ?_
  go_wp2_with fail
  refine (rverbs _).mono ?_
  rintro e z1 ⟨rfl, rfl⟩
  go_wp2
  refine ⟨fun _ => HS.out _ F1.out, ?_⟩
  refine wpAnyT_pure 3 ?v36 rfl (by kernel_rfl) (by kernel_rfl) (by kernel_rfl) (by kernel_rfl) (fun _ _ _ h => h) (HS.out _ F1.out) rfl ?run36 ?rest36
  case run36 => intro w hS; obtain s0 := hS; go_simp; rfl
  refine wpAnyT_all (rs := [4]) (by kernel_rfl) (by decide) ?_
  intro i hi
  obtain rfl : i = 4 := by simpa using hi
  clear hi
  refine wpOp_of_list rfl ?_
  go_wp2
  refine ⟨fun _ => HS.out _ F1.out, ?_⟩
  refine wpAnyT_all (rs := [5]) (by kernel_rfl) (by decide) ?_
  intro i hi
  obtain rfl : i = 5 := by simpa using hi
  clear hi
  refine wpOp_of_list rfl ?_
  go_wp2
  refine ⟨fun h => absurd rfl h, ?_⟩
  refine wpAnyT_done (by kernel_rfl) ?_ _
  obtain ⟨V, hV⟩ : ∃ V, (y1.drewN 1).alloc (.cells #[qs [], qs [108, 111, 97, 100], qs [117, 110, 108, 111, 97, 100], qs [115, 117, 98, 109, 105, 116], qs [99, 97, 110, 99, 101, 108], qs [103, 114, 97, 110, 116], qs [112, 111, 108, 108], qs [102, 111, 114, 103, 101, 116], qs [101, 118, 105, 99, 116], qs [115, 116, 97, 116, 115]] 9) = V := ⟨_, rfl⟩
  have L2 := Lib.hid (show V.heap[w.heap.size]? = some (.cells #[.int .i64 4, qs id, qs [], .int .i64 0, .int .i64 0, .int .i64 0] 24 (0, 0)) by rw [← hV]; exact lies_below L1.out F1.out (lt_heap L1.out))
  have B3 := Lib.hid (show Below w.heap.size w V by rw [← hV]; exact B2.out)
  rw [hV]
  clear hV hfr x0 x1 x2 x3 x4 x5 HS F0
  have g0 := (lies_cells L2.out).1 0
  have g1 := (lies_cells L2.out).1 1
  have g2 := (lies_cells L2.out).1 2
  have g3 := (lies_cells L2.out).1 3
  have g4 := (lies_cells L2.out).1 4
  have g5 := (lies_cells L2.out).1 5
  simp only [List.getElem?_toArray, List.getElem?_cons_zero, List.getElem?_cons_succ] at g0 g1 g2 g3 g4 g5
  have hltV : w.heap.size < V.heap.size := lt_heap L2.out
  all_goals
    go_wp2
    go_ret
    refine ⟨ret_strQ ?_, B3.out⟩
    first | (rw [HT.out]; done) | (rw [HT.out]; simp [app_str])
set_option maxRecDepth 100000 in
set_option maxHeartbeats 2000000 in
theorem rprint6 (id : Str) (w : World) (hi : id.length ≤ 16) (HO : Hid (opB ⟨6, id, [], 0, 0, 0⟩ = true)) :
    Calls Tryd.prog 12 #[.agg #[.int .i64 6, qs id, qs [], .int .i64 0, .int .i64 0, .int .i64 0]] w (StrQ (opT ⟨6, id, [], 0, 0, 0⟩) w) := by
  have hud : ∀ b : Bool, (undef = Value.bool b) = False := fun b => by simp [undef]
  obtain ⟨W, hW⟩ : ∃ W, w.alloc (.cells #[.int .i64 6, qs id, qs [], .int .i64 0, .int .i64 0, .int .i64 0] 24) = W := ⟨_, rfl⟩
  have b0 : Below w.heap.size w W := by rw [← hW]; exact (Below.refl _ _).alloc (Nat.le_refl _) _
  have L0 := Lib.hid (show W.heap[w.heap.size]? = some (.cells #[.int .i64 6, qs id, qs [], .int .i64 0, .int .i64 0, .int .i64 0] 24 (0, 0)) by rw [← hW]; exact heap_alloc_new _ _)
  have B0 := Lib.hid b0
  have HW := Lib.hid hW
  clear hW b0
  go_enter Tryd.func12, Tryd.ntmps12
  go_wp2_with fail
  rw [show w.alloc (.cells #[.int .i64 6, qs id, qs [], .int .i64 0, .int .i64 0, .int .i64 0] 24) = W from HW.out]
  refine (rvalid_to (o := ⟨6, id, [], 0, 0, 0⟩) HO.out (by show ([] : Str).length ≤ _; simp) W).mono ?_
  rintro e y1 ⟨rfl, b1⟩
  have B1 := Lib.hid (B0.out.trans (b1.mono B0.out.size))
  have L1 := Lib.hid (lies_below L0.out b1 (lt_heap L0.out))
  clear b1
  have hlt1 : w.heap.size < y1.heap.size := lt_heap L1.out
  have hlt2 : w.heap.size ≠ y1.heap.size := by omega
  have x0 := (lies_cells L1.out).1 0
  have x1 := (lies_cells L1.out).1 1
  have x2 := (lies_cells L1.out).1 2
  have x3 := (lies_cells L1.out).1 3
  have x4 := (lies_cells L1.out).1 4
  have x5 := (lies_cells L1.out).1 5
  simp only [List.getElem?_toArray, List.getElem?_cons_zero, List.getElem?_cons_succ] at x0 x1 x2 x3 x4 x5
  have HS : Hid (∀ w', Below y1.heap.size y1 w' → w'.cell? ⟨w.heap.size, 0, none⟩ = some (.int .i64 6)) := Lib.hid fun w' hbw => (hbw.cell (p := ⟨w.heap.size, 0, none⟩) (lt_heap L1.out)).trans x0
  have F0 := Lib.hid (show Below y1.heap.size y1 (y1.drewN 1) from below_drewQ (Below.refl _ _) 1)
  have F1 := Lib.hid (show Below y1.heap.size y1 ((y1.drewN 1).alloc (.cells #[qs [], qs [108, 111, 97, 100], qs [117, 110, 108, 111, 97, 100], qs [115, 117, 98, 109, 105, 116], qs [99, 97, 110, 99, 101, 108], qs [103, 114, 97, 110, 116], qs [112, 111, 108, 108], qs [102, 111, 114, 103, 101, 116], qs [101, 118, 105, 99, 116], qs [115, 116, 97, 116, 115]] 9)) from F0.out.alloc (Nat.le_refl _) _)
  have B2 := Lib.hid (B1.out.trans (F1.out.mono B1.out.size))
  have hfr : ((y1.drewN 1).alloc (.cells #[qs [], qs [108, 111, 97, 100], qs [117, 110, 108, 111, 97, 100], qs [115, 117, 98, 109, 105, 116], qs [99, 97, 110, 99, 101, 108], qs [103, 114, 97, 110, 116], qs [112, 111, 108, 108], qs [102, 111, 114, 103, 101, 116], qs [101, 118, 105, 99, 116], qs [115, 116, 97, 116, 115]] 9)).cell? ⟨y1.heap.size, 6, none⟩ = some (qs [112, 111, 108, 108]) := by
    show ((y1.drewN 1).alloc (.cells #[qs [], qs [108, 111, 97, 100], qs [117, 110, 108, 111, 97, 100], qs [115, 117, 98, 109, 105, 116], qs [99, 97, 110, 99, 101, 108], qs [103, 114, 97, 110, 116], qs [112, 111, 108, 108], qs [102, 111, 114, 103, 101, 116], qs [101, 118, 105, 99, 116], qs [115, 116, 97, 116, 115]] 9)).cell? ⟨(y1.drewN 1).heap.size, 6, none⟩ = _
    rw [World.cell?_alloc_new]
    rfl
  have HT := Lib.hid (show opT ⟨6, id, [], 0, 0, 0⟩ = [112, 111, 108, 108] ++ [32] ++ id by unfold opT; rw [HO.out]; rfl)
  have hs1 : ¬ 9223372036854775807 < 4 + 1 + id.length := by omega
  go_wp2_with fail
  refine wp_region_D (S := fun w' => w'.cell? ⟨w.heap.size, 0, none⟩ = some (.int .i64 6)) (st := 5) (by kernel_rfl) ?_
  refine wpAnyT_pure 1 ?v34 rfl (by kernel_rfl) (by kernel_rfl) (by kernel_rfl) (by kernel_rfl) (fun _ _ _ h => h) (HS.out _ F0.out) rfl ?run34 ?rest34
  case run34 => intro w hS; obtain s0 := hS; go_simp; rfl
  refine wpAnyT_pure 2 ?v35 rfl (by kernel_rfl) (by kernel_rfl) (by kernel_rfl) (by kernel_rfl) (fun _ _ _ h => h) (HS.out _ F0.out) rfl ?run35 ?rest35
  case run35 => intro w hS; obtain s0 := hS; go_simp; rfl
  refine wpAnyT_all (rs := [0]) (by kernel_rfl) (by decide) ?_
  intro i hi
  obtain rfl : i = 0 := by simpa using hi
  clear hi
  refine wpOp_of_list rfl ?_
  go_wp2_with fail
  refine (rverbs _).mono ?_
  rintro e z1 ⟨rfl, rfl⟩
  go_wp2
  refine ⟨fun _ => HS.out _ F1.out, ?_⟩
  refine wpAnyT_pure 3 ?v36 rfl (by kernel_rfl) (by kernel_rfl) (by kernel_rfl) (by kernel_rfl) (fun _ _ _ h => h) (HS.out _ F1.out) rfl ?run36 ?rest36
  case run36 => intro w hS; obtain s0 := hS; go_simp; rfl
  refine wpAnyT_all (rs := [4]) (by kernel_rfl) (by decide) ?_
  intro i hi
  obtain rfl : i = 4 := by simpa using hi
  clear hi
  refine wpOp_of_list rfl ?_
  go_wp2
  refine ⟨fun _ => HS.out _ F1.out, ?_⟩
  refine wpAnyT_all (rs := [5]) (by kernel_rfl) (by decide) ?_
  intro i hi
  obtain rfl : i = 5 := by simpa using hi
  clear hi
  refine wpOp_of_list rfl ?_
  go_wp2
  refine ⟨fun h => absurd rfl h, ?_⟩
  refine wpAnyT_done (by kernel_rfl) ?_ _
  obtain ⟨V, hV⟩ : ∃ V, (y1.drewN 1).alloc (.cells #[qs [], qs [108, 111, 97, 100], qs [117, 110, 108, 111, 97, 100], qs [115, 117, 98, 109, 105, 116], qs [99, 97, 110, 99, 101, 108], qs [103, 114, 97, 110, 116], qs [112, 111, 108, 108], qs [102, 111, 114, 103, 101, 116], qs [101, 118, 105, 99, 116], qs [115, 116, 97, 116, 115]] 9) = V := ⟨_, rfl⟩
  have L2 := Lib.hid (show V.heap[w.heap.size]? = some (.cells #[.int .i64 6, qs id, qs [], .int .i64 0, .int .i64 0, .int .i64 0] 24 (0, 0)) by rw [← hV]; exact lies_below L1.out F1.out (lt_heap L1.out))
  have B3 := Lib.hid (show Below w.heap.size w V by rw [← hV]; exact B2.out)
  rw [hV]
  clear hV hfr x0 x1 x2 x3 x4 x5 HS F0
  have g0 := (lies_cells L2.out).1 0
  have g1 := (lies_cells L2.out).1 1
  have g2 := (lies_cells L2.out).1 2
  have g3 := (lies_cells L2.out).1 3
  have g4 := (lies_cells L2.out).1 4
  have g5 := (lies_cells L2.out).1 5
  simp only [List.getElem?_toArray, List.getElem?_cons_zero, List.getElem?_cons_succ] at g0 g1 g2 g3 g4 g5
  have hltV : w.heap.size < V.heap.size := lt_heap L2.out
  all_goals
    go_wp2
    go_ret
    refine ⟨ret_strQ ?_, B3.out⟩
    first | (rw [HT.out]; done) | (rw [HT.out]; simp [app_str])
set_option maxRecDepth 100000 in
set_option maxHeartbeats 2000000 in
theorem rprint7 (id : Str) (w : World) (hi : id.length ≤ 16) (HO : Hid (opB ⟨7, id, [], 0, 0, 0⟩ = true)) :
    Calls Tryd.prog 12 #[.agg #[.int .i64 7, qs id, qs [], .int .i64 0, .int .i64 0, .int .i64 0]] w (StrQ (opT ⟨7, id, [], 0, 0, 0⟩) w) := by
  have hud : ∀ b : Bool, (undef = Value.bool b) = False := fun b => by simp [undef]
  obtain ⟨W, hW⟩ : ∃ W, w.alloc (.cells #[.int .i64 7, qs id, qs [], .int .i64 0, .int .i64 0, .int .i64 0] 24) = W := ⟨_, rfl⟩
  have b0 : Below w.heap.size w W := by rw [← hW]; exact (Below.refl _ _).alloc (Nat.le_refl _) _
  have L0 := Lib.hid (show W.heap[w.heap.size]? = some (.cells #[.int .i64 7, qs id, qs [], .int .i64 0, .int .i64 0, .int .i64 0] 24 (0, 0)) by rw [← hW]; exact heap_alloc_new _ _)
  have B0 := Lib.hid b0
  have HW := Lib.hid hW
  clear hW b0
  go_enter Tryd.func12, Tryd.ntmps12
  go_wp2_with fail
  rw [show w.alloc (.cells #[.int .i64 7, qs id, qs [], .int .i64 0, .int .i64 0, .int .i64 0] 24) = W from HW.out]
  refine (rvalid_to (o := ⟨7, id, [], 0, 0, 0⟩) HO.out (by show ([] : Str).length ≤ _; simp) W).mono ?_
  rintro e y1 ⟨rfl, b1⟩
  have B1 := Lib.hid (B0.out.trans (b1.mono B0.out.size))
  have L1 := Lib.hid (lies_below L0.out b1 (lt_heap L0.out))
  clear b1
  have hlt1 : w.heap.size < y1.heap.size := lt_heap L1.out
  have hlt2 : w.heap.size ≠ y1.heap.size := by omega
  have x0 := (lies_cells L1.out).1 0
  have x1 := (lies_cells L1.out).1 1
  have x2 := (lies_cells L1.out).1 2
  have x3 := (lies_cells L1.out).1 3
  have x4 := (lies_cells L1.out).1 4
  have x5 := (lies_cells L1.out).1 5
  simp only [List.getElem?_toArray, List.getElem?_cons_zero, List.getElem?_cons_succ] at x0 x1 x2 x3 x4 x5
  have HS : Hid (∀ w', Below y1.heap.size y1 w' → w'.cell? ⟨w.heap.size, 0, none⟩ = some (.int .i64 7)) := Lib.hid fun w' hbw => (hbw.cell (p := ⟨w.heap.size, 0, none⟩) (lt_heap L1.out)).trans x0
  have F0 := Lib.hid (show Below y1.heap.size y1 (y1.drewN 1) from below_drewQ (Below.refl _ _) 1)
  have F1 := Lib.hid (show Below y1.heap.size y1 ((y1.drewN 1).alloc (.cells #[qs [], qs [108, 111, 97, 100], qs [117, 110, 108, 111, 97, 100], qs [115, 117, 98, 109, 105, 116], qs [99, 97, 110, 99, 101, 108], qs [103, 114, 97, 110, 116], qs [112, 111, 108, 108], qs [102, 111, 114, 103, 101, 116], qs [101, 118, 105, 99, 116], qs [115, 116, 97, 116, 115]] 9)) from F0.out.alloc (Nat.le_refl _) _)
  have B2 := Lib.hid (B1.out.trans (F1.out.mono B1.out.size))
  have hfr : ((y1.drewN 1).alloc (.cells #[qs [], qs [108, 111, 97, 100], qs [117, 110, 108, 111, 97, 100], qs [115, 117, 98, 109, 105, 116], qs [99, 97, 110, 99, 101, 108], qs [103, 114, 97, 110, 116], qs [112, 111, 108, 108], qs [102, 111, 114, 103, 101, 116], qs [101, 118, 105, 99, 116], qs [115, 116, 97, 116, 115]] 9)).cell? ⟨y1.heap.size, 7, none⟩ = some (qs [102, 111, 114, 103, 101, 116]) := by
    show ((y1.drewN 1).alloc (.cells #[qs [], qs [108, 111, 97, 100], qs [117, 110, 108, 111, 97, 100], qs [115, 117, 98, 109, 105, 116], qs [99, 97, 110, 99, 101, 108], qs [103, 114, 97, 110, 116], qs [112, 111, 108, 108], qs [102, 111, 114, 103, 101, 116], qs [101, 118, 105, 99, 116], qs [115, 116, 97, 116, 115]] 9)).cell? ⟨(y1.drewN 1).heap.size, 7, none⟩ = _
    rw [World.cell?_alloc_new]
    rfl
  have HT := Lib.hid (show opT ⟨7, id, [], 0, 0, 0⟩ = [102, 111, 114, 103, 101, 116] ++ [32] ++ id by unfold opT; rw [HO.out]; rfl)
  have hs1 : ¬ 9223372036854775807 < 6 + 1 + id.length := by omega
  go_wp2_with fail
  refine wp_region_D (S := fun w' => w'.cell? ⟨w.heap.size, 0, none⟩ = some (.int .i64 7)) (st := 5) (by kernel_rfl) ?_
  refine wpAnyT_pure 1 ?v34 rfl (by kernel_rfl) (by kernel_rfl) (by kernel_rfl) (by kernel_rfl) (fun _ _ _ h => h) (HS.out _ F0.out) rfl ?run34 ?rest34
  case run34 => intro w hS; obtain s0 := hS; go_simp; rfl
  refine wpAnyT_pure 2 ?v35 rfl (by kernel_rfl) (by kernel_rfl) (by kernel_rfl) (by kernel_rfl) (fun _ _ _ h => h) (HS.out _ F0.out) rfl ?run35 ?rest35
  case run35 => intro w hS; obtain s0 := hS; go_simp; rfl
  refine wpAnyT_all (rs := [0]) (by kernel_rfl) (by decide) ?_
  intro i hi
  obtain rfl : i = 0 := by simpa using hi
  clear hi
  refine wpOp_of_list rfl ?_
  go_wp2_with fail
  refine (rverbs _).mono ?_
  rintro e z1 ⟨rfl, rfl⟩
  go_wp2
  refine ⟨fun _ => HS.out _ F1.out, ?_⟩
  refine wpAnyT_pure 3 ?v36 rfl (by kernel_rfl) (by kernel_rfl) (by kernel_rfl) (by kernel_rfl) (fun _ _ _ h => h) (HS.out _ F1.out) rfl ?run36 ?rest36
  case run36 => intro w hS; obtain s0 := hS; go_simp; rfl
  refine wpAnyT_all (rs := [4]) (by kernel_rfl) (by decide) ?_
  intro i hi
  obtain rfl : i = 4 := by simpa using hi
  clear hi
  refine wpOp_of_list rfl ?_
  go_wp2
  refine ⟨fun _ => HS.out _ F1.out, ?_⟩
  refine wpAnyT_all (rs := [5]) (by kernel_rfl) (by decide) ?_
  intro i hi
  obtain rfl : i = 5 := by simpa using hi
  clear hi
  refine wpOp_of_list rfl ?_
  go_wp2
  refine ⟨fun h => absurd rfl h, ?_⟩
  refine wpAnyT_done (by kernel_rfl) ?_ _
  obtain ⟨V, hV⟩ : ∃ V, (y1.drewN 1).alloc (.cells #[qs [], qs [108, 111, 97, 100], qs [117, 110, 108, 111, 97, 100], qs [115, 117, 98, 109, 105, 116], qs [99, 97, 110, 99, 101, 108], qs [103, 114, 97, 110, 116], qs [112, 111, 108, 108], qs [102, 111, 114, 103, 101, 116], qs [101, 118, 105, 99, 116], qs [115, 116, 97, 116, 115]] 9) = V := ⟨_, rfl⟩
  have L2 := Lib.hid (show V.heap[w.heap.size]? = some (.cells #[.int .i64 7, qs id, qs [], .int .i64 0, .int .i64 0, .int .i64 0] 24 (0, 0)) by rw [← hV]; exact lies_below L1.out F1.out (lt_heap L1.out))
  have B3 := Lib.hid (show Below w.heap.size w V by rw [← hV]; exact B2.out)
  rw [hV]
  clear hV hfr x0 x1 x2 x3 x4 x5 HS F0
  have g0 := (lies_cells L2.out).1 0
  have g1 := (lies_cells L2.out).1 1
  have g2 := (lies_cells L2.out).1 2
  have g3 := (lies_cells L2.out).1 3
  have g4 := (lies_cells L2.out).1 4
  have g5 := (lies_cells L2.out).1 5
  simp only [List.getElem?_toArray, List.getElem?_cons_zero, List.getElem?_cons_succ] at g0 g1 g2 g3 g4 g5
  have hltV : w.heap.size < V.heap.size := lt_heap L2.out
  all_goals
    go_wp2
    go_ret
    refine ⟨ret_strQ ?_, B3.out⟩
    first | (rw [HT.out]; done) | (rw [HT.out]; simp [app_str])
set_option maxRecDepth 100000 in
set_option maxHeartbeats 2000000 in
theorem rprint9  (w : World)  (HO : Hid (opB ⟨9, [], [], 0, 0, 0⟩ = true)) :
    Calls Tryd.prog 12 #[.agg #[.int .i64 9, qs [], qs [], .int .i64 0, .int .i64 0, .int .i64 0]] w (StrQ (opT ⟨9, [], [], 0, 0, 0⟩) w) := by
  have hud : ∀ b : Bool, (undef = Value.bool b) = False := fun b => by simp [undef]
  obtain ⟨W, hW⟩ : ∃ W, w.alloc (.cells #[.int .i64 9, qs [], qs [], .int .i64 0, .int .i64 0, .int .i64 0] 24) = W := ⟨_, rfl⟩
  have b0 : Below w.heap.size w W := by rw [← hW]; exact (Below.refl _ _).alloc (Nat.le_refl _) _
  have L0 := Lib.hid (show W.heap[w.heap.size]? = some (.cells #[.int .i64 9, qs [], qs [], .int .i64 0, .int .i64 0, .int .i64 0] 24 (0, 0)) by rw [← hW]; exact heap_alloc_new _ _)
  have B0 := Lib.hid b0
  have HW := Lib.hid hW
  clear hW b0
  go_enter Tryd.func12, Tryd.ntmps12
  go_wp2_with fail
  rw [show w.alloc (.cells #[.int .i64 9, qs [], qs [], .int .i64 0, .int .i64 0, .int .i64 0] 24) = W from HW.out]
  refine (rvalid_to (o := ⟨9, [], [], 0, 0, 0⟩) HO.out (by show ([] : Str).length ≤ _; simp) W).mono ?_
  rintro e y1 ⟨rfl, b1⟩
  have B1 := Lib.hid (B0.out.trans (b1.mono B0.out.size))
  have L1 := Lib.hid (lies_below L0.out b1 (lt_heap L0.out))
  clear b1
  have hlt1 : w.heap.size < y1.heap.size := lt_heap L1.out
  have hlt2 : w.heap.size ≠ y1.heap.size := by omega
  have x0 := (lies_cells L1.out).1 0
  have x1 := (lies_cells L1.out).1 1
  have x2 := (lies_cells L1.out).1 2
  have x3 := (lies_cells L1.out).1 3
  have x4 := (lies_cells L1.out).1 4
  have x5 := (lies_cells L1.out).1 5
  simp only [List.getElem?_toArray, List.getElem?_cons_zero, List.getElem?_cons_succ] at x0 x1 x2 x3 x4 x5
  have HS : Hid (∀ w', Below y1.heap.size y1 w' → w'.cell? ⟨w.heap.size, 0, none⟩ = some (.int .i64 9)) := Lib.hid fun w' hbw => (hbw.cell (p := ⟨w.heap.size, 0, none⟩) (lt_heap L1.out)).trans x0
  have F0 := Lib.hid (show Below y1.heap.size y1 (y1.drewN 1) from below_drewQ (Below.refl _ _) 1)
  have F1 := Lib.hid (show Below y1.heap.size y1 ((y1.drewN 1).alloc (.cells #[qs [], qs [108, 111, 97, 100], qs [117, 110, 108, 111, 97, 100], qs [115, 117, 98, 109, 105, 116], qs [99, 97, 110, 99, 101, 108], qs [103, 114, 97, 110, 116], qs [112, 111, 108, 108], qs [102, 111, 114, 103, 101, 116], qs [101, 118, 105, 99, 116], qs [115, 116, 97, 116, 115]] 9)) from F0.out.alloc (Nat.le_refl _) _)
  have B2 := Lib.hid (B1.out.trans (F1.out.mono B1.out.size))
  have hfr : ((y1.drewN 1).alloc (.cells #[qs [], qs [108, 111, 97, 100], qs [117, 110, 108, 111, 97, 100], qs [115, 117, 98, 109, 105, 116], qs [99, 97, 110, 99, 101, 108], qs [103, 114, 97, 110, 116], qs [112, 111, 108, 108], qs [102, 111, 114, 103, 101, 116], qs [101, 118, 105, 99, 116], qs [115, 116, 97, 116, 115]] 9)).cell? ⟨y1.heap.size, 9, none⟩ = some (qs [115, 116, 97, 116, 115]) := by
    show ((y1.drewN 1).alloc (.cells #[qs [], qs [108, 111, 97, 100], qs [117, 110, 108, 111, 97, 100], qs [115, 117, 98, 109, 105, 116], qs [99, 97, 110, 99, 101, 108], qs [103, 114, 97, 110, 116], qs [112, 111, 108, 108], qs [102, 111, 114, 103, 101, 116], qs [101, 118, 105, 99, 116], qs [115, 116, 97, 116, 115]] 9)).cell? ⟨(y1.drewN 1).heap.size, 9, none⟩ = _
    rw [World.cell?_alloc_new]
    rfl
  have HT := Lib.hid (show opT ⟨9, [], [], 0, 0, 0⟩ = [115, 116, 97, 116, 115] by unfold opT; rw [HO.out]; rfl)
  go_wp2_with fail
  refine wp_region_D (S := fun w' => w'.cell? ⟨w.heap.size, 0, none⟩ = some (.int .i64 9)) (st := 5) (by kernel_rfl) ?_
  refine wpAnyT_pure 1 ?v34 rfl (by kernel_rfl) (by kernel_rfl) (by kernel_rfl) (by kernel_rfl) (fun _ _ _ h => h) (HS.out _ F0.out) rfl ?run34 ?rest34
  case run34 => intro w hS; obtain s0 := hS; go_simp; rfl
  refine wpAnyT_pure 2 ?v35 rfl (by kernel_rfl) (by kernel_rfl) (by kernel_rfl) (by kernel_rfl) (fun _ _ _ h => h) (HS.out _ F0.out) rfl ?run35 ?rest35
  case run35 => intro w hS; obtain s0 := hS; go_simp; rfl
  refine wpAnyT_all (rs := [0]) (by kernel_rfl) (by decide) ?_
  intro i hi
  obtain rfl : i = 0 := by simpa using hi
  clear hi
  refine wpOp_of_list rfl ?_
  go_wp2_with fail
  refine (rverbs _).mono ?_
  rintro e z1 ⟨rfl, rfl⟩
  go_wp2
  refine ⟨fun _ => HS.out _ F1.out, ?_⟩
  refine wpAnyT_pure 3 ?v36 rfl (by kernel_rfl) (by kernel_rfl) (by kernel_rfl) (by kernel_rfl) (fun _ _ _ h => h) (HS.out _ F1.out) rfl ?run36 ?rest36
  case run36 => intro w hS; obtain s0 := hS; go_simp; rfl
  refine wpAnyT_all (rs := [4]) (by kernel_rfl) (by decide) ?_
  intro i hi
  obtain rfl : i = 4 := by simpa using hi
  clear hi
  refine wpOp_of_list rfl ?_
  go_wp2
  refine ⟨fun _ => HS.out _ F1.out, ?_⟩
  refine wpAnyT_all (rs := [5]) (by kernel_rfl) (by decide) ?_
  intro i hi
  obtain rfl : i = 5 := by simpa using hi
  clear hi
  refine wpOp_of_list rfl ?_
  go_wp2
  refine ⟨fun h => absurd rfl h, ?_⟩
  refine wpAnyT_done (by kernel_rfl) ?_ _
  obtain ⟨V, hV⟩ : ∃ V, (y1.drewN 1).alloc (.cells #[qs [], qs [108, 111, 97, 100], qs [117, 110, 108, 111, 97, 100], qs [115, 117, 98, 109, 105, 116], qs [99, 97, 110, 99, 101, 108], qs [103, 114, 97, 110, 116], qs [112, 111, 108, 108], qs [102, 111, 114, 103, 101, 116], qs [101, 118, 105, 99, 116], qs [115, 116, 97, 116, 115]] 9) = V := ⟨_, rfl⟩
  have L2 := Lib.hid (show V.heap[w.heap.size]? = some (.cells #[.int .i64 9, qs [], qs [], .int .i64 0, .int .i64 0, .int .i64 0] 24 (0, 0)) by rw [← hV]; exact lies_below L1.out F1.out (lt_heap L1.out))
  have B3 := Lib.hid (show Below w.heap.size w V by rw [← hV]; exact B2.out)
  rw [hV]
  clear hV hfr x0 x1 x2 x3 x4 x5 HS F0
  have g0 := (lies_cells L2.out).1 0
  have g1 := (lies_cells L2.out).1 1
  have g2 := (lies_cells L2.out).1 2
  have g3 := (lies_cells L2.out).1 3
  have g4 := (lies_cells L2.out).1 4
  have g5 := (lies_cells L2.out).1 5
  simp only [List.getElem?_toArray, List.getElem?_cons_zero, List.getElem?_cons_succ] at g0 g1 g2 g3 g4 g5
  have hltV : w.heap.size < V.heap.size := lt_heap L2.out
  all_goals
    go_wp2
    go_ret
    refine ⟨ret_strQ ?_, B3.out⟩
    first | (rw [HT.out]; done) | (rw [HT.out]; simp [app_str])
set_option maxRecDepth 100000 in
set_option maxHeartbeats 2000000 in
theorem rprint5 (n : Nat) (w : World) (hn : n ≤ 1048576) (HO : Hid (opB ⟨5, [], [], 0, 0, n⟩ = true)) :
    Calls Tryd.prog 12 #[.agg #[.int .i64 5, qs [], qs [], .int .i64 0, .int .i64 0, .int .i64 n]] w (StrQ (opT ⟨5, [], [], 0, 0, n⟩) w) := by
  have hud : ∀ b : Bool, (undef = Value.bool b) = False := fun b => by simp [undef]
  obtain ⟨W, hW⟩ : ∃ W, w.alloc (.cells #[.int .i64 5, qs [], qs [], .int .i64 0, .int .i64 0, .int .i64 n] 24) = W := ⟨_, rfl⟩
  have b0 : Below w.heap.size w W := by rw [← hW]; exact (Below.refl _ _).alloc (Nat.le_refl _) _
  have L0 := Lib.hid (show W.heap[w.heap.size]? = some (.cells #[.int .i64 5, qs [], qs [], .int .i64 0, .int .i64 0, .int .i64 n] 24 (0, 0)) by rw [← hW]; exact heap_alloc_new _ _)
  have B0 := Lib.hid b0
  have HW := Lib.hid hW
  clear hW b0
  go_enter Tryd.func12, Tryd.ntmps12
  go_wp2_with fail
  rw [show w.alloc (.cells #[.int .i64 5, qs [], qs [], .int .i64 0, .int .i64 0, .int .i64 n] 24) = W from HW.out]
  refine (rvalid_to (o := ⟨5, [], [], 0, 0, n⟩) HO.out (by show ([] : Str).length ≤ _; simp) W).mono ?_
  rintro e y1 ⟨rfl, b1⟩
  have B1 := Lib.hid (B0.out.trans (b1.mono B0.out.size))
  have L1 := Lib.hid (lies_below L0.out b1 (lt_heap L0.out))
  clear b1
  have hlt1 : w.heap.size < y1.heap.size := lt_heap L1.out
  have hlt2 : w.heap.size ≠ y1.heap.size := by omega
  have x0 := (lies_cells L1.out).1 0
  have x1 := (lies_cells L1.out).1 1
  have x2 := (lies_cells L1.out).1 2
  have x3 := (lies_cells L1.out).1 3
  have x4 := (lies_cells L1.out).1 4
  have x5 := (lies_cells L1.out).1 5
  simp only [List.getElem?_toArray, List.getElem?_cons_zero, List.getElem?_cons_succ] at x0 x1 x2 x3 x4 x5
  have HS : Hid (∀ w', Below y1.heap.size y1 w' → w'.cell? ⟨w.heap.size, 0, none⟩ = some (.int .i64 5)) := Lib.hid fun w' hbw => (hbw.cell (p := ⟨w.heap.size, 0, none⟩) (lt_heap L1.out)).trans x0
  have F0 := Lib.hid (show Below y1.heap.size y1 (y1.drewN 1) from below_drewQ (Below.refl _ _) 1)
  have F1 := Lib.hid (show Below y1.heap.size y1 ((y1.drewN 1).alloc (.cells #[qs [], qs [108, 111, 97, 100], qs [117, 110, 108, 111, 97, 100], qs [115, 117, 98, 109, 105, 116], qs [99, 97, 110, 99, 101, 108], qs [103, 114, 97, 110, 116], qs [112, 111, 108, 108], qs [102, 111, 114, 103, 101, 116], qs [101, 118, 105, 99, 116], qs [115, 116, 97, 116, 115]] 9)) from F0.out.alloc (Nat.le_refl _) _)
  have B2 := Lib.hid (B1.out.trans (F1.out.mono B1.out.size))
  have hfr : ((y1.drewN 1).alloc (.cells #[qs [], qs [108, 111, 97, 100], qs [117, 110, 108, 111, 97, 100], qs [115, 117, 98, 109, 105, 116], qs [99, 97, 110, 99, 101, 108], qs [103, 114, 97, 110, 116], qs [112, 111, 108, 108], qs [102, 111, 114, 103, 101, 116], qs [101, 118, 105, 99, 116], qs [115, 116, 97, 116, 115]] 9)).cell? ⟨y1.heap.size, 5, none⟩ = some (qs [103, 114, 97, 110, 116]) := by
    show ((y1.drewN 1).alloc (.cells #[qs [], qs [108, 111, 97, 100], qs [117, 110, 108, 111, 97, 100], qs [115, 117, 98, 109, 105, 116], qs [99, 97, 110, 99, 101, 108], qs [103, 114, 97, 110, 116], qs [112, 111, 108, 108], qs [102, 111, 114, 103, 101, 116], qs [101, 118, 105, 99, 116], qs [115, 116, 97, 116, 115]] 9)).cell? ⟨(y1.drewN 1).heap.size, 5, none⟩ = _
    rw [World.cell?_alloc_new]
    rfl
  have HT := Lib.hid (show opT ⟨5, [], [], 0, 0, n⟩ = [103, 114, 97, 110, 116] ++ [32] ++ dec10 n by unfold opT; rw [HO.out]; rfl)
  obtain ⟨d, hd⟩ : ∃ d, dec10 n = d := ⟨_, rfl⟩
  have hdl : d.length ≤ 20 := by rw [← hd]; exact dec10_le 20 (by omega) (by omega)
  have hs1 : ¬ 9223372036854775807 < 5 + 1 + d.length := by omega
  rw [hd] at HT
  have HD := Lib.hid hd
  clear hd
  go_wp2_with fail
  refine wp_region_D (S := fun w' => w'.cell? ⟨w.heap.size, 0, none⟩ = some (.int .i64 5)) (st := 5) (by kernel_rfl) ?_
  refine wpAnyT_pure 1 ?v34 rfl (by kernel_rfl) (by kernel_rfl) (by kernel_rfl) (by kernel_rfl) (fun _ _ _ h => h) (HS.out _ F0.out) rfl ?run34 ?rest34
  case run34 => intro w hS; obtain s0 := hS; go_simp; rfl
  refine wpAnyT_pure 2 ?v35 rfl (by kernel_rfl) (by kernel_rfl) (by kernel_rfl) (by kernel_rfl) (fun _ _ _ h => h) (HS.out _ F0.out) rfl ?run35 ?rest35
  case run35 => intro w hS; obtain s0 := hS; go_simp; rfl
  refine wpAnyT_all (rs := [0]) (by kernel_rfl) (by decide) ?_
  intro i hi
  obtain rfl : i = 0 := by simpa using hi
  clear hi
  refine wpOp_of_list rfl ?_
  go_wp2_with fail
  refine (rverbs _).mono ?_
  rintro e z1 ⟨rfl, rfl⟩
  go_wp2
  refine ⟨fun _ => HS.out _ F1.out, ?_⟩
  refine wpAnyT_pure 3 ?v36 rfl (by kernel_rfl) (by kernel_rfl) (by kernel_rfl) (by kernel_rfl) (fun _ _ _ h => h) (HS.out _ F1.out) rfl ?run36 ?rest36
  case run36 => intro w hS; obtain s0 := hS; go_simp; rfl
  refine wpAnyT_all (rs := [4]) (by kernel_rfl) (by decide) ?_
  intro i hi
  obtain rfl : i = 4 := by simpa using hi
  clear hi
  refine wpOp_of_list rfl ?_
  go_wp2
  refine ⟨fun _ => HS.out _ F1.out, ?_⟩
  refine wpAnyT_all (rs := [5]) (by kernel_rfl) (by decide) ?_
  intro i hi
  obtain rfl : i = 5 := by simpa using hi
  clear hi
  refine wpOp_of_list rfl ?_
  go_wp2
  refine ⟨fun h => absurd rfl h, ?_⟩
  refine wpAnyT_done (by kernel_rfl) ?_ _
  obtain ⟨V, hV⟩ : ∃ V, (y1.drewN 1).alloc (.cells #[qs [], qs [108, 111, 97, 100], qs [117, 110, 108, 111, 97, 100], qs [115, 117, 98, 109, 105, 116], qs [99, 97, 110, 99, 101, 108], qs [103, 114, 97, 110, 116], qs [112, 111, 108, 108], qs [102, 111, 114, 103, 101, 116], qs [101, 118, 105, 99, 116], qs [115, 116, 97, 116, 115]] 9) = V := ⟨_, rfl⟩
  have L2 := Lib.hid (show V.heap[w.heap.size]? = some (.cells #[.int .i64 5, qs [], qs [], .int .i64 0, .int .i64 0, .int .i64 n] 24 (0, 0)) by rw [← hV]; exact lies_below L1.out F1.out (lt_heap L1.out))
  have B3 := Lib.hid (show Below w.heap.size w V by rw [← hV]; exact B2.out)
  rw [hV]
  clear hV hfr x0 x1 x2 x3 x4 x5 HS F0
  have g0 := (lies_cells L2.out).1 0
  have g1 := (lies_cells L2.out).1 1
  have g2 := (lies_cells L2.out).1 2
  have g3 := (lies_cells L2.out).1 3
  have g4 := (lies_cells L2.out).1 4
  have g5 := (lies_cells L2.out).1 5
  simp only [List.getElem?_toArray, List.getElem?_cons_zero, List.getElem?_cons_succ] at g0 g1 g2 g3 g4 g5
  have hltV : w.heap.size < V.heap.size := lt_heap L2.out
  all_goals
    go_wp2_with (go_at_call 32; ((with_reducible refine (decimal_to HD.out (by omega) _).mono ?_)); go_must (rintro e z2 ⟨rfl, rfl⟩))
    go_ret
    refine ⟨ret_strQ ?_, B3.out⟩
    first | (rw [HT.out]; done) | (rw [HT.out]; simp [app_str])
set_option maxRecDepth 100000 in
set_option maxHeartbeats 2000000 in
theorem rprint8 (n : Nat) (w : World) (hn : n ≤ 1048576) (HO : Hid (opB ⟨8, [], [], 0, 0, n⟩ = true)) :
    Calls Tryd.prog 12 #[.agg #[.int .i64 8, qs [], qs [], .int .i64 0, .int .i64 0, .int .i64 n]] w (StrQ (opT ⟨8, [], [], 0, 0, n⟩) w) := by
  have hud : ∀ b : Bool, (undef = Value.bool b) = False := fun b => by simp [undef]
  obtain ⟨W, hW⟩ : ∃ W, w.alloc (.cells #[.int .i64 8, qs [], qs [], .int .i64 0, .int .i64 0, .int .i64 n] 24) = W := ⟨_, rfl⟩
  have b0 : Below w.heap.size w W := by rw [← hW]; exact (Below.refl _ _).alloc (Nat.le_refl _) _
  have L0 := Lib.hid (show W.heap[w.heap.size]? = some (.cells #[.int .i64 8, qs [], qs [], .int .i64 0, .int .i64 0, .int .i64 n] 24 (0, 0)) by rw [← hW]; exact heap_alloc_new _ _)
  have B0 := Lib.hid b0
  have HW := Lib.hid hW
  clear hW b0
  go_enter Tryd.func12, Tryd.ntmps12
  go_wp2_with fail
  rw [show w.alloc (.cells #[.int .i64 8, qs [], qs [], .int .i64 0, .int .i64 0, .int .i64 n] 24) = W from HW.out]
  refine (rvalid_to (o := ⟨8, [], [], 0, 0, n⟩) HO.out (by show ([] : Str).length ≤ _; simp) W).mono ?_
  rintro e y1 ⟨rfl, b1⟩
  have B1 := Lib.hid (B0.out.trans (b1.mono B0.out.size))
  have L1 := Lib.hid (lies_below L0.out b1 (lt_heap L0.out))
  clear b1
  have hlt1 : w.heap.size < y1.heap.size := lt_heap L1.out
  have hlt2 : w.heap.size ≠ y1.heap.size := by omega
  have x0 := (lies_cells L1.out).1 0
  have x1 := (lies_cells L1.out).1 1
  have x2 := (lies_cells L1.out).1 2
  have x3 := (lies_cells L1.out).1 3
  have x4 := (lies_cells L1.out).1 4
  have x5 := (lies_cells L1.out).1 5
  simp only [List.getElem?_toArray, List.getElem?_cons_zero, List.getElem?_cons_succ] at x0 x1 x2 x3 x4 x5
  have HS : Hid (∀ w', Below y1.heap.size y1 w' → w'.cell? ⟨w.heap.size, 0, none⟩ = some (.int .i64 8)) := Lib.hid fun w' hbw => (hbw.cell (p := ⟨w.heap.size, 0, none⟩) (lt_heap L1.out)).trans x0
  have F0 := Lib.hid (show Below y1.heap.size y1 (y1.drewN 1) from below_drewQ (Below.refl _ _) 1)
  have F1 := Lib.hid (show Below y1.heap.size y1 ((y1.drewN 1).alloc (.cells #[qs [], qs [108, 111, 97, 100], qs [117, 110, 108, 111, 97, 100], qs [115, 117, 98, 109, 105, 116], qs [99, 97, 110, 99, 101, 108], qs [103, 114, 97, 110, 116], qs [112, 111, 108, 108], qs [102, 111, 114, 103, 101, 116], qs [101, 118, 105, 99, 116], qs [115, 116, 97, 116, 115]] 9)) from F0.out.alloc (Nat.le_refl _) _)
  have B2 := Lib.hid (B1.out.trans (F1.out.mono B1.out.size))
  have hfr : ((y1.drewN 1).alloc (.cells #[qs [], qs [108, 111, 97, 100], qs [117, 110, 108, 111, 97, 100], qs [115, 117, 98, 109, 105, 116], qs [99, 97, 110, 99, 101, 108], qs [103, 114, 97, 110, 116], qs [112, 111, 108, 108], qs [102, 111, 114, 103, 101, 116], qs [101, 118, 105, 99, 116], qs [115, 116, 97, 116, 115]] 9)).cell? ⟨y1.heap.size, 8, none⟩ = some (qs [101, 118, 105, 99, 116]) := by
    show ((y1.drewN 1).alloc (.cells #[qs [], qs [108, 111, 97, 100], qs [117, 110, 108, 111, 97, 100], qs [115, 117, 98, 109, 105, 116], qs [99, 97, 110, 99, 101, 108], qs [103, 114, 97, 110, 116], qs [112, 111, 108, 108], qs [102, 111, 114, 103, 101, 116], qs [101, 118, 105, 99, 116], qs [115, 116, 97, 116, 115]] 9)).cell? ⟨(y1.drewN 1).heap.size, 8, none⟩ = _
    rw [World.cell?_alloc_new]
    rfl
  have HT := Lib.hid (show opT ⟨8, [], [], 0, 0, n⟩ = [101, 118, 105, 99, 116] ++ [32] ++ dec10 n by unfold opT; rw [HO.out]; rfl)
  obtain ⟨d, hd⟩ : ∃ d, dec10 n = d := ⟨_, rfl⟩
  have hdl : d.length ≤ 20 := by rw [← hd]; exact dec10_le 20 (by omega) (by omega)
  have hs1 : ¬ 9223372036854775807 < 5 + 1 + d.length := by omega
  rw [hd] at HT
  have HD := Lib.hid hd
  clear hd
  go_wp2_with fail
  refine wp_region_D (S := fun w' => w'.cell? ⟨w.heap.size, 0, none⟩ = some (.int .i64 8)) (st := 5) (by kernel_rfl) ?_
  refine wpAnyT_pure 1 ?v34 rfl (by kernel_rfl) (by kernel_rfl) (by kernel_rfl) (by kernel_rfl) (fun _ _ _ h => h) (HS.out _ F0.out) rfl ?run34 ?rest34
  case run34 => intro w hS; obtain s0 := hS; go_simp; rfl
  refine wpAnyT_pure 2 ?v35 rfl (by kernel_rfl) (by kernel_rfl) (by kernel_rfl) (by kernel_rfl) (fun _ _ _ h => h) (HS.out _ F0.out) rfl ?run35 ?rest35
  case run35 => intro w hS; obtain s0 := hS; go_simp; rfl
  refine wpAnyT_all (rs := [0]) (by kernel_rfl) (by decide) ?_
  intro i hi
  obtain rfl : i = 0 := by simpa using hi
  clear hi
  refine wpOp_of_list rfl ?_
  go_wp2_with fail
  refine (rverbs _).mono ?_
  rintro e z1 ⟨rfl, rfl⟩
  go_wp2
  refine ⟨fun _ => HS.out _ F1.out, ?_⟩
  refine wpAnyT_pure 3 ?v36 rfl (by kernel_rfl) (by kernel_rfl) (by kernel_rfl) (by kernel_rfl) (fun _ _ _ h => h) (HS.out _ F1.out) rfl ?run36 ?rest36
  case run36 => intro w hS; obtain s0 := hS; go_simp; rfl
  refine wpAnyT_all (rs := [4]) (by kernel_rfl) (by decide) ?_
  intro i hi
  obtain rfl : i = 4 := by simpa using hi
  clear hi
  refine wpOp_of_list rfl ?_
  go_wp2
  refine ⟨fun _ => HS.out _ F1.out, ?_⟩
  refine wpAnyT_all (rs := [5]) (by kernel_rfl) (by decide) ?_
  intro i hi
  obtain rfl : i = 5 := by simpa using hi
  clear hi
  refine wpOp_of_list rfl ?_
  go_wp2
  refine ⟨fun h => absurd rfl h, ?_⟩
  refine wpAnyT_done (by kernel_rfl) ?_ _
  obtain ⟨V, hV⟩ : ∃ V, (y1.drewN 1).alloc (.cells #[qs [], qs [108, 111, 97, 100], qs [117, 110, 108, 111, 97, 100], qs [115, 117, 98, 109, 105, 116], qs [99, 97, 110, 99, 101, 108], qs [103, 114, 97, 110, 116], qs [112, 111, 108, 108], qs [102, 111, 114, 103, 101, 116], qs [101, 118, 105, 99, 116], qs [115, 116, 97, 116, 115]] 9) = V := ⟨_, rfl⟩
  have L2 := Lib.hid (show V.heap[w.heap.size]? = some (.cells #[.int .i64 8, qs [], qs [], .int .i64 0, .int .i64 0, .int .i64 n] 24 (0, 0)) by rw [← hV]; exact lies_below L1.out F1.out (lt_heap L1.out))
  have B3 := Lib.hid (show Below w.heap.size w V by rw [← hV]; exact B2.out)
  rw [hV]
  clear hV hfr x0 x1 x2 x3 x4 x5 HS F0
  have g0 := (lies_cells L2.out).1 0
  have g1 := (lies_cells L2.out).1 1
  have g2 := (lies_cells L2.out).1 2
  have g3 := (lies_cells L2.out).1 3
  have g4 := (lies_cells L2.out).1 4
  have g5 := (lies_cells L2.out).1 5
  simp only [List.getElem?_toArray, List.getElem?_cons_zero, List.getElem?_cons_succ] at g0 g1 g2 g3 g4 g5
  have hltV : w.heap.size < V.heap.size := lt_heap L2.out
  all_goals
    go_wp2_with (go_at_call 32; ((with_reducible refine (decimal_to HD.out (by omega) _).mono ?_)); go_must (rintro e z2 ⟨rfl, rfl⟩))
    go_ret
    refine ⟨ret_strQ ?_, B3.out⟩
    first | (rw [HT.out]; done) | (rw [HT.out]; simp [app_str])
set_option maxRecDepth 100000 in
set_option maxHeartbeats 2000000 in
theorem rprint3_0 (id text : Str) (b c : Nat) (w : World) (hi : id.length ≤ 16) (ht : text.length ≤ 16) (hb : b < 256) (hc : c < 4) (HO : Hid (opB ⟨3, id, text, 1, b, c⟩ = true)) :
    Calls Tryd.prog 12 #[.agg #[.int .i64 3, qs id, qs text, .int .i64 1, .int .i64 b, .int .i64 c]] w (StrQ (opT ⟨3, id, text, 1, b, c⟩) w) := by
  have hud : ∀ b : Bool, (undef = Value.bool b) = False := fun b => by simp [undef]
  obtain ⟨W, hW⟩ : ∃ W, w.alloc (.cells #[.int .i64 3, qs id, qs text, .int .i64 1, .int .i64 b, .int .i64 c] 24) = W := ⟨_, rfl⟩
  have b0 : Below w.heap.size w W := by rw [← hW]; exact (Below.refl _ _).alloc (Nat.le_refl _) _
  have L0 := Lib.hid (show W.heap[w.heap.size]? = some (.cells #[.int .i64 3, qs id, qs text, .int .i64 1, .int .i64 b, .int .i64 c] 24 (0, 0)) by rw [← hW]; exact heap_alloc_new _ _)
  have B0 := Lib.hid b0
  have HW := Lib.hid hW
  clear hW b0
  go_enter Tryd.func12, Tryd.ntmps12
  go_wp2_with fail
  rw [show w.alloc (.cells #[.int .i64 3, qs id, qs text, .int .i64 1, .int .i64 b, .int .i64 c] 24) = W from HW.out]
  refine (rvalid_to (o := ⟨3, id, text, 1, b, c⟩) HO.out (by show text.length ≤ _; omega) W).mono ?_
  rintro e y1 ⟨rfl, b1⟩
  have B1 := Lib.hid (B0.out.trans (b1.mono B0.out.size))
  have L1 := Lib.hid (lies_below L0.out b1 (lt_heap L0.out))
  clear b1
  have hlt1 : w.heap.size < y1.heap.size := lt_heap L1.out
  have hlt2 : w.heap.size ≠ y1.heap.size := by omega
  have x0 := (lies_cells L1.out).1 0
  have x1 := (lies_cells L1.out).1 1
  have x2 := (lies_cells L1.out).1 2
  have x3 := (lies_cells L1.out).1 3
  have x4 := (lies_cells L1.out).1 4
  have x5 := (lies_cells L1.out).1 5
  simp only [List.getElem?_toArray, List.getElem?_cons_zero, List.getElem?_cons_succ] at x0 x1 x2 x3 x4 x5
  have HS : Hid (∀ w', Below y1.heap.size y1 w' → w'.cell? ⟨w.heap.size, 0, none⟩ = some (.int .i64 3)) := Lib.hid fun w' hbw => (hbw.cell (p := ⟨w.heap.size, 0, none⟩) (lt_heap L1.out)).trans x0
  have F0 := Lib.hid (show Below y1.heap.size y1 (y1.drewN 1) from below_drewQ (Below.refl _ _) 1)
  have F1 := Lib.hid (show Below y1.heap.size y1 ((y1.drewN 1).alloc (.cells #[qs [], qs [108, 111, 97, 100], qs [117, 110, 108, 111, 97, 100], qs [115, 117, 98, 109, 105, 116], qs [99, 97, 110, 99, 101, 108], qs [103, 114, 97, 110, 116], qs [112, 111, 108, 108], qs [102, 111, 114, 103, 101, 116], qs [101, 118, 105, 99, 116], qs [115, 116, 97, 116, 115]] 9)) from F0.out.alloc (Nat.le_refl _) _)
  have B2 := Lib.hid (B1.out.trans (F1.out.mono B1.out.size))
  have hfr : ((y1.drewN 1).alloc (.cells #[qs [], qs [108, 111, 97, 100], qs [117, 110, 108, 111, 97, 100], qs [115, 117, 98, 109, 105, 116], qs [99, 97, 110, 99, 101, 108], qs [103, 114, 97, 110, 116], qs [112, 111, 108, 108], qs [102, 111, 114, 103, 101, 116], qs [101, 118, 105, 99, 116], qs [115, 116, 97, 116, 115]] 9)).cell? ⟨y1.heap.size, 3, none⟩ = some (qs [115, 117, 98, 109, 105, 116]) := by
    show ((y1.drewN 1).alloc (.cells #[qs [], qs [108, 111, 97, 100], qs [117, 110, 108, 111, 97, 100], qs [115, 117, 98, 109, 105, 116], qs [99, 97, 110, 99, 101, 108], qs [103, 114, 97, 110, 116], qs [112, 111, 108, 108], qs [102, 111, 114, 103, 101, 116], qs [101, 118, 105, 99, 116], qs [115, 116, 97, 116, 115]] 9)).cell? ⟨(y1.drewN 1).heap.size, 3, none⟩ = _
    rw [World.cell?_alloc_new]
    rfl
  have HT := Lib.hid (show opT ⟨3, id, text, 1, b, c⟩ = [115, 117, 98, 109, 105, 116] ++ [32] ++ id ++ [32] ++ text ++ [32] ++ [114, 101, 97, 99, 104] ++ [32] ++ dec10 b ++ [32] ++ dec10 c by unfold opT; rw [HO.out]; rfl)
  obtain ⟨db, hdb⟩ : ∃ d, dec10 b = d := ⟨_, rfl⟩
  obtain ⟨dc, hdc⟩ : ∃ d, dec10 c = d := ⟨_, rfl⟩
  have hbl : db.length ≤ 3 := by rw [← hdb]; exact dec10_le 3 (by omega) (by omega)
  have hcl : dc.length ≤ 1 := by rw [← hdc]; exact dec10_le 1 (by omega) (by omega)
  rw [hdb, hdc] at HT
  have HDB := Lib.hid hdb
  have HDC := Lib.hid hdc
  clear hdb hdc
  have hs1 : ¬ 9223372036854775807 < 6 + 1 + id.length := by omega
  have hs2 : ¬ 9223372036854775807 < 6 + 1 + id.length + 1 := by omega
  have hs3 : ¬ 9223372036854775807 < 6 + 1 + id.length + 1 + text.length := by omega
  have hs4 : ¬ 9223372036854775807 < 6 + 1 + id.length + 1 + text.length + 1 := by omega
  have hs5 : ¬ 9223372036854775807 < 6 + 1 + id.length + 1 + text.length + 1 + 5 := by omega
  have hs6 : ¬ 9223372036854775807 < 6 + 1 + id.length + 1 + text.length + 1 + 5 + 1 := by omega
  have hs7 : ¬ 9223372036854775807 < 6 + 1 + id.length + 1 + text.length + 1 + 5 + 1 + db.length := by omega
  have hs8 : ¬ 9223372036854775807 < 6 + 1 + id.length + 1 + text.length + 1 + 5 + 1 + db.length + 1 := by omega
  have hs9 : ¬ 9223372036854775807 < 6 + 1 + id.length + 1 + text.length + 1 + 5 + 1 + db.length + 1 + dc.length := by omega
  go_wp2_with fail
  refine wp_region_D (S := fun w' => w'.cell? ⟨w.heap.size, 0, none⟩ = some (.int .i64 3)) (st := 5) (by kernel_rfl) ?_
  refine wpAnyT_pure 1 ?v34 rfl (by kernel_rfl) (by kernel_rfl) (by kernel_rfl) (by kernel_rfl) (fun _ _ _ h => h) (HS.out _ F0.out) rfl ?run34 ?rest34
  case run34 => intro w hS; obtain s0 := hS; go_simp; rfl
  refine wpAnyT_pure 2 ?v35 rfl (by kernel_rfl) (by kernel_rfl) (by kernel_rfl) (by kernel_rfl) (fun _ _ _ h => h) (HS.out _ F0.out) rfl ?run35 ?rest35
  case run35 => intro w hS; obtain s0 := hS; go_simp; rfl
  refine wpAnyT_all (rs := [0]) (by kernel_rfl) (by decide) ?_
  intro i hi
  obtain rfl : i = 0 := by simpa using hi
  clear hi
  refine wpOp_of_list rfl ?_
  go_wp2_with fail
  refine (rverbs _).mono ?_
  rintro e z1 ⟨rfl, rfl⟩
  go_wp2
  refine ⟨fun _ => HS.out _ F1.out, ?_⟩
  refine wpAnyT_pure 3 ?v36 rfl (by kernel_rfl) (by kernel_rfl) (by kernel_rfl) (by kernel_rfl) (fun _ _ _ h => h) (HS.out _ F1.out) rfl ?run36 ?rest36
  case run36 => intro w hS; obtain s0 := hS; go_simp; rfl
  refine wpAnyT_all (rs := [4]) (by kernel_rfl) (by decide) ?_
  intro i hi
  obtain rfl : i = 4 := by simpa using hi
  clear hi
  refine wpOp_of_list rfl ?_
  go_wp2
  refine ⟨fun _ => HS.out _ F1.out, ?_⟩
  refine wpAnyT_all (rs := [5]) (by kernel_rfl) (by decide) ?_
  intro i hi
  obtain rfl : i = 5 := by simpa using hi
  clear hi
  refine wpOp_of_list rfl ?_
  go_wp2
  refine ⟨fun h => absurd rfl h, ?_⟩
  refine wpAnyT_done (by kernel_rfl) ?_ _
  obtain ⟨V, hV⟩ : ∃ V, (y1.drewN 1).alloc (.cells #[qs [], qs [108, 111, 97, 100], qs [117, 110, 108, 111, 97, 100], qs [115, 117, 98, 109, 105, 116], qs [99, 97, 110, 99, 101, 108], qs [103, 114, 97, 110, 116], qs [112, 111, 108, 108], qs [102, 111, 114, 103, 101, 116], qs [101, 118, 105, 99, 116], qs [115, 116, 97, 116, 115]] 9) = V := ⟨_, rfl⟩
  have L2 := Lib.hid (show V.heap[w.heap.size]? = some (.cells #[.int .i64 3, qs id, qs text, .int .i64 1, .int .i64 b, .int .i64 c] 24 (0, 0)) by rw [← hV]; exact lies_below L1.out F1.out (lt_heap L1.out))
  have B3 := Lib.hid (show Below w.heap.size w V by rw [← hV]; exact B2.out)
  rw [hV]
  clear hV hfr x0 x1 x2 x3 x4 x5 HS F0
  have g0 := (lies_cells L2.out).1 0
  have g1 := (lies_cells L2.out).1 1
  have g2 := (lies_cells L2.out).1 2
  have g3 := (lies_cells L2.out).1 3
  have g4 := (lies_cells L2.out).1 4
  have g5 := (lies_cells L2.out).1 5
  simp only [List.getElem?_toArray, List.getElem?_cons_zero, List.getElem?_cons_succ] at g0 g1 g2 g3 g4 g5
  have hltV : w.heap.size < V.heap.size := lt_heap L2.out
  have HS2 : Hid (∀ w', Below V.heap.size V w' → w'.cell? ⟨w.heap.size, 1, none⟩ = some (qs id) ∧ w'.cell? ⟨w.heap.size, 2, none⟩ = some (qs text) ∧ w'.cell? ⟨w.heap.size, 3, none⟩ = some (.int .i64 1) ∧ w'.cell? ⟨w.heap.size, 4, none⟩ = some (.int .i64 b) ∧ w'.cell? ⟨w.heap.size, 5, none⟩ = some (.int .i64 c)) :=
    Lib.hid fun w' hbw => ⟨(hbw.cell (p := ⟨w.heap.size, 1, none⟩) (lt_heap L2.out)).trans g1, (hbw.cell (p := ⟨w.heap.size, 2, none⟩) (lt_heap L2.out)).trans g2, (hbw.cell (p := ⟨w.heap.size, 3, none⟩) (lt_heap L2.out)).trans g3, (hbw.cell (p := ⟨w.heap.size, 4, none⟩) (lt_heap L2.out)).trans g4, (hbw.cell (p := ⟨w.heap.size, 5, none⟩) (lt_heap L2.out)).trans g5⟩
  have F2 := Lib.hid (show Below V.heap.size V (V.drewN 1) from below_drewQ (Below.refl _ _) 1)
  have F3 := Lib.hid (show Below V.heap.size V ((V.drewN 1).alloc (.cells #[qs [114, 101, 97, 99, 104], qs [108, 105, 118, 101], qs [116, 97, 105, 110, 116], qs [117, 110, 105, 110, 105, 116]] 9)) from F2.out.alloc (Nat.le_refl _) _)
  have hfr2 : ((V.drewN 1).alloc (.cells #[qs [114, 101, 97, 99, 104], qs [108, 105, 118, 101], qs [116, 97, 105, 110, 116], qs [117, 110, 105, 110, 105, 116]] 9)).cell? ⟨V.heap.size, 0, none⟩ = some (qs [114, 101, 97, 99, 104]) := by
    show ((V.drewN 1).alloc (.cells #[qs [114, 101, 97, 99, 104], qs [108, 105, 118, 101], qs [116, 97, 105, 110, 116], qs [117, 110, 105, 110, 105, 116]] 9)).cell? ⟨(V.drewN 1).heap.size, 0, none⟩ = _
    rw [World.cell?_alloc_new]
    rfl
  go_wp2_with fail
  refine wp_region_D (S := fun w' => w'.cell? ⟨w.heap.size, 1, none⟩ = some (qs id) ∧ w'.cell? ⟨w.heap.size, 2, none⟩ = some (qs text) ∧ w'.cell? ⟨w.heap.size, 3, none⟩ = some (.int .i64 1) ∧ w'.cell? ⟨w.heap.size, 4, none⟩ = some (.int .i64 b) ∧ w'.cell? ⟨w.heap.size, 5, none⟩ = some (.int .i64 c)) (st := 27) (by kernel_rfl) ?_
  refine wpAnyT_pure 0 ?v1 rfl (by kernel_rfl) (by kernel_rfl) (by kernel_rfl) (by kernel_rfl) (fun _ _ _ h => h) (HS2.out _ F2.out) rfl ?run1 ?rest1
  case run1 => intro w hS; obtain ⟨s1, s2, s3, s4, s5⟩ := hS; go_simp; rfl
  refine wpAnyT_pure 1 ?v2 rfl (by kernel_rfl) (by kernel_rfl) (by kernel_rfl) (by kernel_rfl) (fun _ _ _ h => h) (HS2.out _ F2.out) rfl ?run2 ?rest2
  case run2 => intro w hS; obtain ⟨s1, s2, s3, s4, s5⟩ := hS; go_simp; rfl
  refine wpAnyT_pure 2 ?v3 rfl (by kernel_rfl) (by kernel_rfl) (by kernel_rfl) (by kernel_rfl) (fun _ _ _ h => h) (HS2.out _ F2.out) rfl ?run3 ?rest3
  case run3 => intro w hS; obtain ⟨s1, s2, s3, s4, s5⟩ := hS; go_simp; rfl
  refine wpAnyT_pure 3 ?v4 rfl (by kernel_rfl) (by kernel_rfl) (by kernel_rfl) (by kernel_rfl) (fun _ _ _ h => h) (HS2.out _ F2.out) rfl ?run4 ?rest4
  case run4 => intro w hS; obtain ⟨s1, s2, s3, s4, s5⟩ := hS; go_simp; rfl
  refine wpAnyT_pure 4 ?v5 rfl (by kernel_rfl) (by kernel_rfl) (by kernel_rfl) (by kernel_rfl) (fun _ _ _ h => h) (HS2.out _ F2.out) rfl ?run5 ?rest5
  case run5 => intro w hS; obtain ⟨s1, s2, s3, s4, s5⟩ := hS; go_simp; rfl
  refine wpAnyT_pure 5 ?v6 rfl (by kernel_rfl) (by kernel_rfl) (by kernel_rfl) (by kernel_rfl) (fun _ _ _ h => h) (HS2.out _ F2.out) rfl ?run6 ?rest6
  case run6 => intro w hS; obtain ⟨s1, s2, s3, s4, s5⟩ := hS; go_simp; rfl
  refine wpAnyT_pure 6 ?v7 rfl (by kernel_rfl) (by kernel_rfl) (by kernel_rfl) (by kernel_rfl) (fun _ _ _ h => h) (HS2.out _ F2.out) rfl ?run7 ?rest7
  case run7 => intro w hS; obtain ⟨s1, s2, s3, s4, s5⟩ := hS; go_simp; rfl
  refine wpAnyT_pure 7 ?v8 rfl (by kernel_rfl) (by kernel_rfl) (by kernel_rfl) (by kernel_rfl) (fun _ _ _ h => h) (HS2.out _ F2.out) rfl ?run8 ?rest8
  case run8 => intro w hS; obtain ⟨s1, s2, s3, s4, s5⟩ := hS; go_simp; rfl
  refine wpAnyT_pure 8 ?v9 rfl (by kernel_rfl) (by kernel_rfl) (by kernel_rfl) (by kernel_rfl) (fun _ _ _ h => h) (HS2.out _ F2.out) rfl ?run9 ?rest9
  case run9 => intro w hS; obtain ⟨s1, s2, s3, s4, s5⟩ := hS; go_simp; rfl
  refine wpAnyT_pure 9 ?v10 rfl (by kernel_rfl) (by kernel_rfl) (by kernel_rfl) (by kernel_rfl) (fun _ _ _ h => h) (HS2.out _ F2.out) rfl ?run10 ?rest10
  case run10 => intro w hS; obtain ⟨s1, s2, s3, s4, s5⟩ := hS; go_simp; rfl
  refine wpAnyT_pure 11 ?v11 rfl (by kernel_rfl) (by kernel_rfl) (by kernel_rfl) (by kernel_rfl) (fun _ _ _ h => h) (HS2.out _ F2.out) rfl ?run11 ?rest11
  case run11 => intro w hS; obtain ⟨s1, s2, s3, s4, s5⟩ := hS; go_simp; rfl
  refine wpAnyT_pure 12 ?v12 rfl (by kernel_rfl) (by kernel_rfl) (by kernel_rfl) (by kernel_rfl) (fun _ _ _ h => h) (HS2.out _ F2.out) rfl ?run12 ?rest12
  case run12 => intro w hS; obtain ⟨s1, s2, s3, s4, s5⟩ := hS; go_simp; rfl
  refine wpAnyT_pure 13 ?v13 rfl (by kernel_rfl) (by kernel_rfl) (by kernel_rfl) (by kernel_rfl) (fun _ _ _ h => h) (HS2.out _ F2.out) rfl ?run13 ?rest13
  case run13 => intro w hS; obtain ⟨s1, s2, s3, s4, s5⟩ := hS; go_simp; rfl
  refine wpAnyT_pure 18 ?v14 rfl (by kernel_rfl) (by kernel_rfl) (by kernel_rfl) (by kernel_rfl) (fun _ _ _ h => h) (HS2.out _ F2.out) rfl ?run14 ?rest14
  case run14 => intro w hS; obtain ⟨s1, s2, s3, s4, s5⟩ := hS; go_simp; rfl
  refine wpAnyT_pure 19 ?v15 rfl (by kernel_rfl) (by kernel_rfl) (by kernel_rfl) (by kernel_rfl) (fun _ _ _ h => h) (HS2.out _ F2.out) rfl ?run15 ?rest15
  case run15 => intro w hS; obtain ⟨s1, s2, s3, s4, s5⟩ := hS; go_simp; rfl
  refine wpAnyT_pure 23 ?v16 rfl (by kernel_rfl) (by kernel_rfl) (by kernel_rfl) (by kernel_rfl) (fun _ _ _ h => h) (HS2.out _ F2.out) rfl ?run16 ?rest16
  case run16 => intro w hS; obtain ⟨s1, s2, s3, s4, s5⟩ := hS; go_simp; rfl
  refine wpAnyT_pure 24 ?v17 rfl (by kernel_rfl) (by kernel_rfl) (by kernel_rfl) (by kernel_rfl) (fun _ _ _ h => h) (HS2.out _ F2.out) rfl ?run17 ?rest17
  case run17 => intro w hS; obtain ⟨s1, s2, s3, s4, s5⟩ := hS; go_simp; rfl
  refine wpAnyT_all (rs := [10]) (by kernel_rfl) (by decide) ?_
  intro i hi
  obtain rfl : i = 10 := by simpa using hi
  clear hi
  refine wpOp_of_list rfl ?_
  go_wp2_with fail
  refine (ranas _).mono ?_
  rintro e z1 ⟨rfl, rfl⟩
  go_wp2
  refine ⟨fun _ => HS2.out _ F3.out, ?_⟩
  refine wpAnyT_pure 14 ?v18 rfl (by kernel_rfl) (by kernel_rfl) (by kernel_rfl) (by kernel_rfl) (fun _ _ _ h => h) (HS2.out _ F3.out) rfl ?run18 ?rest18
  case run18 => intro w hS; obtain ⟨s1, s2, s3, s4, s5⟩ := hS; go_simp; rfl
  refine wpAnyT_all (rs := [15, 20]) (by kernel_rfl) (by decide) ?_
  intro i hi
  have hi2 : i = 15 ∨ i = 20 := by simpa using hi
  clear hi
  rcases hi2 with rfl | rfl
  · skip
    refine wpOp_of_list rfl ?_
    go_wp2
    refine ⟨fun _ => HS2.out _ F3.out, ?_⟩
    refine wpAnyT_pure 16 ?v19 rfl (by kernel_rfl) (by kernel_rfl) (by kernel_rfl) (by kernel_rfl) (fun _ _ _ h => h) (HS2.out _ F3.out) rfl ?run19 ?rest19
    case run19 => intro w hS; obtain ⟨s1, s2, s3, s4, s5⟩ := hS; go_simp; rfl
    refine wpAnyT_pure 17 ?v20 rfl (by kernel_rfl) (by kernel_rfl) (by kernel_rfl) (by kernel_rfl) (fun _ _ _ h => h) (HS2.out _ F3.out) rfl ?run20 ?rest20
    case run20 => intro w hS; obtain ⟨s1, s2, s3, s4, s5⟩ := hS; go_simp; rfl
    refine wpAnyT_all (rs := [20]) (by kernel_rfl) (by decide) ?_
    intro i hi
    obtain rfl : i = 20 := by simpa using hi
    clear hi
    refine wpOp_of_list rfl ?_
    go_wp2_with fail
    refine (decimal_to HDB.out (by omega) _).mono ?_
    rintro e z2 ⟨rfl, rfl⟩
    go_wp2
    refine ⟨fun _ => HS2.out _ F3.out, ?_⟩
    refine wpAnyT_pure 21 ?v21 rfl (by kernel_rfl) (by kernel_rfl) (by kernel_rfl) (by kernel_rfl) (fun _ _ _ h => h) (HS2.out _ F3.out) rfl ?run21 ?rest21
    case run21 => intro w hS; obtain ⟨s1, s2, s3, s4, s5⟩ := hS; go_simp; rfl
    refine wpAnyT_pure 22 ?v22 rfl (by kernel_rfl) (by kernel_rfl) (by kernel_rfl) (by kernel_rfl) (fun _ _ _ h => h) (HS2.out _ F3.out) rfl ?run22 ?rest22
    case run22 => intro w hS; obtain ⟨s1, s2, s3, s4, s5⟩ := hS; go_simp; rfl
    refine wpAnyT_all (rs := [25]) (by kernel_rfl) (by decide) ?_
    intro i hi
    obtain rfl : i = 25 := by simpa using hi
    clear hi
    refine wpOp_of_list rfl ?_
    go_wp2_with fail
    refine (decimal_to HDC.out (by omega) _).mono ?_
    rintro e z2 ⟨rfl, rfl⟩
    go_wp2
    refine ⟨fun _ => HS2.out _ F3.out, ?_⟩
    refine wpAnyT_pure 26 ?v23 rfl (by kernel_rfl) (by kernel_rfl) (by kernel_rfl) (by kernel_rfl) (fun _ _ _ h => h) (HS2.out _ F3.out) rfl ?run23 ?rest23
    case run23 => intro w hS; obtain ⟨s1, s2, s3, s4, s5⟩ := hS; go_simp; rfl
    refine wpAnyT_all (rs := [27]) (by kernel_rfl) (by decide) ?_
    intro i hi
    obtain rfl : i = 27 := by simpa using hi
    clear hi
    refine wpOp_of_list rfl ?_
    go_wp2
    refine ⟨fun h => absurd rfl h, ?_⟩
    refine wpAnyT_done (by kernel_rfl) ?_ _
    go_wp2
    go_ret
    refine ⟨ret_strQ ?_, B3.out.trans (F3.out.mono B3.out.size)⟩
    rw [HT.out]
    simp [app_str]
  · skip
    refine wpOp_of_list rfl ?_
    go_wp2_with fail
    refine (decimal_to HDB.out (by omega) _).mono ?_
    rintro e z2 ⟨rfl, rfl⟩
    go_wp2
    refine ⟨fun _ => HS2.out _ F3.out, ?_⟩
    refine wpAnyT_all (rs := [15, 25]) (by kernel_rfl) (by decide) ?_
    intro i hi
    have hi2 : i = 15 ∨ i = 25 := by simpa using hi
    clear hi
    rcases hi2 with rfl | rfl
    · skip
      refine wpOp_of_list rfl ?_
      go_wp2
      refine ⟨fun _ => HS2.out _ F3.out, ?_⟩
      refine wpAnyT_pure 16 ?v24 rfl (by kernel_rfl) (by kernel_rfl) (by kernel_rfl) (by kernel_rfl) (fun _ _ _ h => h) (HS2.out _ F3.out) rfl ?run24 ?rest24
      case run24 => intro w hS; obtain ⟨s1, s2, s3, s4, s5⟩ := hS; go_simp; rfl
      refine wpAnyT_pure 17 ?v25 rfl (by kernel_rfl) (by kernel_rfl) (by kernel_rfl) (by kernel_rfl) (fun _ _ _ h => h) (HS2.out _ F3.out) rfl ?run25 ?rest25
      case run25 => intro w hS; obtain ⟨s1, s2, s3, s4, s5⟩ := hS; go_simp; rfl
      refine wpAnyT_pure 21 ?v26 rfl (by kernel_rfl) (by kernel_rfl) (by kernel_rfl) (by kernel_rfl) (fun _ _ _ h => h) (HS2.out _ F3.out) rfl ?run26 ?rest26
      case run26 => intro w hS; obtain ⟨s1, s2, s3, s4, s5⟩ := hS; go_simp; rfl
      refine wpAnyT_pure 22 ?v27 rfl (by kernel_rfl) (by kernel_rfl) (by kernel_rfl) (by kernel_rfl) (fun _ _ _ h => h) (HS2.out _ F3.out) rfl ?run27 ?rest27
      case run27 => intro w hS; obtain ⟨s1, s2, s3, s4, s5⟩ := hS; go_simp; rfl
      refine wpAnyT_all (rs := [25]) (by kernel_rfl) (by decide) ?_
      intro i hi
      obtain rfl : i = 25 := by simpa using hi
      clear hi
      refine wpOp_of_list rfl ?_
      go_wp2_with fail
      refine (decimal_to HDC.out (by omega) _).mono ?_
      rintro e z2 ⟨rfl, rfl⟩
      go_wp2
      refine ⟨fun _ => HS2.out _ F3.out, ?_⟩
      refine wpAnyT_pure 26 ?v28 rfl (by kernel_rfl) (by kernel_rfl) (by kernel_rfl) (by kernel_rfl) (fun _ _ _ h => h) (HS2.out _ F3.out) rfl ?run28 ?rest28
      case run28 => intro w hS; obtain ⟨s1, s2, s3, s4, s5⟩ := hS; go_simp; rfl
      refine wpAnyT_all (rs := [27]) (by kernel_rfl) (by decide) ?_
      intro i hi
      obtain rfl : i = 27 := by simpa using hi
      clear hi
      refine wpOp_of_list rfl ?_
      go_wp2
      refine ⟨fun h => absurd rfl h, ?_⟩
      refine wpAnyT_done (by kernel_rfl) ?_ _
      go_wp2
      go_ret
      refine ⟨ret_strQ ?_, B3.out.trans (F3.out.mono B3.out.size)⟩
      rw [HT.out]
      simp [app_str]
    · skip
      refine wpOp_of_list rfl ?_
      go_wp2_with fail
      refine (decimal_to HDC.out (by omega) _).mono ?_
      rintro e z2 ⟨rfl, rfl⟩
      go_wp2
      refine ⟨fun _ => HS2.out _ F3.out, ?_⟩
      refine wpAnyT_all (rs := [15]) (by kernel_rfl) (by decide) ?_
      intro i hi
      obtain rfl : i = 15 := by simpa using hi
      clear hi
      refine wpOp_of_list rfl ?_
      go_wp2
      refine ⟨fun _ => HS2.out _ F3.out, ?_⟩
      refine wpAnyT_pure 16 ?v29 rfl (by kernel_rfl) (by kernel_rfl) (by kernel_rfl) (by kernel_rfl) (fun _ _ _ h => h) (HS2.out _ F3.out) rfl ?run29 ?rest29
      case run29 => intro w hS; obtain ⟨s1, s2, s3, s4, s5⟩ := hS; go_simp; rfl
      refine wpAnyT_pure 17 ?v30 rfl (by kernel_rfl) (by kernel_rfl) (by kernel_rfl) (by kernel_rfl) (fun _ _ _ h => h) (HS2.out _ F3.out) rfl ?run30 ?rest30
      case run30 => intro w hS; obtain ⟨s1, s2, s3, s4, s5⟩ := hS; go_simp; rfl
      refine wpAnyT_pure 21 ?v31 rfl (by kernel_rfl) (by kernel_rfl) (by kernel_rfl) (by kernel_rfl) (fun _ _ _ h => h) (HS2.out _ F3.out) rfl ?run31 ?rest31
      case run31 => intro w hS; obtain ⟨s1, s2, s3, s4, s5⟩ := hS; go_simp; rfl
      refine wpAnyT_pure 22 ?v32 rfl (by kernel_rfl) (by kernel_rfl) (by kernel_rfl) (by kernel_rfl) (fun _ _ _ h => h) (HS2.out _ F3.out) rfl ?run32 ?rest32
      case run32 => intro w hS; obtain ⟨s1, s2, s3, s4, s5⟩ := hS; go_simp; rfl
      refine wpAnyT_pure 26 ?v33 rfl (by kernel_rfl) (by kernel_rfl) (by kernel_rfl) (by kernel_rfl) (fun _ _ _ h => h) (HS2.out _ F3.out) rfl ?run33 ?rest33
      case run33 => intro w hS; obtain ⟨s1, s2, s3, s4, s5⟩ := hS; go_simp; rfl
      refine wpAnyT_all (rs := [27]) (by kernel_rfl) (by decide) ?_
      intro i hi
      obtain rfl : i = 27 := by simpa using hi
      clear hi
      refine wpOp_of_list rfl ?_
      go_wp2
      refine ⟨fun h => absurd rfl h, ?_⟩
      refine wpAnyT_done (by kernel_rfl) ?_ _
      go_wp2
      go_ret
      refine ⟨ret_strQ ?_, B3.out.trans (F3.out.mono B3.out.size)⟩
      rw [HT.out]
      simp [app_str]
set_option maxRecDepth 100000 in
set_option maxHeartbeats 2000000 in
theorem rprint3_1 (id text : Str) (b c : Nat) (w : World) (hi : id.length ≤ 16) (ht : text.length ≤ 16) (hb : b < 256) (hc : c < 4) (HO : Hid (opB ⟨3, id, text, 2, b, c⟩ = true)) :
    Calls Tryd.prog 12 #[.agg #[.int .i64 3, qs id, qs text, .int .i64 2, .int .i64 b, .int .i64 c]] w (StrQ (opT ⟨3, id, text, 2, b, c⟩) w) := by
  have hud : ∀ b : Bool, (undef = Value.bool b) = False := fun b => by simp [undef]
  obtain ⟨W, hW⟩ : ∃ W, w.alloc (.cells #[.int .i64 3, qs id, qs text, .int .i64 2, .int .i64 b, .int .i64 c] 24) = W := ⟨_, rfl⟩
  have b0 : Below w.heap.size w W := by rw [← hW]; exact (Below.refl _ _).alloc (Nat.le_refl _) _
  have L0 := Lib.hid (show W.heap[w.heap.size]? = some (.cells #[.int .i64 3, qs id, qs text, .int .i64 2, .int .i64 b, .int .i64 c] 24 (0, 0)) by rw [← hW]; exact heap_alloc_new _ _)
  have B0 := Lib.hid b0
  have HW := Lib.hid hW
  clear hW b0
  go_enter Tryd.func12, Tryd.ntmps12
  go_wp2_with fail
  rw [show w.alloc (.cells #[.int .i64 3, qs id, qs text, .int .i64 2, .int .i64 b, .int .i64 c] 24) = W from HW.out]
  refine (rvalid_to (o := ⟨3, id, text, 2, b, c⟩) HO.out (by show text.length ≤ _; omega) W).mono ?_
  rintro e y1 ⟨rfl, b1⟩
  have B1 := Lib.hid (B0.out.trans (b1.mono B0.out.size))
  have L1 := Lib.hid (lies_below L0.out b1 (lt_heap L0.out))
  clear b1
  have hlt1 : w.heap.size < y1.heap.size := lt_heap L1.out
  have hlt2 : w.heap.size ≠ y1.heap.size := by omega
  have x0 := (lies_cells L1.out).1 0
  have x1 := (lies_cells L1.out).1 1
  have x2 := (lies_cells L1.out).1 2
  have x3 := (lies_cells L1.out).1 3
  have x4 := (lies_cells L1.out).1 4
  have x5 := (lies_cells L1.out).1 5
  simp only [List.getElem?_toArray, List.getElem?_cons_zero, List.getElem?_cons_succ] at x0 x1 x2 x3 x4 x5
  have HS : Hid (∀ w', Below y1.heap.size y1 w' → w'.cell? ⟨w.heap.size, 0, none⟩ = some (.int .i64 3)) := Lib.hid fun w' hbw => (hbw.cell (p := ⟨w.heap.size, 0, none⟩) (lt_heap L1.out)).trans x0
  have F0 := Lib.hid (show Below y1.heap.size y1 (y1.drewN 1) from below_drewQ (Below.refl _ _) 1)
  have F1 := Lib.hid (show Below y1.heap.size y1 ((y1.drewN 1).alloc (.cells #[qs [], qs [108, 111, 97, 100], qs [117, 110, 108, 111, 97, 100], qs [115, 117, 98, 109, 105, 116], qs [99, 97, 110, 99, 101, 108], qs [103, 114, 97, 110, 116], qs [112, 111, 108, 108], qs [102, 111, 114, 103, 101, 116], qs [101, 118, 105, 99, 116], qs [115, 116, 97, 116, 115]] 9)) from F0.out.alloc (Nat.le_refl _) _)
  have B2 := Lib.hid (B1.out.trans (F1.out.mono B1.out.size))
  have hfr : ((y1.drewN 1).alloc (.cells #[qs [], qs [108, 111, 97, 100], qs [117, 110, 108, 111, 97, 100], qs [115, 117, 98, 109, 105, 116], qs [99, 97, 110, 99, 101, 108], qs [103, 114, 97, 110, 116], qs [112, 111, 108, 108], qs [102, 111, 114, 103, 101, 116], qs [101, 118, 105, 99, 116], qs [115, 116, 97, 116, 115]] 9)).cell? ⟨y1.heap.size, 3, none⟩ = some (qs [115, 117, 98, 109, 105, 116]) := by
    show ((y1.drewN 1).alloc (.cells #[qs [], qs [108, 111, 97, 100], qs [117, 110, 108, 111, 97, 100], qs [115, 117, 98, 109, 105, 116], qs [99, 97, 110, 99, 101, 108], qs [103, 114, 97, 110, 116], qs [112, 111, 108, 108], qs [102, 111, 114, 103, 101, 116], qs [101, 118, 105, 99, 116], qs [115, 116, 97, 116, 115]] 9)).cell? ⟨(y1.drewN 1).heap.size, 3, none⟩ = _
    rw [World.cell?_alloc_new]
    rfl
  have HT := Lib.hid (show opT ⟨3, id, text, 2, b, c⟩ = [115, 117, 98, 109, 105, 116] ++ [32] ++ id ++ [32] ++ text ++ [32] ++ [108, 105, 118, 101] ++ [32] ++ dec10 b ++ [32] ++ dec10 c by unfold opT; rw [HO.out]; rfl)
  obtain ⟨db, hdb⟩ : ∃ d, dec10 b = d := ⟨_, rfl⟩
  obtain ⟨dc, hdc⟩ : ∃ d, dec10 c = d := ⟨_, rfl⟩
  have hbl : db.length ≤ 3 := by rw [← hdb]; exact dec10_le 3 (by omega) (by omega)
  have hcl : dc.length ≤ 1 := by rw [← hdc]; exact dec10_le 1 (by omega) (by omega)
  rw [hdb, hdc] at HT
  have HDB := Lib.hid hdb
  have HDC := Lib.hid hdc
  clear hdb hdc
  have hs1 : ¬ 9223372036854775807 < 6 + 1 + id.length := by omega
  have hs2 : ¬ 9223372036854775807 < 6 + 1 + id.length + 1 := by omega
  have hs3 : ¬ 9223372036854775807 < 6 + 1 + id.length + 1 + text.length := by omega
  have hs4 : ¬ 9223372036854775807 < 6 + 1 + id.length + 1 + text.length + 1 := by omega
  have hs5 : ¬ 9223372036854775807 < 6 + 1 + id.length + 1 + text.length + 1 + 4 := by omega
  have hs6 : ¬ 9223372036854775807 < 6 + 1 + id.length + 1 + text.length + 1 + 4 + 1 := by omega
  have hs7 : ¬ 9223372036854775807 < 6 + 1 + id.length + 1 + text.length + 1 + 4 + 1 + db.length := by omega
  have hs8 : ¬ 9223372036854775807 < 6 + 1 + id.length + 1 + text.length + 1 + 4 + 1 + db.length + 1 := by omega
  have hs9 : ¬ 9223372036854775807 < 6 + 1 + id.length + 1 + text.length + 1 + 4 + 1 + db.length + 1 + dc.length := by omega
  go_wp2_with fail
  refine wp_region_D (S := fun w' => w'.cell? ⟨w.heap.size, 0, none⟩ = some (.int .i64 3)) (st := 5) (by kernel_rfl) ?_
  refine wpAnyT_pure 1 ?v34 rfl (by kernel_rfl) (by kernel_rfl) (by kernel_rfl) (by kernel_rfl) (fun _ _ _ h => h) (HS.out _ F0.out) rfl ?run34 ?rest34
  case run34 => intro w hS; obtain s0 := hS; go_simp; rfl
  refine wpAnyT_pure 2 ?v35 rfl (by kernel_rfl) (by kernel_rfl) (by kernel_rfl) (by kernel_rfl) (fun _ _ _ h => h) (HS.out _ F0.out) rfl ?run35 ?rest35
  case run35 => intro w hS; obtain s0 := hS; go_simp; rfl
  refine wpAnyT_all (rs := [0]) (by kernel_rfl) (by decide) ?_
  intro i hi
  obtain rfl : i = 0 := by simpa using hi
  clear hi
  refine wpOp_of_list rfl ?_
  go_wp2_with fail
  refine (rverbs _).mono ?_
  rintro e z1 ⟨rfl, rfl⟩
  go_wp2
  refine ⟨fun _ => HS.out _ F1.out, ?_⟩
  refine wpAnyT_pure 3 ?v36 rfl (by kernel_rfl) (by kernel_rfl) (by kernel_rfl) (by kernel_rfl) (fun _ _ _ h => h) (HS.out _ F1.out) rfl ?run36 ?rest36
  case run36 => intro w hS; obtain s0 := hS; go_simp; rfl
  refine wpAnyT_all (rs := [4]) (by kernel_rfl) (by decide) ?_
  intro i hi
  obtain rfl : i = 4 := by simpa using hi
  clear hi
  refine wpOp_of_list rfl ?_
  go_wp2
  refine ⟨fun _ => HS.out _ F1.out, ?_⟩
  refine wpAnyT_all (rs := [5]) (by kernel_rfl) (by decide) ?_
  intro i hi
  obtain rfl : i = 5 := by simpa using hi
  clear hi
  refine wpOp_of_list rfl ?_
  go_wp2
  refine ⟨fun h => absurd rfl h, ?_⟩
  refine wpAnyT_done (by kernel_rfl) ?_ _
  obtain ⟨V, hV⟩ : ∃ V, (y1.drewN 1).alloc (.cells #[qs [], qs [108, 111, 97, 100], qs [117, 110, 108, 111, 97, 100], qs [115, 117, 98, 109, 105, 116], qs [99, 97, 110, 99, 101, 108], qs [103, 114, 97, 110, 116], qs [112, 111, 108, 108], qs [102, 111, 114, 103, 101, 116], qs [101, 118, 105, 99, 116], qs [115, 116, 97, 116, 115]] 9) = V := ⟨_, rfl⟩
  have L2 := Lib.hid (show V.heap[w.heap.size]? = some (.cells #[.int .i64 3, qs id, qs text, .int .i64 2, .int .i64 b, .int .i64 c] 24 (0, 0)) by rw [← hV]; exact lies_below L1.out F1.out (lt_heap L1.out))
  have B3 := Lib.hid (show Below w.heap.size w V by rw [← hV]; exact B2.out)
  rw [hV]
  clear hV hfr x0 x1 x2 x3 x4 x5 HS F0
  have g0 := (lies_cells L2.out).1 0
  have g1 := (lies_cells L2.out).1 1
  have g2 := (lies_cells L2.out).1 2
  have g3 := (lies_cells L2.out).1 3
  have g4 := (lies_cells L2.out).1 4
  have g5 := (lies_cells L2.out).1 5
  simp only [List.getElem?_toArray, List.getElem?_cons_zero, List.getElem?_cons_succ] at g0 g1 g2 g3 g4 g5
  have hltV : w.heap.size < V.heap.size := lt_heap L2.out
  have HS2 : Hid (∀ w', Below V.heap.size V w' → w'.cell? ⟨w.heap.size, 1, none⟩ = some (qs id) ∧ w'.cell? ⟨w.heap.size, 2, none⟩ = some (qs text) ∧ w'.cell? ⟨w.heap.size, 3, none⟩ = some (.int .i64 2) ∧ w'.cell? ⟨w.heap.size, 4, none⟩ = some (.int .i64 b) ∧ w'.cell? ⟨w.heap.size, 5, none⟩ = some (.int .i64 c)) :=
    Lib.hid fun w' hbw => ⟨(hbw.cell (p := ⟨w.heap.size, 1, none⟩) (lt_heap L2.out)).trans g1, (hbw.cell (p := ⟨w.heap.size, 2, none⟩) (lt_heap L2.out)).trans g2, (hbw.cell (p := ⟨w.heap.size, 3, none⟩) (lt_heap L2.out)).trans g3, (hbw.cell (p := ⟨w.heap.size, 4, none⟩) (lt_heap L2.out)).trans g4, (hbw.cell (p := ⟨w.heap.size, 5, none⟩) (lt_heap L2.out)).trans g5⟩
  have F2 := Lib.hid (show Below V.heap.size V (V.drewN 1) from below_drewQ (Below.refl _ _) 1)
  have F3 := Lib.hid (show Below V.heap.size V ((V.drewN 1).alloc (.cells #[qs [114, 101, 97, 99, 104], qs [108, 105, 118, 101], qs [116, 97, 105, 110, 116], qs [117, 110, 105, 110, 105, 116]] 9)) from F2.out.alloc (Nat.le_refl _) _)
  have hfr2 : ((V.drewN 1).alloc (.cells #[qs [114, 101, 97, 99, 104], qs [108, 105, 118, 101], qs [116, 97, 105, 110, 116], qs [117, 110, 105, 110, 105, 116]] 9)).cell? ⟨V.heap.size, 1, none⟩ = some (qs [108, 105, 118, 101]) := by
    show ((V.drewN 1).alloc (.cells #[qs [114, 101, 97, 99, 104], qs [108, 105, 118, 101], qs [116, 97, 105, 110, 116], qs [117, 110, 105, 110, 105, 116]] 9)).cell? ⟨(V.drewN 1).heap.size, 1, none⟩ = _
    rw [World.cell?_alloc_new]
    rfl
  go_wp2_with fail
  refine wp_region_D (S := fun w' => w'.cell? ⟨w.heap.size, 1, none⟩ = some (qs id) ∧ w'.cell? ⟨w.heap.size, 2, none⟩ = some (qs text) ∧ w'.cell? ⟨w.heap.size, 3, none⟩ = some (.int .i64 2) ∧ w'.cell? ⟨w.heap.size, 4, none⟩ = some (.int .i64 b) ∧ w'.cell? ⟨w.heap.size, 5, none⟩ = some (.int .i64 c)) (st := 27) (by kernel_rfl) ?_
  refine wpAnyT_pure 0 ?v1 rfl (by kernel_rfl) (by kernel_rfl) (by kernel_rfl) (by kernel_rfl) (fun _ _ _ h => h) (HS2.out _ F2.out) rfl ?run1 ?rest1
  case run1 => intro w hS; obtain ⟨s1, s2, s3, s4, s5⟩ := hS; go_simp; rfl
  refine wpAnyT_pure 1 ?v2 rfl (by kernel_rfl) (by kernel_rfl) (by kernel_rfl) (by kernel_rfl) (fun _ _ _ h => h) (HS2.out _ F2.out) rfl ?run2 ?rest2
  case run2 => intro w hS; obtain ⟨s1, s2, s3, s4, s5⟩ := hS; go_simp; rfl
  refine wpAnyT_pure 2 ?v3 rfl (by kernel_rfl) (by kernel_rfl) (by kernel_rfl) (by kernel_rfl) (fun _ _ _ h => h) (HS2.out _ F2.out) rfl ?run3 ?rest3
  case run3 => intro w hS; obtain ⟨s1, s2, s3, s4, s5⟩ := hS; go_simp; rfl
  refine wpAnyT_pure 3 ?v4 rfl (by kernel_rfl) (by kernel_rfl) (by kernel_rfl) (by kernel_rfl) (fun _ _ _ h => h) (HS2.out _ F2.out) rfl ?run4 ?rest4
  case run4 => intro w hS; obtain ⟨s1, s2, s3, s4, s5⟩ := hS; go_simp; rfl
  refine wpAnyT_pure 4 ?v5 rfl (by kernel_rfl) (by kernel_rfl) (by kernel_rfl) (by kernel_rfl) (fun _ _ _ h => h) (HS2.out _ F2.out) rfl ?run5 ?rest5
  case run5 => intro w hS; obtain ⟨s1, s2, s3, s4, s5⟩ := hS; go_simp; rfl
  refine wpAnyT_pure 5 ?v6 rfl (by kernel_rfl) (by kernel_rfl) (by kernel_rfl) (by kernel_rfl) (fun _ _ _ h => h) (HS2.out _ F2.out) rfl ?run6 ?rest6
  case run6 => intro w hS; obtain ⟨s1, s2, s3, s4, s5⟩ := hS; go_simp; rfl
  refine wpAnyT_pure 6 ?v7 rfl (by kernel_rfl) (by kernel_rfl) (by kernel_rfl) (by kernel_rfl) (fun _ _ _ h => h) (HS2.out _ F2.out) rfl ?run7 ?rest7
  case run7 => intro w hS; obtain ⟨s1, s2, s3, s4, s5⟩ := hS; go_simp; rfl
  refine wpAnyT_pure 7 ?v8 rfl (by kernel_rfl) (by kernel_rfl) (by kernel_rfl) (by kernel_rfl) (fun _ _ _ h => h) (HS2.out _ F2.out) rfl ?run8 ?rest8
  case run8 => intro w hS; obtain ⟨s1, s2, s3, s4, s5⟩ := hS; go_simp; rfl
  refine wpAnyT_pure 8 ?v9 rfl (by kernel_rfl) (by kernel_rfl) (by kernel_rfl) (by kernel_rfl) (fun _ _ _ h => h) (HS2.out _ F2.out) rfl ?run9 ?rest9
  case run9 => intro w hS; obtain ⟨s1, s2, s3, s4, s5⟩ := hS; go_simp; rfl
  refine wpAnyT_pure 9 ?v10 rfl (by kernel_rfl) (by kernel_rfl) (by kernel_rfl) (by kernel_rfl) (fun _ _ _ h => h) (HS2.out _ F2.out) rfl ?run10 ?rest10
  case run10 => intro w hS; obtain ⟨s1, s2, s3, s4, s5⟩ := hS; go_simp; rfl
  refine wpAnyT_pure 11 ?v11 rfl (by kernel_rfl) (by kernel_rfl) (by kernel_rfl) (by kernel_rfl) (fun _ _ _ h => h) (HS2.out _ F2.out) rfl ?run11 ?rest11
  case run11 => intro w hS; obtain ⟨s1, s2, s3, s4, s5⟩ := hS; go_simp; rfl
  refine wpAnyT_pure 12 ?v12 rfl (by kernel_rfl) (by kernel_rfl) (by kernel_rfl) (by kernel_rfl) (fun _ _ _ h => h) (HS2.out _ F2.out) rfl ?run12 ?rest12
  case run12 => intro w hS; obtain ⟨s1, s2, s3, s4, s5⟩ := hS; go_simp; rfl
  refine wpAnyT_pure 13 ?v13 rfl (by kernel_rfl) (by kernel_rfl) (by kernel_rfl) (by kernel_rfl) (fun _ _ _ h => h) (HS2.out _ F2.out) rfl ?run13 ?rest13
  case run13 => intro w hS; obtain ⟨s1, s2, s3, s4, s5⟩ := hS; go_simp; rfl
  refine wpAnyT_pure 18 ?v14 rfl (by kernel_rfl) (by kernel_rfl) (by kernel_rfl) (by kernel_rfl) (fun _ _ _ h => h) (HS2.out _ F2.out) rfl ?run14 ?rest14
  case run14 => intro w hS; obtain ⟨s1, s2, s3, s4, s5⟩ := hS; go_simp; rfl
  refine wpAnyT_pure 19 ?v15 rfl (by kernel_rfl) (by kernel_rfl) (by kernel_rfl) (by kernel_rfl) (fun _ _ _ h => h) (HS2.out _ F2.out) rfl ?run15 ?rest15
  case run15 => intro w hS; obtain ⟨s1, s2, s3, s4, s5⟩ := hS; go_simp; rfl
  refine wpAnyT_pure 23 ?v16 rfl (by kernel_rfl) (by kernel_rfl) (by kernel_rfl) (by kernel_rfl) (fun _ _ _ h => h) (HS2.out _ F2.out) rfl ?run16 ?rest16
  case run16 => intro w hS; obtain ⟨s1, s2, s3, s4, s5⟩ := hS; go_simp; rfl
  refine wpAnyT_pure 24 ?v17 rfl (by kernel_rfl) (by kernel_rfl) (by kernel_rfl) (by kernel_rfl) (fun _ _ _ h => h) (HS2.out _ F2.out) rfl ?run17 ?rest17
  case run17 => intro w hS; obtain ⟨s1, s2, s3, s4, s5⟩ := hS; go_simp; rfl
  refine wpAnyT_all (rs := [10]) (by kernel_rfl) (by decide) ?_
  intro i hi
  obtain rfl : i = 10 := by simpa using hi
  clear hi
  refine wpOp_of_list rfl ?_
  go_wp2_with fail
  refine (ranas _).mono ?_
  rintro e z1 ⟨rfl, rfl⟩
  go_wp2
  refine ⟨fun _ => HS2.out _ F3.out, ?_⟩
  refine wpAnyT_pure 14 ?v18 rfl (by kernel_rfl) (by kernel_rfl) (by kernel_rfl) (by kernel_rfl) (fun _ _ _ h => h) (HS2.out _ F3.out) rfl ?run18 ?rest18
  case run18 => intro w hS; obtain ⟨s1, s2, s3, s4, s5⟩ := hS; go_simp; rfl
  refine wpAnyT_all (rs := [15, 20]) (by kernel_rfl) (by decide) ?_
  intro i hi
  have hi2 : i = 15 ∨ i = 20 := by simpa using hi
  clear hi
  rcases hi2 with rfl | rfl
  · skip
    refine wpOp_of_list rfl ?_
    go_wp2
    refine ⟨fun _ => HS2.out _ F3.out, ?_⟩
    refine wpAnyT_pure 16 ?v19 rfl (by kernel_rfl) (by kernel_rfl) (by kernel_rfl) (by kernel_rfl) (fun _ _ _ h => h) (HS2.out _ F3.out) rfl ?run19 ?rest19
    case run19 => intro w hS; obtain ⟨s1, s2, s3, s4, s5⟩ := hS; go_simp; rfl
    refine wpAnyT_pure 17 ?v20 rfl (by kernel_rfl) (by kernel_rfl) (by kernel_rfl) (by kernel_rfl) (fun _ _ _ h => h) (HS2.out _ F3.out) rfl ?run20 ?rest20
    case run20 => intro w hS; obtain ⟨s1, s2, s3, s4, s5⟩ := hS; go_simp; rfl
    refine wpAnyT_all (rs := [20]) (by kernel_rfl) (by decide) ?_
    intro i hi
    obtain rfl : i = 20 := by simpa using hi
    clear hi
    refine wpOp_of_list rfl ?_
    go_wp2_with fail
    refine (decimal_to HDB.out (by omega) _).mono ?_
    rintro e z2 ⟨rfl, rfl⟩
    go_wp2
    refine ⟨fun _ => HS2.out _ F3.out, ?_⟩
    refine wpAnyT_pure 21 ?v21 rfl (by kernel_rfl) (by kernel_rfl) (by kernel_rfl) (by kernel_rfl) (fun _ _ _ h => h) (HS2.out _ F3.out) rfl ?run21 ?rest21
    case run21 => intro w hS; obtain ⟨s1, s2, s3, s4, s5⟩ := hS; go_simp; rfl
    refine wpAnyT_pure 22 ?v22 rfl (by kernel_rfl) (by kernel_rfl) (by kernel_rfl) (by kernel_rfl) (fun _ _ _ h => h) (HS2.out _ F3.out) rfl ?run22 ?rest22
    case run22 => intro w hS; obtain ⟨s1, s2, s3, s4, s5⟩ := hS; go_simp; rfl
    refine wpAnyT_all (rs := [25]) (by kernel_rfl) (by decide) ?_
    intro i hi
    obtain rfl : i = 25 := by simpa using hi
    clear hi
    refine wpOp_of_list rfl ?_
    go_wp2_with fail
    refine (decimal_to HDC.out (by omega) _).mono ?_
    rintro e z2 ⟨rfl, rfl⟩
    go_wp2
    refine ⟨fun _ => HS2.out _ F3.out, ?_⟩
    refine wpAnyT_pure 26 ?v23 rfl (by kernel_rfl) (by kernel_rfl) (by kernel_rfl) (by kernel_rfl) (fun _ _ _ h => h) (HS2.out _ F3.out) rfl ?run23 ?rest23
    case run23 => intro w hS; obtain ⟨s1, s2, s3, s4, s5⟩ := hS; go_simp; rfl
    refine wpAnyT_all (rs := [27]) (by kernel_rfl) (by decide) ?_
    intro i hi
    obtain rfl : i = 27 := by simpa using hi
    clear hi
    refine wpOp_of_list rfl ?_
    go_wp2
    refine ⟨fun h => absurd rfl h, ?_⟩
    refine wpAnyT_done (by kernel_rfl) ?_ _
    go_wp2
    go_ret
    refine ⟨ret_strQ ?_, B3.out.trans (F3.out.mono B3.out.size)⟩
    rw [HT.out]
    simp [app_str]
  · skip
    refine wpOp_of_list rfl ?_
    go_wp2_with fail
    refine (decimal_to HDB.out (by omega) _).mono ?_
    rintro e z2 ⟨rfl, rfl⟩
    go_wp2
    refine ⟨fun _ => HS2.out _ F3.out, ?_⟩
    refine wpAnyT_all (rs := [15, 25]) (by kernel_rfl) (by decide) ?_
    intro i hi
    have hi2 : i = 15 ∨ i = 25 := by simpa using hi
    clear hi
    rcases hi2 with rfl | rfl
    · skip
      refine wpOp_of_list rfl ?_
      go_wp2
      refine ⟨fun _ => HS2.out _ F3.out, ?_⟩
      refine wpAnyT_pure 16 ?v24 rfl (by kernel_rfl) (by kernel_rfl) (by kernel_rfl) (by kernel_rfl) (fun _ _ _ h => h) (HS2.out _ F3.out) rfl ?run24 ?rest24
      case run24 => intro w hS; obtain ⟨s1, s2, s3, s4, s5⟩ := hS; go_simp; rfl
      refine wpAnyT_pure 17 ?v25 rfl (by kernel_rfl) (by kernel_rfl) (by kernel_rfl) (by kernel_rfl) (fun _ _ _ h => h) (HS2.out _ F3.out) rfl ?run25 ?rest25
      case run25 => intro w hS; obtain ⟨s1, s2, s3, s4, s5⟩ := hS; go_simp; rfl
      refine wpAnyT_pure 21 ?v26 rfl (by kernel_rfl) (by kernel_rfl) (by kernel_rfl) (by kernel_rfl) (fun _ _ _ h => h) (HS2.out _ F3.out) rfl ?run26 ?rest26
      case run26 => intro w hS; obtain ⟨s1, s2, s3, s4, s5⟩ := hS; go_simp; rfl
      refine wpAnyT_pure 22 ?v27 rfl (by kernel_rfl) (by kernel_rfl) (by kernel_rfl) (by kernel_rfl) (fun _ _ _ h => h) (HS2.out _ F3.out) rfl ?run27 ?rest27
      case run27 => intro w hS; obtain ⟨s1, s2, s3, s4, s5⟩ := hS; go_simp; rfl
      refine wpAnyT_all (rs := [25]) (by kernel_rfl) (by decide) ?_
      intro i hi
      obtain rfl : i = 25 := by simpa using hi
      clear hi
      refine wpOp_of_list rfl ?_
      go_wp2_with fail
      refine (decimal_to HDC.out (by omega) _).mono ?_
      rintro e z2 ⟨rfl, rfl⟩
      go_wp2
      refine ⟨fun _ => HS2.out _ F3.out, ?_⟩
      refine wpAnyT_pure 26 ?v28 rfl (by kernel_rfl) (by kernel_rfl) (by kernel_rfl) (by kernel_rfl) (fun _ _ _ h => h) (HS2.out _ F3.out) rfl ?run28 ?rest28
      case run28 => intro w hS; obtain ⟨s1, s2, s3, s4, s5⟩ := hS; go_simp; rfl
      refine wpAnyT_all (rs := [27]) (by kernel_rfl) (by decide) ?_
      intro i hi
      obtain rfl : i = 27 := by simpa using hi
      clear hi
      refine wpOp_of_list rfl ?_
      go_wp2
      refine ⟨fun h => absurd rfl h, ?_⟩
      refine wpAnyT_done (by kernel_rfl) ?_ _
      go_wp2
      go_ret
      refine ⟨ret_strQ ?_, B3.out.trans (F3.out.mono B3.out.size)⟩
      rw [HT.out]
      simp [app_str]
    · skip
      refine wpOp_of_list rfl ?_
      go_wp2_with fail
      refine (decimal_to HDC.out (by omega) _).mono ?_
      rintro e z2 ⟨rfl, rfl⟩
      go_wp2
      refine ⟨fun _ => HS2.out _ F3.out, ?_⟩
      refine wpAnyT_all (rs := [15]) (by kernel_rfl) (by decide) ?_
      intro i hi
      obtain rfl : i = 15 := by simpa using hi
      clear hi
      refine wpOp_of_list rfl ?_
      go_wp2
      refine ⟨fun _ => HS2.out _ F3.out, ?_⟩
      refine wpAnyT_pure 16 ?v29 rfl (by kernel_rfl) (by kernel_rfl) (by kernel_rfl) (by kernel_rfl) (fun _ _ _ h => h) (HS2.out _ F3.out) rfl ?run29 ?rest29
      case run29 => intro w hS; obtain ⟨s1, s2, s3, s4, s5⟩ := hS; go_simp; rfl
      refine wpAnyT_pure 17 ?v30 rfl (by kernel_rfl) (by kernel_rfl) (by kernel_rfl) (by kernel_rfl) (fun _ _ _ h => h) (HS2.out _ F3.out) rfl ?run30 ?rest30
      case run30 => intro w hS; obtain ⟨s1, s2, s3, s4, s5⟩ := hS; go_simp; rfl
      refine wpAnyT_pure 21 ?v31 rfl (by kernel_rfl) (by kernel_rfl) (by kernel_rfl) (by kernel_rfl) (fun _ _ _ h => h) (HS2.out _ F3.out) rfl ?run31 ?rest31
      case run31 => intro w hS; obtain ⟨s1, s2, s3, s4, s5⟩ := hS; go_simp; rfl
      refine wpAnyT_pure 22 ?v32 rfl (by kernel_rfl) (by kernel_rfl) (by kernel_rfl) (by kernel_rfl) (fun _ _ _ h => h) (HS2.out _ F3.out) rfl ?run32 ?rest32
      case run32 => intro w hS; obtain ⟨s1, s2, s3, s4, s5⟩ := hS; go_simp; rfl
      refine wpAnyT_pure 26 ?v33 rfl (by kernel_rfl) (by kernel_rfl) (by kernel_rfl) (by kernel_rfl) (fun _ _ _ h => h) (HS2.out _ F3.out) rfl ?run33 ?rest33
      case run33 => intro w hS; obtain ⟨s1, s2, s3, s4, s5⟩ := hS; go_simp; rfl
      refine wpAnyT_all (rs := [27]) (by kernel_rfl) (by decide) ?_
      intro i hi
      obtain rfl : i = 27 := by simpa using hi
      clear hi
      refine wpOp_of_list rfl ?_
      go_wp2
      refine ⟨fun h => absurd rfl h, ?_⟩
      refine wpAnyT_done (by kernel_rfl) ?_ _
      go_wp2
      go_ret
      refine ⟨ret_strQ ?_, B3.out.trans (F3.out.mono B3.out.size)⟩
      rw [HT.out]
      simp [app_str]
set_option maxRecDepth 100000 in
set_option maxHeartbeats 2000000 in
theorem rprint3_2 (id text : Str) (b c : Nat) (w : World) (hi : id.length ≤ 16) (ht : text.length ≤ 16) (hb : b < 256) (hc : c < 4) (HO : Hid (opB ⟨3, id, text, 3, b, c⟩ = true)) :
    Calls Tryd.prog 12 #[.agg #[.int .i64 3, qs id, qs text, .int .i64 3, .int .i64 b, .int .i64 c]] w (StrQ (opT ⟨3, id, text, 3, b, c⟩) w) := by
  have hud : ∀ b : Bool, (undef = Value.bool b) = False := fun b => by simp [undef]
  obtain ⟨W, hW⟩ : ∃ W, w.alloc (.cells #[.int .i64 3, qs id, qs text, .int .i64 3, .int .i64 b, .int .i64 c] 24) = W := ⟨_, rfl⟩
  have b0 : Below w.heap.size w W := by rw [← hW]; exact (Below.refl _ _).alloc (Nat.le_refl _) _
  have L0 := Lib.hid (show W.heap[w.heap.size]? = some (.cells #[.int .i64 3, qs id, qs text, .int .i64 3, .int .i64 b, .int .i64 c] 24 (0, 0)) by rw [← hW]; exact heap_alloc_new _ _)
  have B0 := Lib.hid b0
  have HW := Lib.hid hW
  clear hW b0
  go_enter Tryd.func12, Tryd.ntmps12
  go_wp2_with fail
  rw [show w.alloc (.cells #[.int .i64 3, qs id, qs text, .int .i64 3, .int .i64 b, .int .i64 c] 24) = W from HW.out]
  refine (rvalid_to (o := ⟨3, id, text, 3, b, c⟩) HO.out (by show text.length ≤ _; omega) W).mono ?_
  rintro e y1 ⟨rfl, b1⟩
  have B1 := Lib.hid (B0.out.trans (b1.mono B0.out.size))
  have L1 := Lib.hid (lies_below L0.out b1 (lt_heap L0.out))
  clear b1
  have hlt1 : w.heap.size < y1.heap.size := lt_heap L1.out
  have hlt2 : w.heap.size ≠ y1.heap.size := by omega
  have x0 := (lies_cells L1.out).1 0
  have x1 := (lies_cells L1.out).1 1
  have x2 := (lies_cells L1.out).1 2
  have x3 := (lies_cells L1.out).1 3
  have x4 := (lies_cells L1.out).1 4
  have x5 := (lies_cells L1.out).1 5
  simp only [List.getElem?_toArray, List.getElem?_cons_zero, List.getElem?_cons_succ] at x0 x1 x2 x3 x4 x5
  have HS : Hid (∀ w', Below y1.heap.size y1 w' → w'.cell? ⟨w.heap.size, 0, none⟩ = some (.int .i64 3)) := Lib.hid fun w' hbw => (hbw.cell (p := ⟨w.heap.size, 0, none⟩) (lt_heap L1.out)).trans x0
  have F0 := Lib.hid (show Below y1.heap.size y1 (y1.drewN 1) from below_drewQ (Below.refl _ _) 1)
  have F1 := Lib.hid (show Below y1.heap.size y1 ((y1.drewN 1).alloc (.cells #[qs [], qs [108, 111, 97, 100], qs [117, 110, 108, 111, 97, 100], qs [115, 117, 98, 109, 105, 116], qs [99, 97, 110, 99, 101, 108], qs [103, 114, 97, 110, 116], qs [112, 111, 108, 108], qs [102, 111, 114, 103, 101, 116], qs [101, 118, 105, 99, 116], qs [115, 116, 97, 116, 115]] 9)) from F0.out.alloc (Nat.le_refl _) _)
  have B2 := Lib.hid (B1.out.trans (F1.out.mono B1.out.size))
  have hfr : ((y1.drewN 1).alloc (.cells #[qs [], qs [108, 111, 97, 100], qs [117, 110, 108, 111, 97, 100], qs [115, 117, 98, 109, 105, 116], qs [99, 97, 110, 99, 101, 108], qs [103, 114, 97, 110, 116], qs [112, 111, 108, 108], qs [102, 111, 114, 103, 101, 116], qs [101, 118, 105, 99, 116], qs [115, 116, 97, 116, 115]] 9)).cell? ⟨y1.heap.size, 3, none⟩ = some (qs [115, 117, 98, 109, 105, 116]) := by
    show ((y1.drewN 1).alloc (.cells #[qs [], qs [108, 111, 97, 100], qs [117, 110, 108, 111, 97, 100], qs [115, 117, 98, 109, 105, 116], qs [99, 97, 110, 99, 101, 108], qs [103, 114, 97, 110, 116], qs [112, 111, 108, 108], qs [102, 111, 114, 103, 101, 116], qs [101, 118, 105, 99, 116], qs [115, 116, 97, 116, 115]] 9)).cell? ⟨(y1.drewN 1).heap.size, 3, none⟩ = _
    rw [World.cell?_alloc_new]
    rfl
  have HT := Lib.hid (show opT ⟨3, id, text, 3, b, c⟩ = [115, 117, 98, 109, 105, 116] ++ [32] ++ id ++ [32] ++ text ++ [32] ++ [116, 97, 105, 110, 116] ++ [32] ++ dec10 b ++ [32] ++ dec10 c by unfold opT; rw [HO.out]; rfl)
  obtain ⟨db, hdb⟩ : ∃ d, dec10 b = d := ⟨_, rfl⟩
  obtain ⟨dc, hdc⟩ : ∃ d, dec10 c = d := ⟨_, rfl⟩
  have hbl : db.length ≤ 3 := by rw [← hdb]; exact dec10_le 3 (by omega) (by omega)
  have hcl : dc.length ≤ 1 := by rw [← hdc]; exact dec10_le 1 (by omega) (by omega)
  rw [hdb, hdc] at HT
  have HDB := Lib.hid hdb
  have HDC := Lib.hid hdc
  clear hdb hdc
  have hs1 : ¬ 9223372036854775807 < 6 + 1 + id.length := by omega
  have hs2 : ¬ 9223372036854775807 < 6 + 1 + id.length + 1 := by omega
  have hs3 : ¬ 9223372036854775807 < 6 + 1 + id.length + 1 + text.length := by omega
  have hs4 : ¬ 9223372036854775807 < 6 + 1 + id.length + 1 + text.length + 1 := by omega
  have hs5 : ¬ 9223372036854775807 < 6 + 1 + id.length + 1 + text.length + 1 + 5 := by omega
  have hs6 : ¬ 9223372036854775807 < 6 + 1 + id.length + 1 + text.length + 1 + 5 + 1 := by omega
  have hs7 : ¬ 9223372036854775807 < 6 + 1 + id.length + 1 + text.length + 1 + 5 + 1 + db.length := by omega
  have hs8 : ¬ 9223372036854775807 < 6 + 1 + id.length + 1 + text.length + 1 + 5 + 1 + db.length + 1 := by omega
  have hs9 : ¬ 9223372036854775807 < 6 + 1 + id.length + 1 + text.length + 1 + 5 + 1 + db.length + 1 + dc.length := by omega
  go_wp2_with fail
  refine wp_region_D (S := fun w' => w'.cell? ⟨w.heap.size, 0, none⟩ = some (.int .i64 3)) (st := 5) (by kernel_rfl) ?_
  refine wpAnyT_pure 1 ?v34 rfl (by kernel_rfl) (by kernel_rfl) (by kernel_rfl) (by kernel_rfl) (fun _ _ _ h => h) (HS.out _ F0.out) rfl ?run34 ?rest34
  case run34 => intro w hS; obtain s0 := hS; go_simp; rfl
  refine wpAnyT_pure 2 ?v35 rfl (by kernel_rfl) (by kernel_rfl) (by kernel_rfl) (by kernel_rfl) (fun _ _ _ h => h) (HS.out _ F0.out) rfl ?run35 ?rest35
  case run35 => intro w hS; obtain s0 := hS; go_simp; rfl
  refine wpAnyT_all (rs := [0]) (by kernel_rfl) (by decide) ?_
  intro i hi
  obtain rfl : i = 0 := by simpa using hi
  clear hi
  refine wpOp_of_list rfl ?_
  go_wp2_with fail
  refine (rverbs _).mono ?_
  rintro e z1 ⟨rfl, rfl⟩
  go_wp2
  refine ⟨fun _ => HS.out _ F1.out, ?_⟩
  refine wpAnyT_pure 3 ?v36 rfl (by kernel_rfl) (by kernel_rfl) (by kernel_rfl) (by kernel_rfl) (fun _ _ _ h => h) (HS.out _ F1.out) rfl ?run36 ?rest36
  case run36 => intro w hS; obtain s0 := hS; go_simp; rfl
  refine wpAnyT_all (rs := [4]) (by kernel_rfl) (by decide) ?_
  intro i hi
  obtain rfl : i = 4 := by simpa using hi
  clear hi
  refine wpOp_of_list rfl ?_
  go_wp2
  refine ⟨fun _ => HS.out _ F1.out, ?_⟩
  refine wpAnyT_all (rs := [5]) (by kernel_rfl) (by decide) ?_
  intro i hi
  obtain rfl : i = 5 := by simpa using hi
  clear hi
  refine wpOp_of_list rfl ?_
  go_wp2
  refine ⟨fun h => absurd rfl h, ?_⟩
  refine wpAnyT_done (by kernel_rfl) ?_ _
  obtain ⟨V, hV⟩ : ∃ V, (y1.drewN 1).alloc (.cells #[qs [], qs [108, 111, 97, 100], qs [117, 110, 108, 111, 97, 100], qs [115, 117, 98, 109, 105, 116], qs [99, 97, 110, 99, 101, 108], qs [103, 114, 97, 110, 116], qs [112, 111, 108, 108], qs [102, 111, 114, 103, 101, 116], qs [101, 118, 105, 99, 116], qs [115, 116, 97, 116, 115]] 9) = V := ⟨_, rfl⟩
  have L2 := Lib.hid (show V.heap[w.heap.size]? = some (.cells #[.int .i64 3, qs id, qs text, .int .i64 3, .int .i64 b, .int .i64 c] 24 (0, 0)) by rw [← hV]; exact lies_below L1.out F1.out (lt_heap L1.out))
  have B3 := Lib.hid (show Below w.heap.size w V by rw [← hV]; exact B2.out)
  rw [hV]
  clear hV hfr x0 x1 x2 x3 x4 x5 HS F0
  have g0 := (lies_cells L2.out).1 0
  have g1 := (lies_cells L2.out).1 1
  have g2 := (lies_cells L2.out).1 2
  have g3 := (lies_cells L2.out).1 3
  have g4 := (lies_cells L2.out).1 4
  have g5 := (lies_cells L2.out).1 5
  simp only [List.getElem?_toArray, List.getElem?_cons_zero, List.getElem?_cons_succ] at g0 g1 g2 g3 g4 g5
  have hltV : w.heap.size < V.heap.size := lt_heap L2.out
  have HS2 : Hid (∀ w', Below V.heap.size V w' → w'.cell? ⟨w.heap.size, 1, none⟩ = some (qs id) ∧ w'.cell? ⟨w.heap.size, 2, none⟩ = some (qs text) ∧ w'.cell? ⟨w.heap.size, 3, none⟩ = some (.int .i64 3) ∧ w'.cell? ⟨w.heap.size, 4, none⟩ = some (.int .i64 b) ∧ w'.cell? ⟨w.heap.size, 5, none⟩ = some (.int .i64 c)) :=
    Lib.hid fun w' hbw => ⟨(hbw.cell (p := ⟨w.heap.size, 1, none⟩) (lt_heap L2.out)).trans g1, (hbw.cell (p := ⟨w.heap.size, 2, none⟩) (lt_heap L2.out)).trans g2, (hbw.cell (p := ⟨w.heap.size, 3, none⟩) (lt_heap L2.out)).trans g3, (hbw.cell (p := ⟨w.heap.size, 4, none⟩) (lt_heap L2.out)).trans g4, (hbw.cell (p := ⟨w.heap.size, 5, none⟩) (lt_heap L2.out)).trans g5⟩
  have F2 := Lib.hid (show Below V.heap.size V (V.drewN 1) from below_drewQ (Below.refl _ _) 1)
  have F3 := Lib.hid (show Below V.heap.size V ((V.drewN 1).alloc (.cells #[qs [114, 101, 97, 99, 104], qs [108, 105, 118, 101], qs [116, 97, 105, 110, 116], qs [117, 110, 105, 110, 105, 116]] 9)) from F2.out.alloc (Nat.le_refl _) _)
  have hfr2 : ((V.drewN 1).alloc (.cells #[qs [114, 101, 97, 99, 104], qs [108, 105, 118, 101], qs [116, 97, 105, 110, 116], qs [117, 110, 105, 110, 105, 116]] 9)).cell? ⟨V.heap.size, 2, none⟩ = some (qs [116, 97, 105, 110, 116]) := by
    show ((V.drewN 1).alloc (.cells #[qs [114, 101, 97, 99, 104], qs [108, 105, 118, 101], qs [116, 97, 105, 110, 116], qs [117, 110, 105, 110, 105, 116]] 9)).cell? ⟨(V.drewN 1).heap.size, 2, none⟩ = _
    rw [World.cell?_alloc_new]
    rfl
  go_wp2_with fail
  refine wp_region_D (S := fun w' => w'.cell? ⟨w.heap.size, 1, none⟩ = some (qs id) ∧ w'.cell? ⟨w.heap.size, 2, none⟩ = some (qs text) ∧ w'.cell? ⟨w.heap.size, 3, none⟩ = some (.int .i64 3) ∧ w'.cell? ⟨w.heap.size, 4, none⟩ = some (.int .i64 b) ∧ w'.cell? ⟨w.heap.size, 5, none⟩ = some (.int .i64 c)) (st := 27) (by kernel_rfl) ?_
  refine wpAnyT_pure 0 ?v1 rfl (by kernel_rfl) (by kernel_rfl) (by kernel_rfl) (by kernel_rfl) (fun _ _ _ h => h) (HS2.out _ F2.out) rfl ?run1 ?rest1
  case run1 => intro w hS; obtain ⟨s1, s2, s3, s4, s5⟩ := hS; go_simp; rfl
  refine wpAnyT_pure 1 ?v2 rfl (by kernel_rfl) (by kernel_rfl) (by kernel_rfl) (by kernel_rfl) (fun _ _ _ h => h) (HS2.out _ F2.out) rfl ?run2 ?rest2
  case run2 => intro w hS; obtain ⟨s1, s2, s3, s4, s5⟩ := hS; go_simp; rfl
  refine wpAnyT_pure 2 ?v3 rfl (by kernel_rfl) (by kernel_rfl) (by kernel_rfl) (by kernel_rfl) (fun _ _ _ h => h) (HS2.out _ F2.out) rfl ?run3 ?rest3
  case run3 => intro w hS; obtain ⟨s1, s2, s3, s4, s5⟩ := hS; go_simp; rfl
  refine wpAnyT_pure 3 ?v4 rfl (by kernel_rfl) (by kernel_rfl) (by kernel_rfl) (by kernel_rfl) (fun _ _ _ h => h) (HS2.out _ F2.out) rfl ?run4 ?rest4
  case run4 => intro w hS; obtain ⟨s1, s2, s3, s4, s5⟩ := hS; go_simp; rfl
  refine wpAnyT_pure 4 ?v5 rfl (by kernel_rfl) (by kernel_rfl) (by kernel_rfl) (by kernel_rfl) (fun _ _ _ h => h) (HS2.out _ F2.out) rfl ?run5 ?rest5
  case run5 => intro w hS; obtain ⟨s1, s2, s3, s4, s5⟩ := hS; go_simp; rfl
  refine wpAnyT_pure 5 ?v6 rfl (by kernel_rfl) (by kernel_rfl) (by kernel_rfl) (by kernel_rfl) (fun _ _ _ h => h) (HS2.out _ F2.out) rfl ?run6 ?rest6
  case run6 => intro w hS; obtain ⟨s1, s2, s3, s4, s5⟩ := hS; go_simp; rfl
  refine wpAnyT_pure 6 ?v7 rfl (by kernel_rfl) (by kernel_rfl) (by kernel_rfl) (by kernel_rfl) (fun _ _ _ h => h) (HS2.out _ F2.out) rfl ?run7 ?rest7
  case run7 => intro w hS; obtain ⟨s1, s2, s3, s4, s5⟩ := hS; go_simp; rfl
  refine wpAnyT_pure 7 ?v8 rfl (by kernel_rfl) (by kernel_rfl) (by kernel_rfl) (by kernel_rfl) (fun _ _ _ h => h) (HS2.out _ F2.out) rfl ?run8 ?rest8
  case run8 => intro w hS; obtain ⟨s1, s2, s3, s4, s5⟩ := hS; go_simp; rfl
  refine wpAnyT_pure 8 ?v9 rfl (by kernel_rfl) (by kernel_rfl) (by kernel_rfl) (by kernel_rfl) (fun _ _ _ h => h) (HS2.out _ F2.out) rfl ?run9 ?rest9
  case run9 => intro w hS; obtain ⟨s1, s2, s3, s4, s5⟩ := hS; go_simp; rfl
  refine wpAnyT_pure 9 ?v10 rfl (by kernel_rfl) (by kernel_rfl) (by kernel_rfl) (by kernel_rfl) (fun _ _ _ h => h) (HS2.out _ F2.out) rfl ?run10 ?rest10
  case run10 => intro w hS; obtain ⟨s1, s2, s3, s4, s5⟩ := hS; go_simp; rfl
  refine wpAnyT_pure 11 ?v11 rfl (by kernel_rfl) (by kernel_rfl) (by kernel_rfl) (by kernel_rfl) (fun _ _ _ h => h) (HS2.out _ F2.out) rfl ?run11 ?rest11
  case run11 => intro w hS; obtain ⟨s1, s2, s3, s4, s5⟩ := hS; go_simp; rfl
  refine wpAnyT_pure 12 ?v12 rfl (by kernel_rfl) (by kernel_rfl) (by kernel_rfl) (by kernel_rfl) (fun _ _ _ h => h) (HS2.out _ F2.out) rfl ?run12 ?rest12
  case run12 => intro w hS; obtain ⟨s1, s2, s3, s4, s5⟩ := hS; go_simp; rfl
  refine wpAnyT_pure 13 ?v13 rfl (by kernel_rfl) (by kernel_rfl) (by kernel_rfl) (by kernel_rfl) (fun _ _ _ h => h) (HS2.out _ F2.out) rfl ?run13 ?rest13
  case run13 => intro w hS; obtain ⟨s1, s2, s3, s4, s5⟩ := hS; go_simp; rfl
  refine wpAnyT_pure 18 ?v14 rfl (by kernel_rfl) (by kernel_rfl) (by kernel_rfl) (by kernel_rfl) (fun _ _ _ h => h) (HS2.out _ F2.out) rfl ?run14 ?rest14
  case run14 => intro w hS; obtain ⟨s1, s2, s3, s4, s5⟩ := hS; go_simp; rfl
  refine wpAnyT_pure 19 ?v15 rfl (by kernel_rfl) (by kernel_rfl) (by kernel_rfl) (by kernel_rfl) (fun _ _ _ h => h) (HS2.out _ F2.out) rfl ?run15 ?rest15
  case run15 => intro w hS; obtain ⟨s1, s2, s3, s4, s5⟩ := hS; go_simp; rfl
  refine wpAnyT_pure 23 ?v16 rfl (by kernel_rfl) (by kernel_rfl) (by kernel_rfl) (by kernel_rfl) (fun _ _ _ h => h) (HS2.out _ F2.out) rfl ?run16 ?rest16
  case run16 => intro w hS; obtain ⟨s1, s2, s3, s4, s5⟩ := hS; go_simp; rfl
  refine wpAnyT_pure 24 ?v17 rfl (by kernel_rfl) (by kernel_rfl) (by kernel_rfl) (by kernel_rfl) (fun _ _ _ h => h) (HS2.out _ F2.out) rfl ?run17 ?rest17
  case run17 => intro w hS; obtain ⟨s1, s2, s3, s4, s5⟩ := hS; go_simp; rfl
  refine wpAnyT_all (rs := [10]) (by kernel_rfl) (by decide) ?_
  intro i hi
  obtain rfl : i = 10 := by simpa using hi
  clear hi
  refine wpOp_of_list rfl ?_
  go_wp2_with fail
  refine (ranas _).mono ?_
  rintro e z1 ⟨rfl, rfl⟩
  go_wp2
  refine ⟨fun _ => HS2.out _ F3.out, ?_⟩
  refine wpAnyT_pure 14 ?v18 rfl (by kernel_rfl) (by kernel_rfl) (by kernel_rfl) (by kernel_rfl) (fun _ _ _ h => h) (HS2.out _ F3.out) rfl ?run18 ?rest18
  case run18 => intro w hS; obtain ⟨s1, s2, s3, s4, s5⟩ := hS; go_simp; rfl
  refine wpAnyT_all (rs := [15, 20]) (by kernel_rfl) (by decide) ?_
  intro i hi
  have hi2 : i = 15 ∨ i = 20 := by simpa using hi
  clear hi
  rcases hi2 with rfl | rfl
  · skip
    refine wpOp_of_list rfl ?_
    go_wp2
    refine ⟨fun _ => HS2.out _ F3.out, ?_⟩
    refine wpAnyT_pure 16 ?v19 rfl (by kernel_rfl) (by kernel_rfl) (by kernel_rfl) (by kernel_rfl) (fun _ _ _ h => h) (HS2.out _ F3.out) rfl ?run19 ?rest19
    case run19 => intro w hS; obtain ⟨s1, s2, s3, s4, s5⟩ := hS; go_simp; rfl
    refine wpAnyT_pure 17 ?v20 rfl (by kernel_rfl) (by kernel_rfl) (by kernel_rfl) (by kernel_rfl) (fun _ _ _ h => h) (HS2.out _ F3.out) rfl ?run20 ?rest20
    case run20 => intro w hS; obtain ⟨s1, s2, s3, s4, s5⟩ := hS; go_simp; rfl
    refine wpAnyT_all (rs := [20]) (by kernel_rfl) (by decide) ?_
    intro i hi
    obtain rfl : i = 20 := by simpa using hi
    clear hi
    refine wpOp_of_list rfl ?_
    go_wp2_with fail
    refine (decimal_to HDB.out (by omega) _).mono ?_
    rintro e z2 ⟨rfl, rfl⟩
    go_wp2
    refine ⟨fun _ => HS2.out _ F3.out, ?_⟩
    refine wpAnyT_pure 21 ?v21 rfl (by kernel_rfl) (by kernel_rfl) (by kernel_rfl) (by kernel_rfl) (fun _ _ _ h => h) (HS2.out _ F3.out) rfl ?run21 ?rest21
    case run21 => intro w hS; obtain ⟨s1, s2, s3, s4, s5⟩ := hS; go_simp; rfl
    refine wpAnyT_pure 22 ?v22 rfl (by kernel_rfl) (by kernel_rfl) (by kernel_rfl) (by kernel_rfl) (fun _ _ _ h => h) (HS2.out _ F3.out) rfl ?run22 ?rest22
    case run22 => intro w hS; obtain ⟨s1, s2, s3, s4, s5⟩ := hS; go_simp; rfl
    refine wpAnyT_all (rs := [25]) (by kernel_rfl) (by decide) ?_
    intro i hi
    obtain rfl : i = 25 := by simpa using hi
    clear hi
    refine wpOp_of_list rfl ?_
    go_wp2_with fail
    refine (decimal_to HDC.out (by omega) _).mono ?_
    rintro e z2 ⟨rfl, rfl⟩
    go_wp2
    refine ⟨fun _ => HS2.out _ F3.out, ?_⟩
    refine wpAnyT_pure 26 ?v23 rfl (by kernel_rfl) (by kernel_rfl) (by kernel_rfl) (by kernel_rfl) (fun _ _ _ h => h) (HS2.out _ F3.out) rfl ?run23 ?rest23
    case run23 => intro w hS; obtain ⟨s1, s2, s3, s4, s5⟩ := hS; go_simp; rfl
    refine wpAnyT_all (rs := [27]) (by kernel_rfl) (by decide) ?_
    intro i hi
    obtain rfl : i = 27 := by simpa using hi
    clear hi
    refine wpOp_of_list rfl ?_
    go_wp2
    refine ⟨fun h => absurd rfl h, ?_⟩
    refine wpAnyT_done (by kernel_rfl) ?_ _
    go_wp2
    go_ret
    refine ⟨ret_strQ ?_, B3.out.trans (F3.out.mono B3.out.size)⟩
    rw [HT.out]
    simp [app_str]
  · skip
    refine wpOp_of_list rfl ?_
    go_wp2_with fail
    refine (decimal_to HDB.out (by omega) _).mono ?_
    rintro e z2 ⟨rfl, rfl⟩
    go_wp2
    refine ⟨fun _ => HS2.out _ F3.out, ?_⟩
    refine wpAnyT_all (rs := [15, 25]) (by kernel_rfl) (by decide) ?_
    intro i hi
    have hi2 : i = 15 ∨ i = 25 := by simpa using hi
    clear hi
    rcases hi2 with rfl | rfl
    · skip
      refine wpOp_of_list rfl ?_
      go_wp2
      refine ⟨fun _ => HS2.out _ F3.out, ?_⟩
      refine wpAnyT_pure 16 ?v24 rfl (by kernel_rfl) (by kernel_rfl) (by kernel_rfl) (by kernel_rfl) (fun _ _ _ h => h) (HS2.out _ F3.out) rfl ?run24 ?rest24
      case run24 => intro w hS; obtain ⟨s1, s2, s3, s4, s5⟩ := hS; go_simp; rfl
      refine wpAnyT_pure 17 ?v25 rfl (by kernel_rfl) (by kernel_rfl) (by kernel_rfl) (by kernel_rfl) (fun _ _ _ h => h) (HS2.out _ F3.out) rfl ?run25 ?rest25
      case run25 => intro w hS; obtain ⟨s1, s2, s3, s4, s5⟩ := hS; go_simp; rfl
      refine wpAnyT_pure 21 ?v26 rfl (by kernel_rfl) (by kernel_rfl) (by kernel_rfl) (by kernel_rfl) (fun _ _ _ h => h) (HS2.out _ F3.out) rfl ?run26 ?rest26
      case run26 => intro w hS; obtain ⟨s1, s2, s3, s4, s5⟩ := hS; go_simp; rfl
      refine wpAnyT_pure 22 ?v27 rfl (by kernel_rfl) (by kernel_rfl) (by kernel_rfl) (by kernel_rfl) (fun _ _ _ h => h) (HS2.out _ F3.out) rfl ?run27 ?rest27
      case run27 => intro w hS; obtain ⟨s1, s2, s3, s4, s5⟩ := hS; go_simp; rfl
      refine wpAnyT_all (rs := [25]) (by kernel_rfl) (by decide) ?_
      intro i hi
      obtain rfl : i = 25 := by simpa using hi
      clear hi
      refine wpOp_of_list rfl ?_
      go_wp2_with fail
      refine (decimal_to HDC.out (by omega) _).mono ?_
      rintro e z2 ⟨rfl, rfl⟩
      go_wp2
      refine ⟨fun _ => HS2.out _ F3.out, ?_⟩
      refine wpAnyT_pure 26 ?v28 rfl (by kernel_rfl) (by kernel_rfl) (by kernel_rfl) (by kernel_rfl) (fun _ _ _ h => h) (HS2.out _ F3.out) rfl ?run28 ?rest28
      case run28 => intro w hS; obtain ⟨s1, s2, s3, s4, s5⟩ := hS; go_simp; rfl
      refine wpAnyT_all (rs := [27]) (by kernel_rfl) (by decide) ?_
      intro i hi
      obtain rfl : i = 27 := by simpa using hi
      clear hi
      refine wpOp_of_list rfl ?_
      go_wp2
      refine ⟨fun h => absurd rfl h, ?_⟩
      refine wpAnyT_done (by kernel_rfl) ?_ _
      go_wp2
      go_ret
      refine ⟨ret_strQ ?_, B3.out.trans (F3.out.mono B3.out.size)⟩
      rw [HT.out]
      simp [app_str]
    · skip
      refine wpOp_of_list rfl ?_
      go_wp2_with fail
      refine (decimal_to HDC.out (by omega) _).mono ?_
      rintro e z2 ⟨rfl, rfl⟩
      go_wp2
      refine ⟨fun _ => HS2.out _ F3.out, ?_⟩
      refine wpAnyT_all (rs := [15]) (by kernel_rfl) (by decide) ?_
      intro i hi
      obtain rfl : i = 15 := by simpa using hi
      clear hi
      refine wpOp_of_list rfl ?_
      go_wp2
      refine ⟨fun _ => HS2.out _ F3.out, ?_⟩
      refine wpAnyT_pure 16 ?v29 rfl (by kernel_rfl) (by kernel_rfl) (by kernel_rfl) (by kernel_rfl) (fun _ _ _ h => h) (HS2.out _ F3.out) rfl ?run29 ?rest29
      case run29 => intro w hS; obtain ⟨s1, s2, s3, s4, s5⟩ := hS; go_simp; rfl
      refine wpAnyT_pure 17 ?v30 rfl (by kernel_rfl) (by kernel_rfl) (by kernel_rfl) (by kernel_rfl) (fun _ _ _ h => h) (HS2.out _ F3.out) rfl ?run30 ?rest30
      case run30 => intro w hS; obtain ⟨s1, s2, s3, s4, s5⟩ := hS; go_simp; rfl
      refine wpAnyT_pure 21 ?v31 rfl (by kernel_rfl) (by kernel_rfl) (by kernel_rfl) (by kernel_rfl) (fun _ _ _ h => h) (HS2.out _ F3.out) rfl ?run31 ?rest31
      case run31 => intro w hS; obtain ⟨s1, s2, s3, s4, s5⟩ := hS; go_simp; rfl
      refine wpAnyT_pure 22 ?v32 rfl (by kernel_rfl) (by kernel_rfl) (by kernel_rfl) (by kernel_rfl) (fun _ _ _ h => h) (HS2.out _ F3.out) rfl ?run32 ?rest32
      case run32 => intro w hS; obtain ⟨s1, s2, s3, s4, s5⟩ := hS; go_simp; rfl
      refine wpAnyT_pure 26 ?v33 rfl (by kernel_rfl) (by kernel_rfl) (by kernel_rfl) (by kernel_rfl) (fun _ _ _ h => h) (HS2.out _ F3.out) rfl ?run33 ?rest33
      case run33 => intro w hS; obtain ⟨s1, s2, s3, s4, s5⟩ := hS; go_simp; rfl
      refine wpAnyT_all (rs := [27]) (by kernel_rfl) (by decide) ?_
      intro i hi
      obtain rfl : i = 27 := by simpa using hi
      clear hi
      refine wpOp_of_list rfl ?_
      go_wp2
      refine ⟨fun h => absurd rfl h, ?_⟩
      refine wpAnyT_done (by kernel_rfl) ?_ _
      go_wp2
      go_ret
      refine ⟨ret_strQ ?_, B3.out.trans (F3.out.mono B3.out.size)⟩
      rw [HT.out]
      simp [app_str]
set_option maxRecDepth 100000 in
set_option maxHeartbeats 2000000 in
theorem rprint3_3 (id text : Str) (b c : Nat) (w : World) (hi : id.length ≤ 16) (ht : text.length ≤ 16) (hb : b < 256) (hc : c < 4) (HO : Hid (opB ⟨3, id, text, 4, b, c⟩ = true)) :
    Calls Tryd.prog 12 #[.agg #[.int .i64 3, qs id, qs text, .int .i64 4, .int .i64 b, .int .i64 c]] w (StrQ (opT ⟨3, id, text, 4, b, c⟩) w) := by
  have hud : ∀ b : Bool, (undef = Value.bool b) = False := fun b => by simp [undef]
  obtain ⟨W, hW⟩ : ∃ W, w.alloc (.cells #[.int .i64 3, qs id, qs text, .int .i64 4, .int .i64 b, .int .i64 c] 24) = W := ⟨_, rfl⟩
  have b0 : Below w.heap.size w W := by rw [← hW]; exact (Below.refl _ _).alloc (Nat.le_refl _) _
  have L0 := Lib.hid (show W.heap[w.heap.size]? = some (.cells #[.int .i64 3, qs id, qs text, .int .i64 4, .int .i64 b, .int .i64 c] 24 (0, 0)) by rw [← hW]; exact heap_alloc_new _ _)
  have B0 := Lib.hid b0
  have HW := Lib.hid hW
  clear hW b0
  go_enter Tryd.func12, Tryd.ntmps12
  go_wp2_with fail
  rw [show w.alloc (.cells #[.int .i64 3, qs id, qs text, .int .i64 4, .int .i64 b, .int .i64 c] 24) = W from HW.out]
  refine (rvalid_to (o := ⟨3, id, text, 4, b, c⟩) HO.out (by show text.length ≤ _; omega) W).mono ?_
  rintro e y1 ⟨rfl, b1⟩
  have B1 := Lib.hid (B0.out.trans (b1.mono B0.out.size))
  have L1 := Lib.hid (lies_below L0.out b1 (lt_heap L0.out))
  clear b1
  have hlt1 : w.heap.size < y1.heap.size := lt_heap L1.out
  have hlt2 : w.heap.size ≠ y1.heap.size := by omega
  have x0 := (lies_cells L1.out).1 0
  have x1 := (lies_cells L1.out).1 1
  have x2 := (lies_cells L1.out).1 2
  have x3 := (lies_cells L1.out).1 3
  have x4 := (lies_cells L1.out).1 4
  have x5 := (lies_cells L1.out).1 5
  simp only [List.getElem?_toArray, List.getElem?_cons_zero, List.getElem?_cons_succ] at x0 x1 x2 x3 x4 x5
  have HS : Hid (∀ w', Below y1.heap.size y1 w' → w'.cell? ⟨w.heap.size, 0, none⟩ = some (.int .i64 3)) := Lib.hid fun w' hbw => (hbw.cell (p := ⟨w.heap.size, 0, none⟩) (lt_heap L1.out)).trans x0
  have F0 := Lib.hid (show Below y1.heap.size y1 (y1.drewN 1) from below_drewQ (Below.refl _ _) 1)
  have F1 := Lib.hid (show Below y1.heap.size y1 ((y1.drewN 1).alloc (.cells #[qs [], qs [108, 111, 97, 100], qs [117, 110, 108, 111, 97, 100], qs [115, 117, 98, 109, 105, 116], qs [99, 97, 110, 99, 101, 108], qs [103, 114, 97, 110, 116], qs [112, 111, 108, 108], qs [102, 111, 114, 103, 101, 116], qs [101, 118, 105, 99, 116], qs [115, 116, 97, 116, 115]] 9)) from F0.out.alloc (Nat.le_refl _) _)
  have B2 := Lib.hid (B1.out.trans (F1.out.mono B1.out.size))
  have hfr : ((y1.drewN 1).alloc (.cells #[qs [], qs [108, 111, 97, 100], qs [117, 110, 108, 111, 97, 100], qs [115, 117, 98, 109, 105, 116], qs [99, 97, 110, 99, 101, 108], qs [103, 114, 97, 110, 116], qs [112, 111, 108, 108], qs [102, 111, 114, 103, 101, 116], qs [101, 118, 105, 99, 116], qs [115, 116, 97, 116, 115]] 9)).cell? ⟨y1.heap.size, 3, none⟩ = some (qs [115, 117, 98, 109, 105, 116]) := by
    show ((y1.drewN 1).alloc (.cells #[qs [], qs [108, 111, 97, 100], qs [117, 110, 108, 111, 97, 100], qs [115, 117, 98, 109, 105, 116], qs [99, 97, 110, 99, 101, 108], qs [103, 114, 97, 110, 116], qs [112, 111, 108, 108], qs [102, 111, 114, 103, 101, 116], qs [101, 118, 105, 99, 116], qs [115, 116, 97, 116, 115]] 9)).cell? ⟨(y1.drewN 1).heap.size, 3, none⟩ = _
    rw [World.cell?_alloc_new]
    rfl
  have HT := Lib.hid (show opT ⟨3, id, text, 4, b, c⟩ = [115, 117, 98, 109, 105, 116] ++ [32] ++ id ++ [32] ++ text ++ [32] ++ [117, 110, 105, 110, 105, 116] ++ [32] ++ dec10 b ++ [32] ++ dec10 c by unfold opT; rw [HO.out]; rfl)
  obtain ⟨db, hdb⟩ : ∃ d, dec10 b = d := ⟨_, rfl⟩
  obtain ⟨dc, hdc⟩ : ∃ d, dec10 c = d := ⟨_, rfl⟩
  have hbl : db.length ≤ 3 := by rw [← hdb]; exact dec10_le 3 (by omega) (by omega)
  have hcl : dc.length ≤ 1 := by rw [← hdc]; exact dec10_le 1 (by omega) (by omega)
  rw [hdb, hdc] at HT
  have HDB := Lib.hid hdb
  have HDC := Lib.hid hdc
  clear hdb hdc
  have hs1 : ¬ 9223372036854775807 < 6 + 1 + id.length := by omega
  have hs2 : ¬ 9223372036854775807 < 6 + 1 + id.length + 1 := by omega
  have hs3 : ¬ 9223372036854775807 < 6 + 1 + id.length + 1 + text.length := by omega
  have hs4 : ¬ 9223372036854775807 < 6 + 1 + id.length + 1 + text.length + 1 := by omega
  have hs5 : ¬ 9223372036854775807 < 6 + 1 + id.length + 1 + text.length + 1 + 6 := by omega
  have hs6 : ¬ 9223372036854775807 < 6 + 1 + id.length + 1 + text.length + 1 + 6 + 1 := by omega
  have hs7 : ¬ 9223372036854775807 < 6 + 1 + id.length + 1 + text.length + 1 + 6 + 1 + db.length := by omega
  have hs8 : ¬ 9223372036854775807 < 6 + 1 + id.length + 1 + text.length + 1 + 6 + 1 + db.length + 1 := by omega
  have hs9 : ¬ 9223372036854775807 < 6 + 1 + id.length + 1 + text.length + 1 + 6 + 1 + db.length + 1 + dc.length := by omega
  go_wp2_with fail
  refine wp_region_D (S := fun w' => w'.cell? ⟨w.heap.size, 0, none⟩ = some (.int .i64 3)) (st := 5) (by kernel_rfl) ?_
  refine wpAnyT_pure 1 ?v34 rfl (by kernel_rfl) (by kernel_rfl) (by kernel_rfl) (by kernel_rfl) (fun _ _ _ h => h) (HS.out _ F0.out) rfl ?run34 ?rest34
  case run34 => intro w hS; obtain s0 := hS; go_simp; rfl
  refine wpAnyT_pure 2 ?v35 rfl (by kernel_rfl) (by kernel_rfl) (by kernel_rfl) (by kernel_rfl) (fun _ _ _ h => h) (HS.out _ F0.out) rfl ?run35 ?rest35
  case run35 => intro w hS; obtain s0 := hS; go_simp; rfl
  refine wpAnyT_all (rs := [0]) (by kernel_rfl) (by decide) ?_
  intro i hi
  obtain rfl : i = 0 := by simpa using hi
  clear hi
  refine wpOp_of_list rfl ?_
  go_wp2_with fail
  refine (rverbs _).mono ?_
  rintro e z1 ⟨rfl, rfl⟩
  go_wp2
  refine ⟨fun _ => HS.out _ F1.out, ?_⟩
  refine wpAnyT_pure 3 ?v36 rfl (by kernel_rfl) (by kernel_rfl) (by kernel_rfl) (by kernel_rfl) (fun _ _ _ h => h) (HS.out _ F1.out) rfl ?run36 ?rest36
  case run36 => intro w hS; obtain s0 := hS; go_simp; rfl
  refine wpAnyT_all (rs := [4]) (by kernel_rfl) (by decide) ?_
  intro i hi
  obtain rfl : i = 4 := by simpa using hi
  clear hi
  refine wpOp_of_list rfl ?_
  go_wp2
  refine ⟨fun _ => HS.out _ F1.out, ?_⟩
  refine wpAnyT_all (rs := [5]) (by kernel_rfl) (by decide) ?_
  intro i hi
  obtain rfl : i = 5 := by simpa using hi
  clear hi
  refine wpOp_of_list rfl ?_
  go_wp2
  refine ⟨fun h => absurd rfl h, ?_⟩
  refine wpAnyT_done (by kernel_rfl) ?_ _
  obtain ⟨V, hV⟩ : ∃ V, (y1.drewN 1).alloc (.cells #[qs [], qs [108, 111, 97, 100], qs [117, 110, 108, 111, 97, 100], qs [115, 117, 98, 109, 105, 116], qs [99, 97, 110, 99, 101, 108], qs [103, 114, 97, 110, 116], qs [112, 111, 108, 108], qs [102, 111, 114, 103, 101, 116], qs [101, 118, 105, 99, 116], qs [115, 116, 97, 116, 115]] 9) = V := ⟨_, rfl⟩
  have L2 := Lib.hid (show V.heap[w.heap.size]? = some (.cells #[.int .i64 3, qs id, qs text, .int .i64 4, .int .i64 b, .int .i64 c] 24 (0, 0)) by rw [← hV]; exact lies_below L1.out F1.out (lt_heap L1.out))
  have B3 := Lib.hid (show Below w.heap.size w V by rw [← hV]; exact B2.out)
  rw [hV]
  clear hV hfr x0 x1 x2 x3 x4 x5 HS F0
  have g0 := (lies_cells L2.out).1 0
  have g1 := (lies_cells L2.out).1 1
  have g2 := (lies_cells L2.out).1 2
  have g3 := (lies_cells L2.out).1 3
  have g4 := (lies_cells L2.out).1 4
  have g5 := (lies_cells L2.out).1 5
  simp only [List.getElem?_toArray, List.getElem?_cons_zero, List.getElem?_cons_succ] at g0 g1 g2 g3 g4 g5
  have hltV : w.heap.size < V.heap.size := lt_heap L2.out
  have HS2 : Hid (∀ w', Below V.heap.size V w' → w'.cell? ⟨w.heap.size, 1, none⟩ = some (qs id) ∧ w'.cell? ⟨w.heap.size, 2, none⟩ = some (qs text) ∧ w'.cell? ⟨w.heap.size, 3, none⟩ = some (.int .i64 4) ∧ w'.cell? ⟨w.heap.size, 4, none⟩ = some (.int .i64 b) ∧ w'.cell? ⟨w.heap.size, 5, none⟩ = some (.int .i64 c)) :=
    Lib.hid fun w' hbw => ⟨(hbw.cell (p := ⟨w.heap.size, 1, none⟩) (lt_heap L2.out)).trans g1, (hbw.cell (p := ⟨w.heap.size, 2, none⟩) (lt_heap L2.out)).trans g2, (hbw.cell (p := ⟨w.heap.size, 3, none⟩) (lt_heap L2.out)).trans g3, (hbw.cell (p := ⟨w.heap.size, 4, none⟩) (lt_heap L2.out)).trans g4, (hbw.cell (p := ⟨w.heap.size, 5, none⟩) (lt_heap L2.out)).trans g5⟩
  have F2 := Lib.hid (show Below V.heap.size V (V.drewN 1) from below_drewQ (Below.refl _ _) 1)
  have F3 := Lib.hid (show Below V.heap.size V ((V.drewN 1).alloc (.cells #[qs [114, 101, 97, 99, 104], qs [108, 105, 118, 101], qs [116, 97, 105, 110, 116], qs [117, 110, 105, 110, 105, 116]] 9)) from F2.out.alloc (Nat.le_refl _) _)
  have hfr2 : ((V.drewN 1).alloc (.cells #[qs [114, 101, 97, 99, 104], qs [108, 105, 118, 101], qs [116, 97, 105, 110, 116], qs [117, 110, 105, 110, 105, 116]] 9)).cell? ⟨V.heap.size, 3, none⟩ = some (qs [117, 110, 105, 110, 105, 116]) := by
    show ((V.drewN 1).alloc (.cells #[qs [114, 101, 97, 99, 104], qs [108, 105, 118, 101], qs [116, 97, 105, 110, 116], qs [117, 110, 105, 110, 105, 116]] 9)).cell? ⟨(V.drewN 1).heap.size, 3, none⟩ = _
    rw [World.cell?_alloc_new]
    rfl
  go_wp2_with fail
  refine wp_region_D (S := fun w' => w'.cell? ⟨w.heap.size, 1, none⟩ = some (qs id) ∧ w'.cell? ⟨w.heap.size, 2, none⟩ = some (qs text) ∧ w'.cell? ⟨w.heap.size, 3, none⟩ = some (.int .i64 4) ∧ w'.cell? ⟨w.heap.size, 4, none⟩ = some (.int .i64 b) ∧ w'.cell? ⟨w.heap.size, 5, none⟩ = some (.int .i64 c)) (st := 27) (by kernel_rfl) ?_
  refine wpAnyT_pure 0 ?v1 rfl (by kernel_rfl) (by kernel_rfl) (by kernel_rfl) (by kernel_rfl) (fun _ _ _ h => h) (HS2.out _ F2.out) rfl ?run1 ?rest1
  case run1 => intro w hS; obtain ⟨s1, s2, s3, s4, s5⟩ := hS; go_simp; rfl
  refine wpAnyT_pure 1 ?v2 rfl (by kernel_rfl) (by kernel_rfl) (by kernel_rfl) (by kernel_rfl) (fun _ _ _ h => h) (HS2.out _ F2.out) rfl ?run2 ?rest2
  case run2 => intro w hS; obtain ⟨s1, s2, s3, s4, s5⟩ := hS; go_simp; rfl
  refine wpAnyT_pure 2 ?v3 rfl (by kernel_rfl) (by kernel_rfl) (by kernel_rfl) (by kernel_rfl) (fun _ _ _ h => h) (HS2.out _ F2.out) rfl ?run3 ?rest3
  case run3 => intro w hS; obtain ⟨s1, s2, s3, s4, s5⟩ := hS; go_simp; rfl
  refine wpAnyT_pure 3 ?v4 rfl (by kernel_rfl) (by kernel_rfl) (by kernel_rfl) (by kernel_rfl) (fun _ _ _ h => h) (HS2.out _ F2.out) rfl ?run4 ?rest4
  case run4 => intro w hS; obtain ⟨s1, s2, s3, s4, s5⟩ := hS; go_simp; rfl
  refine wpAnyT_pure 4 ?v5 rfl (by kernel_rfl) (by kernel_rfl) (by kernel_rfl) (by kernel_rfl) (fun _ _ _ h => h) (HS2.out _ F2.out) rfl ?run5 ?rest5
  case run5 => intro w hS; obtain ⟨s1, s2, s3, s4, s5⟩ := hS; go_simp; rfl
  refine wpAnyT_pure 5 ?v6 rfl (by kernel_rfl) (by kernel_rfl) (by kernel_rfl) (by kernel_rfl) (fun _ _ _ h => h) (HS2.out _ F2.out) rfl ?run6 ?rest6
  case run6 => intro w hS; obtain ⟨s1, s2, s3, s4, s5⟩ := hS; go_simp; rfl
  refine wpAnyT_pure 6 ?v7 rfl (by kernel_rfl) (by kernel_rfl) (by kernel_rfl) (by kernel_rfl) (fun _ _ _ h => h) (HS2.out _ F2.out) rfl ?run7 ?rest7
  case run7 => intro w hS; obtain ⟨s1, s2, s3, s4, s5⟩ := hS; go_simp; rfl
  refine wpAnyT_pure 7 ?v8 rfl (by kernel_rfl) (by kernel_rfl) (by kernel_rfl) (by kernel_rfl) (fun _ _ _ h => h) (HS2.out _ F2.out) rfl ?run8 ?rest8
  case run8 => intro w hS; obtain ⟨s1, s2, s3, s4, s5⟩ := hS; go_simp; rfl
  refine wpAnyT_pure 8 ?v9 rfl (by kernel_rfl) (by kernel_rfl) (by kernel_rfl) (by kernel_rfl) (fun _ _ _ h => h) (HS2.out _ F2.out) rfl ?run9 ?rest9
  case run9 => intro w hS; obtain ⟨s1, s2, s3, s4, s5⟩ := hS; go_simp; rfl
  refine wpAnyT_pure 9 ?v10 rfl (by kernel_rfl) (by kernel_rfl) (by kernel_rfl) (by kernel_rfl) (fun _ _ _ h => h) (HS2.out _ F2.out) rfl ?run10 ?rest10
  case run10 => intro w hS; obtain ⟨s1, s2, s3, s4, s5⟩ := hS; go_simp; rfl
  refine wpAnyT_pure 11 ?v11 rfl (by kernel_rfl) (by kernel_rfl) (by kernel_rfl) (by kernel_rfl) (fun _ _ _ h => h) (HS2.out _ F2.out) rfl ?run11 ?rest11
  case run11 => intro w hS; obtain ⟨s1, s2, s3, s4, s5⟩ := hS; go_simp; rfl
  refine wpAnyT_pure 12 ?v12 rfl (by kernel_rfl) (by kernel_rfl) (by kernel_rfl) (by kernel_rfl) (fun _ _ _ h => h) (HS2.out _ F2.out) rfl ?run12 ?rest12
  case run12 => intro w hS; obtain ⟨s1, s2, s3, s4, s5⟩ := hS; go_simp; rfl
  refine wpAnyT_pure 13 ?v13 rfl (by kernel_rfl) (by kernel_rfl) (by kernel_rfl) (by kernel_rfl) (fun _ _ _ h => h) (HS2.out _ F2.out) rfl ?run13 ?rest13
  case run13 => intro w hS; obtain ⟨s1, s2, s3, s4, s5⟩ := hS; go_simp; rfl
  refine wpAnyT_pure 18 ?v14 rfl (by kernel_rfl) (by kernel_rfl) (by kernel_rfl) (by kernel_rfl) (fun _ _ _ h => h) (HS2.out _ F2.out) rfl ?run14 ?rest14
  case run14 => intro w hS; obtain ⟨s1, s2, s3, s4, s5⟩ := hS; go_simp; rfl
  refine wpAnyT_pure 19 ?v15 rfl (by kernel_rfl) (by kernel_rfl) (by kernel_rfl) (by kernel_rfl) (fun _ _ _ h => h) (HS2.out _ F2.out) rfl ?run15 ?rest15
  case run15 => intro w hS; obtain ⟨s1, s2, s3, s4, s5⟩ := hS; go_simp; rfl
  refine wpAnyT_pure 23 ?v16 rfl (by kernel_rfl) (by kernel_rfl) (by kernel_rfl) (by kernel_rfl) (fun _ _ _ h => h) (HS2.out _ F2.out) rfl ?run16 ?rest16
  case run16 => intro w hS; obtain ⟨s1, s2, s3, s4, s5⟩ := hS; go_simp; rfl
  refine wpAnyT_pure 24 ?v17 rfl (by kernel_rfl) (by kernel_rfl) (by kernel_rfl) (by kernel_rfl) (fun _ _ _ h => h) (HS2.out _ F2.out) rfl ?run17 ?rest17
  case run17 => intro w hS; obtain ⟨s1, s2, s3, s4, s5⟩ := hS; go_simp; rfl
  refine wpAnyT_all (rs := [10]) (by kernel_rfl) (by decide) ?_
  intro i hi
  obtain rfl : i = 10 := by simpa using hi
  clear hi
  refine wpOp_of_list rfl ?_
  go_wp2_with fail
  refine (ranas _).mono ?_
  rintro e z1 ⟨rfl, rfl⟩
  go_wp2
  refine ⟨fun _ => HS2.out _ F3.out, ?_⟩
  refine wpAnyT_pure 14 ?v18 rfl (by kernel_rfl) (by kernel_rfl) (by kernel_rfl) (by kernel_rfl) (fun _ _ _ h => h) (HS2.out _ F3.out) rfl ?run18 ?rest18
  case run18 => intro w hS; obtain ⟨s1, s2, s3, s4, s5⟩ := hS; go_simp; rfl
  refine wpAnyT_all (rs := [15, 20]) (by kernel_rfl) (by decide) ?_
  intro i hi
  have hi2 : i = 15 ∨ i = 20 := by simpa using hi
  clear hi
  rcases hi2 with rfl | rfl
  · skip
    refine wpOp_of_list rfl ?_
    go_wp2
    refine ⟨fun _ => HS2.out _ F3.out, ?_⟩
    refine wpAnyT_pure 16 ?v19 rfl (by kernel_rfl) (by kernel_rfl) (by kernel_rfl) (by kernel_rfl) (fun _ _ _ h => h) (HS2.out _ F3.out) rfl ?run19 ?rest19
    case run19 => intro w hS; obtain ⟨s1, s2, s3, s4, s5⟩ := hS; go_simp; rfl
    refine wpAnyT_pure 17 ?v20 rfl (by kernel_rfl) (by kernel_rfl) (by kernel_rfl) (by kernel_rfl) (fun _ _ _ h => h) (HS2.out _ F3.out) rfl ?run20 ?rest20
    case run20 => intro w hS; obtain ⟨s1, s2, s3, s4, s5⟩ := hS; go_simp; rfl
    refine wpAnyT_all (rs := [20]) (by kernel_rfl) (by decide) ?_
    intro i hi
    obtain rfl : i = 20 := by simpa using hi
    clear hi
    refine wpOp_of_list rfl ?_
    go_wp2_with fail
    refine (decimal_to HDB.out (by omega) _).mono ?_
    rintro e z2 ⟨rfl, rfl⟩
    go_wp2
    refine ⟨fun _ => HS2.out _ F3.out, ?_⟩
    refine wpAnyT_pure 21 ?v21 rfl (by kernel_rfl) (by kernel_rfl) (by kernel_rfl) (by kernel_rfl) (fun _ _ _ h => h) (HS2.out _ F3.out) rfl ?run21 ?rest21
    case run21 => intro w hS; obtain ⟨s1, s2, s3, s4, s5⟩ := hS; go_simp; rfl
    refine wpAnyT_pure 22 ?v22 rfl (by kernel_rfl) (by kernel_rfl) (by kernel_rfl) (by kernel_rfl) (fun _ _ _ h => h) (HS2.out _ F3.out) rfl ?run22 ?rest22
    case run22 => intro w hS; obtain ⟨s1, s2, s3, s4, s5⟩ := hS; go_simp; rfl
    refine wpAnyT_all (rs := [25]) (by kernel_rfl) (by decide) ?_
    intro i hi
    obtain rfl : i = 25 := by simpa using hi
    clear hi
    refine wpOp_of_list rfl ?_
    go_wp2_with fail
    refine (decimal_to HDC.out (by omega) _).mono ?_
    rintro e z2 ⟨rfl, rfl⟩
    go_wp2
    refine ⟨fun _ => HS2.out _ F3.out, ?_⟩
    refine wpAnyT_pure 26 ?v23 rfl (by kernel_rfl) (by kernel_rfl) (by kernel_rfl) (by kernel_rfl) (fun _ _ _ h => h) (HS2.out _ F3.out) rfl ?run23 ?rest23
    case run23 => intro w hS; obtain ⟨s1, s2, s3, s4, s5⟩ := hS; go_simp; rfl
    refine wpAnyT_all (rs := [27]) (by kernel_rfl) (by decide) ?_
    intro i hi
    obtain rfl : i = 27 := by simpa using hi
    clear hi
    refine wpOp_of_list rfl ?_
    go_wp2
    refine ⟨fun h => absurd rfl h, ?_⟩
    refine wpAnyT_done (by kernel_rfl) ?_ _
    go_wp2
    go_ret
    refine ⟨ret_strQ ?_, B3.out.trans (F3.out.mono B3.out.size)⟩
    rw [HT.out]
    simp [app_str]
  · skip
    refine wpOp_of_list rfl ?_
    go_wp2_with fail
    refine (decimal_to HDB.out (by omega) _).mono ?_
    rintro e z2 ⟨rfl, rfl⟩
    go_wp2
    refine ⟨fun _ => HS2.out _ F3.out, ?_⟩
    refine wpAnyT_all (rs := [15, 25]) (by kernel_rfl) (by decide) ?_
    intro i hi
    have hi2 : i = 15 ∨ i = 25 := by simpa using hi
    clear hi
    rcases hi2 with rfl | rfl
    · skip
      refine wpOp_of_list rfl ?_
      go_wp2
      refine ⟨fun _ => HS2.out _ F3.out, ?_⟩
      refine wpAnyT_pure 16 ?v24 rfl (by kernel_rfl) (by kernel_rfl) (by kernel_rfl) (by kernel_rfl) (fun _ _ _ h => h) (HS2.out _ F3.out) rfl ?run24 ?rest24
      case run24 => intro w hS; obtain ⟨s1, s2, s3, s4, s5⟩ := hS; go_simp; rfl
      refine wpAnyT_pure 17 ?v25 rfl (by kernel_rfl) (by kernel_rfl) (by kernel_rfl) (by kernel_rfl) (fun _ _ _ h => h) (HS2.out _ F3.out) rfl ?run25 ?rest25
      case run25 => intro w hS; obtain ⟨s1, s2, s3, s4, s5⟩ := hS; go_simp; rfl
      refine wpAnyT_pure 21 ?v26 rfl (by kernel_rfl) (by kernel_rfl) (by kernel_rfl) (by kernel_rfl) (fun _ _ _ h => h) (HS2.out _ F3.out) rfl ?run26 ?rest26
      case run26 => intro w hS; obtain ⟨s1, s2, s3, s4, s5⟩ := hS; go_simp; rfl
      refine wpAnyT_pure 22 ?v27 rfl (by kernel_rfl) (by kernel_rfl) (by kernel_rfl) (by kernel_rfl) (fun _ _ _ h => h) (HS2.out _ F3.out) rfl ?run27 ?rest27
      case run27 => intro w hS; obtain ⟨s1, s2, s3, s4, s5⟩ := hS; go_simp; rfl
      refine wpAnyT_all (rs := [25]) (by kernel_rfl) (by decide) ?_
      intro i hi
      obtain rfl : i = 25 := by simpa using hi
      clear hi
      refine wpOp_of_list rfl ?_
      go_wp2_with fail
      refine (decimal_to HDC.out (by omega) _).mono ?_
      rintro e z2 ⟨rfl, rfl⟩
      go_wp2
      refine ⟨fun _ => HS2.out _ F3.out, ?_⟩
      refine wpAnyT_pure 26 ?v28 rfl (by kernel_rfl) (by kernel_rfl) (by kernel_rfl) (by kernel_rfl) (fun _ _ _ h => h) (HS2.out _ F3.out) rfl ?run28 ?rest28
      case run28 => intro w hS; obtain ⟨s1, s2, s3, s4, s5⟩ := hS; go_simp; rfl
      refine wpAnyT_all (rs := [27]) (by kernel_rfl) (by decide) ?_
      intro i hi
      obtain rfl : i = 27 := by simpa using hi
      clear hi
      refine wpOp_of_list rfl ?_
      go_wp2
      refine ⟨fun h => absurd rfl h, ?_⟩
      refine wpAnyT_done (by kernel_rfl) ?_ _
      go_wp2
      go_ret
      refine ⟨ret_strQ ?_, B3.out.trans (F3.out.mono B3.out.size)⟩
      rw [HT.out]
      simp [app_str]
    · skip
      refine wpOp_of_list rfl ?_
      go_wp2_with fail
      refine (decimal_to HDC.out (by omega) _).mono ?_
      rintro e z2 ⟨rfl, rfl⟩
      go_wp2
      refine ⟨fun _ => HS2.out _ F3.out, ?_⟩
      refine wpAnyT_all (rs := [15]) (by kernel_rfl) (by decide) ?_
      intro i hi
      obtain rfl : i = 15 := by simpa using hi
      clear hi
      refine wpOp_of_list rfl ?_
      go_wp2
      refine ⟨fun _ => HS2.out _ F3.out, ?_⟩
      refine wpAnyT_pure 16 ?v29 rfl (by kernel_rfl) (by kernel_rfl) (by kernel_rfl) (by kernel_rfl) (fun _ _ _ h => h) (HS2.out _ F3.out) rfl ?run29 ?rest29
      case run29 => intro w hS; obtain ⟨s1, s2, s3, s4, s5⟩ := hS; go_simp; rfl
      refine wpAnyT_pure 17 ?v30 rfl (by kernel_rfl) (by kernel_rfl) (by kernel_rfl) (by kernel_rfl) (fun _ _ _ h => h) (HS2.out _ F3.out) rfl ?run30 ?rest30
      case run30 => intro w hS; obtain ⟨s1, s2, s3, s4, s5⟩ := hS; go_simp; rfl
      refine wpAnyT_pure 21 ?v31 rfl (by kernel_rfl) (by kernel_rfl) (by kernel_rfl) (by kernel_rfl) (fun _ _ _ h => h) (HS2.out _ F3.out) rfl ?run31 ?rest31
      case run31 => intro w hS; obtain ⟨s1, s2, s3, s4, s5⟩ := hS; go_simp; rfl
      refine wpAnyT_pure 22 ?v32 rfl (by kernel_rfl) (by kernel_rfl) (by kernel_rfl) (by kernel_rfl) (fun _ _ _ h => h) (HS2.out _ F3.out) rfl ?run32 ?rest32
      case run32 => intro w hS; obtain ⟨s1, s2, s3, s4, s5⟩ := hS; go_simp; rfl
      refine wpAnyT_pure 26 ?v33 rfl (by kernel_rfl) (by kernel_rfl) (by kernel_rfl) (by kernel_rfl) (fun _ _ _ h => h) (HS2.out _ F3.out) rfl ?run33 ?rest33
      case run33 => intro w hS; obtain ⟨s1, s2, s3, s4, s5⟩ := hS; go_simp; rfl
      refine wpAnyT_all (rs := [27]) (by kernel_rfl) (by decide) ?_
      intro i hi
      obtain rfl : i = 27 := by simpa using hi
      clear hi
      refine wpOp_of_list rfl ?_
      go_wp2
      refine ⟨fun h => absurd rfl h, ?_⟩
      refine wpAnyT_done (by kernel_rfl) ?_ _
      go_wp2
      go_ret
      refine ⟨ret_strQ ?_, B3.out.trans (F3.out.mono B3.out.size)⟩
      rw [HT.out]
      simp [app_str]
set_option maxHeartbeats 1000000 in
theorem rprint_no (k : Int) (id text : Str) (ana node n : Int) (ht : text.length ≤ 9223372036854775807) (w : World) (HO : Hid (opB ⟨k, id, text, ana, node, n⟩ = false)) :
    Calls Tryd.prog 12 #[.agg #[.int .i64 k, qs id, qs text, .int .i64 ana, .int .i64 node, .int .i64 n]] w (StrQ [] w) := by
  have hud : ∀ b : Bool, (undef = Value.bool b) = False := fun b => by simp [undef]
  obtain ⟨W, hW⟩ : ∃ W, w.alloc (.cells #[.int .i64 k, qs id, qs text, .int .i64 ana, .int .i64 node, .int .i64 n] 24) = W := ⟨_, rfl⟩
  have b0 : Below w.heap.size w W := by rw [← hW]; exact (Below.refl _ _).alloc (Nat.le_refl _) _
  have L0 := Lib.hid (show W.heap[w.heap.size]? = some (.cells #[.int .i64 k, qs id, qs text, .int .i64 ana, .int .i64 node, .int .i64 n] 24 (0, 0)) by rw [← hW]; exact heap_alloc_new _ _)
  have B0 := Lib.hid b0
  have HW := Lib.hid hW
  clear hW b0
  go_enter Tryd.func12, Tryd.ntmps12
  go_wp2_with fail
  rw [show w.alloc (.cells #[.int .i64 k, qs id, qs text, .int .i64 ana, .int .i64 node, .int .i64 n] 24) = W from HW.out]
  refine (rvalid_to (o := ⟨k, id, text, ana, node, n⟩) HO.out (ht) W).mono ?_
  rintro e y1 ⟨rfl, b1⟩
  have B1 := Lib.hid (B0.out.trans (b1.mono B0.out.size))
  clear b1
  go_wp2
  go_ret
  exact ⟨rfl, B1.out⟩
/-- The line of an operation, says the reference. -/
theorem rprint_any (o : POp) (ht : o.text.length ≤ 9223372036854775807) (w : World) : Calls Tryd.prog 12 #[opV o] w (StrQ (opT o) w) := by
  rcases Bool.eq_false_or_eq_true (opB o) with h | h
  · have HO := Lib.hid h
    rcases op_cases h with ⟨id, text, rfl, h1, h2⟩ | ⟨k, id, hk, rfl, h1⟩ | ⟨id, text, a, b, c, rfl, h1, h2, ha, hb, hc⟩ | ⟨k, n, hk, rfl, hn⟩ | rfl
    · exact rprint1 id text w (name_len h1) (textB_len h2) HO
    · rcases hk with rfl | rfl | rfl | rfl
      · exact rprint2 id w (name_len h1) HO
      · exact rprint4 id w (name_len h1) HO
      · exact rprint6 id w (name_len h1) HO
      · exact rprint7 id w (name_len h1) HO
    · have hc4 : a = 0 ∨ a = 1 ∨ a = 2 ∨ a = 3 := by omega
      rcases hc4 with rfl | rfl | rfl | rfl
      · exact rprint3_0 id text b c w (name_len h1) (name_len h2) hb hc HO
      · exact rprint3_1 id text b c w (name_len h1) (name_len h2) hb hc HO
      · exact rprint3_2 id text b c w (name_len h1) (name_len h2) hb hc HO
      · exact rprint3_3 id text b c w (name_len h1) (name_len h2) hb hc HO
    · rcases hk with rfl | rfl
      · exact rprint5 n w hn HO
      · exact rprint8 n w hn HO
    · exact rprint9 w HO
  · rw [opT_no h]
    exact rprint_no o.kind o.id o.text o.ana o.node o.n ht w (Lib.hid h)
end Go.Proofs.YtgmlnbheceeklaaDoor
