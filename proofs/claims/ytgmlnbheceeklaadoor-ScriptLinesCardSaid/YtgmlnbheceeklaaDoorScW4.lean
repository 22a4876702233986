/- Walk: script.Print. Printed by wip/gen_scw4.py. -/
import Derived.Test.YtgmlnbheceeklaaDoorScW3
import Derived.Deep.RegionHeld3
set_option linter.unusedVariables false
set_option linter.unusedSimpArgs false
set_option linter.unusedSectionVars false
namespace Go.Proofs.YtgmlnbheceeklaaDoor
open Go.RowKit
variable [Base]

theorem app_str (a b : Str) : (ByteArray.mk a.toArray) ++ (ByteArray.mk b.toArray) = ⟨(a ++ b).toArray⟩ := by
  apply ByteArray.ext
  simp [ByteArray.data_append]
theorem ret_strQ {a b : ByteArray} (h : a = b) : Ending.returned (.string a) = .returned (.string b) := by rw [h]
theorem valid_to {B : Nat} {o : POp} {d : Bool} (h : opB o = d) (hid : o.id.length ≤ 9223372036854775807) (ht : o.text.length ≤ 9223372036854775807) (w : World) (hV : VarsIn B w) (hB : B ≤ w.heap.size) : Calls Tryd.prog 11 #[opV o] w (BoolQ d w) := h ▸ valid_any o hid ht w hV hB
def opC (o : POp) : Array Value := #[.int .i64 o.kind, qs o.id, qs o.text, .int .i64 o.ana, .int .i64 o.node, .int .i64 o.n]
theorem itoa_to {B n : Nat} {d : Str} (hd : dec10 n = d) (hn : n < 1000000000000000000) (w : World) (hV : VarsIn B w) : Calls Tryd.prog 20 #[.int .i64 n] w (StrQ d w) := hd ▸ itoa_any n hn w hV
/-- Six words, in a block that has just been made. -/
theorem join6 (w : World) (a b c d e f : Str) (hl : a.length + b.length + c.length + d.length + e.length + f.length ≤ 100000) : Calls Tryd.prog 19 #[.slice (some ⟨w.heap.size, 0, none⟩) 6 6, .string ⟨#[32]⟩] (w.alloc (.cells #[qs a, qs b, qs c, qs d, qs e, qs f] 9)) (fun e' w' => e' = .returned (qs (Lib.join [a, b, c, d, e, f] [32])) ∧ Below w.heap.size w w') := by
  have k := join_any [a, b, c, d, e, f] w.heap.size 0 6 (w.alloc (.cells #[qs a, qs b, qs c, qs d, qs e, qs f] 9)) (fun k s hk => by
    rw [Nat.zero_add, World.cell?_alloc_new]
    have : (#[qs a, qs b, qs c, qs d, qs e, qs f] : Array Value) = ([a, b, c, d, e, f].map qs).toArray := rfl
    rw [this, List.getElem?_toArray, List.getElem?_map, hk]
    rfl) (by simp) (by simp) (Nat.le_refl _) (by simp [Lib.join_cons, Lib.joinTail]; omega)
  refine k.mono fun e' w' ⟨h1, h2⟩ => ⟨h1, ?_⟩
  exact ((Below.refl w.heap.size w).alloc (Nat.le_refl _) _).trans (h2.mono (by simp))
theorem opT_no {o : POp} (h : opB o = false) : opT o = [] := by unfold opT; rw [h]; rfl
theorem name_len {l : Str} (h : nameB l = true) : l.length ≤ 16 := by
  unfold nameB at h
  simp only [Bool.and_eq_true, decide_eq_true_eq] at h
  exact h.1.1.2
theorem textB_len {l : Str} (h : textB l = true) : l.length ≤ 4096 := by
  unfold textB at h
  simp only [Bool.and_eq_true, decide_eq_true_eq] at h
  exact h.1.1.1.2
theorem verbs_at {B g : Nat} {ls : List Str} {w : World} (h : RowIn g ls B w) : ∃ b off c, b < B ∧ w.cell? ⟨g, 0, none⟩ = some (.slice (some ⟨b, off, none⟩) ls.length c) ∧ ∀ k s, ls[k]? = some s → w.cell? ⟨b, off + k, none⟩ = some (qs s) := by
  obtain ⟨_, b, off, c, hb, h1, h2⟩ := h
  refine ⟨b, off, c, hb, h1, fun k s hk => ?_⟩
  obtain ⟨b', off', e, hc⟩ := h2 k s hk
  injection e with e
  injection e with e1 e2
  subst e1 e2
  exact hc
set_option maxHeartbeats 1000000 in
theorem print_no {B : Nat} (k : Int) (id text : Str) (ana node n : Int) (hi : id.length ≤ 9223372036854775807) (ht : text.length ≤ 9223372036854775807) (w : World) (hV : VarsIn B w) (hB : B ≤ w.heap.size) (HO : Hid (opB ⟨k, id, text, ana, node, n⟩ = false)) :
    Calls Tryd.prog 8 #[.agg #[.int .i64 k, qs id, qs text, .int .i64 ana, .int .i64 node, .int .i64 n]] w (StrQ [] w) := by
  obtain ⟨W, hW⟩ : ∃ W, w.alloc (.cells #[.int .i64 k, qs id, qs text, .int .i64 ana, .int .i64 node, .int .i64 n] 24) = W := ⟨_, rfl⟩
  have b0 : Below w.heap.size w W := by rw [← hW]; exact (Below.refl _ _).alloc (Nat.le_refl _) _
  have L0 := Lib.hid (show W.heap[w.heap.size]? = some (.cells #[.int .i64 k, qs id, qs text, .int .i64 ana, .int .i64 node, .int .i64 n] 24 (0, 0)) by rw [← hW]; exact heap_alloc_new _ _)
  have B0 := Lib.hid b0
  have HW := Lib.hid hW
  have HV := Lib.hid (hV.below (b0.mono hB))
  have HBW := Lib.hid (Nat.le_trans hB b0.size)
  clear hW b0 hV
  go_enter Tryd.func8, Tryd.ntmps8
  have x0 := (lies_cells L0.out).1 0
  have x1 := (lies_cells L0.out).1 1
  have x2 := (lies_cells L0.out).1 2
  have x3 := (lies_cells L0.out).1 3
  have x4 := (lies_cells L0.out).1 4
  have x5 := (lies_cells L0.out).1 5
  simp only [List.getElem?_toArray, List.getElem?_cons_zero, List.getElem?_cons_succ] at x0 x1 x2 x3 x4 x5
  go_wp2_with fail
  rw [show w.alloc (.cells #[.int .i64 k, qs id, qs text, .int .i64 ana, .int .i64 node, .int .i64 n] 24) = W from HW.out]
  refine (valid_to (B := B) (o := ⟨k, id, text, ana, node, n⟩) HO.out (hi) (ht) W HV.out HBW.out).mono ?_
  rintro e v1 ⟨rfl, b1⟩
  have B1 := Lib.hid (B0.out.trans (b1.mono B0.out.size))
  clear x0 x1 x2 x3 x4 x5 b1
  go_wp2
  go_ret
  exact ⟨rfl, B1.out⟩
set_option maxRecDepth 100000 in
set_option maxHeartbeats 2000000 in
theorem print1 {B : Nat} (id text : Str) (w : World) (hi : id.length ≤ 16) (ht : text.length ≤ 4096) (hV : VarsIn B w) (hB : B ≤ w.heap.size) (HO : Hid (opB ⟨1, id, text, 0, 0, 0⟩ = true)) :
    Calls Tryd.prog 8 #[.agg #[.int .i64 1, qs id, qs text, .int .i64 0, .int .i64 0, .int .i64 0]] w (StrQ (opT ⟨1, id, text, 0, 0, 0⟩) w) := by
  have hud : ∀ b : Bool, (undef = Value.bool b) = False := fun b => by simp [undef]
  obtain ⟨W, hW⟩ : ∃ W, w.alloc (.cells #[.int .i64 1, qs id, qs text, .int .i64 0, .int .i64 0, .int .i64 0] 24) = W := ⟨_, rfl⟩
  have b0 : Below w.heap.size w W := by rw [← hW]; exact (Below.refl _ _).alloc (Nat.le_refl _) _
  have L0 := Lib.hid (show W.heap[w.heap.size]? = some (.cells #[.int .i64 1, qs id, qs text, .int .i64 0, .int .i64 0, .int .i64 0] 24 (0, 0)) by rw [← hW]; exact heap_alloc_new _ _)
  have B0 := Lib.hid b0
  have HW := Lib.hid hW
  have HV := Lib.hid (hV.below (b0.mono hB))
  have HBW := Lib.hid (Nat.le_trans hB b0.size)
  clear hW b0 hV
  go_enter Tryd.func8, Tryd.ntmps8
  have x0 := (lies_cells L0.out).1 0
  have x1 := (lies_cells L0.out).1 1
  have x2 := (lies_cells L0.out).1 2
  have x3 := (lies_cells L0.out).1 3
  have x4 := (lies_cells L0.out).1 4
  have x5 := (lies_cells L0.out).1 5
  simp only [List.getElem?_toArray, List.getElem?_cons_zero, List.getElem?_cons_succ] at x0 x1 x2 x3 x4 x5
  go_wp2_with fail
  rw [show w.alloc (.cells #[.int .i64 1, qs id, qs text, .int .i64 0, .int .i64 0, .int .i64 0] 24) = W from HW.out]
  refine (valid_to (B := B) (o := ⟨1, id, text, 0, 0, 0⟩) HO.out (by show id.length ≤ _; omega) (by show text.length ≤ _; omega) W HV.out HBW.out).mono ?_
  rintro e v1 ⟨rfl, b1⟩
  have B1 := Lib.hid (B0.out.trans (b1.mono B0.out.size))
  have L1 := Lib.hid (lies_below L0.out b1 (lt_heap L0.out))
  have HV1 := Lib.hid (HV.out.below (b1.mono HBW.out))
  have HB1 := Lib.hid (Nat.le_trans HBW.out b1.size)
  clear x0 x1 x2 x3 x4 x5 b1
  have x0 := (lies_cells L1.out).1 0
  have x1 := (lies_cells L1.out).1 1
  have x2 := (lies_cells L1.out).1 2
  have x3 := (lies_cells L1.out).1 3
  have x4 := (lies_cells L1.out).1 4
  have x5 := (lies_cells L1.out).1 5
  simp only [List.getElem?_toArray, List.getElem?_cons_zero, List.getElem?_cons_succ] at x0 x1 x2 x3 x4 x5
  obtain ⟨vb, vo, vc, hvb, v0, hv⟩ := verbs_at HV1.out.verbs
  have v1c := hv 1 [108, 111, 97, 100] rfl
  rw [show verbsL.length = 10 from rfl] at v0
  have HVR := Lib.hid hv
  clear hv
  have HT := Lib.hid (show opT ⟨1, id, text, 0, 0, 0⟩ = [108, 111, 97, 100] ++ [32] ++ id ++ [32] ++ text by unfold opT; rw [HO.out]; rfl)
  have hs1 : ¬ 9223372036854775807 < 4 + 1 + id.length := by omega
  have hs2 : ¬ 9223372036854775807 < 4 + 1 + id.length + 1 := by omega
  have hs3 : ¬ 9223372036854775807 < 4 + 1 + id.length + 1 + text.length := by omega
  go_wp2
  go_ret
  refine ⟨ret_strQ ?_, B1.out⟩
  first | (rw [HT.out]; done) | (rw [HT.out]; simp [app_str])
set_option maxRecDepth 100000 in
set_option maxHeartbeats 2000000 in
theorem print2 {B : Nat} (id : Str) (w : World) (hi : id.length ≤ 16) (hV : VarsIn B w) (hB : B ≤ w.heap.size) (HO : Hid (opB ⟨2, id, [], 0, 0, 0⟩ = true)) :
    Calls Tryd.prog 8 #[.agg #[.int .i64 2, qs id, qs [], .int .i64 0, .int .i64 0, .int .i64 0]] w (StrQ (opT ⟨2, id, [], 0, 0, 0⟩) w) := by
  have hud : ∀ b : Bool, (undef = Value.bool b) = False := fun b => by simp [undef]
  obtain ⟨W, hW⟩ : ∃ W, w.alloc (.cells #[.int .i64 2, qs id, qs [], .int .i64 0, .int .i64 0, .int .i64 0] 24) = W := ⟨_, rfl⟩
  have b0 : Below w.heap.size w W := by rw [← hW]; exact (Below.refl _ _).alloc (Nat.le_refl _) _
  have L0 := Lib.hid (show W.heap[w.heap.size]? = some (.cells #[.int .i64 2, qs id, qs [], .int .i64 0, .int .i64 0, .int .i64 0] 24 (0, 0)) by rw [← hW]; exact heap_alloc_new _ _)
  have B0 := Lib.hid b0
  have HW := Lib.hid hW
  have HV := Lib.hid (hV.below (b0.mono hB))
  have HBW := Lib.hid (Nat.le_trans hB b0.size)
  clear hW b0 hV
  go_enter Tryd.func8, Tryd.ntmps8
  have x0 := (lies_cells L0.out).1 0
  have x1 := (lies_cells L0.out).1 1
  have x2 := (lies_cells L0.out).1 2
  have x3 := (lies_cells L0.out).1 3
  have x4 := (lies_cells L0.out).1 4
  have x5 := (lies_cells L0.out).1 5
  simp only [List.getElem?_toArray, List.getElem?_cons_zero, List.getElem?_cons_succ] at x0 x1 x2 x3 x4 x5
  go_wp2_with fail
  rw [show w.alloc (.cells #[.int .i64 2, qs id, qs [], .int .i64 0, .int .i64 0, .int .i64 0] 24) = W from HW.out]
  refine (valid_to (B := B) (o := ⟨2, id, [], 0, 0, 0⟩) HO.out (by show id.length ≤ _; omega) (by show ([] : Str).length ≤ _; simp) W HV.out HBW.out).mono ?_
  rintro e v1 ⟨rfl, b1⟩
  have B1 := Lib.hid (B0.out.trans (b1.mono B0.out.size))
  have L1 := Lib.hid (lies_below L0.out b1 (lt_heap L0.out))
  have HV1 := Lib.hid (HV.out.below (b1.mono HBW.out))
  have HB1 := Lib.hid (Nat.le_trans HBW.out b1.size)
  clear x0 x1 x2 x3 x4 x5 b1
  have x0 := (lies_cells L1.out).1 0
  have x1 := (lies_cells L1.out).1 1
  have x2 := (lies_cells L1.out).1 2
  have x3 := (lies_cells L1.out).1 3
  have x4 := (lies_cells L1.out).1 4
  have x5 := (lies_cells L1.out).1 5
  simp only [List.getElem?_toArray, List.getElem?_cons_zero, List.getElem?_cons_succ] at x0 x1 x2 x3 x4 x5
  obtain ⟨vb, vo, vc, hvb, v0, hv⟩ := verbs_at HV1.out.verbs
  have v1c := hv 2 [117, 110, 108, 111, 97, 100] rfl
  rw [show verbsL.length = 10 from rfl] at v0
  have HVR := Lib.hid hv
  clear hv
  have HT := Lib.hid (show opT ⟨2, id, [], 0, 0, 0⟩ = [117, 110, 108, 111, 97, 100] ++ [32] ++ id by unfold opT; rw [HO.out]; rfl)
  have hs1 : ¬ 9223372036854775807 < 6 + 1 + id.length := by omega
  go_wp2
  go_ret
  refine ⟨ret_strQ ?_, B1.out⟩
  first | (rw [HT.out]; done) | (rw [HT.out]; simp [app_str])
set_option maxRecDepth 100000 in
set_option maxHeartbeats 2000000 in
theorem print4 {B : Nat} (id : Str) (w : World) (hi : id.length ≤ 16) (hV : VarsIn B w) (hB : B ≤ w.heap.size) (HO : Hid (opB ⟨4, id, [], 0, 0, 0⟩ = true)) :
    Calls Tryd.prog 8 #[.agg #[.int .i64 4, qs id, qs [], .int .i64 0, .int .i64 0, .int .i64 0]] w (StrQ (opT ⟨4, id, [], 0, 0, 0⟩) w) := by
  have hud : ∀ b : Bool, (undef = Value.bool b) = False := fun b => by simp [undef]
  obtain ⟨W, hW⟩ : ∃ W, w.alloc (.cells #[.int .i64 4, qs id, qs [], .int .i64 0, .int .i64 0, .int .i64 0] 24) = W := ⟨_, rfl⟩
  have b0 : Below w.heap.size w W := by rw [← hW]; exact (Below.refl _ _).alloc (Nat.le_refl _) _
  have L0 := Lib.hid (show W.heap[w.heap.size]? = some (.cells #[.int .i64 4, qs id, qs [], .int .i64 0, .int .i64 0, .int .i64 0] 24 (0, 0)) by rw [← hW]; exact heap_alloc_new _ _)
  have B0 := Lib.hid b0
  have HW := Lib.hid hW
  have HV := Lib.hid (hV.below (b0.mono hB))
  have HBW := Lib.hid (Nat.le_trans hB b0.size)
  clear hW b0 hV
  go_enter Tryd.func8, Tryd.ntmps8
  have x0 := (lies_cells L0.out).1 0
  have x1 := (lies_cells L0.out).1 1
  have x2 := (lies_cells L0.out).1 2
  have x3 := (lies_cells L0.out).1 3
  have x4 := (lies_cells L0.out).1 4
  have x5 := (lies_cells L0.out).1 5
  simp only [List.getElem?_toArray, List.getElem?_cons_zero, List.getElem?_cons_succ] at x0 x1 x2 x3 x4 x5
  go_wp2_with fail
  rw [show w.alloc (.cells #[.int .i64 4, qs id, qs [], .int .i64 0, .int .i64 0, .int .i64 0] 24) = W from HW.out]
  refine (valid_to (B := B) (o := ⟨4, id, [], 0, 0, 0⟩) HO.out (by show id.length ≤ _; omega) (by show ([] : Str).length ≤ _; simp) W HV.out HBW.out).mono ?_
  rintro e v1 ⟨rfl, b1⟩
  have B1 := Lib.hid (B0.out.trans (b1.mono B0.out.size))
  have L1 := Lib.hid (lies_below L0.out b1 (lt_heap L0.out))
  have HV1 := Lib.hid (HV.out.below (b1.mono HBW.out))
  have HB1 := Lib.hid (Nat.le_trans HBW.out b1.size)
  clear x0 x1 x2 x3 x4 x5 b1
  have x0 := (lies_cells L1.out).1 0
  have x1 := (lies_cells L1.out).1 1
  have x2 := (lies_cells L1.out).1 2
  have x3 := (lies_cells L1.out).1 3
  have x4 := (lies_cells L1.out).1 4
  have x5 := (lies_cells L1.out).1 5
  simp only [List.getElem?_toArray, List.getElem?_cons_zero, List.getElem?_cons_succ] at x0 x1 x2 x3 x4 x5
  obtain ⟨vb, vo, vc, hvb, v0, hv⟩ := verbs_at HV1.out.verbs
  have v1c := hv 4 [99, 97, 110, 99, 101, 108] rfl
  rw [show verbsL.length = 10 from rfl] at v0
  have HVR := Lib.hid hv
  clear hv
  have HT := Lib.hid (show opT ⟨4, id, [], 0, 0, 0⟩ = [99, 97, 110, 99, 101, 108] ++ [32] ++ id by unfold opT; rw [HO.out]; rfl)
  have hs1 : ¬ 9223372036854775807 < 6 + 1 + id.length := by omega
  go_wp2
  go_ret
  refine ⟨ret_strQ ?_, B1.out⟩
  first | (rw [HT.out]; done) | (rw [HT.out]; simp [app_str])
set_option maxRecDepth 100000 in
set_option maxHeartbeats 2000000 in
theorem print6 {B : Nat} (id : Str) (w : World) (hi : id.length ≤ 16) (hV : VarsIn B w) (hB : B ≤ w.heap.size) (HO : Hid (opB ⟨6, id, [], 0, 0, 0⟩ = true)) :
    Calls Tryd.prog 8 #[.agg #[.int .i64 6, qs id, qs [], .int .i64 0, .int .i64 0, .int .i64 0]] w (StrQ (opT ⟨6, id, [], 0, 0, 0⟩) w) := by
  have hud : ∀ b : Bool, (undef = Value.bool b) = False := fun b => by simp [undef]
  obtain ⟨W, hW⟩ : ∃ W, w.alloc (.cells #[.int .i64 6, qs id, qs [], .int .i64 0, .int .i64 0, .int .i64 0] 24) = W := ⟨_, rfl⟩
  have b0 : Below w.heap.size w W := by rw [← hW]; exact (Below.refl _ _).alloc (Nat.le_refl _) _
  have L0 := Lib.hid (show W.heap[w.heap.size]? = some (.cells #[.int .i64 6, qs id, qs [], .int .i64 0, .int .i64 0, .int .i64 0] 24 (0, 0)) by rw [← hW]; exact heap_alloc_new _ _)
  have B0 := Lib.hid b0
  have HW := Lib.hid hW
  have HV := Lib.hid (hV.below (b0.mono hB))
  have HBW := Lib.hid (Nat.le_trans hB b0.size)
  clear hW b0 hV
  go_enter Tryd.func8, Tryd.ntmps8
  have x0 := (lies_cells L0.out).1 0
  have x1 := (lies_cells L0.out).1 1
  have x2 := (lies_cells L0.out).1 2
  have x3 := (lies_cells L0.out).1 3
  have x4 := (lies_cells L0.out).1 4
  have x5 := (lies_cells L0.out).1 5
  simp only [List.getElem?_toArray, List.getElem?_cons_zero, List.getElem?_cons_succ] at x0 x1 x2 x3 x4 x5
  go_wp2_with fail
  rw [show w.alloc (.cells #[.int .i64 6, qs id, qs [], .int .i64 0, .int .i64 0, .int .i64 0] 24) = W from HW.out]
  refine (valid_to (B := B) (o := ⟨6, id, [], 0, 0, 0⟩) HO.out (by show id.length ≤ _; omega) (by show ([] : Str).length ≤ _; simp) W HV.out HBW.out).mono ?_
  rintro e v1 ⟨rfl, b1⟩
  have B1 := Lib.hid (B0.out.trans (b1.mono B0.out.size))
  have L1 := Lib.hid (lies_below L0.out b1 (lt_heap L0.out))
  have HV1 := Lib.hid (HV.out.below (b1.mono HBW.out))
  have HB1 := Lib.hid (Nat.le_trans HBW.out b1.size)
  clear x0 x1 x2 x3 x4 x5 b1
  have x0 := (lies_cells L1.out).1 0
  have x1 := (lies_cells L1.out).1 1
  have x2 := (lies_cells L1.out).1 2
  have x3 := (lies_cells L1.out).1 3
  have x4 := (lies_cells L1.out).1 4
  have x5 := (lies_cells L1.out).1 5
  simp only [List.getElem?_toArray, List.getElem?_cons_zero, List.getElem?_cons_succ] at x0 x1 x2 x3 x4 x5
  obtain ⟨vb, vo, vc, hvb, v0, hv⟩ := verbs_at HV1.out.verbs
  have v1c := hv 6 [112, 111, 108, 108] rfl
  rw [show verbsL.length = 10 from rfl] at v0
  have HVR := Lib.hid hv
  clear hv
  have HT := Lib.hid (show opT ⟨6, id, [], 0, 0, 0⟩ = [112, 111, 108, 108] ++ [32] ++ id by unfold opT; rw [HO.out]; rfl)
  have hs1 : ¬ 9223372036854775807 < 4 + 1 + id.length := by omega
  go_wp2
  go_ret
  refine ⟨ret_strQ ?_, B1.out⟩
  first | (rw [HT.out]; done) | (rw [HT.out]; simp [app_str])
set_option maxRecDepth 100000 in
set_option maxHeartbeats 2000000 in
theorem print7 {B : Nat} (id : Str) (w : World) (hi : id.length ≤ 16) (hV : VarsIn B w) (hB : B ≤ w.heap.size) (HO : Hid (opB ⟨7, id, [], 0, 0, 0⟩ = true)) :
    Calls Tryd.prog 8 #[.agg #[.int .i64 7, qs id, qs [], .int .i64 0, .int .i64 0, .int .i64 0]] w (StrQ (opT ⟨7, id, [], 0, 0, 0⟩) w) := by
  have hud : ∀ b : Bool, (undef = Value.bool b) = False := fun b => by simp [undef]
  obtain ⟨W, hW⟩ : ∃ W, w.alloc (.cells #[.int .i64 7, qs id, qs [], .int .i64 0, .int .i64 0, .int .i64 0] 24) = W := ⟨_, rfl⟩
  have b0 : Below w.heap.size w W := by rw [← hW]; exact (Below.refl _ _).alloc (Nat.le_refl _) _
  have L0 := Lib.hid (show W.heap[w.heap.size]? = some (.cells #[.int .i64 7, qs id, qs [], .int .i64 0, .int .i64 0, .int .i64 0] 24 (0, 0)) by rw [← hW]; exact heap_alloc_new _ _)
  have B0 := Lib.hid b0
  have HW := Lib.hid hW
  have HV := Lib.hid (hV.below (b0.mono hB))
  have HBW := Lib.hid (Nat.le_trans hB b0.size)
  clear hW b0 hV
  go_enter Tryd.func8, Tryd.ntmps8
  have x0 := (lies_cells L0.out).1 0
  have x1 := (lies_cells L0.out).1 1
  have x2 := (lies_cells L0.out).1 2
  have x3 := (lies_cells L0.out).1 3
  have x4 := (lies_cells L0.out).1 4
  have x5 := (lies_cells L0.out).1 5
  simp only [List.getElem?_toArray, List.getElem?_cons_zero, List.getElem?_cons_succ] at x0 x1 x2 x3 x4 x5
  go_wp2_with fail
  rw [show w.alloc (.cells #[.int .i64 7, qs id, qs [], .int .i64 0, .int .i64 0, .int .i64 0] 24) = W from HW.out]
  refine (valid_to (B := B) (o := ⟨7, id, [], 0, 0, 0⟩) HO.out (by show id.length ≤ _; omega) (by show ([] : Str).length ≤ _; simp) W HV.out HBW.out).mono ?_
  rintro e v1 ⟨rfl, b1⟩
  have B1 := Lib.hid (B0.out.trans (b1.mono B0.out.size))
  have L1 := Lib.hid (lies_below L0.out b1 (lt_heap L0.out))
  have HV1 := Lib.hid (HV.out.below (b1.mono HBW.out))
  have HB1 := Lib.hid (Nat.le_trans HBW.out b1.size)
  clear x0 x1 x2 x3 x4 x5 b1
  have x0 := (lies_cells L1.out).1 0
  have x1 := (lies_cells L1.out).1 1
  have x2 := (lies_cells L1.out).1 2
  have x3 := (lies_cells L1.out).1 3
  have x4 := (lies_cells L1.out).1 4
  have x5 := (lies_cells L1.out).1 5
  simp only [List.getElem?_toArray, List.getElem?_cons_zero, List.getElem?_cons_succ] at x0 x1 x2 x3 x4 x5
  obtain ⟨vb, vo, vc, hvb, v0, hv⟩ := verbs_at HV1.out.verbs
  have v1c := hv 7 [102, 111, 114, 103, 101, 116] rfl
  rw [show verbsL.length = 10 from rfl] at v0
  have HVR := Lib.hid hv
  clear hv
  have HT := Lib.hid (show opT ⟨7, id, [], 0, 0, 0⟩ = [102, 111, 114, 103, 101, 116] ++ [32] ++ id by unfold opT; rw [HO.out]; rfl)
  have hs1 : ¬ 9223372036854775807 < 6 + 1 + id.length := by omega
  go_wp2
  go_ret
  refine ⟨ret_strQ ?_, B1.out⟩
  first | (rw [HT.out]; done) | (rw [HT.out]; simp [app_str])
set_option maxRecDepth 100000 in
set_option maxHeartbeats 2000000 in
theorem print9 {B : Nat}  (w : World)  (hV : VarsIn B w) (hB : B ≤ w.heap.size) (HO : Hid (opB ⟨9, [], [], 0, 0, 0⟩ = true)) :
    Calls Tryd.prog 8 #[.agg #[.int .i64 9, qs [], qs [], .int .i64 0, .int .i64 0, .int .i64 0]] w (StrQ (opT ⟨9, [], [], 0, 0, 0⟩) w) := by
  have hud : ∀ b : Bool, (undef = Value.bool b) = False := fun b => by simp [undef]
  obtain ⟨W, hW⟩ : ∃ W, w.alloc (.cells #[.int .i64 9, qs [], qs [], .int .i64 0, .int .i64 0, .int .i64 0] 24) = W := ⟨_, rfl⟩
  have b0 : Below w.heap.size w W := by rw [← hW]; exact (Below.refl _ _).alloc (Nat.le_refl _) _
  have L0 := Lib.hid (show W.heap[w.heap.size]? = some (.cells #[.int .i64 9, qs [], qs [], .int .i64 0, .int .i64 0, .int .i64 0] 24 (0, 0)) by rw [← hW]; exact heap_alloc_new _ _)
  have B0 := Lib.hid b0
  have HW := Lib.hid hW
  have HV := Lib.hid (hV.below (b0.mono hB))
  have HBW := Lib.hid (Nat.le_trans hB b0.size)
  clear hW b0 hV
  go_enter Tryd.func8, Tryd.ntmps8
  have x0 := (lies_cells L0.out).1 0
  have x1 := (lies_cells L0.out).1 1
  have x2 := (lies_cells L0.out).1 2
  have x3 := (lies_cells L0.out).1 3
  have x4 := (lies_cells L0.out).1 4
  have x5 := (lies_cells L0.out).1 5
  simp only [List.getElem?_toArray, List.getElem?_cons_zero, List.getElem?_cons_succ] at x0 x1 x2 x3 x4 x5
  go_wp2_with fail
  rw [show w.alloc (.cells #[.int .i64 9, qs [], qs [], .int .i64 0, .int .i64 0, .int .i64 0] 24) = W from HW.out]
  refine (valid_to (B := B) (o := ⟨9, [], [], 0, 0, 0⟩) HO.out (by show ([] : Str).length ≤ _; simp) (by show ([] : Str).length ≤ _; simp) W HV.out HBW.out).mono ?_
  rintro e v1 ⟨rfl, b1⟩
  have B1 := Lib.hid (B0.out.trans (b1.mono B0.out.size))
  have L1 := Lib.hid (lies_below L0.out b1 (lt_heap L0.out))
  have HV1 := Lib.hid (HV.out.below (b1.mono HBW.out))
  have HB1 := Lib.hid (Nat.le_trans HBW.out b1.size)
  clear x0 x1 x2 x3 x4 x5 b1
  have x0 := (lies_cells L1.out).1 0
  have x1 := (lies_cells L1.out).1 1
  have x2 := (lies_cells L1.out).1 2
  have x3 := (lies_cells L1.out).1 3
  have x4 := (lies_cells L1.out).1 4
  have x5 := (lies_cells L1.out).1 5
  simp only [List.getElem?_toArray, List.getElem?_cons_zero, List.getElem?_cons_succ] at x0 x1 x2 x3 x4 x5
  obtain ⟨vb, vo, vc, hvb, v0, hv⟩ := verbs_at HV1.out.verbs
  have v1c := hv 9 [115, 116, 97, 116, 115] rfl
  rw [show verbsL.length = 10 from rfl] at v0
  have HVR := Lib.hid hv
  clear hv
  have HT := Lib.hid (show opT ⟨9, [], [], 0, 0, 0⟩ = [115, 116, 97, 116, 115] by unfold opT; rw [HO.out]; rfl)
  go_wp2
  go_ret
  refine ⟨ret_strQ ?_, B1.out⟩
  first | (rw [HT.out]; done) | (rw [HT.out]; simp [app_str])
set_option maxRecDepth 100000 in
set_option maxHeartbeats 2000000 in
theorem print5 {B : Nat} (n : Nat) (w : World) (hn : n ≤ 1048576) (hV : VarsIn B w) (hB : B ≤ w.heap.size) (HO : Hid (opB ⟨5, [], [], 0, 0, n⟩ = true)) :
    Calls Tryd.prog 8 #[.agg #[.int .i64 5, qs [], qs [], .int .i64 0, .int .i64 0, .int .i64 n]] w (StrQ (opT ⟨5, [], [], 0, 0, n⟩) w) := by
  have hud : ∀ b : Bool, (undef = Value.bool b) = False := fun b => by simp [undef]
  obtain ⟨W, hW⟩ : ∃ W, w.alloc (.cells #[.int .i64 5, qs [], qs [], .int .i64 0, .int .i64 0, .int .i64 n] 24) = W := ⟨_, rfl⟩
  have b0 : Below w.heap.size w W := by rw [← hW]; exact (Below.refl _ _).alloc (Nat.le_refl _) _
  have L0 := Lib.hid (show W.heap[w.heap.size]? = some (.cells #[.int .i64 5, qs [], qs [], .int .i64 0, .int .i64 0, .int .i64 n] 24 (0, 0)) by rw [← hW]; exact heap_alloc_new _ _)
  have B0 := Lib.hid b0
  have HW := Lib.hid hW
  have HV := Lib.hid (hV.below (b0.mono hB))
  have HBW := Lib.hid (Nat.le_trans hB b0.size)
  clear hW b0 hV
  go_enter Tryd.func8, Tryd.ntmps8
  have x0 := (lies_cells L0.out).1 0
  have x1 := (lies_cells L0.out).1 1
  have x2 := (lies_cells L0.out).1 2
  have x3 := (lies_cells L0.out).1 3
  have x4 := (lies_cells L0.out).1 4
  have x5 := (lies_cells L0.out).1 5
  simp only [List.getElem?_toArray, List.getElem?_cons_zero, List.getElem?_cons_succ] at x0 x1 x2 x3 x4 x5
  go_wp2_with fail
  rw [show w.alloc (.cells #[.int .i64 5, qs [], qs [], .int .i64 0, .int .i64 0, .int .i64 n] 24) = W from HW.out]
  refine (valid_to (B := B) (o := ⟨5, [], [], 0, 0, n⟩) HO.out (by show ([] : Str).length ≤ _; simp) (by show ([] : Str).length ≤ _; simp) W HV.out HBW.out).mono ?_
  rintro e v1 ⟨rfl, b1⟩
  have B1 := Lib.hid (B0.out.trans (b1.mono B0.out.size))
  have L1 := Lib.hid (lies_below L0.out b1 (lt_heap L0.out))
  have HV1 := Lib.hid (HV.out.below (b1.mono HBW.out))
  have HB1 := Lib.hid (Nat.le_trans HBW.out b1.size)
  clear x0 x1 x2 x3 x4 x5 b1
  have x0 := (lies_cells L1.out).1 0
  have x1 := (lies_cells L1.out).1 1
  have x2 := (lies_cells L1.out).1 2
  have x3 := (lies_cells L1.out).1 3
  have x4 := (lies_cells L1.out).1 4
  have x5 := (lies_cells L1.out).1 5
  simp only [List.getElem?_toArray, List.getElem?_cons_zero, List.getElem?_cons_succ] at x0 x1 x2 x3 x4 x5
  obtain ⟨vb, vo, vc, hvb, v0, hv⟩ := verbs_at HV1.out.verbs
  have v1c := hv 5 [103, 114, 97, 110, 116] rfl
  rw [show verbsL.length = 10 from rfl] at v0
  have HVR := Lib.hid hv
  clear hv
  have HT := Lib.hid (show opT ⟨5, [], [], 0, 0, n⟩ = [103, 114, 97, 110, 116] ++ [32] ++ dec10 n by unfold opT; rw [HO.out]; rfl)
  go_wp2_with fail
  refine (itoa_any n (by omega) v1 HV1.out).mono ?_
  rintro e v2 ⟨rfl, b2⟩
  have B2 := Lib.hid (B1.out.trans (b2.mono B1.out.size))
  obtain ⟨d, hd⟩ : ∃ d, dec10 n = d := ⟨_, rfl⟩
  have hdl : d.length ≤ 20 := by rw [← hd]; exact dec10_le 20 (by omega) (by omega)
  rw [hd] at HT ⊢
  have hs1 : ¬ 9223372036854775807 < 5 + 1 + d.length := by omega
  clear b2 hd x0 x1 x2 x3 x4 x5 v0 v1c
  go_wp2
  go_ret
  refine ⟨ret_strQ ?_, B2.out⟩
  first | (rw [HT.out]; done) | (rw [HT.out]; simp [app_str])
set_option maxRecDepth 100000 in
set_option maxHeartbeats 2000000 in
theorem print8 {B : Nat} (n : Nat) (w : World) (hn : n ≤ 1048576) (hV : VarsIn B w) (hB : B ≤ w.heap.size) (HO : Hid (opB ⟨8, [], [], 0, 0, n⟩ = true)) :
    Calls Tryd.prog 8 #[.agg #[.int .i64 8, qs [], qs [], .int .i64 0, .int .i64 0, .int .i64 n]] w (StrQ (opT ⟨8, [], [], 0, 0, n⟩) w) := by
  have hud : ∀ b : Bool, (undef = Value.bool b) = False := fun b => by simp [undef]
  obtain ⟨W, hW⟩ : ∃ W, w.alloc (.cells #[.int .i64 8, qs [], qs [], .int .i64 0, .int .i64 0, .int .i64 n] 24) = W := ⟨_, rfl⟩
  have b0 : Below w.heap.size w W := by rw [← hW]; exact (Below.refl _ _).alloc (Nat.le_refl _) _
  have L0 := Lib.hid (show W.heap[w.heap.size]? = some (.cells #[.int .i64 8, qs [], qs [], .int .i64 0, .int .i64 0, .int .i64 n] 24 (0, 0)) by rw [← hW]; exact heap_alloc_new _ _)
  have B0 := Lib.hid b0
  have HW := Lib.hid hW
  have HV := Lib.hid (hV.below (b0.mono hB))
  have HBW := Lib.hid (Nat.le_trans hB b0.size)
  clear hW b0 hV
  go_enter Tryd.func8, Tryd.ntmps8
  have x0 := (lies_cells L0.out).1 0
  have x1 := (lies_cells L0.out).1 1
  have x2 := (lies_cells L0.out).1 2
  have x3 := (lies_cells L0.out).1 3
  have x4 := (lies_cells L0.out).1 4
  have x5 := (lies_cells L0.out).1 5
  simp only [List.getElem?_toArray, List.getElem?_cons_zero, List.getElem?_cons_succ] at x0 x1 x2 x3 x4 x5
  go_wp2_with fail
  rw [show w.alloc (.cells #[.int .i64 8, qs [], qs [], .int .i64 0, .int .i64 0, .int .i64 n] 24) = W from HW.out]
  refine (valid_to (B := B) (o := ⟨8, [], [], 0, 0, n⟩) HO.out (by show ([] : Str).length ≤ _; simp) (by show ([] : Str).length ≤ _; simp) W HV.out HBW.out).mono ?_
  rintro e v1 ⟨rfl, b1⟩
  have B1 := Lib.hid (B0.out.trans (b1.mono B0.out.size))
  have L1 := Lib.hid (lies_below L0.out b1 (lt_heap L0.out))
  have HV1 := Lib.hid (HV.out.below (b1.mono HBW.out))
  have HB1 := Lib.hid (Nat.le_trans HBW.out b1.size)
  clear x0 x1 x2 x3 x4 x5 b1
  have x0 := (lies_cells L1.out).1 0
  have x1 := (lies_cells L1.out).1 1
  have x2 := (lies_cells L1.out).1 2
  have x3 := (lies_cells L1.out).1 3
  have x4 := (lies_cells L1.out).1 4
  have x5 := (lies_cells L1.out).1 5
  simp only [List.getElem?_toArray, List.getElem?_cons_zero, List.getElem?_cons_succ] at x0 x1 x2 x3 x4 x5
  obtain ⟨vb, vo, vc, hvb, v0, hv⟩ := verbs_at HV1.out.verbs
  have v1c := hv 8 [101, 118, 105, 99, 116] rfl
  rw [show verbsL.length = 10 from rfl] at v0
  have HVR := Lib.hid hv
  clear hv
  have HT := Lib.hid (show opT ⟨8, [], [], 0, 0, n⟩ = [101, 118, 105, 99, 116] ++ [32] ++ dec10 n by unfold opT; rw [HO.out]; rfl)
  go_wp2_with fail
  refine (itoa_any n (by omega) v1 HV1.out).mono ?_
  rintro e v2 ⟨rfl, b2⟩
  have B2 := Lib.hid (B1.out.trans (b2.mono B1.out.size))
  obtain ⟨d, hd⟩ : ∃ d, dec10 n = d := ⟨_, rfl⟩
  have hdl : d.length ≤ 20 := by rw [← hd]; exact dec10_le 20 (by omega) (by omega)
  rw [hd] at HT ⊢
  have hs1 : ¬ 9223372036854775807 < 5 + 1 + d.length := by omega
  clear b2 hd x0 x1 x2 x3 x4 x5 v0 v1c
  go_wp2
  go_ret
  refine ⟨ret_strQ ?_, B2.out⟩
  first | (rw [HT.out]; done) | (rw [HT.out]; simp [app_str])
set_option maxRecDepth 100000 in
set_option maxHeartbeats 2000000 in
theorem print3 {B : Nat} (id text : Str) (a b c : Nat) (w : World) (hi : id.length ≤ 16) (ht : text.length ≤ 16) (ha : a < 4) (hb : b < 256) (hc : c < 4) (hV : VarsIn B w) (hB : B ≤ w.heap.size) (HO : Hid (opB ⟨3, id, text, (a : Int) + 1, b, c⟩ = true)) :
    Calls Tryd.prog 8 #[.agg #[.int .i64 3, qs id, qs text, .int .i64 ((a : Int) + 1), .int .i64 b, .int .i64 c]] w (StrQ (opT ⟨3, id, text, (a : Int) + 1, b, c⟩) w) := by
  have hud : ∀ b : Bool, (undef = Value.bool b) = False := fun b => by simp [undef]
  obtain ⟨W, hW⟩ : ∃ W, w.alloc (.cells #[.int .i64 3, qs id, qs text, .int .i64 ((a : Int) + 1), .int .i64 b, .int .i64 c] 24) = W := ⟨_, rfl⟩
  have b0 : Below w.heap.size w W := by rw [← hW]; exact (Below.refl _ _).alloc (Nat.le_refl _) _
  have L0 := Lib.hid (show W.heap[w.heap.size]? = some (.cells #[.int .i64 3, qs id, qs text, .int .i64 ((a : Int) + 1), .int .i64 b, .int .i64 c] 24 (0, 0)) by rw [← hW]; exact heap_alloc_new _ _)
  have B0 := Lib.hid b0
  have HW := Lib.hid hW
  have HV := Lib.hid (hV.below (b0.mono hB))
  have HBW := Lib.hid (Nat.le_trans hB b0.size)
  clear hW b0 hV
  go_enter Tryd.func8, Tryd.ntmps8
  have x0 := (lies_cells L0.out).1 0
  have x1 := (lies_cells L0.out).1 1
  have x2 := (lies_cells L0.out).1 2
  have x3 := (lies_cells L0.out).1 3
  have x4 := (lies_cells L0.out).1 4
  have x5 := (lies_cells L0.out).1 5
  simp only [List.getElem?_toArray, List.getElem?_cons_zero, List.getElem?_cons_succ] at x0 x1 x2 x3 x4 x5
  go_wp2_with fail
  rw [show w.alloc (.cells #[.int .i64 3, qs id, qs text, .int .i64 ((a : Int) + 1), .int .i64 b, .int .i64 c] 24) = W from HW.out]
  refine (valid_to (B := B) (o := ⟨3, id, text, (a : Int) + 1, b, c⟩) HO.out (by show id.length ≤ _; omega) (by show text.length ≤ _; omega) W HV.out HBW.out).mono ?_
  rintro e v1 ⟨rfl, b1⟩
  have B1 := Lib.hid (B0.out.trans (b1.mono B0.out.size))
  have L1 := Lib.hid (lies_below L0.out b1 (lt_heap L0.out))
  have HV1 := Lib.hid (HV.out.below (b1.mono HBW.out))
  have HB1 := Lib.hid (Nat.le_trans HBW.out b1.size)
  clear x0 x1 x2 x3 x4 x5 b1
  have x0 := (lies_cells L1.out).1 0
  have x1 := (lies_cells L1.out).1 1
  have x2 := (lies_cells L1.out).1 2
  have x3 := (lies_cells L1.out).1 3
  have x4 := (lies_cells L1.out).1 4
  have x5 := (lies_cells L1.out).1 5
  simp only [List.getElem?_toArray, List.getElem?_cons_zero, List.getElem?_cons_succ] at x0 x1 x2 x3 x4 x5
  obtain ⟨vb, vo, vc, hvb, v0, hv⟩ := verbs_at HV1.out.verbs
  have v1c := hv 3 [115, 117, 98, 109, 105, 116] rfl
  rw [show verbsL.length = 10 from rfl] at v0
  have HVR := Lib.hid hv
  clear hv
  obtain ⟨an, han⟩ : ∃ s, anasL[a + 1]? = some s := ⟨_, List.getElem?_eq_getElem (show a + 1 < anasL.length by show a + 1 < 5; omega)⟩
  obtain ⟨ab, ao, ac, hab, a0, hav⟩ := verbs_at HV1.out.anas
  have a1 := hav (a + 1) an han
  rw [show anasL.length = 5 from rfl] at a0
  have HT := Lib.hid (show opT ⟨3, id, text, (a : Int) + 1, b, c⟩ = Lib.join [[115, 117, 98, 109, 105, 116], id, text, an, dec10 b, dec10 c] [32] by
    unfold opT
    rw [HO.out]
    have : anaT ((a : Int) + 1) = an := by unfold anaT; rw [show ((a : Int) + 1).toNat = a + 1 by omega, han]; rfl
    simp [this, verbT, verbsL, Lib.join_cons, Lib.joinTail])
  have hal : an.length ≤ 6 := by
    have : ∀ k, k < 5 → ((anasL[k]?).getD []).length ≤ 6 := by decide
    have := this (a + 1) (by omega)
    rw [han] at this; exact this
  have hi1 : (0 : Int) ≤ (a : Int) + 1 := by omega
  have hi2 : (a : Int) + 1 < 5 := by omega
  have hi3 : ((a : Int) + 1).toNat = a + 1 := by omega
  have hvlt : ab < v1.heap.size := Nat.lt_of_lt_of_le hab HB1.out
  have hglt : 1 < v1.heap.size := Nat.lt_of_lt_of_le HV1.out.anas.1 HB1.out
  have HS : Hid (∀ w', Below v1.heap.size v1 w' → w'.cell? ⟨w.heap.size, 1, none⟩ = some (qs id) ∧ w'.cell? ⟨w.heap.size, 2, none⟩ = some (qs text) ∧ w'.cell? ⟨w.heap.size, 3, none⟩ = some (.int .i64 ((a : Int) + 1)) ∧ w'.cell? ⟨w.heap.size, 4, none⟩ = some (.int .i64 b) ∧ w'.cell? ⟨w.heap.size, 5, none⟩ = some (.int .i64 c) ∧ w'.cell? ⟨1, 0, none⟩ = some (.slice (some ⟨ab, ao, none⟩) 5 ac) ∧ w'.cell? ⟨ab, ao + (a + 1), none⟩ = some (qs an)) :=
    Lib.hid fun w' hbw => ⟨(hbw.cell (p := ⟨w.heap.size, 1, none⟩) (lt_heap L1.out)).trans x1, (hbw.cell (p := ⟨w.heap.size, 2, none⟩) (lt_heap L1.out)).trans x2, (hbw.cell (p := ⟨w.heap.size, 3, none⟩) (lt_heap L1.out)).trans x3, (hbw.cell (p := ⟨w.heap.size, 4, none⟩) (lt_heap L1.out)).trans x4, (hbw.cell (p := ⟨w.heap.size, 5, none⟩) (lt_heap L1.out)).trans x5, (hbw.cell (p := ⟨1, 0, none⟩) hglt).trans a0, (hbw.cell (p := ⟨ab, ao + (a + 1), none⟩) hvlt).trans a1⟩
  have F0 := Lib.hid (show Below v1.heap.size v1 v1.drew from (Below.refl _ _).drew)
  have HVB := Lib.hid (show ∀ w', Below v1.heap.size v1 w' → VarsIn B w' from fun w' hbw => HV1.out.below (hbw.mono HB1.out))
  obtain ⟨db, hdb⟩ : ∃ d, dec10 b = d := ⟨_, rfl⟩
  obtain ⟨dc, hdc⟩ : ∃ d, dec10 c = d := ⟨_, rfl⟩
  have hbl : db.length ≤ 3 := by rw [← hdb]; exact dec10_le 3 (by omega) (by omega)
  have hcl : dc.length ≤ 1 := by rw [← hdc]; exact dec10_le 1 (by omega) (by omega)
  rw [hdb, hdc] at HT
  have HDB := Lib.hid hdb
  have HDC := Lib.hid hdc
  clear hdb hdc han hav
  go_wp2_with fail
  go_region_held3 (fun w' => w'.cell? ⟨w.heap.size, 1, none⟩ = some (qs id) ∧ w'.cell? ⟨w.heap.size, 2, none⟩ = some (qs text) ∧ w'.cell? ⟨w.heap.size, 3, none⟩ = some (.int .i64 ((a : Int) + 1)) ∧ w'.cell? ⟨w.heap.size, 4, none⟩ = some (.int .i64 b) ∧ w'.cell? ⟨w.heap.size, 5, none⟩ = some (.int .i64 c) ∧ w'.cell? ⟨1, 0, none⟩ = some (.slice (some ⟨ab, ao, none⟩) 5 ac) ∧ w'.cell? ⟨ab, ao + (a + 1), none⟩ = some (qs an)) (first | exact HS.out _ F3.out | exact HS.out _ (F2.out.alloc F2.out.size _) | exact HS.out _ F2.out | exact HS.out _ F1.out | exact HS.out _ F0.out | exact HS.out _ (Below.refl _ _) | go_keep) (first | (go_at_call 20; ((with_reducible refine (itoa_to (B := B) HDB.out (by omega) v1.drew (HVB.out _ F0.out)).mono ?_)); go_must (rintro e z1 ⟨rfl, b⟩; have F1 := Lib.hid (F0.out.trans (b.mono F0.out.size)); clear b)) | (go_at_call 20; ((with_reducible refine (itoa_to (B := B) HDC.out (by omega) z1 (HVB.out _ F1.out)).mono ?_)); go_must (rintro e z2 ⟨rfl, b⟩; have F2 := Lib.hid (F1.out.trans (b.mono F1.out.size)); clear b)) | (go_at_call 19; (refine (join6 z2 [115, 117, 98, 109, 105, 116] id text an db dc (by simp; omega)).mono ?_); go_must (rintro e z3 ⟨rfl, b⟩; have F3 := Lib.hid (F2.out.trans (b.mono F2.out.size)); clear b)))
  all_goals
    go_wp2
    go_ret
    refine ⟨?_, B1.out.trans (F3.out.mono B1.out.size)⟩
    rw [HT.out]
    rfl
/-- The line of an operation. -/
theorem print_any {B : Nat} (o : POp) (hi : o.id.length ≤ 9223372036854775807) (ht : o.text.length ≤ 9223372036854775807) (w : World) (hV : VarsIn B w) (hB : B ≤ w.heap.size) : Calls Tryd.prog 8 #[opV o] w (StrQ (opT o) w) := by
  rcases Bool.eq_false_or_eq_true (opB o) with h | h
  · have HO := Lib.hid h
    rcases op_cases h with ⟨id, text, rfl, h1, h2⟩ | ⟨k, id, hk, rfl, h1⟩ | ⟨id, text, a, b, c, rfl, h1, h2, ha, hb, hc⟩ | ⟨k, n, hk, rfl, hn⟩ | rfl
    · exact print1 id text w (name_len h1) (textB_len h2) hV hB HO
    · rcases hk with rfl | rfl | rfl | rfl
      · exact print2 id w (name_len h1) hV hB HO
      · exact print4 id w (name_len h1) hV hB HO
      · exact print6 id w (name_len h1) hV hB HO
      · exact print7 id w (name_len h1) hV hB HO
    · exact print3 id text a b c w (name_len h1) (name_len h2) ha hb hc hV hB HO
    · rcases hk with rfl | rfl
      · exact print5 n w hn hV hB HO
      · exact print8 n w hn hV hB HO
    · exact print9 w hV hB HO
  · rw [opT_no h]
    exact print_no o.kind o.id o.text o.ana o.node o.n hi ht w hV hB (Lib.hid h)
end Go.Proofs.YtgmlnbheceeklaaDoor
