/- Walk: script.Valid. Printed by wip/gen_scw3.py. -/
import Derived.Test.YtgmlnbheceeklaaDoorScW2
import Derived.RegionTactic
set_option linter.unusedVariables false
set_option linter.unusedSimpArgs false
set_option linter.unusedSectionVars false
namespace Go.Proofs.YtgmlnbheceeklaaDoor
open Go.RowKit
variable [Base]

abbrev opV (o : POp) : Value := .agg #[.int .i64 o.kind, qs o.id, qs o.text, .int .i64 o.ana, .int .i64 o.node, .int .i64 o.n]
theorem name_to {l : Str} {d : Bool} (h : nameB l = d) (w : World) (KW : KwAt w) : Calls Tryd.prog 27 #[qs l] w (fun e w' => e = .returned (.bool d) ∧ ∃ k, w' = w.drewN k) := h ▸ isname_any ⟨l.toArray⟩ w KW
theorem text_to {l : Str} {d : Bool} (h : textB l = d) (hl : l.length ≤ 9223372036854775807) (w : World) : Calls Tryd.prog 28 #[qs l] w (fun e w' => e = .returned (.bool d) ∧ w = w') :=
  h ▸ (loadable_any ⟨l.toArray⟩ (by rw [size_str]; exact hl) w).mono fun _ _ k => ⟨k.1, k.2.symm⟩
theorem range_to {n a b : Int} {d : Bool} (h : rangeB n a b = d) (w : World) : Calls Tryd.prog 29 #[.int .i64 n, .int .i64 a, .int .i64 b] w (fun e w' => e = .returned (.bool d) ∧ w = w') := h ▸ (between_any n a b w).mono fun _ _ k => ⟨k.1, k.2.symm⟩
theorem bel0 {B : Nat} {w : World} (h : B ≤ w.heap.size) (a b : Obj) : Below B w ((w.alloc a).alloc b) := ((Below.refl B w).alloc h a).alloc (by simp; omega) b
theorem bel1 {B : Nat} {w : World} (h : B ≤ w.heap.size) (a b : Obj) : Below B w ((w.alloc a).alloc b).drew := (bel0 h a b).drew
theorem bel3 {B : Nat} {w : World} (h : B ≤ w.heap.size) (a b : Obj) (n : Nat) : Below B w (((w.alloc a).alloc b).drew.drewN n) := below_drewQ (bel1 h a b) n
theorem bel4 {B : Nat} {w : World} (h : B ≤ w.heap.size) (a b : Obj) (n m : Nat) : Below B w ((((w.alloc a).alloc b).drew.drewN n).drewN m) := below_drewQ (bel3 h a b n) m
theorem bel2 {B : Nat} {w : World} (h : B ≤ w.heap.size) (a b : Obj) (n : Nat) : Below B w (((w.alloc a).alloc b).drewN n) := below_drewQ ((((Below.refl B w).alloc h a)).alloc (by simp; omega) b) n
theorem bel2' {B : Nat} {w : World} (h : B ≤ w.heap.size) (a b : Obj) (n m : Nat) : Below B w ((((w.alloc a).alloc b).drewN n).drewN m) := below_drewQ (bel2 h a b n) m
set_option maxHeartbeats 2000000 in
theorem valid1_any {B : Nat} (id text : Str) (ana node n : Int) (hid : id.length ≤ 9223372036854775807) (ht : text.length ≤ 9223372036854775807) (w : World) (hV : VarsIn B w) (hB : B ≤ w.heap.size) :
    Calls Tryd.prog 11 #[.agg #[.int .i64 1, qs id, qs text, .int .i64 ana, .int .i64 node, .int .i64 n]] w (BoolQ (nameB id && textB text && (decide (ana = 0) && decide (node = 0) && decide (n = 0))) w) := by
  have hud : ∀ b : Bool, (undef = Value.bool b) = False := fun b => by simp [undef]
  have HV := Lib.hid hV
  clear hV
  obtain ⟨d0, hd0⟩ : ∃ d, nameB id = d := ⟨_, rfl⟩
  obtain ⟨d1, hd1⟩ : ∃ d, textB text = d := ⟨_, rfl⟩
  rw [hd0, hd1]
  have HD0 := Lib.hid hd0
  have HD1 := Lib.hid hd1
  clear hd0 hd1
  cases d0
  · go_enter Tryd.func11, Tryd.ntmps11
    go_wp2_with fail
    go_region
    all_goals
      go_wp2_with (first | (go_at_call 27; ((with_reducible refine (name_to (l := id) HD0.out _ (HV.out.kw.at_ (by first | exact bel0 hB _ _ | exact bel1 hB _ _ | exact bel2 hB _ _ _ | exact bel3 hB _ _ _ | exact bel2' hB _ _ _ _ | exact bel4 hB _ _ _ _))).mono ?_)); go_must (rintro e w' ⟨rfl, k0, rfl⟩)) | (go_at_call 28; ((with_reducible refine (text_to (l := text) HD1.out ht _).mono ?_)); go_must (rintro e w' ⟨rfl, rfl⟩)))
      go_ret
      refine ⟨ret_bool (by simp), ?_⟩
      first | exact bel0 (Nat.le_refl _) _ _ | exact bel1 (Nat.le_refl _) _ _ | exact bel2 (Nat.le_refl _) _ _ _ | exact bel3 (Nat.le_refl _) _ _ _ | exact bel2' (Nat.le_refl _) _ _ _ _ | exact bel4 (Nat.le_refl _) _ _ _ _
  cases d1
  · go_enter Tryd.func11, Tryd.ntmps11
    go_wp2_with fail
    go_region
    all_goals
      go_wp2_with (first | (go_at_call 27; ((with_reducible refine (name_to (l := id) HD0.out _ (HV.out.kw.at_ (by first | exact bel0 hB _ _ | exact bel1 hB _ _ | exact bel2 hB _ _ _ | exact bel3 hB _ _ _ | exact bel2' hB _ _ _ _ | exact bel4 hB _ _ _ _))).mono ?_)); go_must (rintro e w' ⟨rfl, k0, rfl⟩)) | (go_at_call 28; ((with_reducible refine (text_to (l := text) HD1.out ht _).mono ?_)); go_must (rintro e w' ⟨rfl, rfl⟩)))
      go_ret
      refine ⟨ret_bool (by simp), ?_⟩
      first | exact bel0 (Nat.le_refl _) _ _ | exact bel1 (Nat.le_refl _) _ _ | exact bel2 (Nat.le_refl _) _ _ _ | exact bel3 (Nat.le_refl _) _ _ _ | exact bel2' (Nat.le_refl _) _ _ _ _ | exact bel4 (Nat.le_refl _) _ _ _ _
  by_cases zana : ana = 0
  rotate_left
  · have e1 : (ana == 0) = false := by simpa using zana
    have e3 : (0 == ana) = false := by rw [beq_eq_false_iff_ne]; exact fun h => zana h.symm
    have e2 : decide (ana = 0) = false := by simpa using zana
    rw [e2]
    clear zana e2
    go_enter Tryd.func11, Tryd.ntmps11
    go_wp2_with fail
    go_region
    all_goals
      go_wp2_with (first | (go_at_call 27; ((with_reducible refine (name_to (l := id) HD0.out _ (HV.out.kw.at_ (by first | exact bel0 hB _ _ | exact bel1 hB _ _ | exact bel2 hB _ _ _ | exact bel3 hB _ _ _ | exact bel2' hB _ _ _ _ | exact bel4 hB _ _ _ _))).mono ?_)); go_must (rintro e w' ⟨rfl, k0, rfl⟩)) | (go_at_call 28; ((with_reducible refine (text_to (l := text) HD1.out ht _).mono ?_)); go_must (rintro e w' ⟨rfl, rfl⟩)))
      go_ret
      refine ⟨ret_bool (by simp), ?_⟩
      first | exact bel0 (Nat.le_refl _) _ _ | exact bel1 (Nat.le_refl _) _ _ | exact bel2 (Nat.le_refl _) _ _ _ | exact bel3 (Nat.le_refl _) _ _ _ | exact bel2' (Nat.le_refl _) _ _ _ _ | exact bel4 (Nat.le_refl _) _ _ _ _
  subst zana
  by_cases znode : node = 0
  rotate_left
  · have e1 : (node == 0) = false := by simpa using znode
    have e3 : (0 == node) = false := by rw [beq_eq_false_iff_ne]; exact fun h => znode h.symm
    have e2 : decide (node = 0) = false := by simpa using znode
    rw [e2]
    clear znode e2
    go_enter Tryd.func11, Tryd.ntmps11
    go_wp2_with fail
    go_region
    all_goals
      go_wp2_with (first | (go_at_call 27; ((with_reducible refine (name_to (l := id) HD0.out _ (HV.out.kw.at_ (by first | exact bel0 hB _ _ | exact bel1 hB _ _ | exact bel2 hB _ _ _ | exact bel3 hB _ _ _ | exact bel2' hB _ _ _ _ | exact bel4 hB _ _ _ _))).mono ?_)); go_must (rintro e w' ⟨rfl, k0, rfl⟩)) | (go_at_call 28; ((with_reducible refine (text_to (l := text) HD1.out ht _).mono ?_)); go_must (rintro e w' ⟨rfl, rfl⟩)))
      go_ret
      refine ⟨ret_bool (by simp), ?_⟩
      first | exact bel0 (Nat.le_refl _) _ _ | exact bel1 (Nat.le_refl _) _ _ | exact bel2 (Nat.le_refl _) _ _ _ | exact bel3 (Nat.le_refl _) _ _ _ | exact bel2' (Nat.le_refl _) _ _ _ _ | exact bel4 (Nat.le_refl _) _ _ _ _
  subst znode
  by_cases zn : n = 0
  rotate_left
  · have e1 : (n == 0) = false := by simpa using zn
    have e3 : (0 == n) = false := by rw [beq_eq_false_iff_ne]; exact fun h => zn h.symm
    have e2 : decide (n = 0) = false := by simpa using zn
    rw [e2]
    clear zn e2
    go_enter Tryd.func11, Tryd.ntmps11
    go_wp2_with fail
    go_region
    all_goals
      go_wp2_with (first | (go_at_call 27; ((with_reducible refine (name_to (l := id) HD0.out _ (HV.out.kw.at_ (by first | exact bel0 hB _ _ | exact bel1 hB _ _ | exact bel2 hB _ _ _ | exact bel3 hB _ _ _ | exact bel2' hB _ _ _ _ | exact bel4 hB _ _ _ _))).mono ?_)); go_must (rintro e w' ⟨rfl, k0, rfl⟩)) | (go_at_call 28; ((with_reducible refine (text_to (l := text) HD1.out ht _).mono ?_)); go_must (rintro e w' ⟨rfl, rfl⟩)))
      go_ret
      refine ⟨ret_bool (by simp), ?_⟩
      first | exact bel0 (Nat.le_refl _) _ _ | exact bel1 (Nat.le_refl _) _ _ | exact bel2 (Nat.le_refl _) _ _ _ | exact bel3 (Nat.le_refl _) _ _ _ | exact bel2' (Nat.le_refl _) _ _ _ _ | exact bel4 (Nat.le_refl _) _ _ _ _
  subst zn
  go_enter Tryd.func11, Tryd.ntmps11
  go_wp2_with fail
  go_region
  all_goals
    go_wp2_with (first | (go_at_call 27; ((with_reducible refine (name_to (l := id) HD0.out _ (HV.out.kw.at_ (by first | exact bel0 hB _ _ | exact bel1 hB _ _ | exact bel2 hB _ _ _ | exact bel3 hB _ _ _ | exact bel2' hB _ _ _ _ | exact bel4 hB _ _ _ _))).mono ?_)); go_must (rintro e w' ⟨rfl, k0, rfl⟩)) | (go_at_call 28; ((with_reducible refine (text_to (l := text) HD1.out ht _).mono ?_)); go_must (rintro e w' ⟨rfl, rfl⟩)))
    go_ret
    refine ⟨ret_bool (by simp), ?_⟩
    first | exact bel0 (Nat.le_refl _) _ _ | exact bel1 (Nat.le_refl _) _ _ | exact bel2 (Nat.le_refl _) _ _ _ | exact bel3 (Nat.le_refl _) _ _ _ | exact bel2' (Nat.le_refl _) _ _ _ _ | exact bel4 (Nat.le_refl _) _ _ _ _
set_option maxHeartbeats 2000000 in
theorem valid2_any {B : Nat} (id text : Str) (ana node n : Int) (hid : id.length ≤ 9223372036854775807) (ht : text.length ≤ 9223372036854775807) (w : World) (hV : VarsIn B w) (hB : B ≤ w.heap.size) :
    Calls Tryd.prog 11 #[.agg #[.int .i64 2, qs id, qs text, .int .i64 ana, .int .i64 node, .int .i64 n]] w (BoolQ (nameB id && (decide (text = []) && decide (ana = 0) && decide (node = 0) && decide (n = 0))) w) := by
  have hud : ∀ b : Bool, (undef = Value.bool b) = False := fun b => by simp [undef]
  have HV := Lib.hid hV
  clear hV
  obtain ⟨d0, hd0⟩ : ∃ d, nameB id = d := ⟨_, rfl⟩
  rw [hd0]
  have HD0 := Lib.hid hd0
  clear hd0
  cases d0
  · go_enter Tryd.func11, Tryd.ntmps11
    go_wp2_with (first | (go_at_call 27; ((with_reducible refine (name_to (l := id) HD0.out _ (HV.out.kw.at_ (by first | exact bel0 hB _ _ | exact bel1 hB _ _ | exact bel2 hB _ _ _ | exact bel3 hB _ _ _ | exact bel2' hB _ _ _ _ | exact bel4 hB _ _ _ _))).mono ?_)); go_must (rintro e w' ⟨rfl, k0, rfl⟩)))
    go_ret
    refine ⟨ret_bool (by simp), ?_⟩
    first | exact bel0 (Nat.le_refl _) _ _ | exact bel1 (Nat.le_refl _) _ _ | exact bel2 (Nat.le_refl _) _ _ _ | exact bel3 (Nat.le_refl _) _ _ _ | exact bel2' (Nat.le_refl _) _ _ _ _ | exact bel4 (Nat.le_refl _) _ _ _ _
  by_cases ztext : text = []
  rotate_left
  · have e1 : (text == []) = false := by simpa using ztext
    have e3 : ([] == text) = false := by rw [beq_eq_false_iff_ne]; exact fun h => ztext h.symm
    have e2 : decide (text = []) = false := by simpa using ztext
    rw [e2]
    clear ztext e2
    go_enter Tryd.func11, Tryd.ntmps11
    go_wp2_with (first | (go_at_call 27; ((with_reducible refine (name_to (l := id) HD0.out _ (HV.out.kw.at_ (by first | exact bel0 hB _ _ | exact bel1 hB _ _ | exact bel2 hB _ _ _ | exact bel3 hB _ _ _ | exact bel2' hB _ _ _ _ | exact bel4 hB _ _ _ _))).mono ?_)); go_must (rintro e w' ⟨rfl, k0, rfl⟩)))
    go_ret
    refine ⟨ret_bool (by simp), ?_⟩
    first | exact bel0 (Nat.le_refl _) _ _ | exact bel1 (Nat.le_refl _) _ _ | exact bel2 (Nat.le_refl _) _ _ _ | exact bel3 (Nat.le_refl _) _ _ _ | exact bel2' (Nat.le_refl _) _ _ _ _ | exact bel4 (Nat.le_refl _) _ _ _ _
  subst ztext
  by_cases zana : ana = 0
  rotate_left
  · have e1 : (ana == 0) = false := by simpa using zana
    have e3 : (0 == ana) = false := by rw [beq_eq_false_iff_ne]; exact fun h => zana h.symm
    have e2 : decide (ana = 0) = false := by simpa using zana
    rw [e2]
    clear zana e2
    go_enter Tryd.func11, Tryd.ntmps11
    go_wp2_with (first | (go_at_call 27; ((with_reducible refine (name_to (l := id) HD0.out _ (HV.out.kw.at_ (by first | exact bel0 hB _ _ | exact bel1 hB _ _ | exact bel2 hB _ _ _ | exact bel3 hB _ _ _ | exact bel2' hB _ _ _ _ | exact bel4 hB _ _ _ _))).mono ?_)); go_must (rintro e w' ⟨rfl, k0, rfl⟩)))
    go_ret
    refine ⟨ret_bool (by simp), ?_⟩
    first | exact bel0 (Nat.le_refl _) _ _ | exact bel1 (Nat.le_refl _) _ _ | exact bel2 (Nat.le_refl _) _ _ _ | exact bel3 (Nat.le_refl _) _ _ _ | exact bel2' (Nat.le_refl _) _ _ _ _ | exact bel4 (Nat.le_refl _) _ _ _ _
  subst zana
  by_cases znode : node = 0
  rotate_left
  · have e1 : (node == 0) = false := by simpa using znode
    have e3 : (0 == node) = false := by rw [beq_eq_false_iff_ne]; exact fun h => znode h.symm
    have e2 : decide (node = 0) = false := by simpa using znode
    rw [e2]
    clear znode e2
    go_enter Tryd.func11, Tryd.ntmps11
    go_wp2_with (first | (go_at_call 27; ((with_reducible refine (name_to (l := id) HD0.out _ (HV.out.kw.at_ (by first | exact bel0 hB _ _ | exact bel1 hB _ _ | exact bel2 hB _ _ _ | exact bel3 hB _ _ _ | exact bel2' hB _ _ _ _ | exact bel4 hB _ _ _ _))).mono ?_)); go_must (rintro e w' ⟨rfl, k0, rfl⟩)))
    go_ret
    refine ⟨ret_bool (by simp), ?_⟩
    first | exact bel0 (Nat.le_refl _) _ _ | exact bel1 (Nat.le_refl _) _ _ | exact bel2 (Nat.le_refl _) _ _ _ | exact bel3 (Nat.le_refl _) _ _ _ | exact bel2' (Nat.le_refl _) _ _ _ _ | exact bel4 (Nat.le_refl _) _ _ _ _
  subst znode
  by_cases zn : n = 0
  rotate_left
  · have e1 : (n == 0) = false := by simpa using zn
    have e3 : (0 == n) = false := by rw [beq_eq_false_iff_ne]; exact fun h => zn h.symm
    have e2 : decide (n = 0) = false := by simpa using zn
    rw [e2]
    clear zn e2
    go_enter Tryd.func11, Tryd.ntmps11
    go_wp2_with (first | (go_at_call 27; ((with_reducible refine (name_to (l := id) HD0.out _ (HV.out.kw.at_ (by first | exact bel0 hB _ _ | exact bel1 hB _ _ | exact bel2 hB _ _ _ | exact bel3 hB _ _ _ | exact bel2' hB _ _ _ _ | exact bel4 hB _ _ _ _))).mono ?_)); go_must (rintro e w' ⟨rfl, k0, rfl⟩)))
    go_ret
    refine ⟨ret_bool (by simp), ?_⟩
    first | exact bel0 (Nat.le_refl _) _ _ | exact bel1 (Nat.le_refl _) _ _ | exact bel2 (Nat.le_refl _) _ _ _ | exact bel3 (Nat.le_refl _) _ _ _ | exact bel2' (Nat.le_refl _) _ _ _ _ | exact bel4 (Nat.le_refl _) _ _ _ _
  subst zn
  go_enter Tryd.func11, Tryd.ntmps11
  go_wp2_with (first | (go_at_call 27; ((with_reducible refine (name_to (l := id) HD0.out _ (HV.out.kw.at_ (by first | exact bel0 hB _ _ | exact bel1 hB _ _ | exact bel2 hB _ _ _ | exact bel3 hB _ _ _ | exact bel2' hB _ _ _ _ | exact bel4 hB _ _ _ _))).mono ?_)); go_must (rintro e w' ⟨rfl, k0, rfl⟩)))
  go_ret
  refine ⟨ret_bool (by simp), ?_⟩
  first | exact bel0 (Nat.le_refl _) _ _ | exact bel1 (Nat.le_refl _) _ _ | exact bel2 (Nat.le_refl _) _ _ _ | exact bel3 (Nat.le_refl _) _ _ _ | exact bel2' (Nat.le_refl _) _ _ _ _ | exact bel4 (Nat.le_refl _) _ _ _ _
set_option maxHeartbeats 2000000 in
theorem valid4_any {B : Nat} (id text : Str) (ana node n : Int) (hid : id.length ≤ 9223372036854775807) (ht : text.length ≤ 9223372036854775807) (w : World) (hV : VarsIn B w) (hB : B ≤ w.heap.size) :
    Calls Tryd.prog 11 #[.agg #[.int .i64 4, qs id, qs text, .int .i64 ana, .int .i64 node, .int .i64 n]] w (BoolQ (nameB id && (decide (text = []) && decide (ana = 0) && decide (node = 0) && decide (n = 0))) w) := by
  have hud : ∀ b : Bool, (undef = Value.bool b) = False := fun b => by simp [undef]
  have HV := Lib.hid hV
  clear hV
  obtain ⟨d0, hd0⟩ : ∃ d, nameB id = d := ⟨_, rfl⟩
  rw [hd0]
  have HD0 := Lib.hid hd0
  clear hd0
  cases d0
  · go_enter Tryd.func11, Tryd.ntmps11
    go_wp2_with (first | (go_at_call 27; ((with_reducible refine (name_to (l := id) HD0.out _ (HV.out.kw.at_ (by first | exact bel0 hB _ _ | exact bel1 hB _ _ | exact bel2 hB _ _ _ | exact bel3 hB _ _ _ | exact bel2' hB _ _ _ _ | exact bel4 hB _ _ _ _))).mono ?_)); go_must (rintro e w' ⟨rfl, k0, rfl⟩)))
    go_ret
    refine ⟨ret_bool (by simp), ?_⟩
    first | exact bel0 (Nat.le_refl _) _ _ | exact bel1 (Nat.le_refl _) _ _ | exact bel2 (Nat.le_refl _) _ _ _ | exact bel3 (Nat.le_refl _) _ _ _ | exact bel2' (Nat.le_refl _) _ _ _ _ | exact bel4 (Nat.le_refl _) _ _ _ _
  by_cases ztext : text = []
  rotate_left
  · have e1 : (text == []) = false := by simpa using ztext
    have e3 : ([] == text) = false := by rw [beq_eq_false_iff_ne]; exact fun h => ztext h.symm
    have e2 : decide (text = []) = false := by simpa using ztext
    rw [e2]
    clear ztext e2
    go_enter Tryd.func11, Tryd.ntmps11
    go_wp2_with (first | (go_at_call 27; ((with_reducible refine (name_to (l := id) HD0.out _ (HV.out.kw.at_ (by first | exact bel0 hB _ _ | exact bel1 hB _ _ | exact bel2 hB _ _ _ | exact bel3 hB _ _ _ | exact bel2' hB _ _ _ _ | exact bel4 hB _ _ _ _))).mono ?_)); go_must (rintro e w' ⟨rfl, k0, rfl⟩)))
    go_ret
    refine ⟨ret_bool (by simp), ?_⟩
    first | exact bel0 (Nat.le_refl _) _ _ | exact bel1 (Nat.le_refl _) _ _ | exact bel2 (Nat.le_refl _) _ _ _ | exact bel3 (Nat.le_refl _) _ _ _ | exact bel2' (Nat.le_refl _) _ _ _ _ | exact bel4 (Nat.le_refl _) _ _ _ _
  subst ztext
  by_cases zana : ana = 0
  rotate_left
  · have e1 : (ana == 0) = false := by simpa using zana
    have e3 : (0 == ana) = false := by rw [beq_eq_false_iff_ne]; exact fun h => zana h.symm
    have e2 : decide (ana = 0) = false := by simpa using zana
    rw [e2]
    clear zana e2
    go_enter Tryd.func11, Tryd.ntmps11
    go_wp2_with (first | (go_at_call 27; ((with_reducible refine (name_to (l := id) HD0.out _ (HV.out.kw.at_ (by first | exact bel0 hB _ _ | exact bel1 hB _ _ | exact bel2 hB _ _ _ | exact bel3 hB _ _ _ | exact bel2' hB _ _ _ _ | exact bel4 hB _ _ _ _))).mono ?_)); go_must (rintro e w' ⟨rfl, k0, rfl⟩)))
    go_ret
    refine ⟨ret_bool (by simp), ?_⟩
    first | exact bel0 (Nat.le_refl _) _ _ | exact bel1 (Nat.le_refl _) _ _ | exact bel2 (Nat.le_refl _) _ _ _ | exact bel3 (Nat.le_refl _) _ _ _ | exact bel2' (Nat.le_refl _) _ _ _ _ | exact bel4 (Nat.le_refl _) _ _ _ _
  subst zana
  by_cases znode : node = 0
  rotate_left
  · have e1 : (node == 0) = false := by simpa using znode
    have e3 : (0 == node) = false := by rw [beq_eq_false_iff_ne]; exact fun h => znode h.symm
    have e2 : decide (node = 0) = false := by simpa using znode
    rw [e2]
    clear znode e2
    go_enter Tryd.func11, Tryd.ntmps11
    go_wp2_with (first | (go_at_call 27; ((with_reducible refine (name_to (l := id) HD0.out _ (HV.out.kw.at_ (by first | exact bel0 hB _ _ | exact bel1 hB _ _ | exact bel2 hB _ _ _ | exact bel3 hB _ _ _ | exact bel2' hB _ _ _ _ | exact bel4 hB _ _ _ _))).mono ?_)); go_must (rintro e w' ⟨rfl, k0, rfl⟩)))
    go_ret
    refine ⟨ret_bool (by simp), ?_⟩
    first | exact bel0 (Nat.le_refl _) _ _ | exact bel1 (Nat.le_refl _) _ _ | exact bel2 (Nat.le_refl _) _ _ _ | exact bel3 (Nat.le_refl _) _ _ _ | exact bel2' (Nat.le_refl _) _ _ _ _ | exact bel4 (Nat.le_refl _) _ _ _ _
  subst znode
  by_cases zn : n = 0
  rotate_left
  · have e1 : (n == 0) = false := by simpa using zn
    have e3 : (0 == n) = false := by rw [beq_eq_false_iff_ne]; exact fun h => zn h.symm
    have e2 : decide (n = 0) = false := by simpa using zn
    rw [e2]
    clear zn e2
    go_enter Tryd.func11, Tryd.ntmps11
    go_wp2_with (first | (go_at_call 27; ((with_reducible refine (name_to (l := id) HD0.out _ (HV.out.kw.at_ (by first | exact bel0 hB _ _ | exact bel1 hB _ _ | exact bel2 hB _ _ _ | exact bel3 hB _ _ _ | exact bel2' hB _ _ _ _ | exact bel4 hB _ _ _ _))).mono ?_)); go_must (rintro e w' ⟨rfl, k0, rfl⟩)))
    go_ret
    refine ⟨ret_bool (by simp), ?_⟩
    first | exact bel0 (Nat.le_refl _) _ _ | exact bel1 (Nat.le_refl _) _ _ | exact bel2 (Nat.le_refl _) _ _ _ | exact bel3 (Nat.le_refl _) _ _ _ | exact bel2' (Nat.le_refl _) _ _ _ _ | exact bel4 (Nat.le_refl _) _ _ _ _
  subst zn
  go_enter Tryd.func11, Tryd.ntmps11
  go_wp2_with (first | (go_at_call 27; ((with_reducible refine (name_to (l := id) HD0.out _ (HV.out.kw.at_ (by first | exact bel0 hB _ _ | exact bel1 hB _ _ | exact bel2 hB _ _ _ | exact bel3 hB _ _ _ | exact bel2' hB _ _ _ _ | exact bel4 hB _ _ _ _))).mono ?_)); go_must (rintro e w' ⟨rfl, k0, rfl⟩)))
  go_ret
  refine ⟨ret_bool (by simp), ?_⟩
  first | exact bel0 (Nat.le_refl _) _ _ | exact bel1 (Nat.le_refl _) _ _ | exact bel2 (Nat.le_refl _) _ _ _ | exact bel3 (Nat.le_refl _) _ _ _ | exact bel2' (Nat.le_refl _) _ _ _ _ | exact bel4 (Nat.le_refl _) _ _ _ _
set_option maxHeartbeats 2000000 in
theorem valid6_any {B : Nat} (id text : Str) (ana node n : Int) (hid : id.length ≤ 9223372036854775807) (ht : text.length ≤ 9223372036854775807) (w : World) (hV : VarsIn B w) (hB : B ≤ w.heap.size) :
    Calls Tryd.prog 11 #[.agg #[.int .i64 6, qs id, qs text, .int .i64 ana, .int .i64 node, .int .i64 n]] w (BoolQ (nameB id && (decide (text = []) && decide (ana = 0) && decide (node = 0) && decide (n = 0))) w) := by
  have hud : ∀ b : Bool, (undef = Value.bool b) = False := fun b => by simp [undef]
  have HV := Lib.hid hV
  clear hV
  obtain ⟨d0, hd0⟩ : ∃ d, nameB id = d := ⟨_, rfl⟩
  rw [hd0]
  have HD0 := Lib.hid hd0
  clear hd0
  cases d0
  · go_enter Tryd.func11, Tryd.ntmps11
    go_wp2_with (first | (go_at_call 27; ((with_reducible refine (name_to (l := id) HD0.out _ (HV.out.kw.at_ (by first | exact bel0 hB _ _ | exact bel1 hB _ _ | exact bel2 hB _ _ _ | exact bel3 hB _ _ _ | exact bel2' hB _ _ _ _ | exact bel4 hB _ _ _ _))).mono ?_)); go_must (rintro e w' ⟨rfl, k0, rfl⟩)))
    go_ret
    refine ⟨ret_bool (by simp), ?_⟩
    first | exact bel0 (Nat.le_refl _) _ _ | exact bel1 (Nat.le_refl _) _ _ | exact bel2 (Nat.le_refl _) _ _ _ | exact bel3 (Nat.le_refl _) _ _ _ | exact bel2' (Nat.le_refl _) _ _ _ _ | exact bel4 (Nat.le_refl _) _ _ _ _
  by_cases ztext : text = []
  rotate_left
  · have e1 : (text == []) = false := by simpa using ztext
    have e3 : ([] == text) = false := by rw [beq_eq_false_iff_ne]; exact fun h => ztext h.symm
    have e2 : decide (text = []) = false := by simpa using ztext
    rw [e2]
    clear ztext e2
    go_enter Tryd.func11, Tryd.ntmps11
    go_wp2_with (first | (go_at_call 27; ((with_reducible refine (name_to (l := id) HD0.out _ (HV.out.kw.at_ (by first | exact bel0 hB _ _ | exact bel1 hB _ _ | exact bel2 hB _ _ _ | exact bel3 hB _ _ _ | exact bel2' hB _ _ _ _ | exact bel4 hB _ _ _ _))).mono ?_)); go_must (rintro e w' ⟨rfl, k0, rfl⟩)))
    go_ret
    refine ⟨ret_bool (by simp), ?_⟩
    first | exact bel0 (Nat.le_refl _) _ _ | exact bel1 (Nat.le_refl _) _ _ | exact bel2 (Nat.le_refl _) _ _ _ | exact bel3 (Nat.le_refl _) _ _ _ | exact bel2' (Nat.le_refl _) _ _ _ _ | exact bel4 (Nat.le_refl _) _ _ _ _
  subst ztext
  by_cases zana : ana = 0
  rotate_left
  · have e1 : (ana == 0) = false := by simpa using zana
    have e3 : (0 == ana) = false := by rw [beq_eq_false_iff_ne]; exact fun h => zana h.symm
    have e2 : decide (ana = 0) = false := by simpa using zana
    rw [e2]
    clear zana e2
    go_enter Tryd.func11, Tryd.ntmps11
    go_wp2_with (first | (go_at_call 27; ((with_reducible refine (name_to (l := id) HD0.out _ (HV.out.kw.at_ (by first | exact bel0 hB _ _ | exact bel1 hB _ _ | exact bel2 hB _ _ _ | exact bel3 hB _ _ _ | exact bel2' hB _ _ _ _ | exact bel4 hB _ _ _ _))).mono ?_)); go_must (rintro e w' ⟨rfl, k0, rfl⟩)))
    go_ret
    refine ⟨ret_bool (by simp), ?_⟩
    first | exact bel0 (Nat.le_refl _) _ _ | exact bel1 (Nat.le_refl _) _ _ | exact bel2 (Nat.le_refl _) _ _ _ | exact bel3 (Nat.le_refl _) _ _ _ | exact bel2' (Nat.le_refl _) _ _ _ _ | exact bel4 (Nat.le_refl _) _ _ _ _
  subst zana
  by_cases znode : node = 0
  rotate_left
  · have e1 : (node == 0) = false := by simpa using znode
    have e3 : (0 == node) = false := by rw [beq_eq_false_iff_ne]; exact fun h => znode h.symm
    have e2 : decide (node = 0) = false := by simpa using znode
    rw [e2]
    clear znode e2
    go_enter Tryd.func11, Tryd.ntmps11
    go_wp2_with (first | (go_at_call 27; ((with_reducible refine (name_to (l := id) HD0.out _ (HV.out.kw.at_ (by first | exact bel0 hB _ _ | exact bel1 hB _ _ | exact bel2 hB _ _ _ | exact bel3 hB _ _ _ | exact bel2' hB _ _ _ _ | exact bel4 hB _ _ _ _))).mono ?_)); go_must (rintro e w' ⟨rfl, k0, rfl⟩)))
    go_ret
    refine ⟨ret_bool (by simp), ?_⟩
    first | exact bel0 (Nat.le_refl _) _ _ | exact bel1 (Nat.le_refl _) _ _ | exact bel2 (Nat.le_refl _) _ _ _ | exact bel3 (Nat.le_refl _) _ _ _ | exact bel2' (Nat.le_refl _) _ _ _ _ | exact bel4 (Nat.le_refl _) _ _ _ _
  subst znode
  by_cases zn : n = 0
  rotate_left
  · have e1 : (n == 0) = false := by simpa using zn
    have e3 : (0 == n) = false := by rw [beq_eq_false_iff_ne]; exact fun h => zn h.symm
    have e2 : decide (n = 0) = false := by simpa using zn
    rw [e2]
    clear zn e2
    go_enter Tryd.func11, Tryd.ntmps11
    go_wp2_with (first | (go_at_call 27; ((with_reducible refine (name_to (l := id) HD0.out _ (HV.out.kw.at_ (by first | exact bel0 hB _ _ | exact bel1 hB _ _ | exact bel2 hB _ _ _ | exact bel3 hB _ _ _ | exact bel2' hB _ _ _ _ | exact bel4 hB _ _ _ _))).mono ?_)); go_must (rintro e w' ⟨rfl, k0, rfl⟩)))
    go_ret
    refine ⟨ret_bool (by simp), ?_⟩
    first | exact bel0 (Nat.le_refl _) _ _ | exact bel1 (Nat.le_refl _) _ _ | exact bel2 (Nat.le_refl _) _ _ _ | exact bel3 (Nat.le_refl _) _ _ _ | exact bel2' (Nat.le_refl _) _ _ _ _ | exact bel4 (Nat.le_refl _) _ _ _ _
  subst zn
  go_enter Tryd.func11, Tryd.ntmps11
  go_wp2_with (first | (go_at_call 27; ((with_reducible refine (name_to (l := id) HD0.out _ (HV.out.kw.at_ (by first | exact bel0 hB _ _ | exact bel1 hB _ _ | exact bel2 hB _ _ _ | exact bel3 hB _ _ _ | exact bel2' hB _ _ _ _ | exact bel4 hB _ _ _ _))).mono ?_)); go_must (rintro e w' ⟨rfl, k0, rfl⟩)))
  go_ret
  refine ⟨ret_bool (by simp), ?_⟩
  first | exact bel0 (Nat.le_refl _) _ _ | exact bel1 (Nat.le_refl _) _ _ | exact bel2 (Nat.le_refl _) _ _ _ | exact bel3 (Nat.le_refl _) _ _ _ | exact bel2' (Nat.le_refl _) _ _ _ _ | exact bel4 (Nat.le_refl _) _ _ _ _
set_option maxHeartbeats 2000000 in
theorem valid7_any {B : Nat} (id text : Str) (ana node n : Int) (hid : id.length ≤ 9223372036854775807) (ht : text.length ≤ 9223372036854775807) (w : World) (hV : VarsIn B w) (hB : B ≤ w.heap.size) :
    Calls Tryd.prog 11 #[.agg #[.int .i64 7, qs id, qs text, .int .i64 ana, .int .i64 node, .int .i64 n]] w (BoolQ (nameB id && (decide (text = []) && decide (ana = 0) && decide (node = 0) && decide (n = 0))) w) := by
  have hud : ∀ b : Bool, (undef = Value.bool b) = False := fun b => by simp [undef]
  have HV := Lib.hid hV
  clear hV
  obtain ⟨d0, hd0⟩ : ∃ d, nameB id = d := ⟨_, rfl⟩
  rw [hd0]
  have HD0 := Lib.hid hd0
  clear hd0
  cases d0
  · go_enter Tryd.func11, Tryd.ntmps11
    go_wp2_with (first | (go_at_call 27; ((with_reducible refine (name_to (l := id) HD0.out _ (HV.out.kw.at_ (by first | exact bel0 hB _ _ | exact bel1 hB _ _ | exact bel2 hB _ _ _ | exact bel3 hB _ _ _ | exact bel2' hB _ _ _ _ | exact bel4 hB _ _ _ _))).mono ?_)); go_must (rintro e w' ⟨rfl, k0, rfl⟩)))
    go_ret
    refine ⟨ret_bool (by simp), ?_⟩
    first | exact bel0 (Nat.le_refl _) _ _ | exact bel1 (Nat.le_refl _) _ _ | exact bel2 (Nat.le_refl _) _ _ _ | exact bel3 (Nat.le_refl _) _ _ _ | exact bel2' (Nat.le_refl _) _ _ _ _ | exact bel4 (Nat.le_refl _) _ _ _ _
  by_cases ztext : text = []
  rotate_left
  · have e1 : (text == []) = false := by simpa using ztext
    have e3 : ([] == text) = false := by rw [beq_eq_false_iff_ne]; exact fun h => ztext h.symm
    have e2 : decide (text = []) = false := by simpa using ztext
    rw [e2]
    clear ztext e2
    go_enter Tryd.func11, Tryd.ntmps11
    go_wp2_with (first | (go_at_call 27; ((with_reducible refine (name_to (l := id) HD0.out _ (HV.out.kw.at_ (by first | exact bel0 hB _ _ | exact bel1 hB _ _ | exact bel2 hB _ _ _ | exact bel3 hB _ _ _ | exact bel2' hB _ _ _ _ | exact bel4 hB _ _ _ _))).mono ?_)); go_must (rintro e w' ⟨rfl, k0, rfl⟩)))
    go_ret
    refine ⟨ret_bool (by simp), ?_⟩
    first | exact bel0 (Nat.le_refl _) _ _ | exact bel1 (Nat.le_refl _) _ _ | exact bel2 (Nat.le_refl _) _ _ _ | exact bel3 (Nat.le_refl _) _ _ _ | exact bel2' (Nat.le_refl _) _ _ _ _ | exact bel4 (Nat.le_refl _) _ _ _ _
  subst ztext
  by_cases zana : ana = 0
  rotate_left
  · have e1 : (ana == 0) = false := by simpa using zana
    have e3 : (0 == ana) = false := by rw [beq_eq_false_iff_ne]; exact fun h => zana h.symm
    have e2 : decide (ana = 0) = false := by simpa using zana
    rw [e2]
    clear zana e2
    go_enter Tryd.func11, Tryd.ntmps11
    go_wp2_with (first | (go_at_call 27; ((with_reducible refine (name_to (l := id) HD0.out _ (HV.out.kw.at_ (by first | exact bel0 hB _ _ | exact bel1 hB _ _ | exact bel2 hB _ _ _ | exact bel3 hB _ _ _ | exact bel2' hB _ _ _ _ | exact bel4 hB _ _ _ _))).mono ?_)); go_must (rintro e w' ⟨rfl, k0, rfl⟩)))
    go_ret
    refine ⟨ret_bool (by simp), ?_⟩
    first | exact bel0 (Nat.le_refl _) _ _ | exact bel1 (Nat.le_refl _) _ _ | exact bel2 (Nat.le_refl _) _ _ _ | exact bel3 (Nat.le_refl _) _ _ _ | exact bel2' (Nat.le_refl _) _ _ _ _ | exact bel4 (Nat.le_refl _) _ _ _ _
  subst zana
  by_cases znode : node = 0
  rotate_left
  · have e1 : (node == 0) = false := by simpa using znode
    have e3 : (0 == node) = false := by rw [beq_eq_false_iff_ne]; exact fun h => znode h.symm
    have e2 : decide (node = 0) = false := by simpa using znode
    rw [e2]
    clear znode e2
    go_enter Tryd.func11, Tryd.ntmps11
    go_wp2_with (first | (go_at_call 27; ((with_reducible refine (name_to (l := id) HD0.out _ (HV.out.kw.at_ (by first | exact bel0 hB _ _ | exact bel1 hB _ _ | exact bel2 hB _ _ _ | exact bel3 hB _ _ _ | exact bel2' hB _ _ _ _ | exact bel4 hB _ _ _ _))).mono ?_)); go_must (rintro e w' ⟨rfl, k0, rfl⟩)))
    go_ret
    refine ⟨ret_bool (by simp), ?_⟩
    first | exact bel0 (Nat.le_refl _) _ _ | exact bel1 (Nat.le_refl _) _ _ | exact bel2 (Nat.le_refl _) _ _ _ | exact bel3 (Nat.le_refl _) _ _ _ | exact bel2' (Nat.le_refl _) _ _ _ _ | exact bel4 (Nat.le_refl _) _ _ _ _
  subst znode
  by_cases zn : n = 0
  rotate_left
  · have e1 : (n == 0) = false := by simpa using zn
    have e3 : (0 == n) = false := by rw [beq_eq_false_iff_ne]; exact fun h => zn h.symm
    have e2 : decide (n = 0) = false := by simpa using zn
    rw [e2]
    clear zn e2
    go_enter Tryd.func11, Tryd.ntmps11
    go_wp2_with (first | (go_at_call 27; ((with_reducible refine (name_to (l := id) HD0.out _ (HV.out.kw.at_ (by first | exact bel0 hB _ _ | exact bel1 hB _ _ | exact bel2 hB _ _ _ | exact bel3 hB _ _ _ | exact bel2' hB _ _ _ _ | exact bel4 hB _ _ _ _))).mono ?_)); go_must (rintro e w' ⟨rfl, k0, rfl⟩)))
    go_ret
    refine ⟨ret_bool (by simp), ?_⟩
    first | exact bel0 (Nat.le_refl _) _ _ | exact bel1 (Nat.le_refl _) _ _ | exact bel2 (Nat.le_refl _) _ _ _ | exact bel3 (Nat.le_refl _) _ _ _ | exact bel2' (Nat.le_refl _) _ _ _ _ | exact bel4 (Nat.le_refl _) _ _ _ _
  subst zn
  go_enter Tryd.func11, Tryd.ntmps11
  go_wp2_with (first | (go_at_call 27; ((with_reducible refine (name_to (l := id) HD0.out _ (HV.out.kw.at_ (by first | exact bel0 hB _ _ | exact bel1 hB _ _ | exact bel2 hB _ _ _ | exact bel3 hB _ _ _ | exact bel2' hB _ _ _ _ | exact bel4 hB _ _ _ _))).mono ?_)); go_must (rintro e w' ⟨rfl, k0, rfl⟩)))
  go_ret
  refine ⟨ret_bool (by simp), ?_⟩
  first | exact bel0 (Nat.le_refl _) _ _ | exact bel1 (Nat.le_refl _) _ _ | exact bel2 (Nat.le_refl _) _ _ _ | exact bel3 (Nat.le_refl _) _ _ _ | exact bel2' (Nat.le_refl _) _ _ _ _ | exact bel4 (Nat.le_refl _) _ _ _ _
set_option maxHeartbeats 2000000 in
theorem valid3_any {B : Nat} (id text : Str) (ana node n : Int) (hid : id.length ≤ 9223372036854775807) (ht : text.length ≤ 9223372036854775807) (w : World) (hV : VarsIn B w) (hB : B ≤ w.heap.size) :
    Calls Tryd.prog 11 #[.agg #[.int .i64 3, qs id, qs text, .int .i64 ana, .int .i64 node, .int .i64 n]] w (BoolQ (nameB id && nameB text && rangeB ana 1 4 && rangeB node 0 255 && rangeB n 0 3) w) := by
  have hud : ∀ b : Bool, (undef = Value.bool b) = False := fun b => by simp [undef]
  have HV := Lib.hid hV
  clear hV
  obtain ⟨d0, hd0⟩ : ∃ d, nameB id = d := ⟨_, rfl⟩
  obtain ⟨d1, hd1⟩ : ∃ d, nameB text = d := ⟨_, rfl⟩
  obtain ⟨d2, hd2⟩ : ∃ d, rangeB ana 1 4 = d := ⟨_, rfl⟩
  obtain ⟨d3, hd3⟩ : ∃ d, rangeB node 0 255 = d := ⟨_, rfl⟩
  obtain ⟨d4, hd4⟩ : ∃ d, rangeB n 0 3 = d := ⟨_, rfl⟩
  rw [hd0, hd1, hd2, hd3, hd4]
  have HD0 := Lib.hid hd0
  have HD1 := Lib.hid hd1
  have HD2 := Lib.hid hd2
  have HD3 := Lib.hid hd3
  have HD4 := Lib.hid hd4
  clear hd0 hd1 hd2 hd3 hd4
  cases d0
  · go_enter Tryd.func11, Tryd.ntmps11
    go_wp2_with (first | (go_at_call 27; ((with_reducible refine (name_to (l := id) HD0.out _ (HV.out.kw.at_ (by first | exact bel0 hB _ _ | exact bel1 hB _ _ | exact bel2 hB _ _ _ | exact bel3 hB _ _ _ | exact bel2' hB _ _ _ _ | exact bel4 hB _ _ _ _))).mono ?_)); go_must (rintro e w' ⟨rfl, k0, rfl⟩)) | (go_at_call 27; ((with_reducible refine (name_to (l := text) HD1.out _ (HV.out.kw.at_ (by first | exact bel0 hB _ _ | exact bel1 hB _ _ | exact bel2 hB _ _ _ | exact bel3 hB _ _ _ | exact bel2' hB _ _ _ _ | exact bel4 hB _ _ _ _))).mono ?_)); go_must (rintro e w' ⟨rfl, k1, rfl⟩)) | (go_at_call 29; ((with_reducible refine (range_to (n := ana) HD2.out _).mono ?_)); go_must (rintro e w' ⟨rfl, rfl⟩)) | (go_at_call 29; ((with_reducible refine (range_to (n := node) HD3.out _).mono ?_)); go_must (rintro e w' ⟨rfl, rfl⟩)) | (go_at_call 29; ((with_reducible refine (range_to (n := n) HD4.out _).mono ?_)); go_must (rintro e w' ⟨rfl, rfl⟩)))
    go_ret
    refine ⟨ret_bool (by simp), ?_⟩
    first | exact bel0 (Nat.le_refl _) _ _ | exact bel1 (Nat.le_refl _) _ _ | exact bel2 (Nat.le_refl _) _ _ _ | exact bel3 (Nat.le_refl _) _ _ _ | exact bel2' (Nat.le_refl _) _ _ _ _ | exact bel4 (Nat.le_refl _) _ _ _ _
  cases d1
  · go_enter Tryd.func11, Tryd.ntmps11
    go_wp2_with (first | (go_at_call 27; ((with_reducible refine (name_to (l := id) HD0.out _ (HV.out.kw.at_ (by first | exact bel0 hB _ _ | exact bel1 hB _ _ | exact bel2 hB _ _ _ | exact bel3 hB _ _ _ | exact bel2' hB _ _ _ _ | exact bel4 hB _ _ _ _))).mono ?_)); go_must (rintro e w' ⟨rfl, k0, rfl⟩)) | (go_at_call 27; ((with_reducible refine (name_to (l := text) HD1.out _ (HV.out.kw.at_ (by first | exact bel0 hB _ _ | exact bel1 hB _ _ | exact bel2 hB _ _ _ | exact bel3 hB _ _ _ | exact bel2' hB _ _ _ _ | exact bel4 hB _ _ _ _))).mono ?_)); go_must (rintro e w' ⟨rfl, k1, rfl⟩)) | (go_at_call 29; ((with_reducible refine (range_to (n := ana) HD2.out _).mono ?_)); go_must (rintro e w' ⟨rfl, rfl⟩)) | (go_at_call 29; ((with_reducible refine (range_to (n := node) HD3.out _).mono ?_)); go_must (rintro e w' ⟨rfl, rfl⟩)) | (go_at_call 29; ((with_reducible refine (range_to (n := n) HD4.out _).mono ?_)); go_must (rintro e w' ⟨rfl, rfl⟩)))
    go_ret
    refine ⟨ret_bool (by simp), ?_⟩
    first | exact bel0 (Nat.le_refl _) _ _ | exact bel1 (Nat.le_refl _) _ _ | exact bel2 (Nat.le_refl _) _ _ _ | exact bel3 (Nat.le_refl _) _ _ _ | exact bel2' (Nat.le_refl _) _ _ _ _ | exact bel4 (Nat.le_refl _) _ _ _ _
  cases d2
  · go_enter Tryd.func11, Tryd.ntmps11
    go_wp2_with (first | (go_at_call 27; ((with_reducible refine (name_to (l := id) HD0.out _ (HV.out.kw.at_ (by first | exact bel0 hB _ _ | exact bel1 hB _ _ | exact bel2 hB _ _ _ | exact bel3 hB _ _ _ | exact bel2' hB _ _ _ _ | exact bel4 hB _ _ _ _))).mono ?_)); go_must (rintro e w' ⟨rfl, k0, rfl⟩)) | (go_at_call 27; ((with_reducible refine (name_to (l := text) HD1.out _ (HV.out.kw.at_ (by first | exact bel0 hB _ _ | exact bel1 hB _ _ | exact bel2 hB _ _ _ | exact bel3 hB _ _ _ | exact bel2' hB _ _ _ _ | exact bel4 hB _ _ _ _))).mono ?_)); go_must (rintro e w' ⟨rfl, k1, rfl⟩)) | (go_at_call 29; ((with_reducible refine (range_to (n := ana) HD2.out _).mono ?_)); go_must (rintro e w' ⟨rfl, rfl⟩)) | (go_at_call 29; ((with_reducible refine (range_to (n := node) HD3.out _).mono ?_)); go_must (rintro e w' ⟨rfl, rfl⟩)) | (go_at_call 29; ((with_reducible refine (range_to (n := n) HD4.out _).mono ?_)); go_must (rintro e w' ⟨rfl, rfl⟩)))
    go_ret
    refine ⟨ret_bool (by simp), ?_⟩
    first | exact bel0 (Nat.le_refl _) _ _ | exact bel1 (Nat.le_refl _) _ _ | exact bel2 (Nat.le_refl _) _ _ _ | exact bel3 (Nat.le_refl _) _ _ _ | exact bel2' (Nat.le_refl _) _ _ _ _ | exact bel4 (Nat.le_refl _) _ _ _ _
  cases d3
  · go_enter Tryd.func11, Tryd.ntmps11
    go_wp2_with (first | (go_at_call 27; ((with_reducible refine (name_to (l := id) HD0.out _ (HV.out.kw.at_ (by first | exact bel0 hB _ _ | exact bel1 hB _ _ | exact bel2 hB _ _ _ | exact bel3 hB _ _ _ | exact bel2' hB _ _ _ _ | exact bel4 hB _ _ _ _))).mono ?_)); go_must (rintro e w' ⟨rfl, k0, rfl⟩)) | (go_at_call 27; ((with_reducible refine (name_to (l := text) HD1.out _ (HV.out.kw.at_ (by first | exact bel0 hB _ _ | exact bel1 hB _ _ | exact bel2 hB _ _ _ | exact bel3 hB _ _ _ | exact bel2' hB _ _ _ _ | exact bel4 hB _ _ _ _))).mono ?_)); go_must (rintro e w' ⟨rfl, k1, rfl⟩)) | (go_at_call 29; ((with_reducible refine (range_to (n := ana) HD2.out _).mono ?_)); go_must (rintro e w' ⟨rfl, rfl⟩)) | (go_at_call 29; ((with_reducible refine (range_to (n := node) HD3.out _).mono ?_)); go_must (rintro e w' ⟨rfl, rfl⟩)) | (go_at_call 29; ((with_reducible refine (range_to (n := n) HD4.out _).mono ?_)); go_must (rintro e w' ⟨rfl, rfl⟩)))
    go_ret
    refine ⟨ret_bool (by simp), ?_⟩
    first | exact bel0 (Nat.le_refl _) _ _ | exact bel1 (Nat.le_refl _) _ _ | exact bel2 (Nat.le_refl _) _ _ _ | exact bel3 (Nat.le_refl _) _ _ _ | exact bel2' (Nat.le_refl _) _ _ _ _ | exact bel4 (Nat.le_refl _) _ _ _ _
  cases d4
  · go_enter Tryd.func11, Tryd.ntmps11
    go_wp2_with (first | (go_at_call 27; ((with_reducible refine (name_to (l := id) HD0.out _ (HV.out.kw.at_ (by first | exact bel0 hB _ _ | exact bel1 hB _ _ | exact bel2 hB _ _ _ | exact bel3 hB _ _ _ | exact bel2' hB _ _ _ _ | exact bel4 hB _ _ _ _))).mono ?_)); go_must (rintro e w' ⟨rfl, k0, rfl⟩)) | (go_at_call 27; ((with_reducible refine (name_to (l := text) HD1.out _ (HV.out.kw.at_ (by first | exact bel0 hB _ _ | exact bel1 hB _ _ | exact bel2 hB _ _ _ | exact bel3 hB _ _ _ | exact bel2' hB _ _ _ _ | exact bel4 hB _ _ _ _))).mono ?_)); go_must (rintro e w' ⟨rfl, k1, rfl⟩)) | (go_at_call 29; ((with_reducible refine (range_to (n := ana) HD2.out _).mono ?_)); go_must (rintro e w' ⟨rfl, rfl⟩)) | (go_at_call 29; ((with_reducible refine (range_to (n := node) HD3.out _).mono ?_)); go_must (rintro e w' ⟨rfl, rfl⟩)) | (go_at_call 29; ((with_reducible refine (range_to (n := n) HD4.out _).mono ?_)); go_must (rintro e w' ⟨rfl, rfl⟩)))
    go_ret
    refine ⟨ret_bool (by simp), ?_⟩
    first | exact bel0 (Nat.le_refl _) _ _ | exact bel1 (Nat.le_refl _) _ _ | exact bel2 (Nat.le_refl _) _ _ _ | exact bel3 (Nat.le_refl _) _ _ _ | exact bel2' (Nat.le_refl _) _ _ _ _ | exact bel4 (Nat.le_refl _) _ _ _ _
  go_enter Tryd.func11, Tryd.ntmps11
  go_wp2_with (first | (go_at_call 27; ((with_reducible refine (name_to (l := id) HD0.out _ (HV.out.kw.at_ (by first | exact bel0 hB _ _ | exact bel1 hB _ _ | exact bel2 hB _ _ _ | exact bel3 hB _ _ _ | exact bel2' hB _ _ _ _ | exact bel4 hB _ _ _ _))).mono ?_)); go_must (rintro e w' ⟨rfl, k0, rfl⟩)) | (go_at_call 27; ((with_reducible refine (name_to (l := text) HD1.out _ (HV.out.kw.at_ (by first | exact bel0 hB _ _ | exact bel1 hB _ _ | exact bel2 hB _ _ _ | exact bel3 hB _ _ _ | exact bel2' hB _ _ _ _ | exact bel4 hB _ _ _ _))).mono ?_)); go_must (rintro e w' ⟨rfl, k1, rfl⟩)) | (go_at_call 29; ((with_reducible refine (range_to (n := ana) HD2.out _).mono ?_)); go_must (rintro e w' ⟨rfl, rfl⟩)) | (go_at_call 29; ((with_reducible refine (range_to (n := node) HD3.out _).mono ?_)); go_must (rintro e w' ⟨rfl, rfl⟩)) | (go_at_call 29; ((with_reducible refine (range_to (n := n) HD4.out _).mono ?_)); go_must (rintro e w' ⟨rfl, rfl⟩)))
  go_ret
  refine ⟨ret_bool (by simp), ?_⟩
  first | exact bel0 (Nat.le_refl _) _ _ | exact bel1 (Nat.le_refl _) _ _ | exact bel2 (Nat.le_refl _) _ _ _ | exact bel3 (Nat.le_refl _) _ _ _ | exact bel2' (Nat.le_refl _) _ _ _ _ | exact bel4 (Nat.le_refl _) _ _ _ _
set_option maxHeartbeats 2000000 in
theorem valid5_any {B : Nat} (id text : Str) (ana node n : Int) (hid : id.length ≤ 9223372036854775807) (ht : text.length ≤ 9223372036854775807) (w : World) (hV : VarsIn B w) (hB : B ≤ w.heap.size) :
    Calls Tryd.prog 11 #[.agg #[.int .i64 5, qs id, qs text, .int .i64 ana, .int .i64 node, .int .i64 n]] w (BoolQ (rangeB n 0 1048576 && (decide (id = []) && decide (text = []) && decide (ana = 0) && decide (node = 0))) w) := by
  have hud : ∀ b : Bool, (undef = Value.bool b) = False := fun b => by simp [undef]
  have HV := Lib.hid hV
  clear hV
  obtain ⟨d0, hd0⟩ : ∃ d, rangeB n 0 1048576 = d := ⟨_, rfl⟩
  rw [hd0]
  have HD0 := Lib.hid hd0
  clear hd0
  cases d0
  · go_enter Tryd.func11, Tryd.ntmps11
    go_wp2_with (first | (go_at_call 29; ((with_reducible refine (range_to (n := n) HD0.out _).mono ?_)); go_must (rintro e w' ⟨rfl, rfl⟩)))
    go_ret
    refine ⟨ret_bool (by simp), ?_⟩
    first | exact bel0 (Nat.le_refl _) _ _ | exact bel1 (Nat.le_refl _) _ _ | exact bel2 (Nat.le_refl _) _ _ _ | exact bel3 (Nat.le_refl _) _ _ _ | exact bel2' (Nat.le_refl _) _ _ _ _ | exact bel4 (Nat.le_refl _) _ _ _ _
  by_cases zid : id = []
  rotate_left
  · have e1 : (id == []) = false := by simpa using zid
    have e3 : ([] == id) = false := by rw [beq_eq_false_iff_ne]; exact fun h => zid h.symm
    have e2 : decide (id = []) = false := by simpa using zid
    rw [e2]
    clear zid e2
    go_enter Tryd.func11, Tryd.ntmps11
    go_wp2_with (first | (go_at_call 29; ((with_reducible refine (range_to (n := n) HD0.out _).mono ?_)); go_must (rintro e w' ⟨rfl, rfl⟩)))
    go_ret
    refine ⟨ret_bool (by simp), ?_⟩
    first | exact bel0 (Nat.le_refl _) _ _ | exact bel1 (Nat.le_refl _) _ _ | exact bel2 (Nat.le_refl _) _ _ _ | exact bel3 (Nat.le_refl _) _ _ _ | exact bel2' (Nat.le_refl _) _ _ _ _ | exact bel4 (Nat.le_refl _) _ _ _ _
  subst zid
  by_cases ztext : text = []
  rotate_left
  · have e1 : (text == []) = false := by simpa using ztext
    have e3 : ([] == text) = false := by rw [beq_eq_false_iff_ne]; exact fun h => ztext h.symm
    have e2 : decide (text = []) = false := by simpa using ztext
    rw [e2]
    clear ztext e2
    go_enter Tryd.func11, Tryd.ntmps11
    go_wp2_with (first | (go_at_call 29; ((with_reducible refine (range_to (n := n) HD0.out _).mono ?_)); go_must (rintro e w' ⟨rfl, rfl⟩)))
    go_ret
    refine ⟨ret_bool (by simp), ?_⟩
    first | exact bel0 (Nat.le_refl _) _ _ | exact bel1 (Nat.le_refl _) _ _ | exact bel2 (Nat.le_refl _) _ _ _ | exact bel3 (Nat.le_refl _) _ _ _ | exact bel2' (Nat.le_refl _) _ _ _ _ | exact bel4 (Nat.le_refl _) _ _ _ _
  subst ztext
  by_cases zana : ana = 0
  rotate_left
  · have e1 : (ana == 0) = false := by simpa using zana
    have e3 : (0 == ana) = false := by rw [beq_eq_false_iff_ne]; exact fun h => zana h.symm
    have e2 : decide (ana = 0) = false := by simpa using zana
    rw [e2]
    clear zana e2
    go_enter Tryd.func11, Tryd.ntmps11
    go_wp2_with (first | (go_at_call 29; ((with_reducible refine (range_to (n := n) HD0.out _).mono ?_)); go_must (rintro e w' ⟨rfl, rfl⟩)))
    go_ret
    refine ⟨ret_bool (by simp), ?_⟩
    first | exact bel0 (Nat.le_refl _) _ _ | exact bel1 (Nat.le_refl _) _ _ | exact bel2 (Nat.le_refl _) _ _ _ | exact bel3 (Nat.le_refl _) _ _ _ | exact bel2' (Nat.le_refl _) _ _ _ _ | exact bel4 (Nat.le_refl _) _ _ _ _
  subst zana
  by_cases znode : node = 0
  rotate_left
  · have e1 : (node == 0) = false := by simpa using znode
    have e3 : (0 == node) = false := by rw [beq_eq_false_iff_ne]; exact fun h => znode h.symm
    have e2 : decide (node = 0) = false := by simpa using znode
    rw [e2]
    clear znode e2
    go_enter Tryd.func11, Tryd.ntmps11
    go_wp2_with (first | (go_at_call 29; ((with_reducible refine (range_to (n := n) HD0.out _).mono ?_)); go_must (rintro e w' ⟨rfl, rfl⟩)))
    go_ret
    refine ⟨ret_bool (by simp), ?_⟩
    first | exact bel0 (Nat.le_refl _) _ _ | exact bel1 (Nat.le_refl _) _ _ | exact bel2 (Nat.le_refl _) _ _ _ | exact bel3 (Nat.le_refl _) _ _ _ | exact bel2' (Nat.le_refl _) _ _ _ _ | exact bel4 (Nat.le_refl _) _ _ _ _
  subst znode
  go_enter Tryd.func11, Tryd.ntmps11
  go_wp2_with (first | (go_at_call 29; ((with_reducible refine (range_to (n := n) HD0.out _).mono ?_)); go_must (rintro e w' ⟨rfl, rfl⟩)))
  go_ret
  refine ⟨ret_bool (by simp), ?_⟩
  first | exact bel0 (Nat.le_refl _) _ _ | exact bel1 (Nat.le_refl _) _ _ | exact bel2 (Nat.le_refl _) _ _ _ | exact bel3 (Nat.le_refl _) _ _ _ | exact bel2' (Nat.le_refl _) _ _ _ _ | exact bel4 (Nat.le_refl _) _ _ _ _
set_option maxHeartbeats 2000000 in
theorem valid8_any {B : Nat} (id text : Str) (ana node n : Int) (hid : id.length ≤ 9223372036854775807) (ht : text.length ≤ 9223372036854775807) (w : World) (hV : VarsIn B w) (hB : B ≤ w.heap.size) :
    Calls Tryd.prog 11 #[.agg #[.int .i64 8, qs id, qs text, .int .i64 ana, .int .i64 node, .int .i64 n]] w (BoolQ (rangeB n 0 512 && (decide (id = []) && decide (text = []) && decide (ana = 0) && decide (node = 0))) w) := by
  have hud : ∀ b : Bool, (undef = Value.bool b) = False := fun b => by simp [undef]
  have HV := Lib.hid hV
  clear hV
  obtain ⟨d0, hd0⟩ : ∃ d, rangeB n 0 512 = d := ⟨_, rfl⟩
  rw [hd0]
  have HD0 := Lib.hid hd0
  clear hd0
  cases d0
  · go_enter Tryd.func11, Tryd.ntmps11
    go_wp2_with (first | (go_at_call 29; ((with_reducible refine (range_to (n := n) HD0.out _).mono ?_)); go_must (rintro e w' ⟨rfl, rfl⟩)))
    go_ret
    refine ⟨ret_bool (by simp), ?_⟩
    first | exact bel0 (Nat.le_refl _) _ _ | exact bel1 (Nat.le_refl _) _ _ | exact bel2 (Nat.le_refl _) _ _ _ | exact bel3 (Nat.le_refl _) _ _ _ | exact bel2' (Nat.le_refl _) _ _ _ _ | exact bel4 (Nat.le_refl _) _ _ _ _
  by_cases zid : id = []
  rotate_left
  · have e1 : (id == []) = false := by simpa using zid
    have e3 : ([] == id) = false := by rw [beq_eq_false_iff_ne]; exact fun h => zid h.symm
    have e2 : decide (id = []) = false := by simpa using zid
    rw [e2]
    clear zid e2
    go_enter Tryd.func11, Tryd.ntmps11
    go_wp2_with (first | (go_at_call 29; ((with_reducible refine (range_to (n := n) HD0.out _).mono ?_)); go_must (rintro e w' ⟨rfl, rfl⟩)))
    go_ret
    refine ⟨ret_bool (by simp), ?_⟩
    first | exact bel0 (Nat.le_refl _) _ _ | exact bel1 (Nat.le_refl _) _ _ | exact bel2 (Nat.le_refl _) _ _ _ | exact bel3 (Nat.le_refl _) _ _ _ | exact bel2' (Nat.le_refl _) _ _ _ _ | exact bel4 (Nat.le_refl _) _ _ _ _
  subst zid
  by_cases ztext : text = []
  rotate_left
  · have e1 : (text == []) = false := by simpa using ztext
    have e3 : ([] == text) = false := by rw [beq_eq_false_iff_ne]; exact fun h => ztext h.symm
    have e2 : decide (text = []) = false := by simpa using ztext
    rw [e2]
    clear ztext e2
    go_enter Tryd.func11, Tryd.ntmps11
    go_wp2_with (first | (go_at_call 29; ((with_reducible refine (range_to (n := n) HD0.out _).mono ?_)); go_must (rintro e w' ⟨rfl, rfl⟩)))
    go_ret
    refine ⟨ret_bool (by simp), ?_⟩
    first | exact bel0 (Nat.le_refl _) _ _ | exact bel1 (Nat.le_refl _) _ _ | exact bel2 (Nat.le_refl _) _ _ _ | exact bel3 (Nat.le_refl _) _ _ _ | exact bel2' (Nat.le_refl _) _ _ _ _ | exact bel4 (Nat.le_refl _) _ _ _ _
  subst ztext
  by_cases zana : ana = 0
  rotate_left
  · have e1 : (ana == 0) = false := by simpa using zana
    have e3 : (0 == ana) = false := by rw [beq_eq_false_iff_ne]; exact fun h => zana h.symm
    have e2 : decide (ana = 0) = false := by simpa using zana
    rw [e2]
    clear zana e2
    go_enter Tryd.func11, Tryd.ntmps11
    go_wp2_with (first | (go_at_call 29; ((with_reducible refine (range_to (n := n) HD0.out _).mono ?_)); go_must (rintro e w' ⟨rfl, rfl⟩)))
    go_ret
    refine ⟨ret_bool (by simp), ?_⟩
    first | exact bel0 (Nat.le_refl _) _ _ | exact bel1 (Nat.le_refl _) _ _ | exact bel2 (Nat.le_refl _) _ _ _ | exact bel3 (Nat.le_refl _) _ _ _ | exact bel2' (Nat.le_refl _) _ _ _ _ | exact bel4 (Nat.le_refl _) _ _ _ _
  subst zana
  by_cases znode : node = 0
  rotate_left
  · have e1 : (node == 0) = false := by simpa using znode
    have e3 : (0 == node) = false := by rw [beq_eq_false_iff_ne]; exact fun h => znode h.symm
    have e2 : decide (node = 0) = false := by simpa using znode
    rw [e2]
    clear znode e2
    go_enter Tryd.func11, Tryd.ntmps11
    go_wp2_with (first | (go_at_call 29; ((with_reducible refine (range_to (n := n) HD0.out _).mono ?_)); go_must (rintro e w' ⟨rfl, rfl⟩)))
    go_ret
    refine ⟨ret_bool (by simp), ?_⟩
    first | exact bel0 (Nat.le_refl _) _ _ | exact bel1 (Nat.le_refl _) _ _ | exact bel2 (Nat.le_refl _) _ _ _ | exact bel3 (Nat.le_refl _) _ _ _ | exact bel2' (Nat.le_refl _) _ _ _ _ | exact bel4 (Nat.le_refl _) _ _ _ _
  subst znode
  go_enter Tryd.func11, Tryd.ntmps11
  go_wp2_with (first | (go_at_call 29; ((with_reducible refine (range_to (n := n) HD0.out _).mono ?_)); go_must (rintro e w' ⟨rfl, rfl⟩)))
  go_ret
  refine ⟨ret_bool (by simp), ?_⟩
  first | exact bel0 (Nat.le_refl _) _ _ | exact bel1 (Nat.le_refl _) _ _ | exact bel2 (Nat.le_refl _) _ _ _ | exact bel3 (Nat.le_refl _) _ _ _ | exact bel2' (Nat.le_refl _) _ _ _ _ | exact bel4 (Nat.le_refl _) _ _ _ _
set_option maxHeartbeats 2000000 in
theorem valid9_any {B : Nat} (id text : Str) (ana node n : Int) (hid : id.length ≤ 9223372036854775807) (ht : text.length ≤ 9223372036854775807) (w : World) (hV : VarsIn B w) (hB : B ≤ w.heap.size) :
    Calls Tryd.prog 11 #[.agg #[.int .i64 9, qs id, qs text, .int .i64 ana, .int .i64 node, .int .i64 n]] w (BoolQ ((decide (id = []) && decide (text = []) && decide (ana = 0) && decide (node = 0) && decide (n = 0))) w) := by
  have hud : ∀ b : Bool, (undef = Value.bool b) = False := fun b => by simp [undef]
  have HV := Lib.hid hV
  clear hV
  by_cases zid : id = []
  rotate_left
  · have e1 : (id == []) = false := by simpa using zid
    have e3 : ([] == id) = false := by rw [beq_eq_false_iff_ne]; exact fun h => zid h.symm
    have e2 : decide (id = []) = false := by simpa using zid
    rw [e2]
    clear zid e2
    go_enter Tryd.func11, Tryd.ntmps11
    go_wp2_with (fail)
    go_ret
    refine ⟨ret_bool (by simp), ?_⟩
    first | exact bel0 (Nat.le_refl _) _ _ | exact bel1 (Nat.le_refl _) _ _ | exact bel2 (Nat.le_refl _) _ _ _ | exact bel3 (Nat.le_refl _) _ _ _ | exact bel2' (Nat.le_refl _) _ _ _ _ | exact bel4 (Nat.le_refl _) _ _ _ _
  subst zid
  by_cases ztext : text = []
  rotate_left
  · have e1 : (text == []) = false := by simpa using ztext
    have e3 : ([] == text) = false := by rw [beq_eq_false_iff_ne]; exact fun h => ztext h.symm
    have e2 : decide (text = []) = false := by simpa using ztext
    rw [e2]
    clear ztext e2
    go_enter Tryd.func11, Tryd.ntmps11
    go_wp2_with (fail)
    go_ret
    refine ⟨ret_bool (by simp), ?_⟩
    first | exact bel0 (Nat.le_refl _) _ _ | exact bel1 (Nat.le_refl _) _ _ | exact bel2 (Nat.le_refl _) _ _ _ | exact bel3 (Nat.le_refl _) _ _ _ | exact bel2' (Nat.le_refl _) _ _ _ _ | exact bel4 (Nat.le_refl _) _ _ _ _
  subst ztext
  by_cases zana : ana = 0
  rotate_left
  · have e1 : (ana == 0) = false := by simpa using zana
    have e3 : (0 == ana) = false := by rw [beq_eq_false_iff_ne]; exact fun h => zana h.symm
    have e2 : decide (ana = 0) = false := by simpa using zana
    rw [e2]
    clear zana e2
    go_enter Tryd.func11, Tryd.ntmps11
    go_wp2_with (fail)
    go_ret
    refine ⟨ret_bool (by simp), ?_⟩
    first | exact bel0 (Nat.le_refl _) _ _ | exact bel1 (Nat.le_refl _) _ _ | exact bel2 (Nat.le_refl _) _ _ _ | exact bel3 (Nat.le_refl _) _ _ _ | exact bel2' (Nat.le_refl _) _ _ _ _ | exact bel4 (Nat.le_refl _) _ _ _ _
  subst zana
  by_cases znode : node = 0
  rotate_left
  · have e1 : (node == 0) = false := by simpa using znode
    have e3 : (0 == node) = false := by rw [beq_eq_false_iff_ne]; exact fun h => znode h.symm
    have e2 : decide (node = 0) = false := by simpa using znode
    rw [e2]
    clear znode e2
    go_enter Tryd.func11, Tryd.ntmps11
    go_wp2_with (fail)
    go_ret
    refine ⟨ret_bool (by simp), ?_⟩
    first | exact bel0 (Nat.le_refl _) _ _ | exact bel1 (Nat.le_refl _) _ _ | exact bel2 (Nat.le_refl _) _ _ _ | exact bel3 (Nat.le_refl _) _ _ _ | exact bel2' (Nat.le_refl _) _ _ _ _ | exact bel4 (Nat.le_refl _) _ _ _ _
  subst znode
  by_cases zn : n = 0
  rotate_left
  · have e1 : (n == 0) = false := by simpa using zn
    have e3 : (0 == n) = false := by rw [beq_eq_false_iff_ne]; exact fun h => zn h.symm
    have e2 : decide (n = 0) = false := by simpa using zn
    rw [e2]
    clear zn e2
    go_enter Tryd.func11, Tryd.ntmps11
    go_wp2_with (fail)
    go_ret
    refine ⟨ret_bool (by simp), ?_⟩
    first | exact bel0 (Nat.le_refl _) _ _ | exact bel1 (Nat.le_refl _) _ _ | exact bel2 (Nat.le_refl _) _ _ _ | exact bel3 (Nat.le_refl _) _ _ _ | exact bel2' (Nat.le_refl _) _ _ _ _ | exact bel4 (Nat.le_refl _) _ _ _ _
  subst zn
  go_enter Tryd.func11, Tryd.ntmps11
  go_wp2_with (fail)
  go_ret
  refine ⟨ret_bool (by simp), ?_⟩
  first | exact bel0 (Nat.le_refl _) _ _ | exact bel1 (Nat.le_refl _) _ _ | exact bel2 (Nat.le_refl _) _ _ _ | exact bel3 (Nat.le_refl _) _ _ _ | exact bel2' (Nat.le_refl _) _ _ _ _ | exact bel4 (Nat.le_refl _) _ _ _ _
set_option maxHeartbeats 1000000 in
theorem validx_any (k : Int) (hk : ¬ (1 ≤ k ∧ k ≤ 9)) (id text : Str) (ana node n : Int) (w : World) :
    Calls Tryd.prog 11 #[.agg #[.int .i64 k, qs id, qs text, .int .i64 ana, .int .i64 node, .int .i64 n]] w (BoolQ false w) := by
  have e1 : (k == 1) = false := by simp; omega
  have e2 : (k == 2) = false := by simp; omega
  have e3 : (k == 3) = false := by simp; omega
  have e4 : (k == 4) = false := by simp; omega
  have e5 : (k == 5) = false := by simp; omega
  have e6 : (k == 6) = false := by simp; omega
  have e7 : (k == 7) = false := by simp; omega
  have e8 : (k == 8) = false := by simp; omega
  have e9 : (k == 9) = false := by simp; omega
  clear hk
  go_enter Tryd.func11, Tryd.ntmps11
  go_wp2
  go_ret
  refine ⟨rfl, ?_⟩
  first | exact bel0 (Nat.le_refl _) _ _ | exact bel1 (Nat.le_refl _) _ _ | exact bel2 (Nat.le_refl _) _ _ _ | exact bel3 (Nat.le_refl _) _ _ _ | exact bel2' (Nat.le_refl _) _ _ _ _ | exact bel4 (Nat.le_refl _) _ _ _ _
/-- Which operations are valid. -/
theorem valid_any {B : Nat} (o : POp) (hid : o.id.length ≤ 9223372036854775807) (ht : o.text.length ≤ 9223372036854775807) (w : World) (hV : VarsIn B w) (hB : B ≤ w.heap.size) : Calls Tryd.prog 11 #[opV o] w (BoolQ (opB o) w) := by
  obtain ⟨k, id, text, ana, node, n⟩ := o
  by_cases hk : 1 ≤ k ∧ k ≤ 9
  · have hc : k = 1 ∨ k = 2 ∨ k = 3 ∨ k = 4 ∨ k = 5 ∨ k = 6 ∨ k = 7 ∨ k = 8 ∨ k = 9 := by omega
    rcases hc with rfl | rfl | rfl | rfl | rfl | rfl | rfl | rfl | rfl
    · rw [show opB ⟨1, id, text, ana, node, n⟩ = _ from by simp only [opB, onlyB, Int.reduceEq, if_true, if_false, or_true, true_or, or_false, false_or, or_self, Bool.true_or, Bool.false_or, Bool.or_false, Bool.true_and, Bool.and_true, Bool.and_assoc, reduceIte]; rfl]
      simpa [Bool.and_assoc] using valid1_any (B := B) id text ana node n hid ht w hV hB
    · rw [show opB ⟨2, id, text, ana, node, n⟩ = _ from by simp only [opB, onlyB, Int.reduceEq, if_true, if_false, or_true, true_or, or_false, false_or, or_self, Bool.true_or, Bool.false_or, Bool.or_false, Bool.true_and, Bool.and_true, Bool.and_assoc, reduceIte]; rfl]
      simpa [Bool.and_assoc] using valid2_any (B := B) id text ana node n hid ht w hV hB
    · rw [show opB ⟨3, id, text, ana, node, n⟩ = _ from by simp only [opB, onlyB, Int.reduceEq, if_true, if_false, or_true, true_or, or_false, false_or, or_self, Bool.true_or, Bool.false_or, Bool.or_false, Bool.true_and, Bool.and_true, Bool.and_assoc, reduceIte]; rfl]
      simpa [Bool.and_assoc] using valid3_any (B := B) id text ana node n hid ht w hV hB
    · rw [show opB ⟨4, id, text, ana, node, n⟩ = _ from by simp only [opB, onlyB, Int.reduceEq, if_true, if_false, or_true, true_or, or_false, false_or, or_self, Bool.true_or, Bool.false_or, Bool.or_false, Bool.true_and, Bool.and_true, Bool.and_assoc, reduceIte]; rfl]
      simpa [Bool.and_assoc] using valid4_any (B := B) id text ana node n hid ht w hV hB
    · rw [show opB ⟨5, id, text, ana, node, n⟩ = _ from by simp only [opB, onlyB, Int.reduceEq, if_true, if_false, or_true, true_or, or_false, false_or, or_self, Bool.true_or, Bool.false_or, Bool.or_false, Bool.true_and, Bool.and_true, Bool.and_assoc, reduceIte]; rfl]
      simpa [Bool.and_assoc] using valid5_any (B := B) id text ana node n hid ht w hV hB
    · rw [show opB ⟨6, id, text, ana, node, n⟩ = _ from by simp only [opB, onlyB, Int.reduceEq, if_true, if_false, or_true, true_or, or_false, false_or, or_self, Bool.true_or, Bool.false_or, Bool.or_false, Bool.true_and, Bool.and_true, Bool.and_assoc, reduceIte]; rfl]
      simpa [Bool.and_assoc] using valid6_any (B := B) id text ana node n hid ht w hV hB
    · rw [show opB ⟨7, id, text, ana, node, n⟩ = _ from by simp only [opB, onlyB, Int.reduceEq, if_true, if_false, or_true, true_or, or_false, false_or, or_self, Bool.true_or, Bool.false_or, Bool.or_false, Bool.true_and, Bool.and_true, Bool.and_assoc, reduceIte]; rfl]
      simpa [Bool.and_assoc] using valid7_any (B := B) id text ana node n hid ht w hV hB
    · rw [show opB ⟨8, id, text, ana, node, n⟩ = _ from by simp only [opB, onlyB, Int.reduceEq, if_true, if_false, or_true, true_or, or_false, false_or, or_self, Bool.true_or, Bool.false_or, Bool.or_false, Bool.true_and, Bool.and_true, Bool.and_assoc, reduceIte]; rfl]
      simpa [Bool.and_assoc] using valid8_any (B := B) id text ana node n hid ht w hV hB
    · rw [show opB ⟨9, id, text, ana, node, n⟩ = _ from by simp only [opB, onlyB, Int.reduceEq, if_true, if_false, or_true, true_or, or_false, false_or, or_self, Bool.true_or, Bool.false_or, Bool.or_false, Bool.true_and, Bool.and_true, Bool.and_assoc, reduceIte]; rfl]
      simpa [Bool.and_assoc] using valid9_any (B := B) id text ana node n hid ht w hV hB
  · rw [show opB ⟨k, id, text, ana, node, n⟩ = false by
      unfold opB
      dsimp only
      rw [if_neg (by omega), if_neg (by omega), if_neg (by omega), if_neg (by omega), if_neg (by omega), if_neg (by omega)]]
    exact validx_any k hk id text ana node n w
end Go.Proofs.YtgmlnbheceeklaaDoor
