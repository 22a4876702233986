/- Walks: reads of the laws on sets. Printed by wip/gen_bsrd.py. -/
import Derived.Test.YtmanmlankfoflaaDoorBsTr
import Derived.Deep.RegionHeld3
set_option linter.unusedVariables false
set_option linter.unusedSimpArgs false
set_option linter.unusedSectionVars false
namespace Go.Proofs.YtmanmlankfoflaaDoor
open Go.RowKit
variable [Base]

theorem valid_n {s : QSet} {d : Bool} (h : setB s = d) (u : Value) (w : World) (h1 : WordsAt w u s.words) : Calls Tryd.prog 39 #[.agg #[.int .i64 s.width, u]] w (BoolQ d w) := bvalid_to h u w h1
theorem rvalid_n {s : QSet} {d : Bool} (h : setB s = d) (u : Value) (w : World) (h1 : WordsAt w u s.words) : Calls Tryd.prog 21 #[.agg #[.int .i64 s.width, u]] w (BoolQ d w) := rbvalid_to h u w h1
theorem has_n {s : QSet} {b : Int} {d : Bool} (h : hasB s b = d) (u : Value) (w : World) (h1 : WordsAt w u s.words) : Calls Tryd.prog 40 #[.agg #[.int .i64 s.width, u], .int .i64 b] w (BoolQ d w) := h ▸ bhas_any s b u w h1
theorem members_n {B : Nat} (s : QSet) (u : Value) (w : World) (h1 : WordsAt w u s.words) (hT : TabsIn B w) (hB : B ≤ w.heap.size) : Calls Tryd.prog 43 #[.agg #[.int .i64 s.width, u]] w (IntsQ ((memS s).map fun n : Nat => (n : Int)) w) := bmembers_any (B := B) s u w h1 hT.tz (by have := hT.num; omega)
theorem rmembers_n (s : QSet) (u : Value) (w : World) (h1 : WordsAt w u s.words) : Calls Tryd.prog 44 #[.agg #[.int .i64 s.width, u]] w (IntsQ ((memS s).map fun n : Nat => (n : Int)) w) := rmembers_any s u w h1
theorem rcount_n {s : QSet} {k : Nat} (h : (memS s).length = k) (u : Value) (w : World) (h1 : WordsAt w u s.words) : Calls Tryd.prog 44 #[.agg #[.int .i64 s.width, u]] w (fun e w' => ∃ a c, e = .returned (.slice a k c) ∧ Below w.heap.size w w') := rmembers_to h u w h1
theorem count_n {s : QSet} {k : Nat} (h : (memS s).length = k) (u : Value) (w : World) (h1 : WordsAt w u s.words) : Calls Tryd.prog 32 #[.agg #[.int .i64 s.width, u]] w (IntQ (k : Int) w) := h ▸ bcount_any s u w h1
theorem text_n {B : Nat} {s : QSet} {x : Str} (hx : textS s = x) (u : Value) (w : World) (h : WordsAt w u s.words) (hT : TabsIn B w) (hB : B ≤ w.heap.size) : Calls Tryd.prog 35 #[.agg #[.int .i64 s.width, u]] w (StrQ x w) := hx ▸ btext_any s u w h hT hB
theorem rtext_n {s : QSet} {x : Str} (hx : textS s = x) (u : Value) (w : World) (h : WordsAt w u s.words) : Calls Tryd.prog 38 #[.agg #[.int .i64 s.width, u]] w (StrQ x w) := hx ▸ rtext_any s u w h
set_option maxRecDepth 100000 in
set_option maxHeartbeats 4000000 in
theorem reads_any {B : Nat} (A : QSet) (b : Int) (u1 : Value) (w : World) (h1 : WordsAt w u1 A.words) (hT : TabsIn B w) (hB : B ≤ w.heap.size) : Calls Tryd.prog 11 #[.agg #[.int .i64 A.width, u1], .int .i64 b] w (BoolQ true w) := by
  have hud : ∀ b : Bool, (undef = Value.bool b) = False := fun b => by simp [undef]
  obtain ⟨dV, hV⟩ : ∃ d, setB A = d := ⟨_, rfl⟩
  obtain ⟨dH, hH⟩ : ∃ d, hasB A b = d := ⟨_, rfl⟩
  obtain ⟨k, hk⟩ : ∃ k, (memS A).length = k := ⟨_, rfl⟩
  obtain ⟨tx, htx⟩ : ∃ t, textS A = t := ⟨_, rfl⟩
  have HV := Lib.hid hV
  have HH := Lib.hid hH
  have HKK := Lib.hid hk
  have HTX := Lib.hid htx
  have HT := Lib.hid hT
  have m1 : (dV == dV) = true := by simp
  have m2 : (dH == dH) = true := by simp
  have m3 : ((k : Int) == (k : Int)) = true := by simp
  have m4 : ((⟨tx.toArray⟩ : ByteArray) == ⟨tx.toArray⟩) = true := by first | exact beq_self_eq_true _ | exact decide_eq_true rfl | (show (tx.toArray == tx.toArray) = true; exact beq_self_eq_true _)
  clear hV hH hk htx hT
  obtain ⟨aa, ka, ca, rfl⟩ : ∃ a n c, u1 = .slice a n c := by obtain ⟨a, c, rfl, -⟩ := h1.cell; exact ⟨_, _, _, rfl⟩
  obtain ⟨V, hV⟩ : ∃ V, w.alloc (.cells #[.int .i64 A.width, .slice aa ka ca] 25) = V := ⟨_, rfl⟩
  have hbv : Below w.heap.size w V := by rw [← hV]; exact (Below.refl _ _).alloc (Nat.le_refl _) _
  have Pa := Lib.hid (show V.heap[w.heap.size]? = some (.cells #[.int .i64 A.width, .slice aa ka ca] 25 (0, 0)) by rw [← hV]; exact heap_alloc_new _ _)
  have Wa := Lib.hid (h1.below hbv)
  have BV := Lib.hid hbv
  have HVV := Lib.hid hV
  have HTV := Lib.hid (show ∀ w', Below V.heap.size V w' → TabsIn B w' ∧ B ≤ w'.heap.size from fun w' hb => ⟨HT.out.keep fun q hq => (hb.block q (by have := hbv.size; omega)).trans (hbv.block q (by omega)), Nat.le_trans hB (Nat.le_trans hbv.size hb.size)⟩)
  clear hbv hV h1
  go_enter Tryd.func11, Tryd.ntmps11
  have HS : Hid (∀ w', Below V.heap.size V w' → w'.cell? ⟨w.heap.size, 0, none⟩ = some (.int .i64 A.width) ∧ w'.cell? ⟨w.heap.size, 1, none⟩ = some (.slice aa ka ca)) := by
    refine Lib.hid fun w' hb => ?_
    have z0 := (lies_cells Pa.out).1 0
    have z1 := (lies_cells Pa.out).1 1
    simp only [List.getElem?_toArray, List.getElem?_cons_zero, List.getElem?_cons_succ] at z0 z1
    exact ⟨(hb.cell (p := ⟨w.heap.size, 0, none⟩) (lt_heap Pa.out)).trans z0, (hb.cell (p := ⟨w.heap.size, 1, none⟩) (lt_heap Pa.out)).trans z1⟩
  have F0 := Lib.hid (show Below V.heap.size V V.drew from (Below.refl _ _).drew)
  go_wp2_with fail
  rw [show w.alloc (.cells #[.int .i64 A.width, .slice aa ka ca] 25) = V from HVV.out]
  go_region_held3 (fun w' => w'.cell? ⟨w.heap.size, 0, none⟩ = some (.int .i64 A.width) ∧ w'.cell? ⟨w.heap.size, 1, none⟩ = some (.slice aa ka ca)) (first | exact HS.out _ F11.out | exact HS.out _ F10.out | exact HS.out _ F9.out | exact HS.out _ F8.out | exact HS.out _ F7.out | exact HS.out _ F6.out | exact HS.out _ F5.out | exact HS.out _ F4.out | exact HS.out _ F3.out | exact HS.out _ F2.out | exact HS.out _ F1.out | exact HS.out _ F0.out | exact HS.out _ (Below.refl _ _) | go_keep) (first | (go_at_call 39; ((with_reducible refine (valid_n HV.out (.slice aa ka ca) V.drew (Wa.out.below F0.out)).mono ?_)); go_must (rintro e z1 ⟨rfl, b⟩; have F1 := Lib.hid (F0.out.trans (b.mono F0.out.size)); clear b)) | (go_at_call 21; ((with_reducible refine (rvalid_n HV.out (.slice aa ka ca) z1 (Wa.out.below F1.out)).mono ?_)); go_must (rintro e z2 ⟨rfl, b⟩; have F2 := Lib.hid (F1.out.trans (b.mono F1.out.size)); clear b)) | (go_at_call 40; ((with_reducible refine (has_n HH.out (.slice aa ka ca) z2 (Wa.out.below F2.out)).mono ?_)); go_must (rintro e z3 ⟨rfl, b⟩; have F3 := Lib.hid (F2.out.trans (b.mono F2.out.size)); clear b)) | (go_at_call 41; ((with_reducible refine (rhas_at HH.out (.slice aa ka ca) z3 (Wa.out.below F3.out)).mono ?_)); go_must (rintro e z4 ⟨rfl, b⟩; have F4 := Lib.hid (F3.out.trans (b.mono F3.out.size)); clear b)) | (go_at_call 43; ((with_reducible refine (members_n (B := B) A (.slice aa ka ca) z4 (Wa.out.below F4.out) (HTV.out _ F4.out).1 (HTV.out _ F4.out).2).mono ?_)); go_must (rintro e z5 ⟨m1v, rfl, hi, b⟩; have F5 := Lib.hid (F4.out.trans (b.mono F4.out.size)); obtain ⟨a5, c5, rfl, -⟩ := hi.cell; rw [List.length_map, HKK.out] at hi ⊢; have I5 := Lib.hid hi; clear hi; clear b)) | (go_at_call 44; ((with_reducible refine (rmembers_n A (.slice aa ka ca) z5 (Wa.out.below F5.out)).mono ?_)); go_must (rintro e z6 ⟨m2v, rfl, hi, b⟩; have F6 := Lib.hid (F5.out.trans (b.mono F5.out.size)); obtain ⟨a6, c6, rfl, -⟩ := hi.cell; rw [List.length_map, HKK.out] at hi ⊢; have J6 := Lib.hid hi; have I6 := Lib.hid (I5.out.below b); clear hi; clear b)) | (go_at_call 42; ((with_reducible refine (rints_same ((memS A).map fun n : Nat => (n : Int)) (.slice a5 k c5) (.slice a6 k c6) z6 I6.out J6.out).mono ?_)); go_must (rintro e z7 ⟨rfl, b⟩; have F7 := Lib.hid (F6.out.trans (b.mono F6.out.size)); clear b)) | (go_at_call 32; ((with_reducible refine (count_n HKK.out (.slice aa ka ca) z7 (Wa.out.below F7.out)).mono ?_)); go_must (rintro e z8 ⟨rfl, b⟩; have F8 := Lib.hid (F7.out.trans (b.mono F7.out.size)); clear b)) | (go_at_call 44; ((with_reducible refine (rcount_n HKK.out (.slice aa ka ca) z8 (Wa.out.below F8.out)).mono ?_)); go_must (rintro e z9 ⟨a9, c9, rfl, b⟩; have F9 := Lib.hid (F8.out.trans (b.mono F8.out.size)); clear b)) | (go_at_call 35; ((with_reducible refine (text_n (B := B) HTX.out (.slice aa ka ca) z9 (Wa.out.below F9.out) (HTV.out _ F9.out).1 (HTV.out _ F9.out).2).mono ?_)); go_must (rintro e z10 ⟨rfl, b⟩; have F10 := Lib.hid (F9.out.trans (b.mono F9.out.size)); clear b)) | (go_at_call 38; ((with_reducible refine (rtext_n HTX.out (.slice aa ka ca) z10 (Wa.out.below F10.out)).mono ?_)); go_must (rintro e z11 ⟨rfl, b⟩; have F11 := Lib.hid (F10.out.trans (b.mono F10.out.size)); clear b)))
  all_goals
    go_wp2
    go_ret
    exact ⟨rfl, BV.out.trans (F11.out.mono BV.out.size)⟩
end Go.Proofs.YtmanmlankfoflaaDoor
