/- Walks: makes of the laws on sets. Printed by wip/gen_bsmk.py. -/
import Derived.Test.YtmanmlankfoflaaDoorBsSa
import Derived.Test.YtmanmlankfoflaaDoorBsRF2
import Derived.Test.YtmanmlankfoflaaDoorBsS
import Derived.BigQuiet
import Derived.Deep.RegionHeld3
set_option linter.unusedVariables false
set_option linter.unusedSimpArgs false
set_option linter.unusedSectionVars false
namespace Go.Proofs.YtmanmlankfoflaaDoor
open Go.RowKit
variable [Base]

theorem same_at (d : Int) (l : List Nat) (u1 u2 : Value) (w : World) (h1 : WordsAt w u1 l) (h2 : WordsAt w u2 l) : Calls Tryd.prog 25 #[.agg #[.int .i64 d, u1], .agg #[.int .i64 d, u2]] w (BoolQ true w) := rsame_any ⟨d, l⟩ u1 u2 w h1 h2
set_option maxRecDepth 100000 in
set_option maxHeartbeats 4000000 in
theorem makes_no (k : Int) (hk : rangedB k = false) (l : List Int) (v0 : Value) (w : World) (hl : IntsAt w v0 l) : Calls Tryd.prog 15 #[.int .i64 k, v0] w (BoolQ true w) := by
  have hud : ∀ b : Bool, (undef = Value.bool b) = False := fun b => by simp [undef]
  have HR := Lib.hid hk
  have HL := Lib.hid hl
  obtain ⟨la, lc, rfl, -⟩ := hl.cell
  obtain ⟨n, hn⟩ : ∃ n, l.length = n := ⟨_, rfl⟩
  rw [hn] at HL ⊢
  clear hn hl
  have hcase : k < 0 ∨ (256 < k ∧ ¬ k < 0) := by
    unfold rangedB at hk
    simp only [Bool.and_eq_false_iff, decide_eq_false_iff_not] at hk
    omega
  clear hk
  go_enter Tryd.func15, Tryd.ntmps15
  have E0 := Lib.hid (Below.refl w.heap.size w)
  go_wp2_with fail
  refine (bempty_no k HR.out w).mono ?_
  rintro e v1 ⟨rfl, b⟩
  have BB1 := Lib.hid b
  have E1 := Lib.hid (E0.out.trans (BB1.out.mono E0.out.size))
  clear b
  have Wa : Hid (WordsAt v1 (.slice none 0 0) []) := WordsAt.nil
  go_wp2_with fail
  refine (bfull_no k HR.out _).mono ?_
  rintro e v2 ⟨rfl, b⟩
  have BB2 := Lib.hid (((Below.refl v1.heap.size v1).alloc (Nat.le_refl _) _).trans (b.mono (by simp)))
  have E2 := Lib.hid (E1.out.trans (BB2.out.mono E1.out.size))
  have Pa := Lib.hid ((b.block v1.heap.size (by simp)).trans (heap_alloc_new v1 (.cells #[.int .i64 0, .slice none 0 0] 25)))
  have Wa_ := Lib.hid (Wa.out.below BB2.out)
  clear Wa
  have Wa := Wa_
  clear Wa_
  clear b
  have Wb : Hid (WordsAt v2 (.slice none 0 0) []) := WordsAt.nil
  go_wp2_with fail
  refine (bof_no k HR.out l _ _ (HL.out.below (E2.out.alloc E2.out.size _))).mono ?_
  rintro e v3 ⟨rfl, b⟩
  have BB3 := Lib.hid (((Below.refl v2.heap.size v2).alloc (Nat.le_refl _) _).trans (b.mono (by simp)))
  have E3 := Lib.hid (E2.out.trans (BB3.out.mono E2.out.size))
  have Pa_ := Lib.hid (lies_below Pa.out BB3.out (lt_heap Pa.out))
  have Wa_ := Lib.hid (Wa.out.below BB3.out)
  clear Pa Wa
  have Pa := Pa_
  have Wa := Wa_
  clear Pa_ Wa_
  have Pb := Lib.hid ((b.block v2.heap.size (by simp)).trans (heap_alloc_new v2 (.cells #[.int .i64 0, .slice none 0 0] 25)))
  have Wb_ := Lib.hid (Wb.out.below BB3.out)
  clear Wb
  have Wb := Wb_
  clear Wb_
  clear b
  have Wc : Hid (WordsAt v3 (.slice none 0 0) []) := WordsAt.nil
  go_wp2_with fail
  refine (rof_no k HR.out l _ _ (HL.out.below (E3.out.alloc E3.out.size _))).mono ?_
  rintro e v4 ⟨rfl, b⟩
  have BB4 := Lib.hid (((Below.refl v3.heap.size v3).alloc (Nat.le_refl _) _).trans (b.mono (by simp)))
  have E4 := Lib.hid (E3.out.trans (BB4.out.mono E3.out.size))
  have Pa_ := Lib.hid (lies_below Pa.out BB4.out (lt_heap Pa.out))
  have Wa_ := Lib.hid (Wa.out.below BB4.out)
  clear Pa Wa
  have Pa := Pa_
  have Wa := Wa_
  clear Pa_ Wa_
  have Pb_ := Lib.hid (lies_below Pb.out BB4.out (lt_heap Pb.out))
  have Wb_ := Lib.hid (Wb.out.below BB4.out)
  clear Pb Wb
  have Pb := Pb_
  have Wb := Wb_
  clear Pb_ Wb_
  have Pc := Lib.hid ((b.block v3.heap.size (by simp)).trans (heap_alloc_new v3 (.cells #[.int .i64 0, .slice none 0 0] 25)))
  have Wc_ := Lib.hid (Wc.out.below BB4.out)
  clear Wc
  have Wc := Wc_
  clear Wc_
  clear b
  have Wd : Hid (WordsAt v4 (.slice none 0 0) []) := WordsAt.nil
  rcases hcase with hc | ⟨hc, hc2⟩
  · have xa0 := (lies_cells Pa.out).1 0
    have xa1 := (lies_cells Pa.out).1 1
    simp only [List.getElem?_toArray, List.getElem?_cons_zero, List.getElem?_cons_succ] at xa0 xa1
    have ya0 : v1.heap.size < v4.heap.size := lt_heap Pa.out
    have ya1 : v1.heap.size ≠ v4.heap.size := by omega
    have ya2 : v4.heap.size ≠ v1.heap.size := by omega
    have xb0 := (lies_cells Pb.out).1 0
    have xb1 := (lies_cells Pb.out).1 1
    simp only [List.getElem?_toArray, List.getElem?_cons_zero, List.getElem?_cons_succ] at xb0 xb1
    have yb0 : v2.heap.size < v4.heap.size := lt_heap Pb.out
    have yb1 : v2.heap.size ≠ v4.heap.size := by omega
    have yb2 : v4.heap.size ≠ v2.heap.size := by omega
    have xc0 := (lies_cells Pc.out).1 0
    have xc1 := (lies_cells Pc.out).1 1
    simp only [List.getElem?_toArray, List.getElem?_cons_zero, List.getElem?_cons_succ] at xc0 xc1
    have yc0 : v3.heap.size < v4.heap.size := lt_heap Pc.out
    have yc1 : v3.heap.size ≠ v4.heap.size := by omega
    have yc2 : v4.heap.size ≠ v3.heap.size := by omega
    have dk : decide (k < 0) = true := by simpa using hc
    go_wp2_with fail
    refine (same_at 0 [] _ _ _ (Wc.out.below ((Below.refl _ _).alloc (Nat.le_refl _) _)) (Wd.out.below ((Below.refl _ _).alloc (Nat.le_refl _) _))).mono ?_
    rintro e v5 ⟨rfl, b⟩
    have BB5 := Lib.hid (((Below.refl v4.heap.size v4).alloc (Nat.le_refl _) _).trans (b.mono (by simp)))
    have E5 := Lib.hid (E4.out.trans (BB5.out.mono E4.out.size))
    have Pa_ := Lib.hid (lies_below Pa.out BB5.out (lt_heap Pa.out))
    have Wa_ := Lib.hid (Wa.out.below BB5.out)
    clear Pa Wa
    have Pa := Pa_
    have Wa := Wa_
    clear Pa_ Wa_
    have Pb_ := Lib.hid (lies_below Pb.out BB5.out (lt_heap Pb.out))
    have Wb_ := Lib.hid (Wb.out.below BB5.out)
    clear Pb Wb
    have Pb := Pb_
    have Wb := Wb_
    clear Pb_ Wb_
    have Pc_ := Lib.hid (lies_below Pc.out BB5.out (lt_heap Pc.out))
    have Wc_ := Lib.hid (Wc.out.below BB5.out)
    clear Pc Wc
    have Pc := Pc_
    have Wc := Wc_
    clear Pc_ Wc_
    have Pd := Lib.hid ((b.block v4.heap.size (by simp)).trans (heap_alloc_new v4 (.cells #[.int .i64 0, .slice none 0 0] 25)))
    have Wd_ := Lib.hid (Wd.out.below BB5.out)
    clear Wd
    have Wd := Wd_
    clear Wd_
    clear b
    clear xa0 xa1 xb0 xb1 xc0 xc1 ya0 ya1 ya2 yb0 yb1 yb2 yc0 yc1 yc2
    have xa0 := (lies_cells Pa.out).1 0
    have xa1 := (lies_cells Pa.out).1 1
    simp only [List.getElem?_toArray, List.getElem?_cons_zero, List.getElem?_cons_succ] at xa0 xa1
    have xb0 := (lies_cells Pb.out).1 0
    have xb1 := (lies_cells Pb.out).1 1
    simp only [List.getElem?_toArray, List.getElem?_cons_zero, List.getElem?_cons_succ] at xb0 xb1
    go_wp2
    go_ret
    exact ⟨rfl, E5.out⟩
  · have xa0 := (lies_cells Pa.out).1 0
    have xa1 := (lies_cells Pa.out).1 1
    simp only [List.getElem?_toArray, List.getElem?_cons_zero, List.getElem?_cons_succ] at xa0 xa1
    have ya0 : v1.heap.size < v4.heap.size := lt_heap Pa.out
    have ya1 : v1.heap.size ≠ v4.heap.size := by omega
    have ya2 : v4.heap.size ≠ v1.heap.size := by omega
    have xb0 := (lies_cells Pb.out).1 0
    have xb1 := (lies_cells Pb.out).1 1
    simp only [List.getElem?_toArray, List.getElem?_cons_zero, List.getElem?_cons_succ] at xb0 xb1
    have yb0 : v2.heap.size < v4.heap.size := lt_heap Pb.out
    have yb1 : v2.heap.size ≠ v4.heap.size := by omega
    have yb2 : v4.heap.size ≠ v2.heap.size := by omega
    have xc0 := (lies_cells Pc.out).1 0
    have xc1 := (lies_cells Pc.out).1 1
    simp only [List.getElem?_toArray, List.getElem?_cons_zero, List.getElem?_cons_succ] at xc0 xc1
    have yc0 : v3.heap.size < v4.heap.size := lt_heap Pc.out
    have yc1 : v3.heap.size ≠ v4.heap.size := by omega
    have yc2 : v4.heap.size ≠ v3.heap.size := by omega
    have dk : decide (k < 0) = false := by simpa using hc2
    have dk2 : decide (256 < k) = true := by simpa using hc
    go_wp2_with fail
    refine (same_at 0 [] _ _ _ (Wc.out.below ((Below.refl _ _).alloc (Nat.le_refl _) _)) (Wd.out.below ((Below.refl _ _).alloc (Nat.le_refl _) _))).mono ?_
    rintro e v5 ⟨rfl, b⟩
    have BB5 := Lib.hid (((Below.refl v4.heap.size v4).alloc (Nat.le_refl _) _).trans (b.mono (by simp)))
    have E5 := Lib.hid (E4.out.trans (BB5.out.mono E4.out.size))
    have Pa_ := Lib.hid (lies_below Pa.out BB5.out (lt_heap Pa.out))
    have Wa_ := Lib.hid (Wa.out.below BB5.out)
    clear Pa Wa
    have Pa := Pa_
    have Wa := Wa_
    clear Pa_ Wa_
    have Pb_ := Lib.hid (lies_below Pb.out BB5.out (lt_heap Pb.out))
    have Wb_ := Lib.hid (Wb.out.below BB5.out)
    clear Pb Wb
    have Pb := Pb_
    have Wb := Wb_
    clear Pb_ Wb_
    have Pc_ := Lib.hid (lies_below Pc.out BB5.out (lt_heap Pc.out))
    have Wc_ := Lib.hid (Wc.out.below BB5.out)
    clear Pc Wc
    have Pc := Pc_
    have Wc := Wc_
    clear Pc_ Wc_
    have Pd := Lib.hid ((b.block v4.heap.size (by simp)).trans (heap_alloc_new v4 (.cells #[.int .i64 0, .slice none 0 0] 25)))
    have Wd_ := Lib.hid (Wd.out.below BB5.out)
    clear Wd
    have Wd := Wd_
    clear Wd_
    clear b
    clear xa0 xa1 xb0 xb1 xc0 xc1 ya0 ya1 ya2 yb0 yb1 yb2 yc0 yc1 yc2
    have xa0 := (lies_cells Pa.out).1 0
    have xa1 := (lies_cells Pa.out).1 1
    simp only [List.getElem?_toArray, List.getElem?_cons_zero, List.getElem?_cons_succ] at xa0 xa1
    have xb0 := (lies_cells Pb.out).1 0
    have xb1 := (lies_cells Pb.out).1 1
    simp only [List.getElem?_toArray, List.getElem?_cons_zero, List.getElem?_cons_succ] at xb0 xb1
    go_wp2
    go_ret
    exact ⟨rfl, E5.out⟩
set_option maxRecDepth 100000 in
set_option maxHeartbeats 4000000 in
theorem makes_yes (m : Nat) (hm : m ≤ 256) (l : List Int) (v0 : Value) (w : World) (hl : IntsAt w v0 l) : Calls Tryd.prog 15 #[.int .i64 m, v0] w (BoolQ true w) := by
  have hud : ∀ b : Bool, (undef = Value.bool b) = False := fun b => by simp [undef]
  have HL := Lib.hid hl
  obtain ⟨la, lc, rfl, -⟩ := hl.cell
  obtain ⟨n, hn⟩ : ∃ n, l.length = n := ⟨_, rfl⟩
  rw [hn] at HL ⊢
  clear hn hl
  have dk1 : decide ((m : Int) < 0) = false := by simp
  have dk2 : decide ((256 : Int) < (m : Int)) = false := by simp; omega
  have dk3 : decide (256 < m) = false := by simp; omega
  go_enter Tryd.func15, Tryd.ntmps15
  have E0 := Lib.hid (Below.refl w.heap.size w)
  go_wp2_with fail
  refine (bempty_any m hm w).mono ?_
  rintro e v1 ⟨ua, rfl, na_, b⟩
  have BB1 := Lib.hid b
  have E1 := Lib.hid (E0.out.trans (BB1.out.mono E0.out.size))
  clear b
  have na : NewS w.heap.size v1 ua (emptyS m) := .inr na_
  clear na_
  obtain ⟨aa, ka, ca, rfl⟩ := na.shape
  have Wa := Lib.hid na.words
  clear na
  rw [show setV (emptyS m) (.slice aa ka ca) = .agg #[.int .i64 (m : Int), .slice aa ka ca] from rfl]
  go_wp2_with fail
  refine (bfull_any m hm _).mono ?_
  rintro e v2 ⟨ub, rfl, nb, b⟩
  have BB2 := Lib.hid (((Below.refl v1.heap.size v1).alloc (Nat.le_refl _) _).trans (b.mono (by simp)))
  have E2 := Lib.hid (E1.out.trans (BB2.out.mono E1.out.size))
  have Pa := Lib.hid ((b.block v1.heap.size (by simp)).trans (heap_alloc_new v1 (.cells #[.int .i64 (m : Int), .slice aa ka ca] 25)))
  have Wa_ := Lib.hid (Wa.out.below BB2.out)
  clear Wa
  have Wa := Wa_
  clear Wa_
  clear b
  obtain ⟨ab, kb, cb, rfl⟩ := nb.shape
  have Wb := Lib.hid nb.words
  clear nb
  rw [show (fullTo m m, (0 : Int)).1 = fullTo m m from rfl, show (fullTo m m, (0 : Int)).2 = 0 from rfl, show setV (fullTo m m) (.slice ab kb cb) = .agg #[.int .i64 (m : Int), .slice ab kb cb] from by unfold setV; rw [(fullTo_form hm m).2]]
  obtain ⟨fl, hfl⟩ : ∃ fl, fullTo m m = fl := ⟨_, rfl⟩
  have HFL := Lib.hid hfl
  have Wb_ := Wb.out
  rw [show (fullTo m m, (0 : Int)).1 = fl from hfl] at Wb_
  clear Wb hfl
  have Wb := Lib.hid Wb_
  clear Wb_
  obtain ⟨q, hq⟩ : ∃ q, ofS (m : Int) l = q := ⟨_, rfl⟩
  have HQ := Lib.hid hq
  clear hq
  go_wp2_with fail
  refine (bof_any (m : Int) l _ _ (HL.out.below (E2.out.alloc E2.out.size _))).mono ?_
  rintro e v3 ⟨uc, rfl, nc, b⟩
  have BB3 := Lib.hid (((Below.refl v2.heap.size v2).alloc (Nat.le_refl _) _).trans (b.mono (by simp)))
  have E3 := Lib.hid (E2.out.trans (BB3.out.mono E2.out.size))
  have Pa_ := Lib.hid (lies_below Pa.out BB3.out (lt_heap Pa.out))
  have Wa_ := Lib.hid (Wa.out.below BB3.out)
  clear Pa Wa
  have Pa := Pa_
  have Wa := Wa_
  clear Pa_ Wa_
  have Pb := Lib.hid ((b.block v2.heap.size (by simp)).trans (heap_alloc_new v2 (.cells #[.int .i64 (m : Int), .slice ab kb cb] 25)))
  have Wb_ := Lib.hid (Wb.out.below BB3.out)
  clear Wb
  have Wb := Wb_
  clear Wb_
  clear b
  rw [HQ.out] at nc ⊢
  obtain ⟨ac, kc, cc, rfl⟩ := nc.shape
  have Wc := Lib.hid nc.words
  clear nc
  skip
  go_wp2_with fail
  refine (rof_any (m : Int) l _ _ (HL.out.below (E3.out.alloc E3.out.size _))).mono ?_
  rintro e v4 ⟨ud, rfl, nd, b⟩
  have BB4 := Lib.hid (((Below.refl v3.heap.size v3).alloc (Nat.le_refl _) _).trans (b.mono (by simp)))
  have E4 := Lib.hid (E3.out.trans (BB4.out.mono E3.out.size))
  have Pa_ := Lib.hid (lies_below Pa.out BB4.out (lt_heap Pa.out))
  have Wa_ := Lib.hid (Wa.out.below BB4.out)
  clear Pa Wa
  have Pa := Pa_
  have Wa := Wa_
  clear Pa_ Wa_
  have Pb_ := Lib.hid (lies_below Pb.out BB4.out (lt_heap Pb.out))
  have Wb_ := Lib.hid (Wb.out.below BB4.out)
  clear Pb Wb
  have Pb := Pb_
  have Wb := Wb_
  clear Pb_ Wb_
  have Pc := Lib.hid ((b.block v3.heap.size (by simp)).trans (heap_alloc_new v3 (.cells #[.int .i64 q.1.width, .slice ac kc cc] 25)))
  have Wc_ := Lib.hid (Wc.out.below BB4.out)
  clear Wc
  have Wc := Wc_
  clear Wc_
  clear b
  rw [HQ.out] at nd ⊢
  obtain ⟨ad, kd, cd, rfl⟩ := nd.shape
  have Wd := Lib.hid nd.words
  clear nd
  skip
  have hqq : (q.2 != q.2) = false := by simp
  have xa0 := (lies_cells Pa.out).1 0
  have xa1 := (lies_cells Pa.out).1 1
  simp only [List.getElem?_toArray, List.getElem?_cons_zero, List.getElem?_cons_succ] at xa0 xa1
  have ya0 : v1.heap.size < v4.heap.size := lt_heap Pa.out
  have ya1 : v1.heap.size ≠ v4.heap.size := by omega
  have ya2 : v4.heap.size ≠ v1.heap.size := by omega
  have xb0 := (lies_cells Pb.out).1 0
  have xb1 := (lies_cells Pb.out).1 1
  simp only [List.getElem?_toArray, List.getElem?_cons_zero, List.getElem?_cons_succ] at xb0 xb1
  have yb0 : v2.heap.size < v4.heap.size := lt_heap Pb.out
  have yb1 : v2.heap.size ≠ v4.heap.size := by omega
  have yb2 : v4.heap.size ≠ v2.heap.size := by omega
  have xc0 := (lies_cells Pc.out).1 0
  have xc1 := (lies_cells Pc.out).1 1
  simp only [List.getElem?_toArray, List.getElem?_cons_zero, List.getElem?_cons_succ] at xc0 xc1
  have yc0 : v3.heap.size < v4.heap.size := lt_heap Pc.out
  have yc1 : v3.heap.size ≠ v4.heap.size := by omega
  have yc2 : v4.heap.size ≠ v3.heap.size := by omega
  go_wp2_with fail
  refine (same_at q.1.width q.1.words _ _ _ (Wc.out.below ((Below.refl _ _).alloc (Nat.le_refl _) _)) (Wd.out.below ((Below.refl _ _).alloc (Nat.le_refl _) _))).mono ?_
  rintro e v5 ⟨rfl, b⟩
  have BB5 := Lib.hid (((Below.refl v4.heap.size v4).alloc (Nat.le_refl _) _).trans (b.mono (by simp)))
  have E5 := Lib.hid (E4.out.trans (BB5.out.mono E4.out.size))
  have Pa_ := Lib.hid (lies_below Pa.out BB5.out (lt_heap Pa.out))
  have Wa_ := Lib.hid (Wa.out.below BB5.out)
  clear Pa Wa
  have Pa := Pa_
  have Wa := Wa_
  clear Pa_ Wa_
  have Pb_ := Lib.hid (lies_below Pb.out BB5.out (lt_heap Pb.out))
  have Wb_ := Lib.hid (Wb.out.below BB5.out)
  clear Pb Wb
  have Pb := Pb_
  have Wb := Wb_
  clear Pb_ Wb_
  have Pc_ := Lib.hid (lies_below Pc.out BB5.out (lt_heap Pc.out))
  have Wc_ := Lib.hid (Wc.out.below BB5.out)
  clear Pc Wc
  have Pc := Pc_
  have Wc := Wc_
  clear Pc_ Wc_
  have Pd := Lib.hid ((b.block v4.heap.size (by simp)).trans (heap_alloc_new v4 (.cells #[.int .i64 q.1.width, .slice ad kd cd] 25)))
  have Wd_ := Lib.hid (Wd.out.below BB5.out)
  clear Wd
  have Wd := Wd_
  clear Wd_
  clear b
  clear xa0 xa1 ya0 ya1 ya2 xb0 xb1 yb0 yb1 yb2 xc0 xc1 yc0 yc1 yc2
  have xa0 := (lies_cells Pa.out).1 0
  have xa1 := (lies_cells Pa.out).1 1
  simp only [List.getElem?_toArray, List.getElem?_cons_zero, List.getElem?_cons_succ] at xa0 xa1
  have xb0 := (lies_cells Pb.out).1 0
  have xb1 := (lies_cells Pb.out).1 1
  simp only [List.getElem?_toArray, List.getElem?_cons_zero, List.getElem?_cons_succ] at xb0 xb1
  have hza : v1.heap.size < v5.heap.size := lt_heap Pa.out
  have hzb : v2.heap.size < v5.heap.size := lt_heap Pb.out
  go_wp2_with fail
  go_region_held3 (fun w' => w'.cell? ⟨v1.heap.size, 0, none⟩ = some (.int .i64 (m : Int)) ∧ w'.cell? ⟨v1.heap.size, 1, none⟩ = some (.slice aa ka ca) ∧ w'.cell? ⟨v2.heap.size, 0, none⟩ = some (.int .i64 (m : Int)) ∧ w'.cell? ⟨v2.heap.size, 1, none⟩ = some (.slice ab kb cb)) (go_keep) (first | (go_at_call 23; (refine (empty_any m hm v5.drew).mono ?_); go_must (rintro e v6 ⟨ue, rfl, oe, b6⟩; obtain ⟨ge, rfl, ge1, ge2, ge3⟩ := oe; rw [show setV (emptyS m) (.slice (some ⟨ge, 0, none⟩) (emptyS m).words.length (emptyS m).words.length) = .agg #[.int .i64 (m : Int), .slice (some ⟨ge, 0, none⟩) (emptyS m).words.length (emptyS m).words.length] from rfl]; have We := Lib.hid (OwnS.words (B := 0) ⟨ge, rfl, Nat.zero_le _, ge2, ge3⟩); have Q6 := Lib.hid (show Below v5.heap.size v5 v6 from (Below.refl _ _).drew.trans b6); have t6a0 := (b6.cell (p := ⟨v1.heap.size, 0, none⟩) (Nat.lt_of_lt_of_le hza (show v5.heap.size ≤ v5.heap.size from Nat.le_refl _))).trans xa0; have t6a1 := (b6.cell (p := ⟨v1.heap.size, 1, none⟩) (Nat.lt_of_lt_of_le hza (show v5.heap.size ≤ v5.heap.size from Nat.le_refl _))).trans xa1; have t6b0 := (b6.cell (p := ⟨v2.heap.size, 0, none⟩) (Nat.lt_of_lt_of_le hzb (show v5.heap.size ≤ v5.heap.size from Nat.le_refl _))).trans xb0; have t6b1 := (b6.cell (p := ⟨v2.heap.size, 1, none⟩) (Nat.lt_of_lt_of_le hzb (show v5.heap.size ≤ v5.heap.size from Nat.le_refl _))).trans xb1; clear b6 ge1 ge2 ge3)) | (go_at_call 25; ((with_reducible refine (same_at (m : Int) (emptyS m).words (.slice aa ka ca) (.slice (some ⟨ge, 0, none⟩) (emptyS m).words.length (emptyS m).words.length) v6 (Wa.out.below Q6.out) We.out).mono ?_)); go_must (rintro e v7 ⟨rfl, b7⟩; have Q7 := Lib.hid (Q6.out.trans (b7.mono Q6.out.size)); have t7a0 := (b7.cell (p := ⟨v1.heap.size, 0, none⟩) (Nat.lt_of_lt_of_le hza (show v5.heap.size ≤ v6.heap.size from Q6.out.size))).trans t6a0; have t7a1 := (b7.cell (p := ⟨v1.heap.size, 1, none⟩) (Nat.lt_of_lt_of_le hza (show v5.heap.size ≤ v6.heap.size from Q6.out.size))).trans t6a1; have t7b0 := (b7.cell (p := ⟨v2.heap.size, 0, none⟩) (Nat.lt_of_lt_of_le hzb (show v5.heap.size ≤ v6.heap.size from Q6.out.size))).trans t6b0; have t7b1 := (b7.cell (p := ⟨v2.heap.size, 1, none⟩) (Nat.lt_of_lt_of_le hzb (show v5.heap.size ≤ v6.heap.size from Q6.out.size))).trans t6b1; clear b7)) | (go_at_call 49; (refine (rfull_any m hm v7).mono ?_); go_must (rintro e v8 ⟨uf, rfl, nf, b8⟩; rw [HFL.out] at nf ⊢; obtain ⟨af, kf, cf, rfl⟩ := nf.shape; rw [show setV fl (.slice af kf cf) = .agg #[.int .i64 (m : Int), .slice af kf cf] from (by unfold setV; rw [← HFL.out, (fullTo_form hm m).2])]; have Wf := Lib.hid nf.words; have Q8 := Lib.hid (Q7.out.trans (b8.mono Q7.out.size)); have t8a0 := (b8.cell (p := ⟨v1.heap.size, 0, none⟩) (Nat.lt_of_lt_of_le hza (show v5.heap.size ≤ v7.heap.size from Q7.out.size))).trans t7a0; have t8a1 := (b8.cell (p := ⟨v1.heap.size, 1, none⟩) (Nat.lt_of_lt_of_le hza (show v5.heap.size ≤ v7.heap.size from Q7.out.size))).trans t7a1; have t8b0 := (b8.cell (p := ⟨v2.heap.size, 0, none⟩) (Nat.lt_of_lt_of_le hzb (show v5.heap.size ≤ v7.heap.size from Q7.out.size))).trans t7b0; have t8b1 := (b8.cell (p := ⟨v2.heap.size, 1, none⟩) (Nat.lt_of_lt_of_le hzb (show v5.heap.size ≤ v7.heap.size from Q7.out.size))).trans t7b1; clear b8 nf)) | (go_at_call 25; ((with_reducible refine (same_at (m : Int) fl.words (.slice ab kb cb) (.slice af kf cf) v8 (Wb.out.below Q8.out) Wf.out).mono ?_)); go_must (rintro e v9 ⟨rfl, b9⟩; have Q9 := Lib.hid (Q8.out.trans (b9.mono Q8.out.size)); have t9a0 := (b9.cell (p := ⟨v1.heap.size, 0, none⟩) (Nat.lt_of_lt_of_le hza (show v5.heap.size ≤ v8.heap.size from Q8.out.size))).trans t8a0; have t9a1 := (b9.cell (p := ⟨v1.heap.size, 1, none⟩) (Nat.lt_of_lt_of_le hza (show v5.heap.size ≤ v8.heap.size from Q8.out.size))).trans t8a1; have t9b0 := (b9.cell (p := ⟨v2.heap.size, 0, none⟩) (Nat.lt_of_lt_of_le hzb (show v5.heap.size ≤ v8.heap.size from Q8.out.size))).trans t8b0; have t9b1 := (b9.cell (p := ⟨v2.heap.size, 1, none⟩) (Nat.lt_of_lt_of_le hzb (show v5.heap.size ≤ v8.heap.size from Q8.out.size))).trans t8b1; clear b9)))
  all_goals
    go_wp2
    go_ret
    exact ⟨rfl, E5.out.trans (Q9.out.mono E5.out.size)⟩
end Go.Proofs.YtmanmlankfoflaaDoor
