/- Walks: combines of the laws on sets. Printed by wip/gen_bscb.py. -/
import Derived.Test.YtmanmlankfoflaaDoorBsS2
import Derived.Test.YtmanmlankfoflaaDoorBsZu
import Derived.Test.YtmanmlankfoflaaDoorBsZi
import Derived.Test.YtmanmlankfoflaaDoorBsYu
import Derived.Deep.RegionHeld3
set_option linter.unusedVariables false
set_option linter.unusedSimpArgs false
set_option linter.unusedSectionVars false
namespace Go.Proofs.YtmanmlankfoflaaDoor
open Go.RowKit
variable [Base]

def SetNN (r : QSet) (n : Int) (w : World) (e : Ending) (w' : World) : Prop := ∃ u, e = .returned (.tuple #[.agg #[.int .i64 r.width, u], .int .i64 n]) ∧ NewS w.heap.size w' u r ∧ Below w.heap.size w w'
theorem union_n {s t r : QSet} {n : Int} (h : mergeS (fun x y => x ||| y) s t = (r, n)) (u1 u2 : Value) (w : World) (h1 : WordsAt w u1 s.words) (h2 : WordsAt w u2 t.words) : Calls Tryd.prog 26 #[.agg #[.int .i64 s.width, u1], .agg #[.int .i64 t.width, u2]] w (SetNN r n w) := by
  have k := bunion_any s t u1 u2 w h1 h2
  rw [h] at k
  exact k
theorem inter_n {s t r : QSet} {n : Int} (h : mergeS (fun x y => x &&& y) s t = (r, n)) (u1 u2 : Value) (w : World) (h1 : WordsAt w u1 s.words) (h2 : WordsAt w u2 t.words) : Calls Tryd.prog 27 #[.agg #[.int .i64 s.width, u1], .agg #[.int .i64 t.width, u2]] w (SetNN r n w) := by
  have k := binter_any s t u1 u2 w h1 h2
  rw [h] at k
  exact k
theorem diff_n {s t r : QSet} {n : Int} (h : mergeS clr s t = (r, n)) (u1 u2 : Value) (w : World) (h1 : WordsAt w u1 s.words) (h2 : WordsAt w u2 t.words) : Calls Tryd.prog 28 #[.agg #[.int .i64 s.width, u1], .agg #[.int .i64 t.width, u2]] w (SetNN r n w) := by
  have k := bdiff_any s t u1 u2 w h1 h2
  rw [h] at k
  exact k
theorem runion_n {s t r : QSet} {n : Int} (h : mergeS (fun x y => x ||| y) s t = (r, n)) (u1 u2 : Value) (w : World) (h1 : WordsAt w u1 s.words) (h2 : WordsAt w u2 t.words) : Calls Tryd.prog 51 #[.agg #[.int .i64 s.width, u1], .agg #[.int .i64 t.width, u2]] w (SetNN r n w) := by
  have k := runion_any s t u1 u2 w h1 h2
  rw [h] at k
  exact k
theorem rinter_n {s t r : QSet} {n : Int} (h : mergeS (fun x y => x &&& y) s t = (r, n)) (u1 u2 : Value) (w : World) (h1 : WordsAt w u1 s.words) (h2 : WordsAt w u2 t.words) : Calls Tryd.prog 17 #[.agg #[.int .i64 s.width, u1], .agg #[.int .i64 t.width, u2]] w (SetNN r n w) := by
  have k := rinter_any s t u1 u2 w h1 h2
  rw [h] at k
  exact k
theorem rdiff_n {s t r : QSet} {n : Int} (h : mergeS clr s t = (r, n)) (u1 u2 : Value) (w : World) (h1 : WordsAt w u1 s.words) (h2 : WordsAt w u2 t.words) : Calls Tryd.prog 24 #[.agg #[.int .i64 s.width, u1], .agg #[.int .i64 t.width, u2]] w (SetNN r n w) := by
  have k := rdiff_any s t u1 u2 w h1 h2
  rw [h] at k
  exact k
theorem equal_n {s t : QSet} {d : Bool} (h : eqB s t = d) (u1 u2 : Value) (w : World) (h1 : WordsAt w u1 s.words) (h2 : WordsAt w u2 t.words) : Calls Tryd.prog 30 #[.agg #[.int .i64 s.width, u1], .agg #[.int .i64 t.width, u2]] w (BoolQ d w) := h ▸ bequal_any s t u1 u2 w h1 h2
theorem requal_n {s t : QSet} {d : Bool} (h : eqB s t = d) (u1 u2 : Value) (w : World) (h1 : WordsAt w u1 s.words) (h2 : WordsAt w u2 t.words) : Calls Tryd.prog 52 #[.agg #[.int .i64 s.width, u1], .agg #[.int .i64 t.width, u2]] w (BoolQ d w) := h ▸ requal_any s t u1 u2 w h1 h2
theorem subset_n {s t : QSet} {d : Bool} (h : subB s t = d) (u1 u2 : Value) (w : World) (h1 : WordsAt w u1 s.words) (h2 : WordsAt w u2 t.words) : Calls Tryd.prog 31 #[.agg #[.int .i64 s.width, u1], .agg #[.int .i64 t.width, u2]] w (BoolQ d w) := h ▸ bsubset_any s t u1 u2 w h1 h2
theorem rsubset_n {s t : QSet} {d : Bool} (h : subB s t = d) (u1 u2 : Value) (w : World) (h1 : WordsAt w u1 s.words) (h2 : WordsAt w u2 t.words) : Calls Tryd.prog 53 #[.agg #[.int .i64 s.width, u1], .agg #[.int .i64 t.width, u2]] w (BoolQ d w) := h ▸ rsubset_any s t u1 u2 w h1 h2
theorem same_n (s : QSet) (u1 u2 : Value) (w : World) (h1 : WordsAt w u1 s.words) (h2 : WordsAt w u2 s.words) : Calls Tryd.prog 25 #[.agg #[.int .i64 s.width, u1], .agg #[.int .i64 s.width, u2]] w (BoolQ true w) := rsame_any s u1 u2 w h1 h2
set_option maxRecDepth 100000 in
set_option maxHeartbeats 4000000 in
theorem combines_any (A B : QSet) (u1 u2 : Value) (w : World) (h1 : WordsAt w u1 A.words) (h2 : WordsAt w u2 B.words) : Calls Tryd.prog 18 #[.agg #[.int .i64 A.width, u1], .agg #[.int .i64 B.width, u2]] w (BoolQ true w) := by
  have hud : ∀ b : Bool, (undef = Value.bool b) = False := fun b => by simp [undef]
  obtain ⟨⟨U, nu⟩, hU⟩ : ∃ q, mergeS (fun x y => x ||| y) A B = q := ⟨_, rfl⟩
  obtain ⟨⟨X, nx⟩, hX⟩ : ∃ q, mergeS (fun x y => x &&& y) A B = q := ⟨_, rfl⟩
  obtain ⟨⟨Y, ny⟩, hY⟩ : ∃ q, mergeS clr A B = q := ⟨_, rfl⟩
  obtain ⟨dE, hE⟩ : ∃ d, eqB A B = d := ⟨_, rfl⟩
  obtain ⟨dS, hS⟩ : ∃ d, subB A B = d := ⟨_, rfl⟩
  have HU := Lib.hid hU
  have HX := Lib.hid hX
  have HY := Lib.hid hY
  have HE := Lib.hid hE
  have HSB := Lib.hid hS
  have m1 : (nu == nu) = true := by simp
  have m2 : (nx == nx) = true := by simp
  have m3 : (ny == ny) = true := by simp
  have m4 : (dE == dE) = true := by simp
  have m5 : (dS == dS) = true := by simp
  clear hU hX hY hE hS
  obtain ⟨aa, ka, ca, rfl⟩ : ∃ a n c, u1 = .slice a n c := by obtain ⟨a, c, rfl, -⟩ := h1.cell; exact ⟨_, _, _, rfl⟩
  obtain ⟨ab, kb, cb, rfl⟩ : ∃ a n c, u2 = .slice a n c := by obtain ⟨a, c, rfl, -⟩ := h2.cell; exact ⟨_, _, _, rfl⟩
  obtain ⟨V, hV⟩ : ∃ V, (w.alloc (.cells #[.int .i64 A.width, .slice aa ka ca] 25)).alloc (.cells #[.int .i64 B.width, .slice ab kb cb] 25) = V := ⟨_, rfl⟩
  have hbv : Below w.heap.size w V := by rw [← hV]; exact ((Below.refl _ _).alloc (Nat.le_refl _) _).alloc (by simp) _
  have Pa := Lib.hid (show V.heap[w.heap.size]? = some (.cells #[.int .i64 A.width, .slice aa ka ca] 25 (0, 0)) by rw [← hV]; exact lies_alloc _ (heap_alloc_new _ _))
  have Pb := Lib.hid (show V.heap[w.heap.size + 1]? = some (.cells #[.int .i64 B.width, .slice ab kb cb] 25 (0, 0)) by rw [← hV]; exact lies_new2 _ _)
  have Wa := Lib.hid (h1.below hbv)
  have Wb := Lib.hid (h2.below hbv)
  have BV := Lib.hid hbv
  have HV := Lib.hid hV
  clear hbv hV h1 h2
  go_enter Tryd.func18, Tryd.ntmps18
  have E0 := Lib.hid (Below.refl V.heap.size V)
  go_wp2_with fail
  rw [show (w.alloc (.cells #[.int .i64 A.width, .slice aa ka ca] 25)).alloc (.cells #[.int .i64 B.width, .slice ab kb cb] 25) = V from HV.out]
  refine (union_n HU.out _ _ _ Wa.out Wb.out).mono ?_
  rintro e v1 ⟨uu, rfl, nu, b⟩
  have BB1 := Lib.hid b
  have E1 := Lib.hid (E0.out.trans (BB1.out.mono E0.out.size))
  have Pa_ := Lib.hid (lies_below Pa.out BB1.out (lt_heap Pa.out))
  have Wa_ := Lib.hid (Wa.out.below BB1.out)
  clear Pa Wa
  have Pa := Pa_
  have Wa := Wa_
  clear Pa_ Wa_
  have Pb_ := Lib.hid (lies_below Pb.out BB1.out (lt_heap Pb.out))
  have Wb_ := Lib.hid (Wb.out.below BB1.out)
  clear Pb Wb
  have Pb := Pb_
  have Wb := Wb_
  clear Pb_ Wb_
  clear b
  obtain ⟨au, ku, cu, rfl⟩ := nu.shape
  have Wu := Lib.hid nu.words
  clear nu
  have xa0 := (lies_cells Pa.out).1 0
  have xa1 := (lies_cells Pa.out).1 1
  simp only [List.getElem?_toArray, List.getElem?_cons_zero, List.getElem?_cons_succ] at xa0 xa1
  have ya0 : w.heap.size < v1.heap.size := lt_heap Pa.out
  have ya1 : w.heap.size ≠ v1.heap.size := by omega
  have ya2 : v1.heap.size ≠ w.heap.size := by omega
  have xb0 := (lies_cells Pb.out).1 0
  have xb1 := (lies_cells Pb.out).1 1
  simp only [List.getElem?_toArray, List.getElem?_cons_zero, List.getElem?_cons_succ] at xb0 xb1
  have yb0 : w.heap.size + 1 < v1.heap.size := lt_heap Pb.out
  have yb1 : w.heap.size + 1 ≠ v1.heap.size := by omega
  have yb2 : v1.heap.size ≠ w.heap.size + 1 := by omega
  go_wp2_with fail
  refine (runion_n HU.out _ _ _ (Wa.out.below ((Below.refl _ _).alloc (Nat.le_refl _) _)) (Wb.out.below ((Below.refl _ _).alloc (Nat.le_refl _) _))).mono ?_
  rintro e v2 ⟨uv, rfl, nv, b⟩
  have BB2 := Lib.hid (((Below.refl v1.heap.size v1).alloc (Nat.le_refl _) _).trans (b.mono (by simp)))
  have E2 := Lib.hid (E1.out.trans (BB2.out.mono E1.out.size))
  have Pa_ := Lib.hid (lies_below Pa.out BB2.out (lt_heap Pa.out))
  have Wa_ := Lib.hid (Wa.out.below BB2.out)
  clear Pa Wa
  have Pa := Pa_
  have Wa := Wa_
  clear Pa_ Wa_
  have Pb_ := Lib.hid (lies_below Pb.out BB2.out (lt_heap Pb.out))
  have Wb_ := Lib.hid (Wb.out.below BB2.out)
  clear Pb Wb
  have Pb := Pb_
  have Wb := Wb_
  clear Pb_ Wb_
  have Pu := Lib.hid ((b.block v1.heap.size (by simp)).trans (heap_alloc_new v1 (.cells #[.int .i64 U.width, .slice au ku cu] 25)))
  have Wu_ := Lib.hid (Wu.out.below BB2.out)
  clear Wu
  have Wu := Wu_
  clear Wu_
  clear b
  clear xa0 xa1 ya0 ya1 ya2 xb0 xb1 yb0 yb1 yb2
  obtain ⟨av, kv, cv, rfl⟩ := nv.shape
  have Wv := Lib.hid nv.words
  clear nv
  have xa0 := (lies_cells Pa.out).1 0
  have xa1 := (lies_cells Pa.out).1 1
  simp only [List.getElem?_toArray, List.getElem?_cons_zero, List.getElem?_cons_succ] at xa0 xa1
  have ya0 : w.heap.size < v2.heap.size := lt_heap Pa.out
  have ya1 : w.heap.size ≠ v2.heap.size := by omega
  have ya2 : v2.heap.size ≠ w.heap.size := by omega
  have xb0 := (lies_cells Pb.out).1 0
  have xb1 := (lies_cells Pb.out).1 1
  simp only [List.getElem?_toArray, List.getElem?_cons_zero, List.getElem?_cons_succ] at xb0 xb1
  have yb0 : w.heap.size + 1 < v2.heap.size := lt_heap Pb.out
  have yb1 : w.heap.size + 1 ≠ v2.heap.size := by omega
  have yb2 : v2.heap.size ≠ w.heap.size + 1 := by omega
  go_wp2_with fail
  refine (inter_n HX.out _ _ _ (Wa.out.below ((Below.refl _ _).alloc (Nat.le_refl _) _)) (Wb.out.below ((Below.refl _ _).alloc (Nat.le_refl _) _))).mono ?_
  rintro e v3 ⟨ux, rfl, nx, b⟩
  have BB3 := Lib.hid (((Below.refl v2.heap.size v2).alloc (Nat.le_refl _) _).trans (b.mono (by simp)))
  have E3 := Lib.hid (E2.out.trans (BB3.out.mono E2.out.size))
  have Pa_ := Lib.hid (lies_below Pa.out BB3.out (lt_heap Pa.out))
  have Wa_ := Lib.hid (Wa.out.below BB3.out)
  clear Pa Wa
  have Pa := Pa_
  have Wa := Wa_
  clear Pa_ Wa_
  have Pb_ := Lib.hid (lies_below Pb.out BB3.out (lt_heap Pb.out))
  have Wb_ := Lib.hid (Wb.out.below BB3.out)
  clear Pb Wb
  have Pb := Pb_
  have Wb := Wb_
  clear Pb_ Wb_
  have Pu_ := Lib.hid (lies_below Pu.out BB3.out (lt_heap Pu.out))
  have Wu_ := Lib.hid (Wu.out.below BB3.out)
  clear Pu Wu
  have Pu := Pu_
  have Wu := Wu_
  clear Pu_ Wu_
  have Pv := Lib.hid ((b.block v2.heap.size (by simp)).trans (heap_alloc_new v2 (.cells #[.int .i64 U.width, .slice av kv cv] 25)))
  have Wv_ := Lib.hid (Wv.out.below BB3.out)
  clear Wv
  have Wv := Wv_
  clear Wv_
  clear b
  clear xa0 xa1 ya0 ya1 ya2 xb0 xb1 yb0 yb1 yb2
  obtain ⟨ax, kx, cx, rfl⟩ := nx.shape
  have Wx := Lib.hid nx.words
  clear nx
  have xa0 := (lies_cells Pa.out).1 0
  have xa1 := (lies_cells Pa.out).1 1
  simp only [List.getElem?_toArray, List.getElem?_cons_zero, List.getElem?_cons_succ] at xa0 xa1
  have ya0 : w.heap.size < v3.heap.size := lt_heap Pa.out
  have ya1 : w.heap.size ≠ v3.heap.size := by omega
  have ya2 : v3.heap.size ≠ w.heap.size := by omega
  have xb0 := (lies_cells Pb.out).1 0
  have xb1 := (lies_cells Pb.out).1 1
  simp only [List.getElem?_toArray, List.getElem?_cons_zero, List.getElem?_cons_succ] at xb0 xb1
  have yb0 : w.heap.size + 1 < v3.heap.size := lt_heap Pb.out
  have yb1 : w.heap.size + 1 ≠ v3.heap.size := by omega
  have yb2 : v3.heap.size ≠ w.heap.size + 1 := by omega
  go_wp2_with fail
  refine (rinter_n HX.out _ _ _ (Wa.out.below ((Below.refl _ _).alloc (Nat.le_refl _) _)) (Wb.out.below ((Below.refl _ _).alloc (Nat.le_refl _) _))).mono ?_
  rintro e v4 ⟨uy, rfl, ny, b⟩
  have BB4 := Lib.hid (((Below.refl v3.heap.size v3).alloc (Nat.le_refl _) _).trans (b.mono (by simp)))
  have E4 := Lib.hid (E3.out.trans (BB4.out.mono E3.out.size))
  have Pa_ := Lib.hid (lies_below Pa.out BB4.out (lt_heap Pa.out))
  have Wa_ := Lib.hid (Wa.out.below BB4.out)
  clear Pa Wa
  have Pa := Pa_
  have Wa := Wa_
  clear Pa_ Wa_
  have Pb_ := Lib.hid (lies_below Pb.out BB4.out (lt_heap Pb.out))
  have Wb_ := Lib.hid (Wb.out.below BB4.out)
  clear Pb Wb
  have Pb := Pb_
  have Wb := Wb_
  clear Pb_ Wb_
  have Pu_ := Lib.hid (lies_below Pu.out BB4.out (lt_heap Pu.out))
  have Wu_ := Lib.hid (Wu.out.below BB4.out)
  clear Pu Wu
  have Pu := Pu_
  have Wu := Wu_
  clear Pu_ Wu_
  have Pv_ := Lib.hid (lies_below Pv.out BB4.out (lt_heap Pv.out))
  have Wv_ := Lib.hid (Wv.out.below BB4.out)
  clear Pv Wv
  have Pv := Pv_
  have Wv := Wv_
  clear Pv_ Wv_
  have Px := Lib.hid ((b.block v3.heap.size (by simp)).trans (heap_alloc_new v3 (.cells #[.int .i64 X.width, .slice ax kx cx] 25)))
  have Wx_ := Lib.hid (Wx.out.below BB4.out)
  clear Wx
  have Wx := Wx_
  clear Wx_
  clear b
  clear xa0 xa1 ya0 ya1 ya2 xb0 xb1 yb0 yb1 yb2
  obtain ⟨ay, ky, cy, rfl⟩ := ny.shape
  have Wy := Lib.hid ny.words
  clear ny
  have xa0 := (lies_cells Pa.out).1 0
  have xa1 := (lies_cells Pa.out).1 1
  simp only [List.getElem?_toArray, List.getElem?_cons_zero, List.getElem?_cons_succ] at xa0 xa1
  have ya0 : w.heap.size < v4.heap.size := lt_heap Pa.out
  have ya1 : w.heap.size ≠ v4.heap.size := by omega
  have ya2 : v4.heap.size ≠ w.heap.size := by omega
  have xb0 := (lies_cells Pb.out).1 0
  have xb1 := (lies_cells Pb.out).1 1
  simp only [List.getElem?_toArray, List.getElem?_cons_zero, List.getElem?_cons_succ] at xb0 xb1
  have yb0 : w.heap.size + 1 < v4.heap.size := lt_heap Pb.out
  have yb1 : w.heap.size + 1 ≠ v4.heap.size := by omega
  have yb2 : v4.heap.size ≠ w.heap.size + 1 := by omega
  go_wp2_with fail
  refine (diff_n HY.out _ _ _ (Wa.out.below ((Below.refl _ _).alloc (Nat.le_refl _) _)) (Wb.out.below ((Below.refl _ _).alloc (Nat.le_refl _) _))).mono ?_
  rintro e v5 ⟨ud, rfl, nd, b⟩
  have BB5 := Lib.hid (((Below.refl v4.heap.size v4).alloc (Nat.le_refl _) _).trans (b.mono (by simp)))
  have E5 := Lib.hid (E4.out.trans (BB5.out.mono E4.out.size))
  have Pa_ := Lib.hid (lies_below Pa.out BB5.out (lt_heap Pa.out))
  have Wa_ := Lib.hid (Wa.out.below BB5.out)
  clear Pa Wa
  have Pa := Pa_
  have Wa := Wa_
  clear Pa_ Wa_
  have Pb_ := Lib.hid (lies_below Pb.out BB5.out (lt_heap Pb.out))
  have Wb_ := Lib.hid (Wb.out.below BB5.out)
  clear Pb Wb
  have Pb := Pb_
  have Wb := Wb_
  clear Pb_ Wb_
  have Pu_ := Lib.hid (lies_below Pu.out BB5.out (lt_heap Pu.out))
  have Wu_ := Lib.hid (Wu.out.below BB5.out)
  clear Pu Wu
  have Pu := Pu_
  have Wu := Wu_
  clear Pu_ Wu_
  have Pv_ := Lib.hid (lies_below Pv.out BB5.out (lt_heap Pv.out))
  have Wv_ := Lib.hid (Wv.out.below BB5.out)
  clear Pv Wv
  have Pv := Pv_
  have Wv := Wv_
  clear Pv_ Wv_
  have Px_ := Lib.hid (lies_below Px.out BB5.out (lt_heap Px.out))
  have Wx_ := Lib.hid (Wx.out.below BB5.out)
  clear Px Wx
  have Px := Px_
  have Wx := Wx_
  clear Px_ Wx_
  have Py := Lib.hid ((b.block v4.heap.size (by simp)).trans (heap_alloc_new v4 (.cells #[.int .i64 X.width, .slice ay ky cy] 25)))
  have Wy_ := Lib.hid (Wy.out.below BB5.out)
  clear Wy
  have Wy := Wy_
  clear Wy_
  clear b
  clear xa0 xa1 ya0 ya1 ya2 xb0 xb1 yb0 yb1 yb2
  obtain ⟨ad, kd, cd, rfl⟩ := nd.shape
  have Wd := Lib.hid nd.words
  clear nd
  have xa0 := (lies_cells Pa.out).1 0
  have xa1 := (lies_cells Pa.out).1 1
  simp only [List.getElem?_toArray, List.getElem?_cons_zero, List.getElem?_cons_succ] at xa0 xa1
  have ya0 : w.heap.size < v5.heap.size := lt_heap Pa.out
  have ya1 : w.heap.size ≠ v5.heap.size := by omega
  have ya2 : v5.heap.size ≠ w.heap.size := by omega
  have xb0 := (lies_cells Pb.out).1 0
  have xb1 := (lies_cells Pb.out).1 1
  simp only [List.getElem?_toArray, List.getElem?_cons_zero, List.getElem?_cons_succ] at xb0 xb1
  have yb0 : w.heap.size + 1 < v5.heap.size := lt_heap Pb.out
  have yb1 : w.heap.size + 1 ≠ v5.heap.size := by omega
  have yb2 : v5.heap.size ≠ w.heap.size + 1 := by omega
  go_wp2_with fail
  refine (rdiff_n HY.out _ _ _ (Wa.out.below ((Below.refl _ _).alloc (Nat.le_refl _) _)) (Wb.out.below ((Below.refl _ _).alloc (Nat.le_refl _) _))).mono ?_
  rintro e v6 ⟨uf, rfl, nf, b⟩
  have BB6 := Lib.hid (((Below.refl v5.heap.size v5).alloc (Nat.le_refl _) _).trans (b.mono (by simp)))
  have E6 := Lib.hid (E5.out.trans (BB6.out.mono E5.out.size))
  have Pa_ := Lib.hid (lies_below Pa.out BB6.out (lt_heap Pa.out))
  have Wa_ := Lib.hid (Wa.out.below BB6.out)
  clear Pa Wa
  have Pa := Pa_
  have Wa := Wa_
  clear Pa_ Wa_
  have Pb_ := Lib.hid (lies_below Pb.out BB6.out (lt_heap Pb.out))
  have Wb_ := Lib.hid (Wb.out.below BB6.out)
  clear Pb Wb
  have Pb := Pb_
  have Wb := Wb_
  clear Pb_ Wb_
  have Pu_ := Lib.hid (lies_below Pu.out BB6.out (lt_heap Pu.out))
  have Wu_ := Lib.hid (Wu.out.below BB6.out)
  clear Pu Wu
  have Pu := Pu_
  have Wu := Wu_
  clear Pu_ Wu_
  have Pv_ := Lib.hid (lies_below Pv.out BB6.out (lt_heap Pv.out))
  have Wv_ := Lib.hid (Wv.out.below BB6.out)
  clear Pv Wv
  have Pv := Pv_
  have Wv := Wv_
  clear Pv_ Wv_
  have Px_ := Lib.hid (lies_below Px.out BB6.out (lt_heap Px.out))
  have Wx_ := Lib.hid (Wx.out.below BB6.out)
  clear Px Wx
  have Px := Px_
  have Wx := Wx_
  clear Px_ Wx_
  have Py_ := Lib.hid (lies_below Py.out BB6.out (lt_heap Py.out))
  have Wy_ := Lib.hid (Wy.out.below BB6.out)
  clear Py Wy
  have Py := Py_
  have Wy := Wy_
  clear Py_ Wy_
  have Pd := Lib.hid ((b.block v5.heap.size (by simp)).trans (heap_alloc_new v5 (.cells #[.int .i64 Y.width, .slice ad kd cd] 25)))
  have Wd_ := Lib.hid (Wd.out.below BB6.out)
  clear Wd
  have Wd := Wd_
  clear Wd_
  clear b
  clear xa0 xa1 ya0 ya1 ya2 xb0 xb1 yb0 yb1 yb2
  obtain ⟨af, kf, cf, rfl⟩ := nf.shape
  have Wf := Lib.hid nf.words
  clear nf
  obtain ⟨v7, hv⟩ : ∃ V, v6.alloc (.cells #[.int .i64 Y.width, .slice af kf cf] 25) = V := ⟨_, rfl⟩
  have b : Below (v6.alloc (.cells #[.int .i64 Y.width, .slice af kf cf] 25)).heap.size (v6.alloc (.cells #[.int .i64 Y.width, .slice af kf cf] 25)) v7 := by rw [← hv]; exact Below.refl _ _
  have HW := Lib.hid hv
  clear hv
  have BB7 := Lib.hid (((Below.refl v6.heap.size v6).alloc (Nat.le_refl _) _).trans (b.mono (by simp)))
  have E7 := Lib.hid (E6.out.trans (BB7.out.mono E6.out.size))
  have Pa_ := Lib.hid (lies_below Pa.out BB7.out (lt_heap Pa.out))
  have Wa_ := Lib.hid (Wa.out.below BB7.out)
  clear Pa Wa
  have Pa := Pa_
  have Wa := Wa_
  clear Pa_ Wa_
  have Pb_ := Lib.hid (lies_below Pb.out BB7.out (lt_heap Pb.out))
  have Wb_ := Lib.hid (Wb.out.below BB7.out)
  clear Pb Wb
  have Pb := Pb_
  have Wb := Wb_
  clear Pb_ Wb_
  have Pu_ := Lib.hid (lies_below Pu.out BB7.out (lt_heap Pu.out))
  have Wu_ := Lib.hid (Wu.out.below BB7.out)
  clear Pu Wu
  have Pu := Pu_
  have Wu := Wu_
  clear Pu_ Wu_
  have Pv_ := Lib.hid (lies_below Pv.out BB7.out (lt_heap Pv.out))
  have Wv_ := Lib.hid (Wv.out.below BB7.out)
  clear Pv Wv
  have Pv := Pv_
  have Wv := Wv_
  clear Pv_ Wv_
  have Px_ := Lib.hid (lies_below Px.out BB7.out (lt_heap Px.out))
  have Wx_ := Lib.hid (Wx.out.below BB7.out)
  clear Px Wx
  have Px := Px_
  have Wx := Wx_
  clear Px_ Wx_
  have Py_ := Lib.hid (lies_below Py.out BB7.out (lt_heap Py.out))
  have Wy_ := Lib.hid (Wy.out.below BB7.out)
  clear Py Wy
  have Py := Py_
  have Wy := Wy_
  clear Py_ Wy_
  have Pd_ := Lib.hid (lies_below Pd.out BB7.out (lt_heap Pd.out))
  have Wd_ := Lib.hid (Wd.out.below BB7.out)
  clear Pd Wd
  have Pd := Pd_
  have Wd := Wd_
  clear Pd_ Wd_
  have Pf := Lib.hid ((b.block v6.heap.size (by simp)).trans (heap_alloc_new v6 (.cells #[.int .i64 Y.width, .slice af kf cf] 25)))
  have Wf_ := Lib.hid (Wf.out.below BB7.out)
  clear Wf
  have Wf := Wf_
  clear Wf_
  clear b
  have HS : Hid (∀ w', Below v7.heap.size v7 w' → w'.cell? ⟨w.heap.size, 0, none⟩ = some (.int .i64 A.width) ∧ w'.cell? ⟨w.heap.size, 1, none⟩ = some (.slice aa ka ca) ∧ w'.cell? ⟨w.heap.size + 1, 0, none⟩ = some (.int .i64 B.width) ∧ w'.cell? ⟨w.heap.size + 1, 1, none⟩ = some (.slice ab kb cb) ∧ w'.cell? ⟨v1.heap.size, 0, none⟩ = some (.int .i64 U.width) ∧ w'.cell? ⟨v1.heap.size, 1, none⟩ = some (.slice au ku cu) ∧ w'.cell? ⟨v2.heap.size, 0, none⟩ = some (.int .i64 U.width) ∧ w'.cell? ⟨v2.heap.size, 1, none⟩ = some (.slice av kv cv) ∧ w'.cell? ⟨v3.heap.size, 0, none⟩ = some (.int .i64 X.width) ∧ w'.cell? ⟨v3.heap.size, 1, none⟩ = some (.slice ax kx cx) ∧ w'.cell? ⟨v4.heap.size, 0, none⟩ = some (.int .i64 X.width) ∧ w'.cell? ⟨v4.heap.size, 1, none⟩ = some (.slice ay ky cy) ∧ w'.cell? ⟨v5.heap.size, 0, none⟩ = some (.int .i64 Y.width) ∧ w'.cell? ⟨v5.heap.size, 1, none⟩ = some (.slice ad kd cd) ∧ w'.cell? ⟨v6.heap.size, 0, none⟩ = some (.int .i64 Y.width) ∧ w'.cell? ⟨v6.heap.size, 1, none⟩ = some (.slice af kf cf)) := by
    refine Lib.hid fun w' hb => ?_
    have za0 := (lies_cells Pa.out).1 0
    have za1 := (lies_cells Pa.out).1 1
    simp only [List.getElem?_toArray, List.getElem?_cons_zero, List.getElem?_cons_succ] at za0 za1
    have zb0 := (lies_cells Pb.out).1 0
    have zb1 := (lies_cells Pb.out).1 1
    simp only [List.getElem?_toArray, List.getElem?_cons_zero, List.getElem?_cons_succ] at zb0 zb1
    have zu0 := (lies_cells Pu.out).1 0
    have zu1 := (lies_cells Pu.out).1 1
    simp only [List.getElem?_toArray, List.getElem?_cons_zero, List.getElem?_cons_succ] at zu0 zu1
    have zv0 := (lies_cells Pv.out).1 0
    have zv1 := (lies_cells Pv.out).1 1
    simp only [List.getElem?_toArray, List.getElem?_cons_zero, List.getElem?_cons_succ] at zv0 zv1
    have zx0 := (lies_cells Px.out).1 0
    have zx1 := (lies_cells Px.out).1 1
    simp only [List.getElem?_toArray, List.getElem?_cons_zero, List.getElem?_cons_succ] at zx0 zx1
    have zy0 := (lies_cells Py.out).1 0
    have zy1 := (lies_cells Py.out).1 1
    simp only [List.getElem?_toArray, List.getElem?_cons_zero, List.getElem?_cons_succ] at zy0 zy1
    have zd0 := (lies_cells Pd.out).1 0
    have zd1 := (lies_cells Pd.out).1 1
    simp only [List.getElem?_toArray, List.getElem?_cons_zero, List.getElem?_cons_succ] at zd0 zd1
    have zf0 := (lies_cells Pf.out).1 0
    have zf1 := (lies_cells Pf.out).1 1
    simp only [List.getElem?_toArray, List.getElem?_cons_zero, List.getElem?_cons_succ] at zf0 zf1
    exact ⟨(hb.cell (p := ⟨w.heap.size, 0, none⟩) (lt_heap Pa.out)).trans za0, (hb.cell (p := ⟨w.heap.size, 1, none⟩) (lt_heap Pa.out)).trans za1, (hb.cell (p := ⟨w.heap.size + 1, 0, none⟩) (lt_heap Pb.out)).trans zb0, (hb.cell (p := ⟨w.heap.size + 1, 1, none⟩) (lt_heap Pb.out)).trans zb1, (hb.cell (p := ⟨v1.heap.size, 0, none⟩) (lt_heap Pu.out)).trans zu0, (hb.cell (p := ⟨v1.heap.size, 1, none⟩) (lt_heap Pu.out)).trans zu1, (hb.cell (p := ⟨v2.heap.size, 0, none⟩) (lt_heap Pv.out)).trans zv0, (hb.cell (p := ⟨v2.heap.size, 1, none⟩) (lt_heap Pv.out)).trans zv1, (hb.cell (p := ⟨v3.heap.size, 0, none⟩) (lt_heap Px.out)).trans zx0, (hb.cell (p := ⟨v3.heap.size, 1, none⟩) (lt_heap Px.out)).trans zx1, (hb.cell (p := ⟨v4.heap.size, 0, none⟩) (lt_heap Py.out)).trans zy0, (hb.cell (p := ⟨v4.heap.size, 1, none⟩) (lt_heap Py.out)).trans zy1, (hb.cell (p := ⟨v5.heap.size, 0, none⟩) (lt_heap Pd.out)).trans zd0, (hb.cell (p := ⟨v5.heap.size, 1, none⟩) (lt_heap Pd.out)).trans zd1, (hb.cell (p := ⟨v6.heap.size, 0, none⟩) (lt_heap Pf.out)).trans zf0, (hb.cell (p := ⟨v6.heap.size, 1, none⟩) (lt_heap Pf.out)).trans zf1⟩
  have F0 := Lib.hid (show Below v7.heap.size v7 v7.drew from (Below.refl _ _).drew)
  have BVV := Lib.hid (BV.out.trans (E7.out.mono BV.out.size))
  go_wp2_with fail
  rw [show v6.alloc (.cells #[.int .i64 Y.width, .slice af kf cf] 25) = v7 from HW.out]
  go_region_held3 (fun w' => w'.cell? ⟨w.heap.size, 0, none⟩ = some (.int .i64 A.width) ∧ w'.cell? ⟨w.heap.size, 1, none⟩ = some (.slice aa ka ca) ∧ w'.cell? ⟨w.heap.size + 1, 0, none⟩ = some (.int .i64 B.width) ∧ w'.cell? ⟨w.heap.size + 1, 1, none⟩ = some (.slice ab kb cb) ∧ w'.cell? ⟨v1.heap.size, 0, none⟩ = some (.int .i64 U.width) ∧ w'.cell? ⟨v1.heap.size, 1, none⟩ = some (.slice au ku cu) ∧ w'.cell? ⟨v2.heap.size, 0, none⟩ = some (.int .i64 U.width) ∧ w'.cell? ⟨v2.heap.size, 1, none⟩ = some (.slice av kv cv) ∧ w'.cell? ⟨v3.heap.size, 0, none⟩ = some (.int .i64 X.width) ∧ w'.cell? ⟨v3.heap.size, 1, none⟩ = some (.slice ax kx cx) ∧ w'.cell? ⟨v4.heap.size, 0, none⟩ = some (.int .i64 X.width) ∧ w'.cell? ⟨v4.heap.size, 1, none⟩ = some (.slice ay ky cy) ∧ w'.cell? ⟨v5.heap.size, 0, none⟩ = some (.int .i64 Y.width) ∧ w'.cell? ⟨v5.heap.size, 1, none⟩ = some (.slice ad kd cd) ∧ w'.cell? ⟨v6.heap.size, 0, none⟩ = some (.int .i64 Y.width) ∧ w'.cell? ⟨v6.heap.size, 1, none⟩ = some (.slice af kf cf)) (first | exact HS.out _ F7.out | exact HS.out _ F6.out | exact HS.out _ F5.out | exact HS.out _ F4.out | exact HS.out _ F3.out | exact HS.out _ F2.out | exact HS.out _ F1.out | exact HS.out _ F0.out | exact HS.out _ (Below.refl _ _) | go_keep) (first | (go_at_call 25; ((with_reducible refine (same_n U (.slice au ku cu) (.slice av kv cv) v7.drew (Wu.out.below F0.out) (Wv.out.below F0.out)).mono ?_)); go_must (rintro e z1 ⟨rfl, b⟩; have F1 := Lib.hid (F0.out.trans (b.mono F0.out.size)); clear b)) | (go_at_call 25; ((with_reducible refine (same_n X (.slice ax kx cx) (.slice ay ky cy) z1 (Wx.out.below F1.out) (Wy.out.below F1.out)).mono ?_)); go_must (rintro e z2 ⟨rfl, b⟩; have F2 := Lib.hid (F1.out.trans (b.mono F1.out.size)); clear b)) | (go_at_call 25; ((with_reducible refine (same_n Y (.slice ad kd cd) (.slice af kf cf) z2 (Wd.out.below F2.out) (Wf.out.below F2.out)).mono ?_)); go_must (rintro e z3 ⟨rfl, b⟩; have F3 := Lib.hid (F2.out.trans (b.mono F2.out.size)); clear b)) | (go_at_call 30; ((with_reducible refine (equal_n HE.out (.slice aa ka ca) (.slice ab kb cb) z3 (Wa.out.below F3.out) (Wb.out.below F3.out)).mono ?_)); go_must (rintro e z4 ⟨rfl, b⟩; have F4 := Lib.hid (F3.out.trans (b.mono F3.out.size)); clear b)) | (go_at_call 52; ((with_reducible refine (requal_n HE.out (.slice aa ka ca) (.slice ab kb cb) z4 (Wa.out.below F4.out) (Wb.out.below F4.out)).mono ?_)); go_must (rintro e z5 ⟨rfl, b⟩; have F5 := Lib.hid (F4.out.trans (b.mono F4.out.size)); clear b)) | (go_at_call 31; ((with_reducible refine (subset_n HSB.out (.slice aa ka ca) (.slice ab kb cb) z5 (Wa.out.below F5.out) (Wb.out.below F5.out)).mono ?_)); go_must (rintro e z6 ⟨rfl, b⟩; have F6 := Lib.hid (F5.out.trans (b.mono F5.out.size)); clear b)) | (go_at_call 53; ((with_reducible refine (rsubset_n HSB.out (.slice aa ka ca) (.slice ab kb cb) z6 (Wa.out.below F6.out) (Wb.out.below F6.out)).mono ?_)); go_must (rintro e z7 ⟨rfl, b⟩; have F7 := Lib.hid (F6.out.trans (b.mono F6.out.size)); clear b)))
  all_goals
    go_wp2
    go_ret
    exact ⟨rfl, BVV.out.trans (F7.out.mono BVV.out.size)⟩
end Go.Proofs.YtmanmlankfoflaaDoor
