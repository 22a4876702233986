/- The law BitsetAlgebra: the walk. Printed by wip/gen_bsal.py. -/
import Derived.Test.YtmanmlankfoflaaDoorBsAp
import Derived.Test.YtmanmlankfoflaaDoorBsG3
import Derived.Test.YtmanmlankfoflaaDoorBsSa
import Derived.Deep.RegionHeld3
set_option linter.unusedVariables false
set_option linter.unusedSimpArgs false
set_option linter.unusedSectionVars false
namespace Go.Proofs.YtmanmlankfoflaaDoor
open Go.RowKit
variable [Base]

theorem four_at {w : World} {b q : Nat} {x0 x1 x2 x3 : Nat} (h : ∀ o, w.cell? ⟨b, o, none⟩ = (#[iv (x0 : Int), iv (x1 : Int), iv (x2 : Int), iv (x3 : Int)] : Array Value)[o]?) (hq : q < 4)
    (hx : ∀ x ∈ [x0, x1, x2, x3], x ≤ 256) : ∃ z : Nat, z ≤ 256 ∧ w.cell? ⟨b, q, none⟩ = some (iv (z : Int)) := by
  have hc := h q
  have hq' : q = 0 ∨ q = 1 ∨ q = 2 ∨ q = 3 := by omega
  rcases hq' with rfl | rfl | rfl | rfl
  · exact ⟨x0, hx x0 (by simp), hc⟩
  · exact ⟨x1, hx x1 (by simp), hc⟩
  · exact ⟨x2, hx x2 (by simp), hc⟩
  · exact ⟨x3, hx x3 (by simp), hc⟩
/-- An operation's answer where it goes well. -/
def SetN (r : QSet) (w : World) (e : Ending) (w' : World) : Prop := ∃ u, e = .returned (.tuple #[.agg #[.int .i64 r.width, u], .int .i64 0]) ∧ NewS w.heap.size w' u r ∧ Below w.heap.size w w'
theorem union_at {s t r : QSet} (h : mergeS (· ||| ·) s t = (r, 0)) (u1 u2 : Value) (w : World) (h1 : WordsAt w u1 s.words) (h2 : WordsAt w u2 t.words) : Calls Tryd.prog 26 #[.agg #[.int .i64 s.width, u1], .agg #[.int .i64 t.width, u2]] w (SetN r w) := by
  have k := bunion_any s t u1 u2 w h1 h2
  rw [h] at k
  exact k
theorem inter_at {s t r : QSet} (h : mergeS (· &&& ·) s t = (r, 0)) (u1 u2 : Value) (w : World) (h1 : WordsAt w u1 s.words) (h2 : WordsAt w u2 t.words) : Calls Tryd.prog 27 #[.agg #[.int .i64 s.width, u1], .agg #[.int .i64 t.width, u2]] w (SetN r w) := by
  have k := binter_any s t u1 u2 w h1 h2
  rw [h] at k
  exact k
theorem diff_at {s t r : QSet} (h : mergeS clr s t = (r, 0)) (u1 u2 : Value) (w : World) (h1 : WordsAt w u1 s.words) (h2 : WordsAt w u2 t.words) : Calls Tryd.prog 28 #[.agg #[.int .i64 s.width, u1], .agg #[.int .i64 t.width, u2]] w (SetN r w) := by
  have k := bdiff_any s t u1 u2 w h1 h2
  rw [h] at k
  exact k
theorem full_at {m : Nat} {r : QSet} (hm : m ≤ 256) (h : fullTo m m = r) (w : World) : Calls Tryd.prog 29 #[.int .i64 m] w (SetN r w) := by
  have k := bfull_any m hm w
  rw [h] at k
  exact k
theorem equal_at {s t : QSet} (h : eqB s t = true) (u1 u2 : Value) (w : World) (h1 : WordsAt w u1 s.words) (h2 : WordsAt w u2 t.words) : Calls Tryd.prog 30 #[.agg #[.int .i64 s.width, u1], .agg #[.int .i64 t.width, u2]] w (BoolQ true w) := h ▸ bequal_any s t u1 u2 w h1 h2
theorem subset_at {s t : QSet} (h : subB s t = true) (u1 u2 : Value) (w : World) (h1 : WordsAt w u1 s.words) (h2 : WordsAt w u2 t.words) : Calls Tryd.prog 31 #[.agg #[.int .i64 s.width, u1], .agg #[.int .i64 t.width, u2]] w (BoolQ true w) := h ▸ bsubset_any s t u1 u2 w h1 h2
theorem count_at {s : QSet} {k : Nat} (h : (memS s).length = k) (u : Value) (w : World) (h1 : WordsAt w u s.words) : Calls Tryd.prog 32 #[.agg #[.int .i64 s.width, u]] w (IntQ (k : Int) w) := h ▸ bcount_any s u w h1
def SetM (r : QSet) (w : World) (e : Ending) (w' : World) : Prop := ∃ u, e = .returned (.agg #[.int .i64 r.width, u]) ∧ NewS w.heap.size w' u r ∧ Below w.heap.size w w'
set_option maxHeartbeats 1000000 in
theorem both_at {s t r : QSet} (h : mergeS (· &&& ·) s t = (r, 0)) (u1 u2 : Value) (w : World) (h1 : WordsAt w u1 s.words) (h2 : WordsAt w u2 t.words) :
    Calls Tryd.prog 33 #[.agg #[.int .i64 s.width, u1], .agg #[.int .i64 t.width, u2]] w (SetM r w) := by
  obtain ⟨a1, n1, c1, rfl⟩ : ∃ a n c, u1 = .slice a n c := by obtain ⟨a, c, rfl, -⟩ := h1.cell; exact ⟨_, _, _, rfl⟩
  obtain ⟨a2, n2, c2, rfl⟩ : ∃ a n c, u2 = .slice a n c := by obtain ⟨a, c, rfl, -⟩ := h2.cell; exact ⟨_, _, _, rfl⟩
  have R1 := Lib.hid h1
  have R2 := Lib.hid h2
  have HH := Lib.hid h
  obtain ⟨W, hW⟩ : ∃ W, ((w.alloc (.cells #[.int .i64 s.width, .slice a1 n1 c1] 25)).alloc (.cells #[.int .i64 t.width, .slice a2 n2 c2] 25)).alloc (.cells #[.int .i64 0, .slice none 0 0] 25) = W := ⟨_, rfl⟩
  have B0 : Below w.heap.size w W := by rw [← hW]; exact (((Below.refl _ _).alloc (Nat.le_refl _) _).alloc (by simp) _).alloc (by simp; omega) _
  have L3 : W.heap[w.heap.size + 1 + 1]? = some (.cells #[.int .i64 0, .slice none 0 0] 25 (0, 0)) := by rw [← hW]; have k := heap_alloc_new ((w.alloc (.cells #[.int .i64 s.width, .slice a1 n1 c1] 25)).alloc (.cells #[.int .i64 t.width, .slice a2 n2 c2] 25)) (.cells #[.int .i64 0, .slice none 0 0] 25); simp only [World.size_alloc] at k; exact k
  have HW := Lib.hid hW
  have BB := Lib.hid B0
  have H3 := Lib.hid L3
  clear hW B0 L3 h1 h2 h
  go_enter Tryd.func33, Tryd.ntmps33
  go_wp2_with fail
  rw [show ((w.alloc (.cells #[.int .i64 s.width, .slice a1 n1 c1] 25)).alloc (.cells #[.int .i64 t.width, .slice a2 n2 c2] 25)).alloc (.cells #[.int .i64 0, .slice none 0 0] 25) = W from HW.out]
  refine (inter_at HH.out _ _ _ (R1.out.below BB.out) (R2.out.below BB.out)).mono ?_
  rintro e v ⟨u, rfl, hu, b1⟩
  obtain ⟨ua, un, uc, rfl⟩ := hu.shape
  have HU := Lib.hid hu
  have L3 := Lib.hid (lies_below H3.out b1 (lt_heap H3.out))
  have B1 := Lib.hid (BB.out.trans (b1.mono BB.out.size))
  have hsz := lt_heap L3.out
  have z0 := (lies_cells L3.out).1 0
  have z1 := (lies_cells L3.out).1 1
  have f0 := (lies_cells L3.out).2 0
  have f1 := (lies_cells L3.out).2 1
  simp only [List.getElem?_toArray, List.getElem?_cons_zero, List.getElem?_cons_succ] at z0 z1
  have HLT := Lib.hid (lt_heap H3.out)
  have hn1 : w.heap.size + 1 + 1 ≠ v.heap.size := by omega
  have hn2 : v.heap.size ≠ w.heap.size + 1 + 1 := by omega
  clear hu b1
  go_wp2
  refine bodyPost_ret (v := .agg #[.int .i64 r.width, .slice ua un uc]) (by simp [results, Tryd.results33, go_sem, z0, z1, hn1, hn2, hsz]) rfl ?_
  have Q := Lib.hid ((B1.out.setCell (p := ⟨w.heap.size + 1 + 1, 0, none⟩) (by show w.heap.size ≤ w.heap.size + 1 + 1; omega) (.int .i64 r.width)).setCell (p := ⟨w.heap.size + 1 + 1, 1, none⟩) (by show w.heap.size ≤ w.heap.size + 1 + 1; omega) (.slice ua un uc))
  exact ⟨_, rfl, (((HU.out.setCell HLT.out).setCell HLT.out).mono BB.out.size).below ((Below.refl _ _).alloc (Nat.le_refl _) _), Q.out.alloc Q.out.size _⟩
set_option maxRecDepth 100000 in
set_option maxHeartbeats 4000000 in
theorem algLaw_any (w0 : World) (a : Option Addr) (n c : Nat) (hn : n ≤ maxLen)
    (h : ∀ j : Nat, j < n → ∃ b off z, a = some ⟨b, off, none⟩ ∧ b < w0.heap.size ∧ w0.cell? ⟨b, off + j, none⟩ = some (.int .i64 z)) (KT : TabsIn w0.heap.size w0) (hbs : Base.b ≤ w0.heap.size) :
    Calls Tryd.prog 7 #[.slice a n c] w0 (BoolQ true w0) := by
  have H := Lib.hid h
  have HK := Lib.hid KT
  have hud : ∀ b : Bool, (undef = Value.bool b) = False := fun b => by simp [undef]
  clear h KT
  go_enter Tryd.func7, Tryd.ntmps7
  go_wp2_with fail
  refine (new_any rfl a n c hn H.out).mono ?_
  rintro e p1 ⟨rfl, ht, hb⟩
  have T1 := Lib.hid ht
  have B1 := Lib.hid hb
  clear ht hb
  go_wp2_with fail
  refine (next_pos2 (T1.out.alloc _) 4 (by omega) (by omega)).mono ?_
  rintro e p2 ⟨q, q1, q2, rfl, t2, b2⟩
  obtain ⟨q, rfl⟩ := Int.eq_ofNat_of_zero_le q1
  have q3 : (q : Int) < 4 := q2
  have hne : p1.heap.size ≠ w0.heap.size := by have := T1.out.lt; omega
  obtain ⟨m, hm, hz⟩ := four_at (w := p2) (b := p1.heap.size) (q := q) (x0 := 4) (x1 := 64) (x2 := 65) (x3 := 129)
    (fun o => (b2.cell p1.heap.size o (by simp) hne).trans (by simp only [World.cell?, heap_alloc_new]; rfl)) (by omega) (by decide)
  have B2 := Lib.hid (B1.out.trans ((((But.refl w0.heap.size p1).alloc _).trans b2).toBelow (Nat.le_refl _) B1.out.size))
  have T2 := Lib.hid t2
  clear t2 b2
  go_wp2_with fail
  refine (setv_any m hm _ T2.out).mono ?_
  rintro e p3 ⟨A, ua, rfl, fA, wA, kA, dA, t, b⟩
  have OA := Lib.hid (show Ok m A from ⟨fA, kA, wA⟩)
  have T3 := Lib.hid t
  have B3 := Lib.hid (B2.out.trans (b.toBelow (Nat.le_refl _) B2.out.size))
  have DA := Lib.hid dA
  clear fA wA kA dA t b T2 hz
  go_wp2_with fail
  refine (setv_any m hm _ T3.out).mono ?_
  rintro e p4 ⟨B, ub, rfl, fB, wB, kB, dB, t, b⟩
  have OB := Lib.hid (show Ok m B from ⟨fB, kB, wB⟩)
  have T4 := Lib.hid t
  have B4 := Lib.hid (B3.out.trans (b.toBelow (Nat.le_refl _) B3.out.size))
  have DB := Lib.hid dB
  have DA_ := Lib.hid (DA.out.keep (b.sameT T3.out (by decide)))
  clear DA
  have DA := DA_
  clear DA_
  clear fB wB kB dB t b T3
  go_wp2_with fail
  refine (setv_any m hm _ T4.out).mono ?_
  rintro e p5 ⟨C, uc, rfl, fC, wC, kC, dC, t, b⟩
  have OC := Lib.hid (show Ok m C from ⟨fC, kC, wC⟩)
  have T5 := Lib.hid t
  have B5 := Lib.hid (B4.out.trans (b.toBelow (Nat.le_refl _) B4.out.size))
  have DC := Lib.hid dC
  have DA_ := Lib.hid (DA.out.keep (b.sameT T4.out (by decide)))
  clear DA
  have DA := DA_
  clear DA_
  have DB_ := Lib.hid (DB.out.keep (b.sameT T4.out (by decide)))
  clear DB
  have DB := DB_
  clear DB_
  clear fC wC kC dC t b T4
  obtain ⟨aa, ka, ca, rfl⟩ := DA.out.shape
  rw [show setV A (.slice aa ka ca) = .agg #[.int .i64 A.width, .slice aa ka ca] from rfl]
  obtain ⟨ab, kb, cb, rfl⟩ := DB.out.shape
  rw [show setV B (.slice ab kb cb) = .agg #[.int .i64 B.width, .slice ab kb cb] from rfl]
  obtain ⟨ac, kc, cc, rfl⟩ := DC.out.shape
  rw [show setV C (.slice ac kc cc) = .agg #[.int .i64 C.width, .slice ac kc cc] from rfl]
  obtain ⟨U, X, P, Q, Y, D, F, G, NA, NB, BO, NU, I, AL⟩ := alg OA.out OB.out OC.out
  have AL := Lib.hid AL
  obtain ⟨V, hV⟩ : ∃ V, ((p5.alloc (.cells #[.int .i64 A.width, .slice aa ka ca] 25)).alloc (.cells #[.int .i64 B.width, .slice ab kb cb] 25)).alloc (.cells #[.int .i64 C.width, .slice ac kc cc] 25) = V := ⟨_, rfl⟩
  have hbv : Below p5.heap.size p5 V := by rw [← hV]; exact (((Below.refl _ _).alloc (Nat.le_refl _) _).alloc (by simp) _).alloc (by simp; omega) _
  have Pa := Lib.hid (show V.heap[p5.heap.size]? = some (.cells #[.int .i64 A.width, .slice aa ka ca] 25 (0, 0)) by rw [← hV]; exact lies_alloc _ (lies_alloc _ (heap_alloc_new _ _)))
  have Pb := Lib.hid (show V.heap[p5.heap.size + 1]? = some (.cells #[.int .i64 B.width, .slice ab kb cb] 25 (0, 0)) by rw [← hV]; exact lies_alloc _ (lies_new2 _ _))
  have Pc := Lib.hid (show V.heap[p5.heap.size + 1 + 1]? = some (.cells #[.int .i64 C.width, .slice ac kc cc] 25 (0, 0)) by rw [← hV]; have k := heap_alloc_new ((p5.alloc (.cells #[.int .i64 A.width, .slice aa ka ca] 25)).alloc (.cells #[.int .i64 B.width, .slice ab kb cb] 25)) (.cells #[.int .i64 C.width, .slice ac kc cc] 25); simp only [World.size_alloc] at k; exact k)
  have Wa := Lib.hid (DA.out.below hbv)
  have Wb := Lib.hid (DB.out.below hbv)
  have Wc := Lib.hid (DC.out.below hbv)
  have BV := Lib.hid (B5.out.trans (hbv.mono B5.out.size))
  have HV := Lib.hid hV
  clear hbv hV DA DB DC
  have E0 := Lib.hid (Below.refl V.heap.size V)
  go_wp2_with fail
  rw [show ((p5.alloc (.cells #[.int .i64 A.width, .slice aa ka ca] 25)).alloc (.cells #[.int .i64 B.width, .slice ab kb cb] 25)).alloc (.cells #[.int .i64 C.width, .slice ac kc cc] 25) = V from HV.out]
  refine (union_at AL.out.hu _ _ _ Wa.out Wb.out).mono ?_
  rintro e v1 ⟨uu, rfl, nu, b⟩
  have BB1 := Lib.hid b
  have E1 := Lib.hid (E0.out.trans (BB1.out.mono E0.out.size))
  have Pa_ := Lib.hid (lies_below Pa.out BB1.out (lt_heap Pa.out))
  have Wa_ := Lib.hid (Wa.out.below BB1.out)
  clear Pa Wa
  have Pa := Pa_
  have Wa := Wa_
  clear Pa_ Wa_
  have Pb_ := Lib.hid (lies_below Pb.out BB1.out (lt_heap Pb.out))
  have Wb_ := Lib.hid (Wb.out.below BB1.out)
  clear Pb Wb
  have Pb := Pb_
  have Wb := Wb_
  clear Pb_ Wb_
  have Pc_ := Lib.hid (lies_below Pc.out BB1.out (lt_heap Pc.out))
  have Wc_ := Lib.hid (Wc.out.below BB1.out)
  clear Pc Wc
  have Pc := Pc_
  have Wc := Wc_
  clear Pc_ Wc_
  clear b
  obtain ⟨au, ku, cu, rfl⟩ := nu.shape
  have Wu := Lib.hid nu.words
  clear nu
  have xc0 := (lies_cells Pc.out).1 0
  have xc1 := (lies_cells Pc.out).1 1
  simp only [List.getElem?_toArray, List.getElem?_cons_zero, List.getElem?_cons_succ] at xc0 xc1
  have yc0 : p5.heap.size + 1 + 1 < v1.heap.size := lt_heap Pc.out
  have yc1 : p5.heap.size + 1 + 1 ≠ v1.heap.size := by omega
  have yc2 : v1.heap.size ≠ p5.heap.size + 1 + 1 := by omega
  go_wp2_with fail
  refine (inter_at AL.out.hx _ _ _ (Wu.out.below ((Below.refl _ _).alloc (Nat.le_refl _) _)) (Wc.out.below ((Below.refl _ _).alloc (Nat.le_refl _) _))).mono ?_
  rintro e v2 ⟨ux, rfl, nx, b⟩
  have BB2 := Lib.hid (((Below.refl v1.heap.size v1).alloc (Nat.le_refl _) _).trans (b.mono (by simp)))
  have E2 := Lib.hid (E1.out.trans (BB2.out.mono E1.out.size))
  have Pa_ := Lib.hid (lies_below Pa.out BB2.out (lt_heap Pa.out))
  have Wa_ := Lib.hid (Wa.out.below BB2.out)
  clear Pa Wa
  have Pa := Pa_
  have Wa := Wa_
  clear Pa_ Wa_
  have Pb_ := Lib.hid (lies_below Pb.out BB2.out (lt_heap Pb.out))
  have Wb_ := Lib.hid (Wb.out.below BB2.out)
  clear Pb Wb
  have Pb := Pb_
  have Wb := Wb_
  clear Pb_ Wb_
  have Pc_ := Lib.hid (lies_below Pc.out BB2.out (lt_heap Pc.out))
  have Wc_ := Lib.hid (Wc.out.below BB2.out)
  clear Pc Wc
  have Pc := Pc_
  have Wc := Wc_
  clear Pc_ Wc_
  have Pu := Lib.hid ((b.block v1.heap.size (by simp)).trans (heap_alloc_new v1 (.cells #[.int .i64 U.width, .slice au ku cu] 25)))
  have Wu_ := Lib.hid (Wu.out.below BB2.out)
  clear Wu
  have Wu := Wu_
  clear Wu_
  clear b
  clear xc0 xc1 yc0 yc1 yc2
  obtain ⟨ax, kx, cx, rfl⟩ := nx.shape
  have Wx := Lib.hid nx.words
  clear nx
  have xa0 := (lies_cells Pa.out).1 0
  have xa1 := (lies_cells Pa.out).1 1
  simp only [List.getElem?_toArray, List.getElem?_cons_zero, List.getElem?_cons_succ] at xa0 xa1
  have ya0 : p5.heap.size < v2.heap.size := lt_heap Pa.out
  have ya1 : p5.heap.size ≠ v2.heap.size := by omega
  have ya2 : v2.heap.size ≠ p5.heap.size := by omega
  have xc0 := (lies_cells Pc.out).1 0
  have xc1 := (lies_cells Pc.out).1 1
  simp only [List.getElem?_toArray, List.getElem?_cons_zero, List.getElem?_cons_succ] at xc0 xc1
  have yc0 : p5.heap.size + 1 + 1 < v2.heap.size := lt_heap Pc.out
  have yc1 : p5.heap.size + 1 + 1 ≠ v2.heap.size := by omega
  have yc2 : v2.heap.size ≠ p5.heap.size + 1 + 1 := by omega
  go_wp2_with fail
  refine (inter_at AL.out.hp _ _ _ (Wa.out.below ((Below.refl _ _).alloc (Nat.le_refl _) _)) (Wc.out.below ((Below.refl _ _).alloc (Nat.le_refl _) _))).mono ?_
  rintro e v3 ⟨up, rfl, np, b⟩
  have BB3 := Lib.hid (((Below.refl v2.heap.size v2).alloc (Nat.le_refl _) _).trans (b.mono (by simp)))
  have E3 := Lib.hid (E2.out.trans (BB3.out.mono E2.out.size))
  have Pa_ := Lib.hid (lies_below Pa.out BB3.out (lt_heap Pa.out))
  have Wa_ := Lib.hid (Wa.out.below BB3.out)
  clear Pa Wa
  have Pa := Pa_
  have Wa := Wa_
  clear Pa_ Wa_
  have Pb_ := Lib.hid (lies_below Pb.out BB3.out (lt_heap Pb.out))
  have Wb_ := Lib.hid (Wb.out.below BB3.out)
  clear Pb Wb
  have Pb := Pb_
  have Wb := Wb_
  clear Pb_ Wb_
  have Pc_ := Lib.hid (lies_below Pc.out BB3.out (lt_heap Pc.out))
  have Wc_ := Lib.hid (Wc.out.below BB3.out)
  clear Pc Wc
  have Pc := Pc_
  have Wc := Wc_
  clear Pc_ Wc_
  have Pu_ := Lib.hid (lies_below Pu.out BB3.out (lt_heap Pu.out))
  have Wu_ := Lib.hid (Wu.out.below BB3.out)
  clear Pu Wu
  have Pu := Pu_
  have Wu := Wu_
  clear Pu_ Wu_
  have Px := Lib.hid ((b.block v2.heap.size (by simp)).trans (heap_alloc_new v2 (.cells #[.int .i64 X.width, .slice ax kx cx] 25)))
  have Wx_ := Lib.hid (Wx.out.below BB3.out)
  clear Wx
  have Wx := Wx_
  clear Wx_
  clear b
  clear xa0 xa1 ya0 ya1 ya2 xc0 xc1 yc0 yc1 yc2
  obtain ⟨ap, kp, cp, rfl⟩ := np.shape
  have Wp := Lib.hid np.words
  clear np
  have xb0 := (lies_cells Pb.out).1 0
  have xb1 := (lies_cells Pb.out).1 1
  simp only [List.getElem?_toArray, List.getElem?_cons_zero, List.getElem?_cons_succ] at xb0 xb1
  have yb0 : p5.heap.size + 1 < v3.heap.size := lt_heap Pb.out
  have yb1 : p5.heap.size + 1 ≠ v3.heap.size := by omega
  have yb2 : v3.heap.size ≠ p5.heap.size + 1 := by omega
  have xc0 := (lies_cells Pc.out).1 0
  have xc1 := (lies_cells Pc.out).1 1
  simp only [List.getElem?_toArray, List.getElem?_cons_zero, List.getElem?_cons_succ] at xc0 xc1
  have yc0 : p5.heap.size + 1 + 1 < v3.heap.size := lt_heap Pc.out
  have yc1 : p5.heap.size + 1 + 1 ≠ v3.heap.size := by omega
  have yc2 : v3.heap.size ≠ p5.heap.size + 1 + 1 := by omega
  go_wp2_with fail
  refine (inter_at AL.out.hq _ _ _ (Wb.out.below ((Below.refl _ _).alloc (Nat.le_refl _) _)) (Wc.out.below ((Below.refl _ _).alloc (Nat.le_refl _) _))).mono ?_
  rintro e v4 ⟨uq, rfl, nq, b⟩
  have BB4 := Lib.hid (((Below.refl v3.heap.size v3).alloc (Nat.le_refl _) _).trans (b.mono (by simp)))
  have E4 := Lib.hid (E3.out.trans (BB4.out.mono E3.out.size))
  have Pa_ := Lib.hid (lies_below Pa.out BB4.out (lt_heap Pa.out))
  have Wa_ := Lib.hid (Wa.out.below BB4.out)
  clear Pa Wa
  have Pa := Pa_
  have Wa := Wa_
  clear Pa_ Wa_
  have Pb_ := Lib.hid (lies_below Pb.out BB4.out (lt_heap Pb.out))
  have Wb_ := Lib.hid (Wb.out.below BB4.out)
  clear Pb Wb
  have Pb := Pb_
  have Wb := Wb_
  clear Pb_ Wb_
  have Pc_ := Lib.hid (lies_below Pc.out BB4.out (lt_heap Pc.out))
  have Wc_ := Lib.hid (Wc.out.below BB4.out)
  clear Pc Wc
  have Pc := Pc_
  have Wc := Wc_
  clear Pc_ Wc_
  have Pu_ := Lib.hid (lies_below Pu.out BB4.out (lt_heap Pu.out))
  have Wu_ := Lib.hid (Wu.out.below BB4.out)
  clear Pu Wu
  have Pu := Pu_
  have Wu := Wu_
  clear Pu_ Wu_
  have Px_ := Lib.hid (lies_below Px.out BB4.out (lt_heap Px.out))
  have Wx_ := Lib.hid (Wx.out.below BB4.out)
  clear Px Wx
  have Px := Px_
  have Wx := Wx_
  clear Px_ Wx_
  have Pp := Lib.hid ((b.block v3.heap.size (by simp)).trans (heap_alloc_new v3 (.cells #[.int .i64 P.width, .slice ap kp cp] 25)))
  have Wp_ := Lib.hid (Wp.out.below BB4.out)
  clear Wp
  have Wp := Wp_
  clear Wp_
  clear b
  clear xb0 xb1 yb0 yb1 yb2 xc0 xc1 yc0 yc1 yc2
  obtain ⟨aq, kq, cq, rfl⟩ := nq.shape
  have Wq := Lib.hid nq.words
  clear nq
  have xp0 := (lies_cells Pp.out).1 0
  have xp1 := (lies_cells Pp.out).1 1
  simp only [List.getElem?_toArray, List.getElem?_cons_zero, List.getElem?_cons_succ] at xp0 xp1
  have yp0 : v3.heap.size < v4.heap.size := lt_heap Pp.out
  have yp1 : v3.heap.size ≠ v4.heap.size := by omega
  have yp2 : v4.heap.size ≠ v3.heap.size := by omega
  go_wp2_with fail
  refine (union_at AL.out.hy _ _ _ (Wp.out.below ((Below.refl _ _).alloc (Nat.le_refl _) _)) (Wq.out.below ((Below.refl _ _).alloc (Nat.le_refl _) _))).mono ?_
  rintro e v5 ⟨uy, rfl, ny, b⟩
  have BB5 := Lib.hid (((Below.refl v4.heap.size v4).alloc (Nat.le_refl _) _).trans (b.mono (by simp)))
  have E5 := Lib.hid (E4.out.trans (BB5.out.mono E4.out.size))
  have Pa_ := Lib.hid (lies_below Pa.out BB5.out (lt_heap Pa.out))
  have Wa_ := Lib.hid (Wa.out.below BB5.out)
  clear Pa Wa
  have Pa := Pa_
  have Wa := Wa_
  clear Pa_ Wa_
  have Pb_ := Lib.hid (lies_below Pb.out BB5.out (lt_heap Pb.out))
  have Wb_ := Lib.hid (Wb.out.below BB5.out)
  clear Pb Wb
  have Pb := Pb_
  have Wb := Wb_
  clear Pb_ Wb_
  have Pc_ := Lib.hid (lies_below Pc.out BB5.out (lt_heap Pc.out))
  have Wc_ := Lib.hid (Wc.out.below BB5.out)
  clear Pc Wc
  have Pc := Pc_
  have Wc := Wc_
  clear Pc_ Wc_
  have Pu_ := Lib.hid (lies_below Pu.out BB5.out (lt_heap Pu.out))
  have Wu_ := Lib.hid (Wu.out.below BB5.out)
  clear Pu Wu
  have Pu := Pu_
  have Wu := Wu_
  clear Pu_ Wu_
  have Px_ := Lib.hid (lies_below Px.out BB5.out (lt_heap Px.out))
  have Wx_ := Lib.hid (Wx.out.below BB5.out)
  clear Px Wx
  have Px := Px_
  have Wx := Wx_
  clear Px_ Wx_
  have Pp_ := Lib.hid (lies_below Pp.out BB5.out (lt_heap Pp.out))
  have Wp_ := Lib.hid (Wp.out.below BB5.out)
  clear Pp Wp
  have Pp := Pp_
  have Wp := Wp_
  clear Pp_ Wp_
  have Pq := Lib.hid ((b.block v4.heap.size (by simp)).trans (heap_alloc_new v4 (.cells #[.int .i64 Q.width, .slice aq kq cq] 25)))
  have Wq_ := Lib.hid (Wq.out.below BB5.out)
  clear Wq
  have Wq := Wq_
  clear Wq_
  clear b
  clear xp0 xp1 yp0 yp1 yp2
  obtain ⟨ay, ky, cy, rfl⟩ := ny.shape
  have Wy := Lib.hid ny.words
  clear ny
  have xu0 := (lies_cells Pu.out).1 0
  have xu1 := (lies_cells Pu.out).1 1
  simp only [List.getElem?_toArray, List.getElem?_cons_zero, List.getElem?_cons_succ] at xu0 xu1
  have yu0 : v1.heap.size < v5.heap.size := lt_heap Pu.out
  have yu1 : v1.heap.size ≠ v5.heap.size := by omega
  have yu2 : v5.heap.size ≠ v1.heap.size := by omega
  have xb0 := (lies_cells Pb.out).1 0
  have xb1 := (lies_cells Pb.out).1 1
  simp only [List.getElem?_toArray, List.getElem?_cons_zero, List.getElem?_cons_succ] at xb0 xb1
  have yb0 : p5.heap.size + 1 < v5.heap.size := lt_heap Pb.out
  have yb1 : p5.heap.size + 1 ≠ v5.heap.size := by omega
  have yb2 : v5.heap.size ≠ p5.heap.size + 1 := by omega
  go_wp2_with fail
  refine (diff_at AL.out.hd _ _ _ (Wu.out.below ((Below.refl _ _).alloc (Nat.le_refl _) _)) (Wb.out.below ((Below.refl _ _).alloc (Nat.le_refl _) _))).mono ?_
  rintro e v6 ⟨ud, rfl, nd, b⟩
  have BB6 := Lib.hid (((Below.refl v5.heap.size v5).alloc (Nat.le_refl _) _).trans (b.mono (by simp)))
  have E6 := Lib.hid (E5.out.trans (BB6.out.mono E5.out.size))
  have Pa_ := Lib.hid (lies_below Pa.out BB6.out (lt_heap Pa.out))
  have Wa_ := Lib.hid (Wa.out.below BB6.out)
  clear Pa Wa
  have Pa := Pa_
  have Wa := Wa_
  clear Pa_ Wa_
  have Pb_ := Lib.hid (lies_below Pb.out BB6.out (lt_heap Pb.out))
  have Wb_ := Lib.hid (Wb.out.below BB6.out)
  clear Pb Wb
  have Pb := Pb_
  have Wb := Wb_
  clear Pb_ Wb_
  have Pc_ := Lib.hid (lies_below Pc.out BB6.out (lt_heap Pc.out))
  have Wc_ := Lib.hid (Wc.out.below BB6.out)
  clear Pc Wc
  have Pc := Pc_
  have Wc := Wc_
  clear Pc_ Wc_
  have Pu_ := Lib.hid (lies_below Pu.out BB6.out (lt_heap Pu.out))
  have Wu_ := Lib.hid (Wu.out.below BB6.out)
  clear Pu Wu
  have Pu := Pu_
  have Wu := Wu_
  clear Pu_ Wu_
  have Px_ := Lib.hid (lies_below Px.out BB6.out (lt_heap Px.out))
  have Wx_ := Lib.hid (Wx.out.below BB6.out)
  clear Px Wx
  have Px := Px_
  have Wx := Wx_
  clear Px_ Wx_
  have Pp_ := Lib.hid (lies_below Pp.out BB6.out (lt_heap Pp.out))
  have Wp_ := Lib.hid (Wp.out.below BB6.out)
  clear Pp Wp
  have Pp := Pp_
  have Wp := Wp_
  clear Pp_ Wp_
  have Pq_ := Lib.hid (lies_below Pq.out BB6.out (lt_heap Pq.out))
  have Wq_ := Lib.hid (Wq.out.below BB6.out)
  clear Pq Wq
  have Pq := Pq_
  have Wq := Wq_
  clear Pq_ Wq_
  have Py := Lib.hid ((b.block v5.heap.size (by simp)).trans (heap_alloc_new v5 (.cells #[.int .i64 Y.width, .slice ay ky cy] 25)))
  have Wy_ := Lib.hid (Wy.out.below BB6.out)
  clear Wy
  have Wy := Wy_
  clear Wy_
  clear b
  clear xu0 xu1 yu0 yu1 yu2 xb0 xb1 yb0 yb1 yb2
  obtain ⟨ad, kd, cd, rfl⟩ := nd.shape
  have Wd := Lib.hid nd.words
  clear nd
  have xa0 := (lies_cells Pa.out).1 0
  have xa1 := (lies_cells Pa.out).1 1
  simp only [List.getElem?_toArray, List.getElem?_cons_zero, List.getElem?_cons_succ] at xa0 xa1
  have ya0 : p5.heap.size < v6.heap.size := lt_heap Pa.out
  have ya1 : p5.heap.size ≠ v6.heap.size := by omega
  have ya2 : v6.heap.size ≠ p5.heap.size := by omega
  have xb0 := (lies_cells Pb.out).1 0
  have xb1 := (lies_cells Pb.out).1 1
  simp only [List.getElem?_toArray, List.getElem?_cons_zero, List.getElem?_cons_succ] at xb0 xb1
  have yb0 : p5.heap.size + 1 < v6.heap.size := lt_heap Pb.out
  have yb1 : p5.heap.size + 1 ≠ v6.heap.size := by omega
  have yb2 : v6.heap.size ≠ p5.heap.size + 1 := by omega
  go_wp2_with fail
  refine (diff_at AL.out.hf _ _ _ (Wa.out.below ((Below.refl _ _).alloc (Nat.le_refl _) _)) (Wb.out.below ((Below.refl _ _).alloc (Nat.le_refl _) _))).mono ?_
  rintro e v7 ⟨uf, rfl, nf, b⟩
  have BB7 := Lib.hid (((Below.refl v6.heap.size v6).alloc (Nat.le_refl _) _).trans (b.mono (by simp)))
  have E7 := Lib.hid (E6.out.trans (BB7.out.mono E6.out.size))
  have Pa_ := Lib.hid (lies_below Pa.out BB7.out (lt_heap Pa.out))
  have Wa_ := Lib.hid (Wa.out.below BB7.out)
  clear Pa Wa
  have Pa := Pa_
  have Wa := Wa_
  clear Pa_ Wa_
  have Pb_ := Lib.hid (lies_below Pb.out BB7.out (lt_heap Pb.out))
  have Wb_ := Lib.hid (Wb.out.below BB7.out)
  clear Pb Wb
  have Pb := Pb_
  have Wb := Wb_
  clear Pb_ Wb_
  have Pc_ := Lib.hid (lies_below Pc.out BB7.out (lt_heap Pc.out))
  have Wc_ := Lib.hid (Wc.out.below BB7.out)
  clear Pc Wc
  have Pc := Pc_
  have Wc := Wc_
  clear Pc_ Wc_
  have Pu_ := Lib.hid (lies_below Pu.out BB7.out (lt_heap Pu.out))
  have Wu_ := Lib.hid (Wu.out.below BB7.out)
  clear Pu Wu
  have Pu := Pu_
  have Wu := Wu_
  clear Pu_ Wu_
  have Px_ := Lib.hid (lies_below Px.out BB7.out (lt_heap Px.out))
  have Wx_ := Lib.hid (Wx.out.below BB7.out)
  clear Px Wx
  have Px := Px_
  have Wx := Wx_
  clear Px_ Wx_
  have Pp_ := Lib.hid (lies_below Pp.out BB7.out (lt_heap Pp.out))
  have Wp_ := Lib.hid (Wp.out.below BB7.out)
  clear Pp Wp
  have Pp := Pp_
  have Wp := Wp_
  clear Pp_ Wp_
  have Pq_ := Lib.hid (lies_below Pq.out BB7.out (lt_heap Pq.out))
  have Wq_ := Lib.hid (Wq.out.below BB7.out)
  clear Pq Wq
  have Pq := Pq_
  have Wq := Wq_
  clear Pq_ Wq_
  have Py_ := Lib.hid (lies_below Py.out BB7.out (lt_heap Py.out))
  have Wy_ := Lib.hid (Wy.out.below BB7.out)
  clear Py Wy
  have Py := Py_
  have Wy := Wy_
  clear Py_ Wy_
  have Pd := Lib.hid ((b.block v6.heap.size (by simp)).trans (heap_alloc_new v6 (.cells #[.int .i64 D.width, .slice ad kd cd] 25)))
  have Wd_ := Lib.hid (Wd.out.below BB7.out)
  clear Wd
  have Wd := Wd_
  clear Wd_
  clear b
  clear xa0 xa1 ya0 ya1 ya2 xb0 xb1 yb0 yb1 yb2
  obtain ⟨af, kf, cf, rfl⟩ := nf.shape
  have Wf := Lib.hid nf.words
  clear nf
  go_wp2_with fail
  refine (full_at hm AL.out.hg _).mono ?_
  rintro e v8 ⟨ug, rfl, ng, b⟩
  have BB8 := Lib.hid (((Below.refl v7.heap.size v7).alloc (Nat.le_refl _) _).trans (b.mono (by simp)))
  have E8 := Lib.hid (E7.out.trans (BB8.out.mono E7.out.size))
  have Pa_ := Lib.hid (lies_below Pa.out BB8.out (lt_heap Pa.out))
  have Wa_ := Lib.hid (Wa.out.below BB8.out)
  clear Pa Wa
  have Pa := Pa_
  have Wa := Wa_
  clear Pa_ Wa_
  have Pb_ := Lib.hid (lies_below Pb.out BB8.out (lt_heap Pb.out))
  have Wb_ := Lib.hid (Wb.out.below BB8.out)
  clear Pb Wb
  have Pb := Pb_
  have Wb := Wb_
  clear Pb_ Wb_
  have Pc_ := Lib.hid (lies_below Pc.out BB8.out (lt_heap Pc.out))
  have Wc_ := Lib.hid (Wc.out.below BB8.out)
  clear Pc Wc
  have Pc := Pc_
  have Wc := Wc_
  clear Pc_ Wc_
  have Pu_ := Lib.hid (lies_below Pu.out BB8.out (lt_heap Pu.out))
  have Wu_ := Lib.hid (Wu.out.below BB8.out)
  clear Pu Wu
  have Pu := Pu_
  have Wu := Wu_
  clear Pu_ Wu_
  have Px_ := Lib.hid (lies_below Px.out BB8.out (lt_heap Px.out))
  have Wx_ := Lib.hid (Wx.out.below BB8.out)
  clear Px Wx
  have Px := Px_
  have Wx := Wx_
  clear Px_ Wx_
  have Pp_ := Lib.hid (lies_below Pp.out BB8.out (lt_heap Pp.out))
  have Wp_ := Lib.hid (Wp.out.below BB8.out)
  clear Pp Wp
  have Pp := Pp_
  have Wp := Wp_
  clear Pp_ Wp_
  have Pq_ := Lib.hid (lies_below Pq.out BB8.out (lt_heap Pq.out))
  have Wq_ := Lib.hid (Wq.out.below BB8.out)
  clear Pq Wq
  have Pq := Pq_
  have Wq := Wq_
  clear Pq_ Wq_
  have Py_ := Lib.hid (lies_below Py.out BB8.out (lt_heap Py.out))
  have Wy_ := Lib.hid (Wy.out.below BB8.out)
  clear Py Wy
  have Py := Py_
  have Wy := Wy_
  clear Py_ Wy_
  have Pd_ := Lib.hid (lies_below Pd.out BB8.out (lt_heap Pd.out))
  have Wd_ := Lib.hid (Wd.out.below BB8.out)
  clear Pd Wd
  have Pd := Pd_
  have Wd := Wd_
  clear Pd_ Wd_
  have Pf := Lib.hid ((b.block v7.heap.size (by simp)).trans (heap_alloc_new v7 (.cells #[.int .i64 F.width, .slice af kf cf] 25)))
  have Wf_ := Lib.hid (Wf.out.below BB8.out)
  clear Wf
  have Wf := Wf_
  clear Wf_
  clear b
  obtain ⟨ag, kg, cg, rfl⟩ := ng.shape
  have Wg := Lib.hid ng.words
  clear ng
  have xa0 := (lies_cells Pa.out).1 0
  have xa1 := (lies_cells Pa.out).1 1
  simp only [List.getElem?_toArray, List.getElem?_cons_zero, List.getElem?_cons_succ] at xa0 xa1
  have ya0 : p5.heap.size < v8.heap.size := lt_heap Pa.out
  have ya1 : p5.heap.size ≠ v8.heap.size := by omega
  have ya2 : v8.heap.size ≠ p5.heap.size := by omega
  go_wp2_with fail
  refine (diff_at AL.out.hna _ _ _ (Wg.out.below ((Below.refl _ _).alloc (Nat.le_refl _) _)) (Wa.out.below ((Below.refl _ _).alloc (Nat.le_refl _) _))).mono ?_
  rintro e v9 ⟨una, rfl, nna, b⟩
  have BB9 := Lib.hid (((Below.refl v8.heap.size v8).alloc (Nat.le_refl _) _).trans (b.mono (by simp)))
  have E9 := Lib.hid (E8.out.trans (BB9.out.mono E8.out.size))
  have Pa_ := Lib.hid (lies_below Pa.out BB9.out (lt_heap Pa.out))
  have Wa_ := Lib.hid (Wa.out.below BB9.out)
  clear Pa Wa
  have Pa := Pa_
  have Wa := Wa_
  clear Pa_ Wa_
  have Pb_ := Lib.hid (lies_below Pb.out BB9.out (lt_heap Pb.out))
  have Wb_ := Lib.hid (Wb.out.below BB9.out)
  clear Pb Wb
  have Pb := Pb_
  have Wb := Wb_
  clear Pb_ Wb_
  have Pc_ := Lib.hid (lies_below Pc.out BB9.out (lt_heap Pc.out))
  have Wc_ := Lib.hid (Wc.out.below BB9.out)
  clear Pc Wc
  have Pc := Pc_
  have Wc := Wc_
  clear Pc_ Wc_
  have Pu_ := Lib.hid (lies_below Pu.out BB9.out (lt_heap Pu.out))
  have Wu_ := Lib.hid (Wu.out.below BB9.out)
  clear Pu Wu
  have Pu := Pu_
  have Wu := Wu_
  clear Pu_ Wu_
  have Px_ := Lib.hid (lies_below Px.out BB9.out (lt_heap Px.out))
  have Wx_ := Lib.hid (Wx.out.below BB9.out)
  clear Px Wx
  have Px := Px_
  have Wx := Wx_
  clear Px_ Wx_
  have Pp_ := Lib.hid (lies_below Pp.out BB9.out (lt_heap Pp.out))
  have Wp_ := Lib.hid (Wp.out.below BB9.out)
  clear Pp Wp
  have Pp := Pp_
  have Wp := Wp_
  clear Pp_ Wp_
  have Pq_ := Lib.hid (lies_below Pq.out BB9.out (lt_heap Pq.out))
  have Wq_ := Lib.hid (Wq.out.below BB9.out)
  clear Pq Wq
  have Pq := Pq_
  have Wq := Wq_
  clear Pq_ Wq_
  have Py_ := Lib.hid (lies_below Py.out BB9.out (lt_heap Py.out))
  have Wy_ := Lib.hid (Wy.out.below BB9.out)
  clear Py Wy
  have Py := Py_
  have Wy := Wy_
  clear Py_ Wy_
  have Pd_ := Lib.hid (lies_below Pd.out BB9.out (lt_heap Pd.out))
  have Wd_ := Lib.hid (Wd.out.below BB9.out)
  clear Pd Wd
  have Pd := Pd_
  have Wd := Wd_
  clear Pd_ Wd_
  have Pf_ := Lib.hid (lies_below Pf.out BB9.out (lt_heap Pf.out))
  have Wf_ := Lib.hid (Wf.out.below BB9.out)
  clear Pf Wf
  have Pf := Pf_
  have Wf := Wf_
  clear Pf_ Wf_
  have Pg := Lib.hid ((b.block v8.heap.size (by simp)).trans (heap_alloc_new v8 (.cells #[.int .i64 G.width, .slice ag kg cg] 25)))
  have Wg_ := Lib.hid (Wg.out.below BB9.out)
  clear Wg
  have Wg := Wg_
  clear Wg_
  clear b
  clear xa0 xa1 ya0 ya1 ya2
  obtain ⟨ana, kna, cna, rfl⟩ := nna.shape
  have Wna := Lib.hid nna.words
  clear nna
  have xg0 := (lies_cells Pg.out).1 0
  have xg1 := (lies_cells Pg.out).1 1
  simp only [List.getElem?_toArray, List.getElem?_cons_zero, List.getElem?_cons_succ] at xg0 xg1
  have yg0 : v8.heap.size < v9.heap.size := lt_heap Pg.out
  have yg1 : v8.heap.size ≠ v9.heap.size := by omega
  have yg2 : v9.heap.size ≠ v8.heap.size := by omega
  have xb0 := (lies_cells Pb.out).1 0
  have xb1 := (lies_cells Pb.out).1 1
  simp only [List.getElem?_toArray, List.getElem?_cons_zero, List.getElem?_cons_succ] at xb0 xb1
  have yb0 : p5.heap.size + 1 < v9.heap.size := lt_heap Pb.out
  have yb1 : p5.heap.size + 1 ≠ v9.heap.size := by omega
  have yb2 : v9.heap.size ≠ p5.heap.size + 1 := by omega
  go_wp2_with fail
  refine (diff_at AL.out.hnb _ _ _ (Wg.out.below ((Below.refl _ _).alloc (Nat.le_refl _) _)) (Wb.out.below ((Below.refl _ _).alloc (Nat.le_refl _) _))).mono ?_
  rintro e v10 ⟨unb, rfl, nnb, b⟩
  have BB10 := Lib.hid (((Below.refl v9.heap.size v9).alloc (Nat.le_refl _) _).trans (b.mono (by simp)))
  have E10 := Lib.hid (E9.out.trans (BB10.out.mono E9.out.size))
  have Pa_ := Lib.hid (lies_below Pa.out BB10.out (lt_heap Pa.out))
  have Wa_ := Lib.hid (Wa.out.below BB10.out)
  clear Pa Wa
  have Pa := Pa_
  have Wa := Wa_
  clear Pa_ Wa_
  have Pb_ := Lib.hid (lies_below Pb.out BB10.out (lt_heap Pb.out))
  have Wb_ := Lib.hid (Wb.out.below BB10.out)
  clear Pb Wb
  have Pb := Pb_
  have Wb := Wb_
  clear Pb_ Wb_
  have Pc_ := Lib.hid (lies_below Pc.out BB10.out (lt_heap Pc.out))
  have Wc_ := Lib.hid (Wc.out.below BB10.out)
  clear Pc Wc
  have Pc := Pc_
  have Wc := Wc_
  clear Pc_ Wc_
  have Pu_ := Lib.hid (lies_below Pu.out BB10.out (lt_heap Pu.out))
  have Wu_ := Lib.hid (Wu.out.below BB10.out)
  clear Pu Wu
  have Pu := Pu_
  have Wu := Wu_
  clear Pu_ Wu_
  have Px_ := Lib.hid (lies_below Px.out BB10.out (lt_heap Px.out))
  have Wx_ := Lib.hid (Wx.out.below BB10.out)
  clear Px Wx
  have Px := Px_
  have Wx := Wx_
  clear Px_ Wx_
  have Pp_ := Lib.hid (lies_below Pp.out BB10.out (lt_heap Pp.out))
  have Wp_ := Lib.hid (Wp.out.below BB10.out)
  clear Pp Wp
  have Pp := Pp_
  have Wp := Wp_
  clear Pp_ Wp_
  have Pq_ := Lib.hid (lies_below Pq.out BB10.out (lt_heap Pq.out))
  have Wq_ := Lib.hid (Wq.out.below BB10.out)
  clear Pq Wq
  have Pq := Pq_
  have Wq := Wq_
  clear Pq_ Wq_
  have Py_ := Lib.hid (lies_below Py.out BB10.out (lt_heap Py.out))
  have Wy_ := Lib.hid (Wy.out.below BB10.out)
  clear Py Wy
  have Py := Py_
  have Wy := Wy_
  clear Py_ Wy_
  have Pd_ := Lib.hid (lies_below Pd.out BB10.out (lt_heap Pd.out))
  have Wd_ := Lib.hid (Wd.out.below BB10.out)
  clear Pd Wd
  have Pd := Pd_
  have Wd := Wd_
  clear Pd_ Wd_
  have Pf_ := Lib.hid (lies_below Pf.out BB10.out (lt_heap Pf.out))
  have Wf_ := Lib.hid (Wf.out.below BB10.out)
  clear Pf Wf
  have Pf := Pf_
  have Wf := Wf_
  clear Pf_ Wf_
  have Pg_ := Lib.hid (lies_below Pg.out BB10.out (lt_heap Pg.out))
  have Wg_ := Lib.hid (Wg.out.below BB10.out)
  clear Pg Wg
  have Pg := Pg_
  have Wg := Wg_
  clear Pg_ Wg_
  have Pna := Lib.hid ((b.block v9.heap.size (by simp)).trans (heap_alloc_new v9 (.cells #[.int .i64 NA.width, .slice ana kna cna] 25)))
  have Wna_ := Lib.hid (Wna.out.below BB10.out)
  clear Wna
  have Wna := Wna_
  clear Wna_
  clear b
  clear xg0 xg1 yg0 yg1 yg2 xb0 xb1 yb0 yb1 yb2
  obtain ⟨anb, knb, cnb, rfl⟩ := nnb.shape
  have Wnb := Lib.hid nnb.words
  clear nnb
  have xna0 := (lies_cells Pna.out).1 0
  have xna1 := (lies_cells Pna.out).1 1
  simp only [List.getElem?_toArray, List.getElem?_cons_zero, List.getElem?_cons_succ] at xna0 xna1
  have yna0 : v9.heap.size < v10.heap.size := lt_heap Pna.out
  have yna1 : v9.heap.size ≠ v10.heap.size := by omega
  have yna2 : v10.heap.size ≠ v9.heap.size := by omega
  go_wp2_with fail
  refine (inter_at AL.out.hbo _ _ _ (Wna.out.below ((Below.refl _ _).alloc (Nat.le_refl _) _)) (Wnb.out.below ((Below.refl _ _).alloc (Nat.le_refl _) _))).mono ?_
  rintro e v11 ⟨ubo, rfl, nbo, b⟩
  have BB11 := Lib.hid (((Below.refl v10.heap.size v10).alloc (Nat.le_refl _) _).trans (b.mono (by simp)))
  have E11 := Lib.hid (E10.out.trans (BB11.out.mono E10.out.size))
  have Pa_ := Lib.hid (lies_below Pa.out BB11.out (lt_heap Pa.out))
  have Wa_ := Lib.hid (Wa.out.below BB11.out)
  clear Pa Wa
  have Pa := Pa_
  have Wa := Wa_
  clear Pa_ Wa_
  have Pb_ := Lib.hid (lies_below Pb.out BB11.out (lt_heap Pb.out))
  have Wb_ := Lib.hid (Wb.out.below BB11.out)
  clear Pb Wb
  have Pb := Pb_
  have Wb := Wb_
  clear Pb_ Wb_
  have Pc_ := Lib.hid (lies_below Pc.out BB11.out (lt_heap Pc.out))
  have Wc_ := Lib.hid (Wc.out.below BB11.out)
  clear Pc Wc
  have Pc := Pc_
  have Wc := Wc_
  clear Pc_ Wc_
  have Pu_ := Lib.hid (lies_below Pu.out BB11.out (lt_heap Pu.out))
  have Wu_ := Lib.hid (Wu.out.below BB11.out)
  clear Pu Wu
  have Pu := Pu_
  have Wu := Wu_
  clear Pu_ Wu_
  have Px_ := Lib.hid (lies_below Px.out BB11.out (lt_heap Px.out))
  have Wx_ := Lib.hid (Wx.out.below BB11.out)
  clear Px Wx
  have Px := Px_
  have Wx := Wx_
  clear Px_ Wx_
  have Pp_ := Lib.hid (lies_below Pp.out BB11.out (lt_heap Pp.out))
  have Wp_ := Lib.hid (Wp.out.below BB11.out)
  clear Pp Wp
  have Pp := Pp_
  have Wp := Wp_
  clear Pp_ Wp_
  have Pq_ := Lib.hid (lies_below Pq.out BB11.out (lt_heap Pq.out))
  have Wq_ := Lib.hid (Wq.out.below BB11.out)
  clear Pq Wq
  have Pq := Pq_
  have Wq := Wq_
  clear Pq_ Wq_
  have Py_ := Lib.hid (lies_below Py.out BB11.out (lt_heap Py.out))
  have Wy_ := Lib.hid (Wy.out.below BB11.out)
  clear Py Wy
  have Py := Py_
  have Wy := Wy_
  clear Py_ Wy_
  have Pd_ := Lib.hid (lies_below Pd.out BB11.out (lt_heap Pd.out))
  have Wd_ := Lib.hid (Wd.out.below BB11.out)
  clear Pd Wd
  have Pd := Pd_
  have Wd := Wd_
  clear Pd_ Wd_
  have Pf_ := Lib.hid (lies_below Pf.out BB11.out (lt_heap Pf.out))
  have Wf_ := Lib.hid (Wf.out.below BB11.out)
  clear Pf Wf
  have Pf := Pf_
  have Wf := Wf_
  clear Pf_ Wf_
  have Pg_ := Lib.hid (lies_below Pg.out BB11.out (lt_heap Pg.out))
  have Wg_ := Lib.hid (Wg.out.below BB11.out)
  clear Pg Wg
  have Pg := Pg_
  have Wg := Wg_
  clear Pg_ Wg_
  have Pna_ := Lib.hid (lies_below Pna.out BB11.out (lt_heap Pna.out))
  have Wna_ := Lib.hid (Wna.out.below BB11.out)
  clear Pna Wna
  have Pna := Pna_
  have Wna := Wna_
  clear Pna_ Wna_
  have Pnb := Lib.hid ((b.block v10.heap.size (by simp)).trans (heap_alloc_new v10 (.cells #[.int .i64 NB.width, .slice anb knb cnb] 25)))
  have Wnb_ := Lib.hid (Wnb.out.below BB11.out)
  clear Wnb
  have Wnb := Wnb_
  clear Wnb_
  clear b
  clear xna0 xna1 yna0 yna1 yna2
  obtain ⟨abo, kbo, cbo, rfl⟩ := nbo.shape
  have Wbo := Lib.hid nbo.words
  clear nbo
  have xg0 := (lies_cells Pg.out).1 0
  have xg1 := (lies_cells Pg.out).1 1
  simp only [List.getElem?_toArray, List.getElem?_cons_zero, List.getElem?_cons_succ] at xg0 xg1
  have yg0 : v8.heap.size < v11.heap.size := lt_heap Pg.out
  have yg1 : v8.heap.size ≠ v11.heap.size := by omega
  have yg2 : v11.heap.size ≠ v8.heap.size := by omega
  have xu0 := (lies_cells Pu.out).1 0
  have xu1 := (lies_cells Pu.out).1 1
  simp only [List.getElem?_toArray, List.getElem?_cons_zero, List.getElem?_cons_succ] at xu0 xu1
  have yu0 : v1.heap.size < v11.heap.size := lt_heap Pu.out
  have yu1 : v1.heap.size ≠ v11.heap.size := by omega
  have yu2 : v11.heap.size ≠ v1.heap.size := by omega
  go_wp2_with fail
  refine (diff_at AL.out.hnu _ _ _ (Wg.out.below ((Below.refl _ _).alloc (Nat.le_refl _) _)) (Wu.out.below ((Below.refl _ _).alloc (Nat.le_refl _) _))).mono ?_
  rintro e v12 ⟨unu, rfl, nnu, b⟩
  have BB12 := Lib.hid (((Below.refl v11.heap.size v11).alloc (Nat.le_refl _) _).trans (b.mono (by simp)))
  have E12 := Lib.hid (E11.out.trans (BB12.out.mono E11.out.size))
  have Pa_ := Lib.hid (lies_below Pa.out BB12.out (lt_heap Pa.out))
  have Wa_ := Lib.hid (Wa.out.below BB12.out)
  clear Pa Wa
  have Pa := Pa_
  have Wa := Wa_
  clear Pa_ Wa_
  have Pb_ := Lib.hid (lies_below Pb.out BB12.out (lt_heap Pb.out))
  have Wb_ := Lib.hid (Wb.out.below BB12.out)
  clear Pb Wb
  have Pb := Pb_
  have Wb := Wb_
  clear Pb_ Wb_
  have Pc_ := Lib.hid (lies_below Pc.out BB12.out (lt_heap Pc.out))
  have Wc_ := Lib.hid (Wc.out.below BB12.out)
  clear Pc Wc
  have Pc := Pc_
  have Wc := Wc_
  clear Pc_ Wc_
  have Pu_ := Lib.hid (lies_below Pu.out BB12.out (lt_heap Pu.out))
  have Wu_ := Lib.hid (Wu.out.below BB12.out)
  clear Pu Wu
  have Pu := Pu_
  have Wu := Wu_
  clear Pu_ Wu_
  have Px_ := Lib.hid (lies_below Px.out BB12.out (lt_heap Px.out))
  have Wx_ := Lib.hid (Wx.out.below BB12.out)
  clear Px Wx
  have Px := Px_
  have Wx := Wx_
  clear Px_ Wx_
  have Pp_ := Lib.hid (lies_below Pp.out BB12.out (lt_heap Pp.out))
  have Wp_ := Lib.hid (Wp.out.below BB12.out)
  clear Pp Wp
  have Pp := Pp_
  have Wp := Wp_
  clear Pp_ Wp_
  have Pq_ := Lib.hid (lies_below Pq.out BB12.out (lt_heap Pq.out))
  have Wq_ := Lib.hid (Wq.out.below BB12.out)
  clear Pq Wq
  have Pq := Pq_
  have Wq := Wq_
  clear Pq_ Wq_
  have Py_ := Lib.hid (lies_below Py.out BB12.out (lt_heap Py.out))
  have Wy_ := Lib.hid (Wy.out.below BB12.out)
  clear Py Wy
  have Py := Py_
  have Wy := Wy_
  clear Py_ Wy_
  have Pd_ := Lib.hid (lies_below Pd.out BB12.out (lt_heap Pd.out))
  have Wd_ := Lib.hid (Wd.out.below BB12.out)
  clear Pd Wd
  have Pd := Pd_
  have Wd := Wd_
  clear Pd_ Wd_
  have Pf_ := Lib.hid (lies_below Pf.out BB12.out (lt_heap Pf.out))
  have Wf_ := Lib.hid (Wf.out.below BB12.out)
  clear Pf Wf
  have Pf := Pf_
  have Wf := Wf_
  clear Pf_ Wf_
  have Pg_ := Lib.hid (lies_below Pg.out BB12.out (lt_heap Pg.out))
  have Wg_ := Lib.hid (Wg.out.below BB12.out)
  clear Pg Wg
  have Pg := Pg_
  have Wg := Wg_
  clear Pg_ Wg_
  have Pna_ := Lib.hid (lies_below Pna.out BB12.out (lt_heap Pna.out))
  have Wna_ := Lib.hid (Wna.out.below BB12.out)
  clear Pna Wna
  have Pna := Pna_
  have Wna := Wna_
  clear Pna_ Wna_
  have Pnb_ := Lib.hid (lies_below Pnb.out BB12.out (lt_heap Pnb.out))
  have Wnb_ := Lib.hid (Wnb.out.below BB12.out)
  clear Pnb Wnb
  have Pnb := Pnb_
  have Wnb := Wnb_
  clear Pnb_ Wnb_
  have Pbo := Lib.hid ((b.block v11.heap.size (by simp)).trans (heap_alloc_new v11 (.cells #[.int .i64 BO.width, .slice abo kbo cbo] 25)))
  have Wbo_ := Lib.hid (Wbo.out.below BB12.out)
  clear Wbo
  have Wbo := Wbo_
  clear Wbo_
  clear b
  clear xg0 xg1 yg0 yg1 yg2 xu0 xu1 yu0 yu1 yu2
  obtain ⟨anu, knu, cnu, rfl⟩ := nnu.shape
  have Wnu := Lib.hid nnu.words
  clear nnu
  obtain ⟨v13, hv⟩ : ∃ V, v12.alloc (.cells #[.int .i64 NU.width, .slice anu knu cnu] 25) = V := ⟨_, rfl⟩
  have b : Below (v12.alloc (.cells #[.int .i64 NU.width, .slice anu knu cnu] 25)).heap.size (v12.alloc (.cells #[.int .i64 NU.width, .slice anu knu cnu] 25)) v13 := by rw [← hv]; exact Below.refl _ _
  have HW := Lib.hid hv
  clear hv
  have xa0 := (lies_cells Pa.out).1 0
  have xa1 := (lies_cells Pa.out).1 1
  simp only [List.getElem?_toArray, List.getElem?_cons_zero, List.getElem?_cons_succ] at xa0 xa1
  have ya0 : p5.heap.size < v12.heap.size := lt_heap Pa.out
  have ya1 : p5.heap.size ≠ v12.heap.size := by omega
  have ya2 : v12.heap.size ≠ p5.heap.size := by omega
  have xb0 := (lies_cells Pb.out).1 0
  have xb1 := (lies_cells Pb.out).1 1
  simp only [List.getElem?_toArray, List.getElem?_cons_zero, List.getElem?_cons_succ] at xb0 xb1
  have yb0 : p5.heap.size + 1 < v12.heap.size := lt_heap Pb.out
  have yb1 : p5.heap.size + 1 ≠ v12.heap.size := by omega
  have yb2 : v12.heap.size ≠ p5.heap.size + 1 := by omega
  have xu0 := (lies_cells Pu.out).1 0
  have xu1 := (lies_cells Pu.out).1 1
  simp only [List.getElem?_toArray, List.getElem?_cons_zero, List.getElem?_cons_succ] at xu0 xu1
  have yu0 : v1.heap.size < v12.heap.size := lt_heap Pu.out
  have yu1 : v1.heap.size ≠ v12.heap.size := by omega
  have yu2 : v12.heap.size ≠ v1.heap.size := by omega
  have xx0 := (lies_cells Px.out).1 0
  have xx1 := (lies_cells Px.out).1 1
  simp only [List.getElem?_toArray, List.getElem?_cons_zero, List.getElem?_cons_succ] at xx0 xx1
  have yx0 : v2.heap.size < v12.heap.size := lt_heap Px.out
  have yx1 : v2.heap.size ≠ v12.heap.size := by omega
  have yx2 : v12.heap.size ≠ v2.heap.size := by omega
  have xy0 := (lies_cells Py.out).1 0
  have xy1 := (lies_cells Py.out).1 1
  simp only [List.getElem?_toArray, List.getElem?_cons_zero, List.getElem?_cons_succ] at xy0 xy1
  have yy0 : v5.heap.size < v12.heap.size := lt_heap Py.out
  have yy1 : v5.heap.size ≠ v12.heap.size := by omega
  have yy2 : v12.heap.size ≠ v5.heap.size := by omega
  have xd0 := (lies_cells Pd.out).1 0
  have xd1 := (lies_cells Pd.out).1 1
  simp only [List.getElem?_toArray, List.getElem?_cons_zero, List.getElem?_cons_succ] at xd0 xd1
  have yd0 : v6.heap.size < v12.heap.size := lt_heap Pd.out
  have yd1 : v6.heap.size ≠ v12.heap.size := by omega
  have yd2 : v12.heap.size ≠ v6.heap.size := by omega
  have xf0 := (lies_cells Pf.out).1 0
  have xf1 := (lies_cells Pf.out).1 1
  simp only [List.getElem?_toArray, List.getElem?_cons_zero, List.getElem?_cons_succ] at xf0 xf1
  have yf0 : v7.heap.size < v12.heap.size := lt_heap Pf.out
  have yf1 : v7.heap.size ≠ v12.heap.size := by omega
  have yf2 : v12.heap.size ≠ v7.heap.size := by omega
  have xbo0 := (lies_cells Pbo.out).1 0
  have xbo1 := (lies_cells Pbo.out).1 1
  simp only [List.getElem?_toArray, List.getElem?_cons_zero, List.getElem?_cons_succ] at xbo0 xbo1
  have ybo0 : v11.heap.size < v12.heap.size := lt_heap Pbo.out
  have ybo1 : v11.heap.size ≠ v12.heap.size := by omega
  have ybo2 : v12.heap.size ≠ v11.heap.size := by omega
  have BB13 := Lib.hid (((Below.refl v12.heap.size v12).alloc (Nat.le_refl _) _).trans (b.mono (by simp)))
  have E13 := Lib.hid (E12.out.trans (BB13.out.mono E12.out.size))
  have Pa_ := Lib.hid (lies_below Pa.out BB13.out (lt_heap Pa.out))
  have Wa_ := Lib.hid (Wa.out.below BB13.out)
  clear Pa Wa
  have Pa := Pa_
  have Wa := Wa_
  clear Pa_ Wa_
  have Pb_ := Lib.hid (lies_below Pb.out BB13.out (lt_heap Pb.out))
  have Wb_ := Lib.hid (Wb.out.below BB13.out)
  clear Pb Wb
  have Pb := Pb_
  have Wb := Wb_
  clear Pb_ Wb_
  have Pc_ := Lib.hid (lies_below Pc.out BB13.out (lt_heap Pc.out))
  have Wc_ := Lib.hid (Wc.out.below BB13.out)
  clear Pc Wc
  have Pc := Pc_
  have Wc := Wc_
  clear Pc_ Wc_
  have Pu_ := Lib.hid (lies_below Pu.out BB13.out (lt_heap Pu.out))
  have Wu_ := Lib.hid (Wu.out.below BB13.out)
  clear Pu Wu
  have Pu := Pu_
  have Wu := Wu_
  clear Pu_ Wu_
  have Px_ := Lib.hid (lies_below Px.out BB13.out (lt_heap Px.out))
  have Wx_ := Lib.hid (Wx.out.below BB13.out)
  clear Px Wx
  have Px := Px_
  have Wx := Wx_
  clear Px_ Wx_
  have Pp_ := Lib.hid (lies_below Pp.out BB13.out (lt_heap Pp.out))
  have Wp_ := Lib.hid (Wp.out.below BB13.out)
  clear Pp Wp
  have Pp := Pp_
  have Wp := Wp_
  clear Pp_ Wp_
  have Pq_ := Lib.hid (lies_below Pq.out BB13.out (lt_heap Pq.out))
  have Wq_ := Lib.hid (Wq.out.below BB13.out)
  clear Pq Wq
  have Pq := Pq_
  have Wq := Wq_
  clear Pq_ Wq_
  have Py_ := Lib.hid (lies_below Py.out BB13.out (lt_heap Py.out))
  have Wy_ := Lib.hid (Wy.out.below BB13.out)
  clear Py Wy
  have Py := Py_
  have Wy := Wy_
  clear Py_ Wy_
  have Pd_ := Lib.hid (lies_below Pd.out BB13.out (lt_heap Pd.out))
  have Wd_ := Lib.hid (Wd.out.below BB13.out)
  clear Pd Wd
  have Pd := Pd_
  have Wd := Wd_
  clear Pd_ Wd_
  have Pf_ := Lib.hid (lies_below Pf.out BB13.out (lt_heap Pf.out))
  have Wf_ := Lib.hid (Wf.out.below BB13.out)
  clear Pf Wf
  have Pf := Pf_
  have Wf := Wf_
  clear Pf_ Wf_
  have Pg_ := Lib.hid (lies_below Pg.out BB13.out (lt_heap Pg.out))
  have Wg_ := Lib.hid (Wg.out.below BB13.out)
  clear Pg Wg
  have Pg := Pg_
  have Wg := Wg_
  clear Pg_ Wg_
  have Pna_ := Lib.hid (lies_below Pna.out BB13.out (lt_heap Pna.out))
  have Wna_ := Lib.hid (Wna.out.below BB13.out)
  clear Pna Wna
  have Pna := Pna_
  have Wna := Wna_
  clear Pna_ Wna_
  have Pnb_ := Lib.hid (lies_below Pnb.out BB13.out (lt_heap Pnb.out))
  have Wnb_ := Lib.hid (Wnb.out.below BB13.out)
  clear Pnb Wnb
  have Pnb := Pnb_
  have Wnb := Wnb_
  clear Pnb_ Wnb_
  have Pbo_ := Lib.hid (lies_below Pbo.out BB13.out (lt_heap Pbo.out))
  have Wbo_ := Lib.hid (Wbo.out.below BB13.out)
  clear Pbo Wbo
  have Pbo := Pbo_
  have Wbo := Wbo_
  clear Pbo_ Wbo_
  have Pnu := Lib.hid ((b.block v12.heap.size (by simp)).trans (heap_alloc_new v12 (.cells #[.int .i64 NU.width, .slice anu knu cnu] 25)))
  have Wnu_ := Lib.hid (Wnu.out.below BB13.out)
  clear Wnu
  have Wnu := Wnu_
  clear Wnu_
  clear b
  clear xa0 xa1 ya0 ya1 ya2 xb0 xb1 yb0 yb1 yb2 xu0 xu1 yu0 yu1 yu2 xx0 xx1 yx0 yx1 yx2 xy0 xy1 yy0 yy1 yy2 xd0 xd1 yd0 yd1 yd2 xf0 xf1 yf0 yf1 yf2 xbo0 xbo1 ybo0 ybo1 ybo2
  have HS : Hid (∀ w', Below v13.heap.size v13 w' → w'.cell? ⟨p5.heap.size, 0, none⟩ = some (.int .i64 A.width) ∧ w'.cell? ⟨p5.heap.size, 1, none⟩ = some (.slice aa ka ca) ∧ w'.cell? ⟨p5.heap.size + 1, 0, none⟩ = some (.int .i64 B.width) ∧ w'.cell? ⟨p5.heap.size + 1, 1, none⟩ = some (.slice ab kb cb) ∧ w'.cell? ⟨v1.heap.size, 0, none⟩ = some (.int .i64 U.width) ∧ w'.cell? ⟨v1.heap.size, 1, none⟩ = some (.slice au ku cu) ∧ w'.cell? ⟨v2.heap.size, 0, none⟩ = some (.int .i64 X.width) ∧ w'.cell? ⟨v2.heap.size, 1, none⟩ = some (.slice ax kx cx) ∧ w'.cell? ⟨v5.heap.size, 0, none⟩ = some (.int .i64 Y.width) ∧ w'.cell? ⟨v5.heap.size, 1, none⟩ = some (.slice ay ky cy) ∧ w'.cell? ⟨v6.heap.size, 0, none⟩ = some (.int .i64 D.width) ∧ w'.cell? ⟨v6.heap.size, 1, none⟩ = some (.slice ad kd cd) ∧ w'.cell? ⟨v7.heap.size, 0, none⟩ = some (.int .i64 F.width) ∧ w'.cell? ⟨v7.heap.size, 1, none⟩ = some (.slice af kf cf) ∧ w'.cell? ⟨v11.heap.size, 0, none⟩ = some (.int .i64 BO.width) ∧ w'.cell? ⟨v11.heap.size, 1, none⟩ = some (.slice abo kbo cbo) ∧ w'.cell? ⟨v12.heap.size, 0, none⟩ = some (.int .i64 NU.width) ∧ w'.cell? ⟨v12.heap.size, 1, none⟩ = some (.slice anu knu cnu)) := by
    refine Lib.hid fun w' hb => ?_
    have za0 := (lies_cells Pa.out).1 0
    have za1 := (lies_cells Pa.out).1 1
    simp only [List.getElem?_toArray, List.getElem?_cons_zero, List.getElem?_cons_succ] at za0 za1
    have zb0 := (lies_cells Pb.out).1 0
    have zb1 := (lies_cells Pb.out).1 1
    simp only [List.getElem?_toArray, List.getElem?_cons_zero, List.getElem?_cons_succ] at zb0 zb1
    have zu0 := (lies_cells Pu.out).1 0
    have zu1 := (lies_cells Pu.out).1 1
    simp only [List.getElem?_toArray, List.getElem?_cons_zero, List.getElem?_cons_succ] at zu0 zu1
    have zx0 := (lies_cells Px.out).1 0
    have zx1 := (lies_cells Px.out).1 1
    simp only [List.getElem?_toArray, List.getElem?_cons_zero, List.getElem?_cons_succ] at zx0 zx1
    have zy0 := (lies_cells Py.out).1 0
    have zy1 := (lies_cells Py.out).1 1
    simp only [List.getElem?_toArray, List.getElem?_cons_zero, List.getElem?_cons_succ] at zy0 zy1
    have zd0 := (lies_cells Pd.out).1 0
    have zd1 := (lies_cells Pd.out).1 1
    simp only [List.getElem?_toArray, List.getElem?_cons_zero, List.getElem?_cons_succ] at zd0 zd1
    have zf0 := (lies_cells Pf.out).1 0
    have zf1 := (lies_cells Pf.out).1 1
    simp only [List.getElem?_toArray, List.getElem?_cons_zero, List.getElem?_cons_succ] at zf0 zf1
    have zbo0 := (lies_cells Pbo.out).1 0
    have zbo1 := (lies_cells Pbo.out).1 1
    simp only [List.getElem?_toArray, List.getElem?_cons_zero, List.getElem?_cons_succ] at zbo0 zbo1
    have znu0 := (lies_cells Pnu.out).1 0
    have znu1 := (lies_cells Pnu.out).1 1
    simp only [List.getElem?_toArray, List.getElem?_cons_zero, List.getElem?_cons_succ] at znu0 znu1
    exact ⟨(hb.cell (p := ⟨p5.heap.size, 0, none⟩) (lt_heap Pa.out)).trans za0, (hb.cell (p := ⟨p5.heap.size, 1, none⟩) (lt_heap Pa.out)).trans za1, (hb.cell (p := ⟨p5.heap.size + 1, 0, none⟩) (lt_heap Pb.out)).trans zb0, (hb.cell (p := ⟨p5.heap.size + 1, 1, none⟩) (lt_heap Pb.out)).trans zb1, (hb.cell (p := ⟨v1.heap.size, 0, none⟩) (lt_heap Pu.out)).trans zu0, (hb.cell (p := ⟨v1.heap.size, 1, none⟩) (lt_heap Pu.out)).trans zu1, (hb.cell (p := ⟨v2.heap.size, 0, none⟩) (lt_heap Px.out)).trans zx0, (hb.cell (p := ⟨v2.heap.size, 1, none⟩) (lt_heap Px.out)).trans zx1, (hb.cell (p := ⟨v5.heap.size, 0, none⟩) (lt_heap Py.out)).trans zy0, (hb.cell (p := ⟨v5.heap.size, 1, none⟩) (lt_heap Py.out)).trans zy1, (hb.cell (p := ⟨v6.heap.size, 0, none⟩) (lt_heap Pd.out)).trans zd0, (hb.cell (p := ⟨v6.heap.size, 1, none⟩) (lt_heap Pd.out)).trans zd1, (hb.cell (p := ⟨v7.heap.size, 0, none⟩) (lt_heap Pf.out)).trans zf0, (hb.cell (p := ⟨v7.heap.size, 1, none⟩) (lt_heap Pf.out)).trans zf1, (hb.cell (p := ⟨v11.heap.size, 0, none⟩) (lt_heap Pbo.out)).trans zbo0, (hb.cell (p := ⟨v11.heap.size, 1, none⟩) (lt_heap Pbo.out)).trans zbo1, (hb.cell (p := ⟨v12.heap.size, 0, none⟩) (lt_heap Pnu.out)).trans znu0, (hb.cell (p := ⟨v12.heap.size, 1, none⟩) (lt_heap Pnu.out)).trans znu1⟩
  have F0 := Lib.hid (show Below v13.heap.size v13 v13.drew from (Below.refl _ _).drew)
  obtain ⟨nU, hnU⟩ : ∃ k, (memS U).length = k := ⟨_, rfl⟩
  obtain ⟨nI, hnI⟩ : ∃ k, (memS I).length = k := ⟨_, rfl⟩
  obtain ⟨nA, hnA⟩ : ∃ k, (memS A).length = k := ⟨_, rfl⟩
  obtain ⟨nB, hnB⟩ : ∃ k, (memS B).length = k := ⟨_, rfl⟩
  have hsum : nU + nI = nA + nB := by rw [← hnU, ← hnI, ← hnA, ← hnB]; exact AL.out.e5
  have hA256 : nA ≤ 256 := by rw [← hnA]; exact memS_len A OA.out.words
  have hB256 : nB ≤ 256 := by rw [← hnB]; exact memS_len B OB.out.words
  have s1 : IntKind.i64.wrap ((nU : Int) + (nI : Int)) = (nU : Int) + (nI : Int) := IntWalk.i64_in _ (by omega)
  have s2 : IntKind.i64.wrap ((nA : Int) + (nB : Int)) = (nA : Int) + (nB : Int) := IntWalk.i64_in _ (by omega)
  have s3 : (((nU : Int) + (nI : Int)) == ((nA : Int) + (nB : Int))) = true := by simp; omega
  have HNU := Lib.hid hnU
  have HNI := Lib.hid hnI
  have HNA := Lib.hid hnA
  have HNB := Lib.hid hnB
  clear hnU hnI hnA hnB
  have BVV := Lib.hid (BV.out.trans (E13.out.mono BV.out.size))
  go_wp2_with fail
  rw [show v12.alloc (.cells #[.int .i64 NU.width, .slice anu knu cnu] 25) = v13 from HW.out]
  go_region_held3 (fun w' => w'.cell? ⟨p5.heap.size, 0, none⟩ = some (.int .i64 A.width) ∧ w'.cell? ⟨p5.heap.size, 1, none⟩ = some (.slice aa ka ca) ∧ w'.cell? ⟨p5.heap.size + 1, 0, none⟩ = some (.int .i64 B.width) ∧ w'.cell? ⟨p5.heap.size + 1, 1, none⟩ = some (.slice ab kb cb) ∧ w'.cell? ⟨v1.heap.size, 0, none⟩ = some (.int .i64 U.width) ∧ w'.cell? ⟨v1.heap.size, 1, none⟩ = some (.slice au ku cu) ∧ w'.cell? ⟨v2.heap.size, 0, none⟩ = some (.int .i64 X.width) ∧ w'.cell? ⟨v2.heap.size, 1, none⟩ = some (.slice ax kx cx) ∧ w'.cell? ⟨v5.heap.size, 0, none⟩ = some (.int .i64 Y.width) ∧ w'.cell? ⟨v5.heap.size, 1, none⟩ = some (.slice ay ky cy) ∧ w'.cell? ⟨v6.heap.size, 0, none⟩ = some (.int .i64 D.width) ∧ w'.cell? ⟨v6.heap.size, 1, none⟩ = some (.slice ad kd cd) ∧ w'.cell? ⟨v7.heap.size, 0, none⟩ = some (.int .i64 F.width) ∧ w'.cell? ⟨v7.heap.size, 1, none⟩ = some (.slice af kf cf) ∧ w'.cell? ⟨v11.heap.size, 0, none⟩ = some (.int .i64 BO.width) ∧ w'.cell? ⟨v11.heap.size, 1, none⟩ = some (.slice abo kbo cbo) ∧ w'.cell? ⟨v12.heap.size, 0, none⟩ = some (.int .i64 NU.width) ∧ w'.cell? ⟨v12.heap.size, 1, none⟩ = some (.slice anu knu cnu)) (first | exact HS.out _ F10.out | exact HS.out _ F9.out | exact HS.out _ F8.out | exact HS.out _ F7.out | exact HS.out _ F6.out | exact HS.out _ F5.out | exact HS.out _ F4.out | exact HS.out _ F3.out | exact HS.out _ F2.out | exact HS.out _ F1.out | exact HS.out _ F0.out | exact HS.out _ (Below.refl _ _) | go_keep) (first | (go_at_call 30; ((with_reducible refine (equal_at (s := X) (t := Y) AL.out.e1 (.slice ax kx cx) (.slice ay ky cy) v13.drew (Wx.out.below F0.out) (Wy.out.below F0.out)).mono ?_)); go_must (rintro e z1 ⟨rfl, b⟩; have F1 := Lib.hid (F0.out.trans (b.mono F0.out.size)); clear b)) | (go_at_call 30; ((with_reducible refine (equal_at (s := D) (t := F) AL.out.e2 (.slice ad kd cd) (.slice af kf cf) z1 (Wd.out.below F1.out) (Wf.out.below F1.out)).mono ?_)); go_must (rintro e z2 ⟨rfl, b⟩; have F2 := Lib.hid (F1.out.trans (b.mono F1.out.size)); clear b)) | (go_at_call 30; ((with_reducible refine (equal_at (s := BO) (t := NU) AL.out.e3 (.slice abo kbo cbo) (.slice anu knu cnu) z2 (Wbo.out.below F2.out) (Wnu.out.below F2.out)).mono ?_)); go_must (rintro e z3 ⟨rfl, b⟩; have F3 := Lib.hid (F2.out.trans (b.mono F2.out.size)); clear b)) | (go_at_call 31; ((with_reducible refine (subset_at (s := A) (t := U) AL.out.e4 (.slice aa ka ca) (.slice au ku cu) z3 (Wa.out.below F3.out) (Wu.out.below F3.out)).mono ?_)); go_must (rintro e z4 ⟨rfl, b⟩; have F4 := Lib.hid (F3.out.trans (b.mono F3.out.size)); clear b)) | (go_at_call 32; ((with_reducible refine (count_at (s := U) HNU.out (.slice au ku cu) z4 (Wu.out.below F4.out)).mono ?_)); go_must (rintro e z5 ⟨rfl, b⟩; have F5 := Lib.hid (F4.out.trans (b.mono F4.out.size)); clear b)) | (go_at_call 33; ((with_reducible refine (both_at (s := A) (t := B) AL.out.hi (.slice aa ka ca) (.slice ab kb cb) z5 (Wa.out.below F5.out) (Wb.out.below F5.out)).mono ?_)); go_must (rintro e z6 ⟨ui, rfl, ni, b⟩; have F6 := Lib.hid (F5.out.trans (b.mono F5.out.size)); obtain ⟨ai, ki, ci, rfl⟩ := ni.shape; have Wi := Lib.hid ni.words; clear ni; clear b)) | (go_at_call 32; ((with_reducible refine (count_at (s := I) HNI.out (.slice ai ki ci) z6 Wi.out).mono ?_)); go_must (rintro e z7 ⟨rfl, b⟩; have F7 := Lib.hid (F6.out.trans (b.mono F6.out.size)); clear b)) | (go_at_call 32; ((with_reducible refine (count_at (s := A) HNA.out (.slice aa ka ca) z7 (Wa.out.below F7.out)).mono ?_)); go_must (rintro e z8 ⟨rfl, b⟩; have F8 := Lib.hid (F7.out.trans (b.mono F7.out.size)); clear b)) | (go_at_call 32; ((with_reducible refine (count_at (s := B) HNB.out (.slice ab kb cb) z8 (Wb.out.below F8.out)).mono ?_)); go_must (rintro e z9 ⟨rfl, b⟩; have F9 := Lib.hid (F8.out.trans (b.mono F8.out.size)); clear b)) | (go_at_call 14; ((with_reducible refine (sane_any (B := w0.heap.size) z9 (TabsIn.below HK.out (BVV.out.trans (F9.out.mono BVV.out.size))) (Nat.le_trans BVV.out.size F9.out.size)).mono ?_)); go_must (rintro e z10 ⟨rfl, b⟩; have F10 := Lib.hid (F9.out.trans (b.mono F9.out.size)); clear b)))
  all_goals
    go_wp2
    go_ret
    exact ⟨rfl, BVV.out.trans (F10.out.mono BVV.out.size)⟩
end Go.Proofs.YtmanmlankfoflaaDoor
