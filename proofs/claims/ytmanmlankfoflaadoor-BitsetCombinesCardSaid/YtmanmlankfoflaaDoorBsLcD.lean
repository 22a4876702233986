/- 'flqlaw2.BitsetCombines' returns true at every input. The library's tables hold what the program's text lays (the given tie). No condition beyond the statement's own. (nobase) Printed by wip/gen_bscard.py. -/
import Derived.Test.YtmanmlankfoflaaDoorBsCb
import Derived.Test.YtmanmlankfoflaaDoorBsG3
import Derived.Test.YtmanmlankfoflaaDoorBsSa
import Derived.Test.YtmanmlankfoflaaDoorBsOp
import Derived.Test.YtmanmlankfoflaaDoorBsCK
set_option linter.unusedVariables false
set_option linter.unusedSimpArgs false
set_option linter.unusedSectionVars false
/- The law BitsetCombines: the walk. Printed by wip/gen_bslc.py. -/
namespace Go.Proofs.YtmanmlankfoflaaDoor
open Go.RowKit
variable [Base]

theorem setv_at {B bt : Nat} (m : Nat) (hm : m ≤ 256) (w : World) (ht : TapeOk B w bt) : Calls Tryd.prog 16 #[.pointer (some ⟨bt, 0, none⟩), .int .i64 m] w (fun e w' => ∃ (s : QSet) (u : Value), e = .returned (.agg #[.int .i64 s.width, u]) ∧ Ok m s ∧ WordsAt w' u s.words ∧ TapeOk B w' bt ∧ But bt w w') :=
  (setv_any m hm w ht).mono fun e w' ⟨s, u, h1, h2, h3, h4, h5⟩ => ⟨s, u, h1, ⟨h2, h4, h3⟩, h5⟩
theorem wide_at {B bt : Nat} (w : World) (ht : TapeOk B w bt) : Calls Tryd.prog 10 #[.pointer (some ⟨bt, 0, none⟩)] w (fun e w' => ∃ (s : QSet) (u : Value), e = .returned (.agg #[.int .i64 s.width, u]) ∧ (FormS s ∧ setB s = true) ∧ WordsAt w' u s.words ∧ TapeOk B w' bt ∧ But bt w w') :=
  (wide_any w ht).mono fun e w' ⟨s, u, h1, h2, h3, h4⟩ => ⟨s, u, h1, ⟨h2, h3⟩, h4⟩
theorem spoil_at {B bt : Nat} (s : QSet) (hf : FormS s) (u : Value) (w : World) (ht : TapeOk B w bt) (hu : WordsAt w u s.words) : Calls Tryd.prog 13 #[.pointer (some ⟨bt, 0, none⟩), .agg #[.int .i64 s.width, u]] w (fun e w' => ∃ (s : QSet) (u : Value), e = .returned (.agg #[.int .i64 s.width, u]) ∧ WordsAt w' u s.words ∧ TapeOk B w' bt ∧ But bt w w') := by
  obtain ⟨m, h1, h2, h3⟩ := form_len hf
  exact spoilset_any s u w ht hu (by omega) (by omega) (by rw [h3]; unfold wordsN; omega)
theorem But.drew1 {bt : Nat} (w : World) : But bt w w.drew := ⟨rfl, rfl, rfl, Nat.le_refl _, fun _ _ _ => rfl⟩
theorem four_nat {w : World} {b q : Nat} {x0 x1 x2 x3 : Nat} (h : ∀ o, w.cell? ⟨b, o, none⟩ = (#[.int .i64 (x0 : Int), .int .i64 (x1 : Int), .int .i64 (x2 : Int), .int .i64 (x3 : Int)] : Array Value)[o]?) (hq : q < 4)
    (hx : ∀ x ∈ [x0, x1, x2, x3], x ≤ 256) : ∃ z : Nat, z ≤ 256 ∧ w.cell? ⟨b, q, none⟩ = some (.int .i64 (z : Int)) := by
  have hc := h q
  have hq' : q = 0 ∨ q = 1 ∨ q = 2 ∨ q = 3 := by omega
  rcases hq' with rfl | rfl | rfl | rfl
  · exact ⟨x0, hx x0 (by simp), hc⟩
  · exact ⟨x1, hx x1 (by simp), hc⟩
  · exact ⟨x2, hx x2 (by simp), hc⟩
  · exact ⟨x3, hx x3 (by simp), hc⟩
set_option maxRecDepth 100000 in
set_option maxHeartbeats 4000000 in
theorem combLaw_any (w0 : World) (a : Option Addr) (n c : Nat) (hn : n ≤ maxLen)
    (h : ∀ j : Nat, j < n → ∃ b off z, a = some ⟨b, off, none⟩ ∧ b < w0.heap.size ∧ w0.cell? ⟨b, off + j, none⟩ = some (.int .i64 z)) (KT : TabsIn w0.heap.size w0) (hbs : Base.b ≤ w0.heap.size)
    (A B : QSet) (u1 u2 : Value) (h1 : WordsAt w0 u1 A.words) (h2 : WordsAt w0 u2 B.words) :
    Calls Tryd.prog 5 #[.slice a n c, setV A u1, setV B u2] w0 (BoolQ true w0) := by
  have hud : ∀ b : Bool, (undef = Value.bool b) = False := fun b => by simp [undef]
  obtain ⟨aa, ca, rfl, -⟩ := h1.cell
  obtain ⟨ab, cb, rfl, -⟩ := h2.cell
  obtain ⟨ka, hka⟩ : ∃ k, A.words.length = k := ⟨_, rfl⟩
  obtain ⟨kb, hkb⟩ : ∃ k, B.words.length = k := ⟨_, rfl⟩
  rw [hka] at h1 ⊢
  rw [hkb] at h2 ⊢
  obtain ⟨W, hW⟩ : ∃ W, (w0.alloc (.cells #[.int .i64 A.width, .slice aa ka ca] 25)).alloc (.cells #[.int .i64 B.width, .slice ab kb cb] 25) = W := ⟨_, rfl⟩
  have hb0 : Below w0.heap.size w0 W := by rw [← hW]; exact ((Below.refl _ _).alloc (Nat.le_refl _) _).alloc (by simp) _
  have PA := Lib.hid (show W.heap[w0.heap.size]? = some (.cells #[.int .i64 A.width, .slice aa ka ca] 25 (0, 0)) by rw [← hW]; exact lies_alloc _ (heap_alloc_new _ _))
  have PB := Lib.hid (show W.heap[w0.heap.size + 1]? = some (.cells #[.int .i64 B.width, .slice ab kb cb] 25 (0, 0)) by rw [← hW]; exact lies_new2 _ _)
  have WA := Lib.hid (h1.below hb0)
  have WB := Lib.hid (h2.below hb0)
  have B0 := Lib.hid hb0
  have HK := Lib.hid (KT.below hb0)
  have H := Lib.hid (show ∀ j : Nat, j < n → ∃ b off z, a = some ⟨b, off, none⟩ ∧ b < W.heap.size ∧ W.cell? ⟨b, off + j, none⟩ = some (.int .i64 z) from fun j hj => by
    obtain ⟨b, off, z, e1, e2, e3⟩ := h j hj
    exact ⟨b, off, z, e1, Nat.lt_of_lt_of_le e2 hb0.size, (hb0.cell (p := ⟨b, off + j, none⟩) e2).trans e3⟩)
  have HWW := Lib.hid hW
  have hbw : Base.b ≤ W.heap.size := Nat.le_trans hbs hb0.size
  clear hW hb0 h1 h2 h KT hka hkb
  go_enter Tryd.func5, Tryd.ntmps5
  go_wp2_with fail
  rw [show (w0.alloc (.cells #[.int .i64 A.width, .slice aa ka ca] 25)).alloc (.cells #[.int .i64 B.width, .slice ab kb cb] 25) = W from HWW.out]
  refine (new_any rfl a n c hn H.out hbw).mono ?_
  rintro e w1 ⟨rfl, ht, hb⟩
  have T1 := Lib.hid ht
  have B1 := Lib.hid hb
  clear ht hb
  go_wp2_with fail
  go_loopw [8] (fun y8 wr => ∃ i : Nat, i ≤ 5 ∧ y8 = .int .i64 i ∧ Hid (TapeOk W.heap.size wr W.heap.size) ∧ Hid (Below W.heap.size W wr)) (fun y _ => 5 - (intOf y).toNat)
  case atStart => exact ⟨0, by omega, rfl, T1, B1⟩
  case round =>
    clear T1 B1
    obtain ⟨i, hi, rfl, HT, HB⟩ := hrel
    by_cases hlt : i < 5
    · have i2 : (i : Int) < 5 := by omega
      go_wp2_with fail
      refine (next_pos2 (HT.out.alloc _) 4 (by omega) (by omega)).mono ?_
      rintro e w2 ⟨q, q1, q2, rfl, t2, b2⟩
      obtain ⟨q, rfl⟩ := Int.eq_ofNat_of_zero_le q1
      have q3 : (q : Int) < 4 := q2
      have hne : wr.heap.size ≠ W.heap.size := by have := HT.out.lt; omega
      obtain ⟨m, hm, hz⟩ := four_nat (w := w2) (b := wr.heap.size) (q := q) (x0 := 3) (x1 := 64) (x2 := 70) (x3 := 130)
        (fun o => (b2.cell wr.heap.size o (by simp) hne).trans (by simp only [World.cell?, heap_alloc_new]; rfl)) (by omega) (by decide)
      have B2 := Lib.hid (HB.out.trans ((((But.refl W.heap.size wr).alloc _).trans b2).toBelow (Nat.le_refl _) HB.out.size))
      have T2 := Lib.hid t2
      clear t2 b2 HT
      go_wp2_with fail
      refine (setv_at m hm _ T2.out).mono ?_
      rintro e w3 ⟨X, ux, rfl, okx, dx, t3, b3⟩
      obtain ⟨ax, nx, cx, rfl⟩ := dx.shape
      have B3 := Lib.hid (B2.out.trans (b3.toBelow (Nat.le_refl _) B2.out.size))
      have T3 := Lib.hid t3
      have DX := Lib.hid dx
      have OX := Lib.hid okx
      clear t3 b3 dx okx hz
      go_wp2_with fail
      refine (setv_at m hm _ T3.out).mono ?_
      rintro e w4 ⟨Y, uy, rfl, oky, dy, t4, b4⟩
      obtain ⟨ay, ny, cy, rfl⟩ := dy.shape
      have B4 := Lib.hid (B3.out.trans (b4.toBelow (Nat.le_refl _) B3.out.size))
      have DX4 := Lib.hid (DX.out.keep (b4.sameT T3.out (by decide)))
      have T4 := Lib.hid t4
      have DY := Lib.hid dy
      have OY := Lib.hid oky
      clear t4 b4 dy oky DX
      obtain ⟨V, hV⟩ : ∃ V, (w4.alloc (.cells #[.int .i64 X.width, .slice ax nx cx] 25)).alloc (.cells #[.int .i64 Y.width, .slice ay ny cy] 25) = V := ⟨_, rfl⟩
      have hb : Below w4.heap.size w4 V := by rw [← hV]; exact ((Below.refl _ _).alloc (Nat.le_refl _) _).alloc (by simp) _
      have PX := Lib.hid (show V.heap[w4.heap.size]? = some (.cells #[.int .i64 X.width, .slice ax nx cx] 25 (0, 0)) by rw [← hV]; exact lies_alloc _ (heap_alloc_new _ _))
      have PY := Lib.hid (show V.heap[w4.heap.size + 1]? = some (.cells #[.int .i64 Y.width, .slice ay ny cy] 25 (0, 0)) by rw [← hV]; exact lies_new2 _ _)
      have WX := Lib.hid (DX4.out.below hb)
      have WY := Lib.hid (DY.out.below hb)
      have TV := Lib.hid (T4.out.below hb)
      have BV := Lib.hid (B4.out.trans (hb.mono B4.out.size))
      have HV := Lib.hid hV
      have hbt4 := T4.out.lt
      obtain ⟨⟨Z, nz⟩, hZ⟩ : ∃ q, mergeS (fun x y => x &&& y) X Y = q := ⟨_, rfl⟩
      have HZ := Lib.hid hZ
      clear hb hV DX4 DY hZ
      go_wp2_with fail
      rw [show (w4.alloc (.cells #[.int .i64 X.width, .slice ax nx cx] 25)).alloc (.cells #[.int .i64 Y.width, .slice ay ny cy] 25) = V from HV.out]
      refine (rinter_n HZ.out _ _ _ WX.out WY.out).mono ?_
      rintro e v1 ⟨uz, rfl, nz', b⟩
      obtain ⟨az, nz2, cz, rfl⟩ := nz'.shape
      have P2 := nz'.words
      obtain ⟨VV, hv⟩ : ∃ VV, v1.alloc (.cells #[.int .i64 Z.width, .slice az nz2 cz] 25) = VV := ⟨_, rfl⟩
      have hb2 : Below v1.heap.size v1 VV := by rw [← hv]; exact (Below.refl _ _).alloc (Nat.le_refl _) _
      have hb3 := b.trans (hb2.mono b.size)
      have QX := Lib.hid (lies_below PX.out hb3 (lt_heap PX.out))
      have QY := Lib.hid (lies_below PY.out hb3 (lt_heap PY.out))
      have QZ := Lib.hid (show VV.heap[v1.heap.size]? = some (.cells #[.int .i64 Z.width, .slice az nz2 cz] 25 (0, 0)) by rw [← hv]; exact heap_alloc_new _ _)
      have RX := Lib.hid (WX.out.below hb3)
      have RY := Lib.hid (WY.out.below hb3)
      have RZ := Lib.hid (P2.below hb2)
      have T0 := Lib.hid (TV.out.below hb3)
      have BVV := Lib.hid (BV.out.trans (hb3.mono BV.out.size))
      have hbv1 : W.heap.size < v1.heap.size := by have := TV.out.lt; have := b.size; omega
      have HVV := Lib.hid hv
      clear b hb2 hb3 P2 nz' hv PX PY WX WY TV BV
      have HS : Hid (∀ w', But W.heap.size VV w' → w'.cell? ⟨w4.heap.size, 0, none⟩ = some (.int .i64 X.width) ∧ w'.cell? ⟨w4.heap.size, 1, none⟩ = some (.slice ax nx cx) ∧ w'.cell? ⟨w4.heap.size + 1, 0, none⟩ = some (.int .i64 Y.width) ∧ w'.cell? ⟨w4.heap.size + 1, 1, none⟩ = some (.slice ay ny cy) ∧ w'.cell? ⟨v1.heap.size, 0, none⟩ = some (.int .i64 Z.width) ∧ w'.cell? ⟨v1.heap.size, 1, none⟩ = some (.slice az nz2 cz)) := by
        refine Lib.hid fun w' hb => ?_
        have zX0 := (lies_cells QX.out).1 0
        have zX1 := (lies_cells QX.out).1 1
        simp only [List.getElem?_toArray, List.getElem?_cons_zero, List.getElem?_cons_succ] at zX0 zX1
        have zY0 := (lies_cells QY.out).1 0
        have zY1 := (lies_cells QY.out).1 1
        simp only [List.getElem?_toArray, List.getElem?_cons_zero, List.getElem?_cons_succ] at zY0 zY1
        have zZ0 := (lies_cells QZ.out).1 0
        have zZ1 := (lies_cells QZ.out).1 1
        simp only [List.getElem?_toArray, List.getElem?_cons_zero, List.getElem?_cons_succ] at zZ0 zZ1
        exact ⟨(hb.cell (w4.heap.size) 0 (lt_heap QX.out) (by omega)).trans zX0, (hb.cell (w4.heap.size) 1 (lt_heap QX.out) (by omega)).trans zX1, (hb.cell (w4.heap.size + 1) 0 (lt_heap QY.out) (by omega)).trans zY0, (hb.cell (w4.heap.size + 1) 1 (lt_heap QY.out) (by omega)).trans zY1, (hb.cell (v1.heap.size) 0 (lt_heap QZ.out) (by omega)).trans zZ0, (hb.cell (v1.heap.size) 1 (lt_heap QZ.out) (by omega)).trans zZ1⟩
      have F0 := Lib.hid (But.drew1 (bt := W.heap.size) VV)
      have U0 := Lib.hid (show TapeOk W.heap.size VV.drew W.heap.size from T0.out.keep rfl (fun _ _ => rfl) (Nat.le_refl _))
      go_wp2_with fail
      rw [show v1.alloc (.cells #[.int .i64 Z.width, .slice az nz2 cz] 25) = VV from HVV.out]
      go_region_held3 (fun w' => w'.cell? ⟨w4.heap.size, 0, none⟩ = some (.int .i64 X.width) ∧ w'.cell? ⟨w4.heap.size, 1, none⟩ = some (.slice ax nx cx) ∧ w'.cell? ⟨w4.heap.size + 1, 0, none⟩ = some (.int .i64 Y.width) ∧ w'.cell? ⟨w4.heap.size + 1, 1, none⟩ = some (.slice ay ny cy) ∧ w'.cell? ⟨v1.heap.size, 0, none⟩ = some (.int .i64 Z.width) ∧ w'.cell? ⟨v1.heap.size, 1, none⟩ = some (.slice az nz2 cz)) (first | exact HS.out _ F9.out | exact HS.out _ F8.out | exact HS.out _ F7.out | exact HS.out _ F6.out | exact HS.out _ F5.out | exact HS.out _ F4.out | exact HS.out _ F3.out | exact HS.out _ F2.out | exact HS.out _ F1.out | exact HS.out _ F0.out | exact HS.out _ (But.refl _ _) | go_keep) (first | (go_at_call 18; ((with_reducible refine (combines_any X Y (.slice ax nx cx) (.slice ay ny cy) VV.drew (RX.out.keep (F0.out.sameT T0.out (by decide))) (RY.out.keep (F0.out.sameT T0.out (by decide)))).mono ?_)); go_must (rintro e z1 ⟨rfl, b⟩; have F1 := Lib.hid (F0.out.below b); have U1 := Lib.hid (U0.out.below b); clear b)) | (go_at_call 18; ((with_reducible refine (combines_any Z Y (.slice az nz2 cz) (.slice ay ny cy) z1 (RZ.out.keep (F1.out.sameT T0.out (by decide))) (RY.out.keep (F1.out.sameT T0.out (by decide)))).mono ?_)); go_must (rintro e z2 ⟨rfl, b⟩; have F2 := Lib.hid (F1.out.below b); have U2 := Lib.hid (U1.out.below b); clear b)) | (go_at_call 18; ((with_reducible refine (combines_any X X (.slice ax nx cx) (.slice ax nx cx) z2 (RX.out.keep (F2.out.sameT T0.out (by decide))) (RX.out.keep (F2.out.sameT T0.out (by decide)))).mono ?_)); go_must (rintro e z3 ⟨rfl, b⟩; have F3 := Lib.hid (F2.out.below b); have U3 := Lib.hid (U2.out.below b); clear b)) | (go_at_call 10; ((with_reducible refine (wide_at z3 U3.out).mono ?_)); go_must (rintro e z4 ⟨Q, uq, rfl, -, dQ, t, b⟩; obtain ⟨aQ, nQ, cQ, rfl⟩ := dQ.shape; have DQ := Lib.hid dQ; have F4 := Lib.hid (F3.out.trans b); have U4 := Lib.hid t; clear t b dQ)) | (go_at_call 18; ((with_reducible refine (combines_any X Q (.slice ax nx cx) (.slice aQ nQ cQ) z4 (RX.out.keep (F4.out.sameT T0.out (by decide))) DQ.out).mono ?_)); go_must (rintro e z5 ⟨rfl, b⟩; have F5 := Lib.hid (F4.out.below b); have U5 := Lib.hid (U4.out.below b); clear b)) | (go_at_call 13; ((with_reducible refine (spoil_at X OX.out.form (.slice ax nx cx) z5 U5.out (RX.out.keep (F5.out.sameT T0.out (by decide)))).mono ?_)); go_must (rintro e z6 ⟨P, up, rfl, dP, t, b⟩; obtain ⟨aP, nP, cP, rfl⟩ := dP.shape; have DP := Lib.hid dP; have F6 := Lib.hid (F5.out.trans b); have U6 := Lib.hid t; clear t b dP)) | (go_at_call 18; ((with_reducible refine (combines_any P Y (.slice aP nP cP) (.slice ay ny cy) z6 DP.out (RY.out.keep (F6.out.sameT T0.out (by decide)))).mono ?_)); go_must (rintro e z7 ⟨rfl, b⟩; have F7 := Lib.hid (F6.out.below b); have U7 := Lib.hid (U6.out.below b); clear b)) | (go_at_call 13; ((with_reducible refine (spoil_at Y OY.out.form (.slice ay ny cy) z7 U7.out (RY.out.keep (F7.out.sameT T0.out (by decide)))).mono ?_)); go_must (rintro e z8 ⟨G, ug, rfl, dG, t, b⟩; obtain ⟨aG, nG, cG, rfl⟩ := dG.shape; have DG := Lib.hid dG; have F8 := Lib.hid (F7.out.trans b); have U8 := Lib.hid t; clear t b dG)) | (go_at_call 18; ((with_reducible refine (combines_any X G (.slice ax nx cx) (.slice aG nG cG) z8 (RX.out.keep (F8.out.sameT T0.out (by decide))) DG.out).mono ?_)); go_must (rintro e z9 ⟨rfl, b⟩; have F9 := Lib.hid (F8.out.below b); have U9 := Lib.hid (U8.out.below b); clear b)))
      all_goals
        have B9 := Lib.hid (BVV.out.trans (F9.out.toBelow (Nat.le_refl _) BVV.out.size))
        go_wp2
        go_roundw
        case rel => exact ⟨i + 1, by omega, by go_num, U9, B9⟩
        case measure => simp [intOf]; omega
    · obtain rfl : i = 5 := by omega
      have GA := Lib.hid (lies_below PA.out HB.out (lt_heap PA.out))
      have GB := Lib.hid (lies_below PB.out HB.out (lt_heap PB.out))
      have x0 := (lies_cells GA.out).1 0
      have x1 := (lies_cells GA.out).1 1
      have y0 := (lies_cells GB.out).1 0
      have y1 := (lies_cells GB.out).1 1
      simp only [List.getElem?_toArray, List.getElem?_cons_zero, List.getElem?_cons_succ] at x0 x1 y0 y1
      have BW := Lib.hid (B0.out.trans (HB.out.mono B0.out.size))
      by_cases hl1 : 50 < ka
      · have g1 : decide ((50 : Int) < (ka : Int)) = true := by simp; omega
        have g2 : decide (50 < ka) = true := by simp; omega
        go_wp2
        go_ret
        exact ⟨rfl, BW.out⟩
      have g1 : decide ((50 : Int) < (ka : Int)) = false := by simp; omega
      have g2 : decide (50 < ka) = false := by simp; omega
      by_cases hl2 : 50 < kb
      · have g3 : decide ((50 : Int) < (kb : Int)) = true := by simp; omega
        have g4 : decide (50 < kb) = true := by simp; omega
        go_wp2
        go_ret
        exact ⟨rfl, BW.out⟩
      have g3 : decide ((50 : Int) < (kb : Int)) = false := by simp; omega
      have g4 : decide (50 < kb) = false := by simp; omega
      go_wp2_with fail
      refine (combines_any A B _ _ _ (WA.out.below HB.out) (WB.out.below HB.out)).mono ?_
      rintro e w5 ⟨rfl, b5⟩
      have B5 := Lib.hid (BW.out.trans (b5.mono BW.out.size))
      clear b5 x0 x1 y0 y1
      have HK5 := Lib.hid (TabsIn.below HK.out ((HB.out.mono B0.out.size)))
      go_wp2_with fail
      refine (sane_any (B := w0.heap.size) w5 (TabsIn.keep HK5.out (fun k hk => by rw [B5.out.block k hk, BW.out.block k hk])) B5.out.size).mono ?_
      rintro e w6 ⟨rfl, b6⟩
      have B6 := Lib.hid (B5.out.trans (b6.mono B5.out.size))
      clear b6
      go_wp2
      go_ret
      exact ⟨rfl, B6.out⟩
end Go.Proofs.YtmanmlankfoflaaDoor

namespace Go.Proofs.YtmanmlankfoflaaDoor
open Go.ChangeShapes Go.WideShapes Go.ChangeAt Go.WideMaps Go.WideElems Go.ChangeMaps Go.Deep Go.RowKit

section
variable {H : Type} {enc : TypeId × Value → H} {P : Program} {w : World} {base : Nat} {spare : Nat → Bool} {held : Bool}
theorem trodAll_three' {t0 t1 t2 : TypeId} {args : Array Value} {ds : List (DataW H)} {ps : List MemPlace} (h : DataW.TrodAll enc P w base spare held (#[t0, t1, t2] : Array TypeId).toList args.toList ds ps) :
    ∃ v0 v1 v2 d0 d1 d2 p0 p1 p2, args = #[v0, v1, v2] ∧ ds = [d0, d1, d2] ∧ ps = p0 ++ (p1 ++ p2) ∧
      DataW.Trod enc P w base spare held t0 v0 d0 p0 ∧ DataW.Trod enc P w base spare held t1 v1 d1 p1 ∧ DataW.Trod enc P w base spare held t2 v2 d2 p2 := by
  obtain ⟨v0, r0, d0, e0, p0, q0, a0, b0, c0, g0, h⟩ := trodAll_cons h
  obtain ⟨v1, r1, d1, e1, p1, q1, rfl, rfl, rfl, g1, h⟩ := trodAll_cons h
  obtain ⟨v2, r2, d2, e2, p2, q2, rfl, rfl, rfl, g2, h⟩ := trodAll_cons h
  obtain ⟨rfl, rfl, rfl⟩ := trodAll_nil h
  exact ⟨v0, v1, v2, d0, d1, d2, p0, p1, p2, Array.toList_inj.1 (by simpa using a0), b0, by simpa using c0, g0, g1, g2⟩
theorem trodAll_mk3' {t0 t1 t2 : TypeId} {v0 v1 v2 : Value} {d0 d1 d2 : DataW H} {p0 p1 p2 : List MemPlace} (g0 : DataW.Trod enc P w base spare held t0 v0 d0 p0) (g1 : DataW.Trod enc P w base spare held t1 v1 d1 p1) (g2 : DataW.Trod enc P w base spare held t2 v2 d2 p2) :
    DataW.TrodAll enc P w base spare held [t0, t1, t2] [v0, v1, v2] [d0, d1, d2] (p0 ++ (p1 ++ (p2 ++ []))) :=
  trodAll_cons_mk g0 (trodAll_cons_mk g1 (trodAll_cons_mk g2 trodAll_mk0))
end
theorem agg_of {c : Array Value} {l : List Value} (h : (Value.agg c).cells.toList = l) : Value.agg c = .agg l.toArray := by
  have h : c.toList = l := h
  rw [← h]
namespace bitsetCombines

set_option maxRecDepth 100000 in
set_option maxHeartbeats 1000000 in
theorem lifted (os : Os) (started : os.Started) (H : Type) (enc : TypeId × Value → H) :
    ReturnsInHanded {} Tryd.checked os 5 .any (fun w args => (Rows.bitsetCombinesSpec.pre enc Tryd.prog Tryd.f5 [] false w args ∧ laidMetH Tryd.prog laid3 w) ∧ sizedMet enc Tryd.prog Tryd.f5 (OpenSpec.ofChange Rows.bitsetCombinesSpec) false w args)
      (Rows.bitsetCombinesSpec.post enc Tryd.prog Tryd.f5 false true false false) := by
  refine returnsInHanded_of_change_and (C := Tryd.checked) (X := fun w _ => laidMetH Tryd.prog laid3 w) (fun _ _ _ hh h => h.of_heap hh) own started (by kernel_rfl) Tryd.func5
    (ChangeSpec.witness_shaped (enc := enc) (C := Tryd.checked) (os := os) (X := fun w _ => laidMetH Tryd.prog laid3 w) false (World.doorLaid Tryd.prog 400 os) #[.slice none 0 0, .agg #[.int .i64 0, .slice none 0 0], .agg #[.int .i64 0, .slice none 0 0]] 8 rfl (World.shaped_of_RefB (by kernel_rfl) (by kernel_rfl)) (by kernel_rfl) (by kernel_rfl) (by kernel_rfl) (door_met os _)) ?_
  intro W base args ds gs before hval0 hW _ _ hL _
  have hval : ∀ (j : Nat) t v, Tryd.f5.params[j]? = some t → args[j]? = some v → Value.okWide Tryd.prog W .any base t v := hval0
  have hW' := hW
  have hlt := hW.lt
  obtain ⟨p, q, hA0, hV, rfl, hfz, hnd⟩ := hW
  have hA : DataW.TrodAll enc Tryd.prog W 0 (fun _ => true) true Tryd.f5.params.toList args.toList ds p := hA0
  rw [Tryd.params5] at hA hval
  obtain ⟨v0, v1, v2, d0, d1, d2, p0, p1, p2, rfl, rfl, rfl, h0, h1, h2⟩ := trodAll_three' hA
  obtain ⟨rfl, rfl⟩ := trodVars_none hV
  letI : Base := ⟨W.heap.size⟩
  have hB : W.heap.size ≤ Base.b := Nat.le_refl _
  have K := of_laid hL (Nat.le_refl _)
  obtain ⟨a0, len0, cap0, rfl⟩ := okWide_slice Tryd.underlying22 (hval 0 22 v0 rfl rfl)
  obtain ⟨c1, rfl, _⟩ := okWide_struct Tryd.underlying25 (hval 1 25 v1 rfl rfl)
  obtain ⟨c2, rfl, _⟩ := okWide_struct Tryd.underlying25 (hval 2 25 v2 rfl rfl)
  obtain ⟨sx1, su1, es1, hs1⟩ : ∃ s u, Value.agg c1 = setV s u ∧ WordsAt W u s.words := by
    obtain ⟨fuel, hf⟩ := h1
    obtain ⟨s, u, e, hu⟩ := open_set hB hf
    exact ⟨s, u, agg_of e, hu⟩
  obtain ⟨sx2, su2, es2, hs2⟩ : ∃ s u, Value.agg c2 = setV s u ∧ WordsAt W u s.words := by
    obtain ⟨fuel, hf⟩ := h2
    obtain ⟨s, u, e, hu⟩ := open_set hB hf
    exact ⟨s, u, agg_of e, hu⟩
  have keep : ∀ W' : World, Below W.heap.size W W' → Rows.bitsetCombinesSpec.post enc Tryd.prog Tryd.f5 false true false false W #[.slice a0 len0 cap0, .agg c1, .agg c2] (.bool true) W' := by
    intro W' bel
    have h0' := Below.trod (P := Tryd.prog) (by kernel_rfl) (by kernel_rfl) (by decide +kernel) h0 bel (fun x hx => hlt x (by simp [hx]))
    have h1' := Below.trod (P := Tryd.prog) (by kernel_rfl) (by kernel_rfl) (by decide +kernel) h1 bel (fun x hx => hlt x (by simp [hx]))
    have h2' := Below.trod (P := Tryd.prog) (by kernel_rfl) (by kernel_rfl) (by decide +kernel) h2 bel (fun x hx => hlt x (by simp [hx]))
    exact ⟨_, _, _, [], _, [], hW', trodAll_mk1 (shut_bool Tryd.underlying4 _), trodAll_mk3' h0' h1' h2', rfl, bel.frame _, fun h => by cases h⟩
  have call : ∀ (ta : Option Addr) (tn tc : Nat), tn ≤ maxLen → (∀ j : Nat, j < tn → ∃ b off z, ta = some ⟨b, off, none⟩ ∧ b < W.heap.size ∧ W.cell? ⟨b, off + j, none⟩ = some (.int .i64 z)) →
      Calls Tryd.prog 5 #[.slice ta tn tc, .agg c1, .agg c2] W (BoolQ true W) := by
    intro ta tn tc h1 h2
    rw [es1, es2]
    exact combLaw_any W ta tn tc h1 h2 K (Nat.le_refl _) sx1 sx2 su1 su2 hs1 hs2
  obtain ⟨fuel, hf⟩ := h0
  rcases open_ints Tryd.underlying22 Tryd.underlying3 cInt hf with ⟨hcs, _⟩ | ⟨a, len, cap, zs, hcs, _, hl1, hl2, hz, _, hcell, _⟩
  · have hcs' : [Value.slice a0 len0 cap0] = _ := hcs
    injection hcs' with hcs' _
    injection hcs' with e1 e2 e3
    subst e1 e2 e3
    refine (call none 0 0 (Nat.zero_le _) (fun j hj => by omega)).mono fun e W' ⟨he, bel⟩ => ?_
    subst he
    exact ⟨_, rfl, keep W' bel⟩
  · have hcs' : [Value.slice a0 len0 cap0] = _ := hcs
    injection hcs' with hcs' _
    injection hcs' with e1 e2 e3
    subst e1 e2 e3
    refine (call (some a) len0 cap0 (by omega) (fun j hj => ?_)).mono fun e W' ⟨he, bel⟩ => ?_
    · have hlz : len0 ≤ zs.length := by rw [hz]; split <;> omega
      obtain ⟨b, off, rfl, hc⟩ := ints_at hcell (by omega)
      exact ⟨b, off, _, rfl, cell_lt (hc j (by omega)), hc j (by omega)⟩
    · subst he
      exact ⟨_, rfl, keep W' bel⟩

theorem over : Rows.BitsetCombinesSaid :=
  OpenClaim.holds_of_wide 5 Tryd.f5 rfl rfl rfl rfl rfl rfl rfl ⟨rfl, rfl, rfl, rfl, rfl⟩ rfl rfl rfl rfl rfl (by kernel_rfl) Tryd.func5 (by kernel_rfl)
    (of_decide_eq_true (by kernel_rfl)) (by unfold Func.isWrapper; first | (rw [if_pos (by decide +kernel)]; kernel_rfl) | (rw [if_neg (by decide +kernel)]; exact ⟨rfl, rfl⟩))
    (fun os started H enc _ => lifted os started H enc)
end bitsetCombines
/-- THE STATEMENT: the tied card. -/
theorem bitsetCombines_card_holds : Rows.BitsetCombinesCardSaid :=
  Claim7.holds_tied_plain_at .later [] [.data, .data, .data] true Rows.bitsetCombinesCard.stood.harness true
    bitsetCombines.over (fun _ h => by cases h) (by kernel_rfl) (fun _ h => by cases h) bitsetCombines_row_tie rfl ⟨rfl, rfl⟩ (by kernel_rfl) rfl
    (fun f fn hf hfn => by
      obtain rfl : f = 5 := Option.some.inj ((show Tryd.prog.funcNamed "flowquery/flqlaw2.BitsetCombines" = some 5 by kernel_rfl).symm.trans hf) |>.symm
      obtain rfl : fn = Tryd.f5 := (Option.some.inj (Tryd.func5.symm.trans hfn)).symm
      exact ⟨by kernel_rfl, fun j t ht => by
        rw [Tryd.params5] at ht
        rcases j with _ | _ | _ | j
        · obtain rfl : t = 22 := by simpa using ht.symm
          exact (show Tryd.prog.wantsStandIn 22 = false by kernel_rfl)
        · obtain rfl : t = 25 := by simpa using ht.symm
          exact (show Tryd.prog.wantsStandIn 25 = false by kernel_rfl)
        · obtain rfl : t = 25 := by simpa using ht.symm
          exact (show Tryd.prog.wantsStandIn 25 = false by kernel_rfl)
        · simp at ht⟩)
    (by kernel_rfl)
#print axioms bitsetCombines_card_holds
end Go.Proofs.YtmanmlankfoflaaDoor

