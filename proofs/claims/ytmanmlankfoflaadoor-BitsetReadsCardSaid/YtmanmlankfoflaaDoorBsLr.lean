/- The law BitsetReads: the walk. Printed by wip/gen_bsrl.py. -/
import Derived.Test.YtmanmlankfoflaaDoorBsRd
import Derived.Test.YtmanmlankfoflaaDoorBsG3
import Derived.Test.YtmanmlankfoflaaDoorBsSa
set_option linter.unusedVariables false
set_option linter.unusedSimpArgs false
set_option linter.unusedSectionVars false
namespace Go.Proofs.YtmanmlankfoflaaDoor
open Go.RowKit
variable [Base]

theorem wide_at {B bt : Nat} (w : World) (ht : TapeOk B w bt) : Calls Tryd.prog 10 #[.pointer (some ⟨bt, 0, none⟩)] w (fun e w' => ∃ (s : QSet) (u : Value), e = .returned (.agg #[.int .i64 s.width, u]) ∧ (FormS s ∧ setB s = true) ∧ WordsAt w' u s.words ∧ TapeOk B w' bt ∧ But bt w w') :=
  (wide_any w ht).mono fun e w' ⟨s, u, h1, h2, h3, h4⟩ => ⟨s, u, h1, ⟨h2, h3⟩, h4⟩
theorem spoil_at {B bt : Nat} (s : QSet) (hf : FormS s) (u : Value) (w : World) (ht : TapeOk B w bt) (hu : WordsAt w u s.words) : Calls Tryd.prog 13 #[.pointer (some ⟨bt, 0, none⟩), .agg #[.int .i64 s.width, u]] w (fun e w' => ∃ (s : QSet) (u : Value), e = .returned (.agg #[.int .i64 s.width, u]) ∧ WordsAt w' u s.words ∧ TapeOk B w' bt ∧ But bt w w') := by
  obtain ⟨m, h1, h2, h3⟩ := form_len hf
  exact spoilset_any s u w ht hu (by omega) (by omega) (by rw [h3]; unfold wordsN; omega)
theorem But.drew1 {bt : Nat} (w : World) : But bt w w.drew := ⟨rfl, rfl, rfl, Nat.le_refl _, fun _ _ _ => rfl⟩
set_option maxRecDepth 100000 in
set_option maxHeartbeats 4000000 in
theorem readLaw_any (w0 : World) (a : Option Addr) (n c : Nat) (hn : n ≤ maxLen)
    (h : ∀ j : Nat, j < n → ∃ b off z, a = some ⟨b, off, none⟩ ∧ b < w0.heap.size ∧ w0.cell? ⟨b, off + j, none⟩ = some (.int .i64 z)) (KT : TabsIn w0.heap.size w0) (hbs : Base.b ≤ w0.heap.size)
    (A : QSet) (bb : Int) (u1 : Value) (h1 : WordsAt w0 u1 A.words) :
    Calls Tryd.prog 3 #[.slice a n c, setV A u1, .int .i64 bb] w0 (BoolQ true w0) := by
  have hud : ∀ b : Bool, (undef = Value.bool b) = False := fun b => by simp [undef]
  obtain ⟨aa, ca, rfl, -⟩ := h1.cell
  obtain ⟨ka, hka⟩ : ∃ k, A.words.length = k := ⟨_, rfl⟩
  rw [hka] at h1 ⊢
  obtain ⟨W, hW⟩ : ∃ W, w0.alloc (.cells #[.int .i64 A.width, .slice aa ka ca] 25) = W := ⟨_, rfl⟩
  have hb0 : Below w0.heap.size w0 W := by rw [← hW]; exact (Below.refl _ _).alloc (Nat.le_refl _) _
  have PA := Lib.hid (show W.heap[w0.heap.size]? = some (.cells #[.int .i64 A.width, .slice aa ka ca] 25 (0, 0)) by rw [← hW]; exact heap_alloc_new _ _)
  have WA := Lib.hid (h1.below hb0)
  have B0 := Lib.hid hb0
  have HK := Lib.hid (KT.below hb0)
  have H := Lib.hid (show ∀ j : Nat, j < n → ∃ b off z, a = some ⟨b, off, none⟩ ∧ b < W.heap.size ∧ W.cell? ⟨b, off + j, none⟩ = some (.int .i64 z) from fun j hj => by
    obtain ⟨b, off, z, e1, e2, e3⟩ := h j hj
    exact ⟨b, off, z, e1, Nat.lt_of_lt_of_le e2 hb0.size, (hb0.cell (p := ⟨b, off + j, none⟩) e2).trans e3⟩)
  have HWW := Lib.hid hW
  have hbw : Base.b ≤ W.heap.size := Nat.le_trans hbs hb0.size
  clear hW hb0 h1 h KT hka
  go_enter Tryd.func3, Tryd.ntmps3
  go_wp2_with fail
  rw [show w0.alloc (.cells #[.int .i64 A.width, .slice aa ka ca] 25) = W from HWW.out]
  refine (new_any rfl a n c hn H.out hbw).mono ?_
  rintro e w1 ⟨rfl, ht, hb⟩
  have T1 := Lib.hid ht
  have B1 := Lib.hid hb
  clear ht hb
  go_wp2_with fail
  go_loopw [8] (fun y8 wr => ∃ i : Nat, i ≤ 5 ∧ y8 = .int .i64 i ∧ Hid (TapeOk W.heap.size wr W.heap.size) ∧ Hid (Below W.heap.size W wr)) (fun y _ => 5 - (intOf y).toNat)
  case atStart => exact ⟨0, by omega, rfl, T1, B1⟩
  case round =>
    clear T1 B1
    obtain ⟨i, hi, rfl, HT, HB⟩ := hrel
    by_cases hlt : i < 5
    · have i2 : (i : Int) < 5 := by omega
      go_wp2_with fail
      refine (wide_at _ HT.out).mono ?_
      rintro e v1 ⟨X, ux, rfl, okx, dx, t, b⟩
      obtain ⟨ax, nx, cx, rfl⟩ := dx.shape
      obtain ⟨VV, hv⟩ : ∃ VV, v1.alloc (.cells #[.int .i64 X.width, .slice ax nx cx] 25) = VV := ⟨_, rfl⟩
      have hb2 : Below v1.heap.size v1 VV := by rw [← hv]; exact (Below.refl _ _).alloc (Nat.le_refl _) _
      have QX := Lib.hid (show VV.heap[v1.heap.size]? = some (.cells #[.int .i64 X.width, .slice ax nx cx] 25 (0, 0)) by rw [← hv]; exact heap_alloc_new _ _)
      have RX := Lib.hid (dx.below hb2)
      have T0 := Lib.hid (t.below hb2)
      have B2 := HB.out.trans (b.toBelow (Nat.le_refl _) HB.out.size)
      have BVV := Lib.hid (B2.trans (hb2.mono B2.size))
      have OX := Lib.hid okx.1
      have hbv1 : W.heap.size < v1.heap.size := t.lt
      have HVV := Lib.hid hv
      have BW0 := Lib.hid (B0.out.trans (BVV.out.mono B0.out.size))
      have HTV := Lib.hid (show ∀ w', But W.heap.size VV w' → TabsIn w0.heap.size w' ∧ w0.heap.size ≤ w'.heap.size from fun w' hb => ⟨TabsIn.keep HK.out (fun q hq => (hb.block q (by have := BW0.out.size; omega) (by have := B0.out.size; omega)).trans (BVV.out.block q (by have := B0.out.size; omega))), Nat.le_trans BW0.out.size hb.size⟩)
      clear b hb2 hv t dx okx B2
      have HS : Hid (∀ w', But W.heap.size VV w' → w'.cell? ⟨v1.heap.size, 0, none⟩ = some (.int .i64 X.width) ∧ w'.cell? ⟨v1.heap.size, 1, none⟩ = some (.slice ax nx cx)) := by
        refine Lib.hid fun w' hb => ?_
        have z0 := (lies_cells QX.out).1 0
        have z1 := (lies_cells QX.out).1 1
        simp only [List.getElem?_toArray, List.getElem?_cons_zero, List.getElem?_cons_succ] at z0 z1
        exact ⟨(hb.cell (v1.heap.size) 0 (lt_heap QX.out) (by omega)).trans z0, (hb.cell (v1.heap.size) 1 (lt_heap QX.out) (by omega)).trans z1⟩
      have F0 := Lib.hid (But.drew1 (bt := W.heap.size) VV)
      have U0 := Lib.hid (show TapeOk W.heap.size VV.drew W.heap.size from T0.out.keep rfl (fun _ _ => rfl) (Nat.le_refl _))
      go_wp2_with fail
      rw [show v1.alloc (.cells #[.int .i64 X.width, .slice ax nx cx] 25) = VV from HVV.out]
      go_region_held3 (fun w' => w'.cell? ⟨v1.heap.size, 0, none⟩ = some (.int .i64 X.width) ∧ w'.cell? ⟨v1.heap.size, 1, none⟩ = some (.slice ax nx cx)) (first | exact HS.out _ F6.out | exact HS.out _ F5.out | exact HS.out _ F4.out | exact HS.out _ F3.out | exact HS.out _ F2.out | exact HS.out _ F1.out | exact HS.out _ F0.out | exact HS.out _ (But.refl _ _) | go_keep) (first | (go_at_call 12; ((with_reducible refine (next_pos2 (w := VV.drew) U0.out 260 (by omega) (by omega)).mono ?_)); go_must (rintro e z1 ⟨x, x1, x2, rfl, t, b⟩; have e1 : IntKind.i64.wrap (x - 2) = x - 2 := IntWalk.i64_in _ (by omega); have F1 := Lib.hid (F0.out.trans b); have U1 := Lib.hid (t); clear b t)) | (go_at_call 11; ((with_reducible refine (reads_any (B := w0.heap.size) X (x - 2) (.slice ax nx cx) z1 (RX.out.keep (F1.out.sameT T0.out (by decide))) (HTV.out _ F1.out).1 (HTV.out _ F1.out).2).mono ?_)); go_must (rintro e z2 ⟨rfl, b⟩; have F2 := Lib.hid (F1.out.below b); have U2 := Lib.hid (U1.out.below b); clear b)) | (go_at_call 13; ((with_reducible refine (spoil_at X OX.out (.slice ax nx cx) z2 U2.out (RX.out.keep (F2.out.sameT T0.out (by decide)))).mono ?_)); go_must (rintro e z3 ⟨P, up, rfl, dP, t, b⟩; obtain ⟨aP, nP, cP, rfl⟩ := dP.shape; have DP := Lib.hid dP; have TP := Lib.hid t; have F3 := Lib.hid (F2.out.trans b); have U3 := Lib.hid (t); clear b t; clear dP)) | (go_at_call 12; ((with_reducible refine (next_pos2 (w := z3) U3.out 70 (by omega) (by omega)).mono ?_)); go_must (rintro e z4 ⟨y, y1, y2, rfl, t, b⟩; have DP4 := Lib.hid (DP.out.keep (b.sameT TP.out (by decide))); have F4 := Lib.hid (F3.out.trans b); have U4 := Lib.hid (t); clear b t)) | (go_at_call 11; ((with_reducible refine (reads_any (B := w0.heap.size) P y (.slice aP nP cP) z4 DP4.out (HTV.out _ F4.out).1 (HTV.out _ F4.out).2).mono ?_)); go_must (rintro e z5 ⟨rfl, b⟩; have F5 := Lib.hid (F4.out.below b); have U5 := Lib.hid (U4.out.below b); clear b)) | (go_at_call 11; ((with_reducible refine (reads_any (B := w0.heap.size) X bb (.slice ax nx cx) z5 (RX.out.keep (F5.out.sameT T0.out (by decide))) (HTV.out _ F5.out).1 (HTV.out _ F5.out).2).mono ?_)); go_must (rintro e z6 ⟨rfl, b⟩; have F6 := Lib.hid (F5.out.below b); have U6 := Lib.hid (U5.out.below b); clear b)))
      all_goals
        have B9 := Lib.hid (BVV.out.trans (F6.out.toBelow (Nat.le_refl _) BVV.out.size))
        go_wp2
        go_roundw
        case rel => exact ⟨i + 1, by omega, by go_num, U6, B9⟩
        case measure => simp [intOf]; omega
    · obtain rfl : i = 5 := by omega
      have GA := Lib.hid (lies_below PA.out HB.out (lt_heap PA.out))
      have x0 := (lies_cells GA.out).1 0
      have x1 := (lies_cells GA.out).1 1
      simp only [List.getElem?_toArray, List.getElem?_cons_zero, List.getElem?_cons_succ] at x0 x1
      have BW := Lib.hid (B0.out.trans (HB.out.mono B0.out.size))
      have HKR := Lib.hid (TabsIn.below HK.out ((HB.out.mono B0.out.size)))
      by_cases hl1 : 50 < ka
      · have g1 : decide ((50 : Int) < (ka : Int)) = true := by simp; omega
        have g2 : decide (50 < ka) = true := by simp; omega
        go_wp2
        go_ret
        exact ⟨rfl, BW.out⟩
      have g1 : decide ((50 : Int) < (ka : Int)) = false := by simp; omega
      have g2 : decide (50 < ka) = false := by simp; omega
      go_wp2_with fail
      refine (reads_any (B := w0.heap.size) A bb _ _ (WA.out.below HB.out) HKR.out BW.out.size).mono ?_
      rintro e w5 ⟨rfl, b5⟩
      have B5 := Lib.hid (BW.out.trans (b5.mono BW.out.size))
      clear b5 x0 x1
      go_wp2_with fail
      refine (sane_any (B := w0.heap.size) w5 (TabsIn.keep HKR.out (fun k hk => by rw [B5.out.block k hk, BW.out.block k hk])) B5.out.size).mono ?_
      rintro e w6 ⟨rfl, b6⟩
      have B6 := Lib.hid (B5.out.trans (b6.mono B5.out.size))
      clear b6
      go_wp2
      go_ret
      exact ⟨rfl, B6.out⟩
end Go.Proofs.YtmanmlankfoflaaDoor
