/- Walks: drawn names and records of the laws on queries. Printed by wip/gen_qrg3.py. -/
import Derived.Test.YtlchgbfpoaipgaaDoorQrG2
import Derived.Test.YtlchgbfpoaipgaaDoorQrW6
set_option linter.unusedVariables false
set_option linter.unusedSimpArgs false
set_option linter.unusedSectionVars false
namespace Go.Proofs.YtlchgbfpoaipgaaDoor
open Go.RowKit
variable [Base]

def NextPos (B bt : Nat) (n : Int) (w : World) (e : Ending) (w' : World) : Prop := ∃ r : Int, 0 ≤ r ∧ r < n ∧ e = .returned (.int .i64 r) ∧ TapeOk B w' bt ∧ But bt w w'
theorem next_pos {B bt : Nat} {w : World} (ht : TapeOk B w bt) (n : Int) (hn : 1 ≤ n) (hn' : n ≤ 9223372036854775807) :
    Calls Tryd.prog 14 #[.pointer (some ⟨bt, 0, none⟩), .int .i64 n] w (NextPos B bt n w) :=
  (next_any ht n hn').mono fun _ _ ⟨r, h1, h2, h3, h4, h5⟩ => ⟨r, h1, by omega, h3, h4, h5⟩
def IdPost (B bt : Nat) (w : World) (e : Ending) (w' : World) : Prop := ∃ x : Str, e = .returned (qs x) ∧ TapeOk B w' bt ∧ But bt w w'
theorem id_any {B bt : Nat} {w : World} (ht : TapeOk B w bt) : Calls Tryd.prog 16 #[.pointer (some ⟨bt, 0, none⟩)] w (IdPost B bt w) := by
  have hlt := ht.lt
  have Ht := Lib.hid ht
  clear ht
  go_enter Tryd.func16, Tryd.ntmps16
  go_wp2_with fail
  refine (next_pos (Ht.out.alloc _) _ (by omega) (by omega)).mono ?_
  rintro e w' ⟨r, r1, r2, rfl, ht', hbut⟩
  have hc : ∀ o, w'.cell? ⟨w.heap.size, o, none⟩ = _ := fun o => hbut.cell w.heap.size o (by simp) (by omega)
  have hr : r = 0 ∨ r = 1 ∨ r = 2 ∨ r = 3 ∨ r = 4 ∨ r = 5 ∨ r = 6 ∨ r = 7 := by omega
  have ht' := Lib.hid ht'
  have hb' := Lib.hid (((But.refl bt w).alloc _).trans hbut)
  clear Ht hbut
  rcases hr with rfl | rfl | rfl | rfl | rfl | rfl | rfl | rfl
  all_goals
    go_wp2
    go_ret
    exact ⟨_, rfl, ht'.out, hb'.out⟩
def RecPost (B bt : Nat) (w : World) (e : Ending) (w' : World) : Prop := ∃ r u, e = .returned (recV r u) ∧ WordsAt w' u r.value.words ∧ TapeOk B w' bt ∧ But bt w w'
theorem frozen8 {w : World} {b : Nat} {c : Array Value} {t : TypeId} (h : w.heap[b]? = some (.cells c t (0, 0))) (o : Nat) : w.frozen? ⟨b, o, none⟩ = false := (lies_cells h).2 o
theorem But.atB {bt b : Nat} {w w' : World} {o : Obj} (h : But bt w w') (hb : w.heap[b]? = some o) (hne : b ≠ bt) : w'.heap[b]? = some o := (h.block b (lt_heap hb) hne).trans hb
set_option maxHeartbeats 2000000 in
theorem record_any {B bt : Nat} {w : World} (ht : TapeOk B w bt) : Calls Tryd.prog 13 #[.pointer (some ⟨bt, 0, none⟩)] w (RecPost B bt w) := by
  have hlt := ht.lt
  have hbs := ht.bs
  have HT := Lib.hid ht
  clear ht
  go_enter Tryd.func13, Tryd.ntmps13
  go_wp2_with fail
  refine (id_any (HT.out.alloc _)).mono ?_
  rintro e w0 ⟨x, rfl, t0, b0⟩
  have R0 : Hid (w0.heap[w.heap.size]? = some (.cells #[.string ⟨#[]⟩, .int .i64 0, .int .i64 0, .int .i64 0, .int .i64 0, .int .i64 0, .int .i64 0, .slice none 0 0] 31 (0, 0))) := b0.atB (heap_alloc_new w (.cells #[.string ⟨#[]⟩, .int .i64 0, .int .i64 0, .int .i64 0, .int .i64 0, .int .i64 0, .int .i64 0, .slice none 0 0] 31)) (by omega)
  have Tw0 := Lib.hid t0
  have Bw0 := Lib.hid (((But.refl bt w).alloc (.cells #[.string ⟨#[]⟩, .int .i64 0, .int .i64 0, .int .i64 0, .int .i64 0, .int .i64 0, .int .i64 0, .slice none 0 0] 31)).trans b0)
  have hlt0 : w.heap.size < w0.heap.size := lt_heap R0.out
  clear t0 b0
  go_wp2_with fail
  refine (next_pos Tw0.out 3 (by omega) (by omega)).mono ?_
  rintro e w1 ⟨a1, a11, a12, rfl, tw1, bw1⟩
  have R1 : Hid (w1.heap[w.heap.size]? = some (.cells #[.string ⟨#[]⟩, .int .i64 0, .int .i64 0, .int .i64 0, .int .i64 0, .int .i64 0, .int .i64 0, .slice none 0 0] 31 (0, 0))) := bw1.atB R0.out (by omega)
  have Tw1 := Lib.hid tw1
  have Bw1 := Lib.hid (Bw0.out.trans bw1)
  clear tw1 bw1
  go_wp2_with fail
  refine (next_pos Tw1.out 4 (by omega) (by omega)).mono ?_
  rintro e w2 ⟨a2, a21, a22, rfl, tw2, bw2⟩
  have R2 : Hid (w2.heap[w.heap.size]? = some (.cells #[.string ⟨#[]⟩, .int .i64 0, .int .i64 0, .int .i64 0, .int .i64 0, .int .i64 0, .int .i64 0, .slice none 0 0] 31 (0, 0))) := bw2.atB R1.out (by omega)
  have Tw2 := Lib.hid tw2
  have Bw2 := Lib.hid (Bw1.out.trans bw2)
  clear tw2 bw2
  go_wp2_with fail
  refine (next_pos Tw2.out 9 (by omega) (by omega)).mono ?_
  rintro e w3 ⟨a3, a31, a32, rfl, tw3, bw3⟩
  have R3 : Hid (w3.heap[w.heap.size]? = some (.cells #[.string ⟨#[]⟩, .int .i64 0, .int .i64 0, .int .i64 0, .int .i64 0, .int .i64 0, .int .i64 0, .slice none 0 0] 31 (0, 0))) := bw3.atB R2.out (by omega)
  have Tw3 := Lib.hid tw3
  have Bw3 := Lib.hid (Bw2.out.trans bw3)
  clear tw3 bw3
  go_wp2_with fail
  refine (next_pos Tw3.out 4 (by omega) (by omega)).mono ?_
  rintro e w4 ⟨a4, a41, a42, rfl, tw4, bw4⟩
  have R4 : Hid (w4.heap[w.heap.size]? = some (.cells #[.string ⟨#[]⟩, .int .i64 0, .int .i64 0, .int .i64 0, .int .i64 0, .int .i64 0, .int .i64 0, .slice none 0 0] 31 (0, 0))) := bw4.atB R3.out (by omega)
  have Tw4 := Lib.hid tw4
  have Bw4 := Lib.hid (Bw3.out.trans bw4)
  clear tw4 bw4
  have hlt4 : w.heap.size < w4.heap.size := lt_heap R4.out
  obtain ⟨V, hV⟩ : ∃ V, w4.alloc (.cells #[qs x, .int .i64 a1, .int .i64 (1 + a2), .int .i64 a3, .int .i64 a4, .int .i64 0, .int .i64 0, .slice none 0 0] 31) = V := ⟨_, rfl⟩
  have RV : V.heap[w.heap.size]? = some (.cells #[.string ⟨#[]⟩, .int .i64 0, .int .i64 0, .int .i64 0, .int .i64 0, .int .i64 0, .int .i64 0, .slice none 0 0] 31 (0, 0)) := by rw [← hV]; exact lies_alloc _ R4.out
  have CV : V.heap[w4.heap.size]? = some (.cells #[qs x, .int .i64 a1, .int .i64 (1 + a2), .int .i64 a3, .int .i64 a4, .int .i64 0, .int .i64 0, .slice none 0 0] 31 (0, 0)) := by rw [← hV]; exact heap_alloc_new _ _
  have TV := Lib.hid (show TapeOk B V bt by rw [← hV]; exact Tw4.out.alloc _)
  have BV := Lib.hid (show But bt w V by rw [← hV]; exact Bw4.out.alloc _)
  have HV := Lib.hid hV
  have HRV := Lib.hid RV
  have HCV := Lib.hid CV
  clear hV RV CV R0 R1 R2 R3 R4 Tw0 Tw1 Tw2 Tw3 Tw4
  go_wp2_with fail
  rw [show w4.alloc (.cells #[qs x, .int .i64 a1, .int .i64 (1 + a2), .int .i64 a3, .int .i64 a4, .int .i64 0, .int .i64 0, .slice none 0 0] 31) = V from HV.out]
  refine (next_pos TV.out 14 (by omega) (by omega)).mono ?_
  rintro e w5 ⟨z, z1, z2, rfl, t5, b5⟩
  have h5 := b5.atB HCV.out (by omega)
  have k5 := b5.atB HRV.out (by omega)
  obtain ⟨x0, x1, x2, x3, x4, x5, x6, x7⟩ := cells8 h5
  obtain ⟨y0, y1, y2, y3, y4, y5, y6, y7⟩ := cells8 k5
  have T5 := Lib.hid t5
  have B5 := Lib.hid (BV.out.trans b5)
  have H5 := Lib.hid h5
  have K5 := Lib.hid k5
  have hne : w.heap.size ≠ w4.heap.size := by omega
  have hcb : w4.heap.size ≠ bt := by omega
  have hrb : w.heap.size ≠ bt := by omega
  have f0 := frozen8 h5 0
  have g0 := frozen8 k5 0
  have f1 := frozen8 h5 1
  have g1 := frozen8 k5 1
  have f2 := frozen8 h5 2
  have g2 := frozen8 k5 2
  have f3 := frozen8 h5 3
  have g3 := frozen8 k5 3
  have f4 := frozen8 h5 4
  have g4 := frozen8 k5 4
  have f5 := frozen8 h5 5
  have g5 := frozen8 k5 5
  have f6 := frozen8 h5 6
  have g6 := frozen8 k5 6
  have f7 := frozen8 h5 7
  have g7 := frozen8 k5 7
  clear t5 b5 h5 k5
  by_cases h1 : z = 1
  · subst h1
    go_wp2_with fail
    refine (next_pos T5.out 7 (by omega) (by omega)).mono ?_
    rintro e w6 ⟨q, q1, q2, rfl, t6, b6⟩
    have h6 := b6.atB H5.out hcb
    have k6 := b6.atB K5.out hrb
    clear x0 x1 x2 x3 x4 x5 x6 x7 y0 y1 y2 y3 y4 y5 y6 y7 f0 f1 f2 f3 f4 f5 f6 f7 g0 g1 g2 g3 g4 g5 g6 g7
    obtain ⟨x0, x1, x2, x3, x4, x5, x6, x7⟩ := cells8 h6
    obtain ⟨y0, y1, y2, y3, y4, y5, y6, y7⟩ := cells8 k6
    have f0 := frozen8 h6 0
    have g0 := frozen8 k6 0
    have f1 := frozen8 h6 1
    have g1 := frozen8 k6 1
    have f2 := frozen8 h6 2
    have g2 := frozen8 k6 2
    have f3 := frozen8 h6 3
    have g3 := frozen8 k6 3
    have f4 := frozen8 h6 4
    have g4 := frozen8 k6 4
    have f5 := frozen8 h6 5
    have g5 := frozen8 k6 5
    have f6 := frozen8 h6 6
    have g6 := frozen8 k6 6
    have f7 := frozen8 h6 7
    have g7 := frozen8 k6 7
    have T6 := Lib.hid t6
    have B6 := Lib.hid (B5.out.trans b6)
    have H6 := Lib.hid h6
    have K6 := Lib.hid k6
    clear t6 b6 h6 k6
    go_wp2
    refine bodyPost_ret (v := recV ⟨x, a1, q - 1, a3, a4, 0, zeroSet⟩ (.slice none 0 0)) (by simp [results, Tryd.results13, go_sem, zeroSet, hne, Ne.symm hne, x0, x1, x2, x3, x4, x5, x6, x7, y0, y1, y2, y3, y4, y5, y6, y7]) rfl ⟨⟨x, a1, q - 1, a3, a4, 0, zeroSet⟩, (.slice none 0 0), rfl, WordsAt.nil, ?_, ?_⟩
    · repeat (first | with_reducible exact T6.out | refine TapeOk.setCell ?_ (by first | exact hcb | exact hrb) (by have hge := T6.out.ge; first | (show B ≤ w4.heap.size; omega) | (show B ≤ w.heap.size; omega)) _)
    · repeat (first | with_reducible exact B6.out | refine But.setCell ?_ _ (.inr (by first | (show w.heap.size ≤ w4.heap.size; omega) | (show w.heap.size ≤ w.heap.size; omega))) _)
  by_cases h2 : z = 2
  · subst h2
    go_wp2
    refine bodyPost_ret (v := recV ⟨x, a1, 1 + a2, a3, 4, 0, zeroSet⟩ (.slice none 0 0)) (by simp [results, Tryd.results13, go_sem, zeroSet, hne, Ne.symm hne, x0, x1, x2, x3, x4, x5, x6, x7, y0, y1, y2, y3, y4, y5, y6, y7]) rfl ⟨⟨x, a1, 1 + a2, a3, 4, 0, zeroSet⟩, (.slice none 0 0), rfl, WordsAt.nil, ?_, ?_⟩
    · repeat (first | with_reducible exact T5.out | refine TapeOk.setCell ?_ (by first | exact hcb | exact hrb) (by have hge := T5.out.ge; first | (show B ≤ w4.heap.size; omega) | (show B ≤ w.heap.size; omega)) _)
    · repeat (first | with_reducible exact B5.out | refine But.setCell ?_ _ (.inr (by first | (show w.heap.size ≤ w4.heap.size; omega) | (show w.heap.size ≤ w.heap.size; omega))) _)
  by_cases h3 : z = 3
  · subst h3
    go_wp2
    refine bodyPost_ret (v := recV ⟨x, a1, 1 + a2, -1, a4, 0, zeroSet⟩ (.slice none 0 0)) (by simp [results, Tryd.results13, go_sem, zeroSet, hne, Ne.symm hne, x0, x1, x2, x3, x4, x5, x6, x7, y0, y1, y2, y3, y4, y5, y6, y7]) rfl ⟨⟨x, a1, 1 + a2, -1, a4, 0, zeroSet⟩, (.slice none 0 0), rfl, WordsAt.nil, ?_, ?_⟩
    · repeat (first | with_reducible exact T5.out | refine TapeOk.setCell ?_ (by first | exact hcb | exact hrb) (by have hge := T5.out.ge; first | (show B ≤ w4.heap.size; omega) | (show B ≤ w.heap.size; omega)) _)
    · repeat (first | with_reducible exact B5.out | refine But.setCell ?_ _ (.inr (by first | (show w.heap.size ≤ w4.heap.size; omega) | (show w.heap.size ≤ w.heap.size; omega))) _)
  by_cases h4 : z = 4
  · subst h4
    go_wp2_with fail
    refine (next_pos T5.out 2 (by omega) (by omega)).mono ?_
    rintro e w6 ⟨q, q1, q2, rfl, t6, b6⟩
    have h6 := b6.atB H5.out hcb
    have k6 := b6.atB K5.out hrb
    clear x0 x1 x2 x3 x4 x5 x6 x7 y0 y1 y2 y3 y4 y5 y6 y7 f0 f1 f2 f3 f4 f5 f6 f7 g0 g1 g2 g3 g4 g5 g6 g7
    obtain ⟨x0, x1, x2, x3, x4, x5, x6, x7⟩ := cells8 h6
    obtain ⟨y0, y1, y2, y3, y4, y5, y6, y7⟩ := cells8 k6
    have f0 := frozen8 h6 0
    have g0 := frozen8 k6 0
    have f1 := frozen8 h6 1
    have g1 := frozen8 k6 1
    have f2 := frozen8 h6 2
    have g2 := frozen8 k6 2
    have f3 := frozen8 h6 3
    have g3 := frozen8 k6 3
    have f4 := frozen8 h6 4
    have g4 := frozen8 k6 4
    have f5 := frozen8 h6 5
    have g5 := frozen8 k6 5
    have f6 := frozen8 h6 6
    have g6 := frozen8 k6 6
    have f7 := frozen8 h6 7
    have g7 := frozen8 k6 7
    have T6 := Lib.hid t6
    have B6 := Lib.hid (B5.out.trans b6)
    have H6 := Lib.hid h6
    have K6 := Lib.hid k6
    clear t6 b6 h6 k6
    go_wp2
    refine bodyPost_ret (v := recV ⟨x, 1073741824 + q, 1 + a2, a3, a4, 0, zeroSet⟩ (.slice none 0 0)) (by simp [results, Tryd.results13, go_sem, zeroSet, hne, Ne.symm hne, x0, x1, x2, x3, x4, x5, x6, x7, y0, y1, y2, y3, y4, y5, y6, y7]) rfl ⟨⟨x, 1073741824 + q, 1 + a2, a3, a4, 0, zeroSet⟩, (.slice none 0 0), rfl, WordsAt.nil, ?_, ?_⟩
    · repeat (first | with_reducible exact T6.out | refine TapeOk.setCell ?_ (by first | exact hcb | exact hrb) (by have hge := T6.out.ge; first | (show B ≤ w4.heap.size; omega) | (show B ≤ w.heap.size; omega)) _)
    · repeat (first | with_reducible exact B6.out | refine But.setCell ?_ _ (.inr (by first | (show w.heap.size ≤ w4.heap.size; omega) | (show w.heap.size ≤ w.heap.size; omega))) _)
  by_cases h5 : z = 5
  · subst h5
    go_wp2_with fail
    refine (next_pos T5.out 6 (by omega) (by omega)).mono ?_
    rintro e w6 ⟨q, q1, q2, rfl, t6, b6⟩
    have h6 := b6.atB H5.out hcb
    have k6 := b6.atB K5.out hrb
    clear x0 x1 x2 x3 x4 x5 x6 x7 y0 y1 y2 y3 y4 y5 y6 y7 f0 f1 f2 f3 f4 f5 f6 f7 g0 g1 g2 g3 g4 g5 g6 g7
    obtain ⟨x0, x1, x2, x3, x4, x5, x6, x7⟩ := cells8 h6
    obtain ⟨y0, y1, y2, y3, y4, y5, y6, y7⟩ := cells8 k6
    have f0 := frozen8 h6 0
    have g0 := frozen8 k6 0
    have f1 := frozen8 h6 1
    have g1 := frozen8 k6 1
    have f2 := frozen8 h6 2
    have g2 := frozen8 k6 2
    have f3 := frozen8 h6 3
    have g3 := frozen8 k6 3
    have f4 := frozen8 h6 4
    have g4 := frozen8 k6 4
    have f5 := frozen8 h6 5
    have g5 := frozen8 k6 5
    have f6 := frozen8 h6 6
    have g6 := frozen8 k6 6
    have f7 := frozen8 h6 7
    have g7 := frozen8 k6 7
    have T6 := Lib.hid t6
    have B6 := Lib.hid (B5.out.trans b6)
    have H6 := Lib.hid h6
    have K6 := Lib.hid k6
    clear t6 b6 h6 k6
    go_wp2_with fail
    refine (set_any 3 (by omega) _ T6.out).mono ?_
    rintro e w7 ⟨s, u, rfl, hf, hw, hu, t7, b7⟩
    obtain ⟨ua, un, uc, rfl⟩ := hu.shape
    have h7 := b7.atB H6.out hcb
    have k7 := b7.atB K6.out hrb
    clear x0 x1 x2 x3 x4 x5 x6 x7 y0 y1 y2 y3 y4 y5 y6 y7 f0 f1 f2 f3 f4 f5 f6 f7 g0 g1 g2 g3 g4 g5 g6 g7
    obtain ⟨x0, x1, x2, x3, x4, x5, x6, x7⟩ := cells8 h7
    obtain ⟨y0, y1, y2, y3, y4, y5, y6, y7⟩ := cells8 k7
    have f0 := frozen8 h7 0
    have g0 := frozen8 k7 0
    have f1 := frozen8 h7 1
    have g1 := frozen8 k7 1
    have f2 := frozen8 h7 2
    have g2 := frozen8 k7 2
    have f3 := frozen8 h7 3
    have g3 := frozen8 k7 3
    have f4 := frozen8 h7 4
    have g4 := frozen8 k7 4
    have f5 := frozen8 h7 5
    have g5 := frozen8 k7 5
    have f6 := frozen8 h7 6
    have g6 := frozen8 k7 6
    have f7 := frozen8 h7 7
    have g7 := frozen8 k7 7
    have T7 := Lib.hid t7
    have B7 := Lib.hid (B6.out.trans b7)
    have HU := Lib.hid hu
    have TC := Lib.hid (tyAt_of h7)
    have TR := Lib.hid (tyAt_of k7)
    clear t7 b7 h7 k7 hf hw hu
    go_wp2
    refine bodyPost_ret (v := recV ⟨x, a1, 1 + a2, a3, a4, q, s⟩ (.slice ua un uc)) (by simp [results, Tryd.results13, go_sem, zeroSet, hne, Ne.symm hne, x0, x1, x2, x3, x4, x5, x6, x7, y0, y1, y2, y3, y4, y5, y6, y7]) rfl ⟨⟨x, a1, 1 + a2, a3, a4, q, s⟩, (.slice ua un uc), rfl, ?_, ?_, ?_⟩
    · exact HU.out.keep (SameT.trans (SameT.trans (SameT.trans (SameT.trans (SameT.trans (SameT.trans (SameT.trans (SameT.trans (SameT.trans (SameT.trans (SameT.words TC.out) (SameT.words ((tyAt_set _).trans (TC.out)))) (SameT.words ((tyAt_set _).trans ((tyAt_set _).trans (TC.out))))) (SameT.words ((tyAt_set _).trans ((tyAt_set _).trans ((tyAt_set _).trans (TR.out)))))) (SameT.words ((tyAt_set _).trans ((tyAt_set _).trans ((tyAt_set _).trans ((tyAt_set _).trans (TR.out))))))) (SameT.words ((tyAt_set _).trans ((tyAt_set _).trans ((tyAt_set _).trans ((tyAt_set _).trans ((tyAt_set _).trans (TR.out)))))))) (SameT.words ((tyAt_set _).trans ((tyAt_set _).trans ((tyAt_set _).trans ((tyAt_set _).trans ((tyAt_set _).trans ((tyAt_set _).trans (TR.out))))))))) (SameT.words ((tyAt_set _).trans ((tyAt_set _).trans ((tyAt_set _).trans ((tyAt_set _).trans ((tyAt_set _).trans ((tyAt_set _).trans ((tyAt_set _).trans (TR.out)))))))))) (SameT.words ((tyAt_set _).trans ((tyAt_set _).trans ((tyAt_set _).trans ((tyAt_set _).trans ((tyAt_set _).trans ((tyAt_set _).trans ((tyAt_set _).trans ((tyAt_set _).trans (TR.out))))))))))) (SameT.words ((tyAt_set _).trans ((tyAt_set _).trans ((tyAt_set _).trans ((tyAt_set _).trans ((tyAt_set _).trans ((tyAt_set _).trans ((tyAt_set _).trans ((tyAt_set _).trans ((tyAt_set _).trans (TR.out)))))))))))) (SameT.words ((tyAt_set _).trans ((tyAt_set _).trans ((tyAt_set _).trans ((tyAt_set _).trans ((tyAt_set _).trans ((tyAt_set _).trans ((tyAt_set _).trans ((tyAt_set _).trans ((tyAt_set _).trans ((tyAt_set _).trans (TR.out)))))))))))))
    · repeat (first | with_reducible exact T7.out | refine TapeOk.setCell ?_ (by first | exact hcb | exact hrb) (by have hge := T7.out.ge; first | (show B ≤ w4.heap.size; omega) | (show B ≤ w.heap.size; omega)) _)
    · repeat (first | with_reducible exact B7.out | refine But.setCell ?_ _ (.inr (by first | (show w.heap.size ≤ w4.heap.size; omega) | (show w.heap.size ≤ w.heap.size; omega))) _)
  have e1 : (z == 1) = false := by simpa using h1
  have e2 : (z == 2) = false := by simpa using h2
  have e3 : (z == 3) = false := by simpa using h3
  have e4 : (z == 4) = false := by simpa using h4
  have e5 : (z == 5) = false := by simpa using h5
  clear h1 h2 h3 h4 h5
  go_wp2
  refine bodyPost_ret (v := recV ⟨x, a1, 1 + a2, a3, a4, 0, zeroSet⟩ (.slice none 0 0)) (by simp [results, Tryd.results13, go_sem, zeroSet, hne, Ne.symm hne, x0, x1, x2, x3, x4, x5, x6, x7, y0, y1, y2, y3, y4, y5, y6, y7]) rfl ⟨⟨x, a1, 1 + a2, a3, a4, 0, zeroSet⟩, (.slice none 0 0), rfl, WordsAt.nil, ?_, ?_⟩
  · repeat (first | with_reducible exact T5.out | refine TapeOk.setCell ?_ (by first | exact hcb | exact hrb) (by have hge := T5.out.ge; first | (show B ≤ w4.heap.size; omega) | (show B ≤ w.heap.size; omega)) _)
  · repeat (first | with_reducible exact B5.out | refine But.setCell ?_ _ (.inr (by first | (show w.heap.size ≤ w4.heap.size; omega) | (show w.heap.size ≤ w.heap.size; omega))) _)
end Go.Proofs.YtlchgbfpoaipgaaDoor
