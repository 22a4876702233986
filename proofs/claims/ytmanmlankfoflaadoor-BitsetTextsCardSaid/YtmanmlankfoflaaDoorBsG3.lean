/- Walks: drawn sets (Tape.Set, Tape.Wide), which are valid. Printed by wip/gen_bsg3.py. -/
import Derived.Test.YtmanmlankfoflaaDoorBsG2
import Derived.Test.YtmanmlankfoflaaDoorBsG5
import Derived.Test.YtmanmlankfoflaaDoorBitQ
set_option linter.unusedVariables false
set_option linter.unusedSimpArgs false
set_option linter.unusedSectionVars false
namespace Go.Proofs.YtmanmlankfoflaaDoor
open Go.RowKit
variable [Base]

/-- What a drawn set comes to. -/
def SetPostV (B bt : Nat) (m : Nat) (w : World) (e : Ending) (w' : World) : Prop :=
  ∃ s u, e = .returned (setV s u) ∧ FormS s ∧ s.width = (m : Int) ∧ setB s = true ∧ WordsAt w' u s.words ∧ TapeOk B w' bt ∧ But bt w w'
structure SetInV (B bt r c m : Nat) (w wr : World) (s : QSet) (u : Value) : Prop where
  tape : TapeOk B wr bt
  but : But bt w wr
  res : wr.heap[r]? = some (.cells #[.int .i64 0, .slice none 0 0] 25 (0, 0))
  cur : wr.heap[c]? = some (.cells #[.int .i64 (m : Int), u] 25 (0, 0))
  form : FormS s
  width : s.width = (m : Int)
  words : WordsAt wr u s.words
  ok : setB s = true
  old : w.heap.size ≤ r ∧ w.heap.size ≤ c ∧ r ≠ c ∧ bt < w.heap.size
theorem SetInV.next {B bt r c m : Nat} {w wr w2 : World} {s : QSet} {u : Value} (h : SetInV B bt r c m w wr s u) (ht : TapeOk B w2 bt) (hb : But bt wr w2) : SetInV B bt r c m w w2 s u := by
  obtain ⟨o1, o2, o3, o4⟩ := h.old
  exact ⟨ht, h.but.trans hb, (hb.block r (lt_heap h.res) (by omega)).trans h.res, (hb.block c (lt_heap h.cur) (by omega)).trans h.cur, h.form, h.width, h.words.keep (hb.sameT h.tape (by decide)), h.ok, h.old⟩
theorem SetInV.put {B bt r c m b : Nat} {w wr w3 : World} {s : QSet} {u u2 : Value} (h : SetInV B bt r c m w wr s u) (ho : OwnS wr.heap.size w3 u2 (putS s b)) (hb : Below wr.heap.size wr w3) (hbm : b < m) :
    SetInV B bt r c m w ((w3.setCell ⟨c, 0, none⟩ (.int .i64 (m : Int))).setCell ⟨c, 1, none⟩ u2) (putS s b) u2 := by
  obtain ⟨o1, o2, o3, o4⟩ := h.old
  have hc := (hb.block c (lt_heap h.cur)).trans h.cur
  have hr := (hb.block r (lt_heap h.res)).trans h.res
  have hbs := h.tape.bs
  have hty : tyAt w3 c = some 25 := tyAt_of hc
  have hbt := h.tape.below hb
  refine ⟨(hbt.setCell (by show c ≠ bt; omega) (by show B ≤ c; have := h.tape.ge; omega) _).setCell (by show c ≠ bt; omega) (by show B ≤ c; have := h.tape.ge; omega) _,
    ((h.but.below hb).setCell ⟨c, 0, none⟩ (.inr o2) _).setCell ⟨c, 1, none⟩ (.inr o2) _, ?_, ?_, form_put h.form b, h.width, ?_, put_ok h.ok h.words.2 (by rw [h.width]; omega), h.old⟩
  · rw [Below.heap_setCell _ _ _ _ (by show r ≠ c; omega), Below.heap_setCell _ _ _ _ (by show r ≠ c; omega)]
    exact hr
  · simp [World.setCell, Array.getElem?_modify, hc]
  · exact ho.words.keep (SameT.trans (SameT.setCell (U := 25) hty (by decide)) (SameT.setCell (U := 25) ((tyAt_set c).trans hty) (by decide)))
set_option maxHeartbeats 1000000 in
theorem setv_any {B bt : Nat} (m : Nat) (hm : m ≤ 256) (w : World) (ht : TapeOk B w bt) : Calls Tryd.prog 16 #[.pointer (some ⟨bt, 0, none⟩), .int .i64 m] w (SetPostV B bt m w) := by
  have hlt := ht.lt
  have HT := Lib.hid ht
  clear ht
  go_enter Tryd.func16, Tryd.ntmps16
  go_wp2_with fail
  refine (empty_any m hm _).mono ?_
  rintro e v ⟨u, rfl, ho, b1⟩
  obtain ⟨ua, un, uc, rfl⟩ := ho.words.shape
  have I0 : Hid (SetInV B bt w.heap.size v.heap.size m w (v.alloc (.cells #[.int .i64 (m : Int), .slice ua un uc] 25)) (emptyS m) (.slice ua un uc)) := by
    have h1 := (lies_below (heap_alloc_new w (.cells #[.int .i64 0, .slice none 0 0] 25)) b1 (by simp))
    have hs := b1.size
    simp only [World.size_alloc] at hs
    exact ⟨((HT.out.alloc _).below b1).alloc _, (((But.refl bt w).alloc _).below b1).alloc _, lies_alloc _ h1, heap_alloc_new _ _, form_empty hm, rfl, ho.words.keep SameT.alloc, empty_ok hm, by omega, by omega, by omega, hlt⟩
  obtain ⟨V, hV⟩ : ∃ V, v.alloc (.cells #[.int .i64 (m : Int), .slice ua un uc] 25) = V := ⟨_, rfl⟩
  rw [hV] at I0
  have HV := Lib.hid hV
  rw [show setV (emptyS m) (.slice ua un uc) = .agg #[.int .i64 (m : Int), .slice ua un uc] from rfl]
  clear ho b1 hV
  go_wp2_with fail
  rw [show v.alloc (.cells #[.int .i64 (m : Int), .slice ua un uc] 25) = V from HV.out]
  go_loopw [6] (fun y wr => ∃ i : Nat, i ≤ m ∧ y = .int .i64 i ∧ Hid (∃ s u, SetInV B bt w.heap.size v.heap.size m w wr s u)) (fun y _ => m - (intOf y).toNat)
  case atStart => exact ⟨0, Nat.zero_le _, rfl, _, _, I0.out⟩
  case round =>
    clear I0
    obtain ⟨i, hi, rfl, I⟩ := hrel
    obtain ⟨s, u', I⟩ := I
    obtain ⟨va, vn, vc, rfl⟩ := I.words.shape
    have HI := Lib.hid I
    clear I
    by_cases hi2 : i < m
    · go_wp2_with fail
      refine (next_any HI.out.tape 3 (by omega)).mono ?_
      rintro e w2 ⟨z, z1, z2, rfl, ht2, hb2⟩
      have J := Lib.hid (HI.out.next ht2 hb2)
      have L0 := (lies_cells J.out.cur).1 0
      have L1 := (lies_cells J.out.cur).1 1
      have L2 := (lies_cells J.out.cur).2 0
      have L3 := (lies_cells J.out.cur).2 1
      simp only [List.getElem?_toArray, List.getElem?_cons_zero, List.getElem?_cons_succ] at L0 L1
      clear ht2 hb2
      by_cases hz : z = 1
      · subst hz
        go_wp2_with fail
        refine (put_eq J.out.width i (.slice va vn vc) _ J.out.form hi2 J.out.words).mono ?_
        rintro e w3 ⟨u3, rfl, ho, b3⟩
        obtain ⟨ta, tn, tc, rfl⟩ := ho.words.shape
        have J3 := Lib.hid (J.out.put ho b3 hi2)
        have L0 := (b3.cell (p := ⟨v.heap.size, 0, none⟩) (lt_heap J.out.cur)).trans L0
        have L1 := (b3.cell (p := ⟨v.heap.size, 1, none⟩) (lt_heap J.out.cur)).trans L1
        have L2 := (b3.frozen (p := ⟨v.heap.size, 0, none⟩) (lt_heap J.out.cur)).trans L2
        have L3 := (b3.frozen (p := ⟨v.heap.size, 1, none⟩) (lt_heap J.out.cur)).trans L3
        rw [show setV (putS s i) (.slice ta tn tc) = .agg #[.int .i64 (m : Int), .slice ta tn tc] by unfold setV; rw [show (putS s i).width = s.width from rfl, J.out.width]]
        clear ho b3
        go_wp2
        go_roundw
        case rel => exact ⟨i + 1, by omega, by go_num, _, _, J3.out⟩
        case measure => simp [intOf]; omega
      · have hzb : (z == 1) = false := by simpa using hz
        clear hz
        go_wp2
        go_roundw
        case rel => exact ⟨i + 1, by omega, by go_num, _, _, J.out⟩
        case measure => simp [intOf]; omega
    · have K0 := (lies_cells HI.out.cur).1 0
      have K1 := (lies_cells HI.out.cur).1 1
      have R0 := (lies_cells HI.out.res).1 0
      have R1 := (lies_cells HI.out.res).1 1
      have R2 := (lies_cells HI.out.res).2 0
      have R3 := (lies_cells HI.out.res).2 1
      simp only [List.getElem?_toArray, List.getElem?_cons_zero, List.getElem?_cons_succ] at K0 K1 R0 R1
      have hrc := HI.out.old.2.2.1
      go_wp2
      refine bodyPost_ret (v := setV s (.slice va vn vc)) (by rw [show setV s (.slice va vn vc) = .agg #[.int .i64 (m : Int), .slice va vn vc] by unfold setV; rw [HI.out.width]]; simp [results, Tryd.results16, go_sem, R0, R1]) rfl ⟨s, _, rfl, HI.out.form, HI.out.width, HI.out.ok, ?_, ?_, ?_⟩
      · exact HI.out.words.keep (SameT.trans (SameT.setCell (U := 25) (tyAt_of HI.out.res (by have := HI.out.tape.bs; show Base.b ≤ w.heap.size; omega)) (by decide)) (SameT.setCell (U := 25) ((tyAt_set _).trans (tyAt_of HI.out.res (by have := HI.out.tape.bs; show Base.b ≤ w.heap.size; omega))) (by decide)))
      · exact (HI.out.tape.setCell (by show w.heap.size ≠ bt; omega) (by show B ≤ w.heap.size; have := HI.out.tape.ge; omega) _).setCell (by show w.heap.size ≠ bt; omega) (by show B ≤ w.heap.size; have := HI.out.tape.ge; omega) _
      · exact (HI.out.but.setCell ⟨w.heap.size, 0, none⟩ (.inr (Nat.le_refl _)) _).setCell ⟨w.heap.size, 1, none⟩ (.inr (Nat.le_refl _)) _
/-- What a drawn wide set comes to. -/
def WidePost (B bt : Nat) (w : World) (e : Ending) (w' : World) : Prop :=
  ∃ s u, e = .returned (setV s u) ∧ FormS s ∧ setB s = true ∧ WordsAt w' u s.words ∧ TapeOk B w' bt ∧ But bt w w'
theorem eight_nat {w : World} {b q : Nat} {x0 x1 x2 x3 x4 x5 x6 x7 : Nat} (h : ∀ o, w.cell? ⟨b, o, none⟩ = (#[.int .i64 (x0 : Int), .int .i64 (x1 : Int), .int .i64 (x2 : Int), .int .i64 (x3 : Int), .int .i64 (x4 : Int), .int .i64 (x5 : Int), .int .i64 (x6 : Int), .int .i64 (x7 : Int)] : Array Value)[o]?) (hq : q < 8)
    (hx : ∀ x ∈ [x0, x1, x2, x3, x4, x5, x6, x7], x ≤ 256) : ∃ z : Nat, z ≤ 256 ∧ w.cell? ⟨b, q, none⟩ = some (.int .i64 (z : Int)) := by
  have hc := h q
  have hq' : q = 0 ∨ q = 1 ∨ q = 2 ∨ q = 3 ∨ q = 4 ∨ q = 5 ∨ q = 6 ∨ q = 7 := by omega
  rcases hq' with rfl | rfl | rfl | rfl | rfl | rfl | rfl | rfl
  · exact ⟨x0, hx x0 (by simp), hc⟩
  · exact ⟨x1, hx x1 (by simp), hc⟩
  · exact ⟨x2, hx x2 (by simp), hc⟩
  · exact ⟨x3, hx x3 (by simp), hc⟩
  · exact ⟨x4, hx x4 (by simp), hc⟩
  · exact ⟨x5, hx x5 (by simp), hc⟩
  · exact ⟨x6, hx x6 (by simp), hc⟩
  · exact ⟨x7, hx x7 (by simp), hc⟩
set_option maxHeartbeats 2000000 in
theorem wide_any {B bt : Nat} (w : World) (ht : TapeOk B w bt) : Calls Tryd.prog 10 #[.pointer (some ⟨bt, 0, none⟩)] w (WidePost B bt w) := by
  have hud : ∀ b : Bool, (undef = Value.bool b) = False := fun b => by simp [undef]
  have hlt := ht.lt
  have HT := Lib.hid ht
  clear ht
  go_enter Tryd.func10, Tryd.ntmps10
  go_wp2_with fail
  refine (next_pos2 ((HT.out.alloc _).alloc _) 8 (by omega) (by omega)).mono ?_
  rintro e w2 ⟨q, q1, q2, rfl, t2, b2⟩
  obtain ⟨q, rfl⟩ := Int.eq_ofNat_of_zero_le q1
  have q3 : (q : Int) < 8 := q2
  have b2' := ((But.refl bt w).alloc (.cells #[.int .i64 0, .slice none 0 0] 25)).alloc (.cells #[.int .i64 0, .int .i64 1, .int .i64 5, .int .i64 63, .int .i64 64, .int .i64 65, .int .i64 130, .int .i64 256] 3) |>.trans b2
  obtain ⟨m, hm, hz⟩ := eight_nat (w := w2) (b := w.heap.size + 1) (q := q) (x0 := 0) (x1 := 1) (x2 := 5) (x3 := 63) (x4 := 64) (x5 := 65) (x6 := 130) (x7 := 256)
    (fun o => (b2.cell (w.heap.size + 1) o (by simp) (by omega)).trans (by simp only [World.cell?, lies_new2]; rfl)) (by omega) (by decide)
  have R2 := Lib.hid ((b2.block w.heap.size (by simp; omega) (by omega)).trans (lies_alloc _ (heap_alloc_new w (.cells #[.int .i64 0, .slice none 0 0] 25))))
  have T2 := Lib.hid t2
  have B2 := Lib.hid b2'
  clear t2 b2 b2'
  go_wp2_with fail
  refine (empty_any m hm _).mono ?_
  rintro e v ⟨u, rfl, ho, b1⟩
  obtain ⟨ua, un, uc, rfl⟩ := ho.words.shape
  have I0 : Hid (SetInV B bt w.heap.size v.heap.size m w (v.alloc (.cells #[.int .i64 (m : Int), .slice ua un uc] 25)) (emptyS m) (.slice ua un uc)) := by
    have h1 := lies_below R2.out b1 (lt_heap R2.out)
    have hs := b1.size
    have hs2 := B2.out.size
    have hs3 := lt_heap h1
    exact ⟨(T2.out.below b1).alloc _, (B2.out.below b1).alloc _, lies_alloc _ h1, heap_alloc_new _ _, form_empty hm, rfl, ho.words.keep SameT.alloc, empty_ok hm, by omega, by omega, by omega, hlt⟩
  obtain ⟨V, hV⟩ : ∃ V, v.alloc (.cells #[.int .i64 (m : Int), .slice ua un uc] 25) = V := ⟨_, rfl⟩
  rw [hV] at I0
  have HV := Lib.hid hV
  rw [show setV (emptyS m) (.slice ua un uc) = .agg #[.int .i64 (m : Int), .slice ua un uc] from rfl]
  clear ho b1 hV hz
  go_wp2_with fail
  rw [show v.alloc (.cells #[.int .i64 (m : Int), .slice ua un uc] 25) = V from HV.out]
  refine (next_pos2 I0.out.tape 9 (by omega) (by omega)).mono ?_
  rintro e w3 ⟨n3, n1, n2, rfl, t3, b3⟩
  obtain ⟨n3, rfl⟩ := Int.eq_ofNat_of_zero_le n1
  have I1 := Lib.hid (I0.out.next t3 b3)
  clear t3 b3 I0
  go_wp2
  go_loopw [5] (fun y wr => ∃ i : Nat, y = .int .i64 i ∧ i ≤ 9 ∧ Hid (∃ s u, SetInV B bt w.heap.size v.heap.size m w wr s u)) (fun y _ => (intOf y).toNat)
  case atStart => exact ⟨n3, rfl, by omega, _, _, I1.out⟩
  case round =>
    clear I1
    obtain ⟨i, rfl, hi, I⟩ := hrel
    obtain ⟨s, u', I⟩ := I
    obtain ⟨va, vn, vc, rfl⟩ := I.words.shape
    have HI := Lib.hid I
    clear I
    by_cases hi0 : i = 0
    · subst hi0
      have K0 := (lies_cells HI.out.cur).1 0
      have K1 := (lies_cells HI.out.cur).1 1
      have R0 := (lies_cells HI.out.res).1 0
      have R1 := (lies_cells HI.out.res).1 1
      have R2 := (lies_cells HI.out.res).2 0
      have R3 := (lies_cells HI.out.res).2 1
      simp only [List.getElem?_toArray, List.getElem?_cons_zero, List.getElem?_cons_succ] at K0 K1 R0 R1
      have hrc := HI.out.old.2.2.1
      go_wp2
      refine bodyPost_ret (v := setV s (.slice va vn vc)) (by rw [show setV s (.slice va vn vc) = .agg #[.int .i64 (m : Int), .slice va vn vc] by unfold setV; rw [HI.out.width]]; simp [results, Tryd.results10, go_sem, R0, R1]) rfl ⟨s, _, rfl, HI.out.form, HI.out.ok, ?_, ?_, ?_⟩
      · exact HI.out.words.keep (SameT.trans (SameT.setCell (U := 25) (tyAt_of HI.out.res (by have := HI.out.tape.bs; show Base.b ≤ w.heap.size; omega)) (by decide)) (SameT.setCell (U := 25) ((tyAt_set _).trans (tyAt_of HI.out.res (by have := HI.out.tape.bs; show Base.b ≤ w.heap.size; omega))) (by decide)))
      · exact (HI.out.tape.setCell (by show w.heap.size ≠ bt; omega) (by show B ≤ w.heap.size; have := HI.out.tape.ge; omega) _).setCell (by show w.heap.size ≠ bt; omega) (by show B ≤ w.heap.size; have := HI.out.tape.ge; omega) _
      · exact (HI.out.but.setCell ⟨w.heap.size, 0, none⟩ (.inr (Nat.le_refl _)) _).setCell ⟨w.heap.size, 1, none⟩ (.inr (Nat.le_refl _)) _
    have hi1 : (0 : Int) < (i : Int) := by omega
    by_cases hm0 : m = 0
    · have g1 : decide ((0 : Int) < (m : Int)) = false := by simp; omega
      have g2 : decide (0 < m) = false := by simp; omega
      clear hm0
      have K0 := (lies_cells HI.out.cur).1 0
      have K1 := (lies_cells HI.out.cur).1 1
      have R0 := (lies_cells HI.out.res).1 0
      have R1 := (lies_cells HI.out.res).1 1
      have R2 := (lies_cells HI.out.res).2 0
      have R3 := (lies_cells HI.out.res).2 1
      simp only [List.getElem?_toArray, List.getElem?_cons_zero, List.getElem?_cons_succ] at K0 K1 R0 R1
      have hrc := HI.out.old.2.2.1
      go_wp2
      refine bodyPost_ret (v := setV s (.slice va vn vc)) (by rw [show setV s (.slice va vn vc) = .agg #[.int .i64 (m : Int), .slice va vn vc] by unfold setV; rw [HI.out.width]]; simp [results, Tryd.results10, go_sem, R0, R1]) rfl ⟨s, _, rfl, HI.out.form, HI.out.ok, ?_, ?_, ?_⟩
      · exact HI.out.words.keep (SameT.trans (SameT.setCell (U := 25) (tyAt_of HI.out.res (by have := HI.out.tape.bs; show Base.b ≤ w.heap.size; omega)) (by decide)) (SameT.setCell (U := 25) ((tyAt_set _).trans (tyAt_of HI.out.res (by have := HI.out.tape.bs; show Base.b ≤ w.heap.size; omega))) (by decide)))
      · exact (HI.out.tape.setCell (by show w.heap.size ≠ bt; omega) (by show B ≤ w.heap.size; have := HI.out.tape.ge; omega) _).setCell (by show w.heap.size ≠ bt; omega) (by show B ≤ w.heap.size; have := HI.out.tape.ge; omega) _
      · exact (HI.out.but.setCell ⟨w.heap.size, 0, none⟩ (.inr (Nat.le_refl _)) _).setCell ⟨w.heap.size, 1, none⟩ (.inr (Nat.le_refl _)) _
    have hm1 : (0 : Int) < (m : Int) := by omega
    have d1 : decide (0 < i) = true := by simpa using Nat.pos_of_ne_zero hi0
    have d2 : decide (0 < m) = true := by simpa using Nat.pos_of_ne_zero hm0
    have k0 := (lies_cells HI.out.cur).1 0
    have k1 := (lies_cells HI.out.cur).1 1
    have k2 := (lies_cells HI.out.cur).2 0
    have k3 := (lies_cells HI.out.cur).2 1
    simp only [List.getElem?_toArray, List.getElem?_cons_zero, List.getElem?_cons_succ] at k0 k1
    clear hi0 hm0
    go_wp2_with fail
    go_region_law (first | (go_simp; go_at_call 12; go_must (refine (next_pos2 (HI.out.tape.drewN 1) m (by omega) (by omega)).mono ?_; rintro e w4 ⟨z, z1, z2, rfl, t4, b4⟩; obtain ⟨z, rfl⟩ := Int.eq_ofNat_of_zero_le z1; have hzm : z < m := (by omega); have J := Lib.hid (HI.out.next t4 (But.undrew1 b4)); clear t4 b4 z1; clear k0 k1 k2 k3; have k0 := (lies_cells J.out.cur).1 0; have k1 := (lies_cells J.out.cur).1 1; have k2 := (lies_cells J.out.cur).2 0; have k3 := (lies_cells J.out.cur).2 1; simp only [List.getElem?_toArray, List.getElem?_cons_zero, List.getElem?_cons_succ] at k0 k1)) | (go_simp; go_at_call 22; go_must (refine (put_eq J.out.width z (.slice va vn vc) _ J.out.form hzm J.out.words).mono ?_; rintro e w5 ⟨u3, rfl, ho, b3⟩; obtain ⟨ta, tn, tc, rfl⟩ := ho.words.shape; have J3 := Lib.hid (J.out.put ho b3 hzm); have L0 := (b3.cell (p := ⟨v.heap.size, 0, none⟩) (lt_heap J.out.cur)).trans k0; have L1 := (b3.cell (p := ⟨v.heap.size, 1, none⟩) (lt_heap J.out.cur)).trans k1; have L2 := (b3.frozen (p := ⟨v.heap.size, 0, none⟩) (lt_heap J.out.cur)).trans k2; have L3 := (b3.frozen (p := ⟨v.heap.size, 1, none⟩) (lt_heap J.out.cur)).trans k3; rw [show setV (putS s z) (.slice ta tn tc) = .agg #[.int .i64 (m : Int), .slice ta tn tc] from (by unfold setV; rw [show (putS s z).width = s.width from rfl, J.out.width])]; clear k0 k1 k2 k3 ho b3)) | fail)
    all_goals
      go_wp2
      go_roundw
      case rel => exact ⟨i - 1, by go_num, by omega, _, _, J3.out⟩
      case measure => simp [intOf]; omega
end Go.Proofs.YtmanmlankfoflaaDoor
