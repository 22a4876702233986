/- Walks: drawn sets (Tape.Set). -/
import Derived.Test.YtmanmlankfoflaaDoorBsG1
import Derived.Test.YtmanmlankfoflaaDoorTape
set_option linter.unusedVariables false
set_option linter.unusedSimpArgs false
set_option linter.unusedSectionVars false
namespace Go.Proofs.YtmanmlankfoflaaDoor
open Go.RowKit
variable [Base]

theorem But.sameT {B bt : Nat} {w w' : World} (ht : TapeOk B w bt) (h : But bt w w') {T : TypeId} (hne : T ≠ 58) : SameT T w w' := fun b c fr V hV e => by
  rw [h.block b (lt_heap e) ?_]
  · exact e
  · rintro rfl
    obtain ⟨a, n, c', i, h1, -⟩ := ht.get
    rw [h1] at e
    injection e with e
    injection e with _ e2 _
    rcases hV with hV | hV
    · exact hne (hV.symm.trans e2.symm)
    · have := ht.bs; omega
theorem WordsAt.shape {w : World} {u : Value} {l : List Nat} (h : WordsAt w u l) : ∃ a n c, u = .slice a n c := by
  obtain ⟨a, c, rfl, -⟩ := h.cell
  exact ⟨_, _, _, rfl⟩
/-- What a drawn set comes to. -/
def SetPost (B bt : Nat) (m : Nat) (w : World) (e : Ending) (w' : World) : Prop :=
  ∃ s u, e = .returned (setV s u) ∧ FormS s ∧ s.width = (m : Int) ∧ WordsAt w' u s.words ∧ TapeOk B w' bt ∧ But bt w w'
structure SetIn (B bt r c m : Nat) (w wr : World) (s : QSet) (u : Value) : Prop where
  tape : TapeOk B wr bt
  but : But bt w wr
  res : wr.heap[r]? = some (.cells #[.int .i64 0, .slice none 0 0] 25 (0, 0))
  cur : wr.heap[c]? = some (.cells #[.int .i64 (m : Int), u] 25 (0, 0))
  form : FormS s
  width : s.width = (m : Int)
  words : WordsAt wr u s.words
  old : w.heap.size ≤ r ∧ w.heap.size ≤ c ∧ r ≠ c ∧ bt < w.heap.size
theorem SetIn.next {B bt r c m : Nat} {w wr w2 : World} {s : QSet} {u : Value} (h : SetIn B bt r c m w wr s u) (ht : TapeOk B w2 bt) (hb : But bt wr w2) : SetIn B bt r c m w w2 s u := by
  obtain ⟨o1, o2, o3, o4⟩ := h.old
  exact ⟨ht, h.but.trans hb, (hb.block r (lt_heap h.res) (by omega)).trans h.res, (hb.block c (lt_heap h.cur) (by omega)).trans h.cur, h.form, h.width, h.words.keep (hb.sameT h.tape (by decide)), h.old⟩
theorem SetIn.put {B bt r c m b : Nat} {w wr w3 : World} {s : QSet} {u u2 : Value} (h : SetIn B bt r c m w wr s u) (ho : OwnS wr.heap.size w3 u2 (putS s b)) (hb : Below wr.heap.size wr w3) :
    SetIn B bt r c m w ((w3.setCell ⟨c, 0, none⟩ (.int .i64 (m : Int))).setCell ⟨c, 1, none⟩ u2) (putS s b) u2 := by
  obtain ⟨o1, o2, o3, o4⟩ := h.old
  have hc := (hb.block c (lt_heap h.cur)).trans h.cur
  have hr := (hb.block r (lt_heap h.res)).trans h.res
  have hbs := h.tape.bs
  have hty : tyAt w3 c = some 25 := tyAt_of hc
  have hbt := h.tape.below hb
  refine ⟨(hbt.setCell (by show c ≠ bt; omega) (by show B ≤ c; have := h.tape.ge; omega) _).setCell (by show c ≠ bt; omega) (by show B ≤ c; have := h.tape.ge; omega) _,
    ((h.but.below hb).setCell ⟨c, 0, none⟩ (.inr o2) _).setCell ⟨c, 1, none⟩ (.inr o2) _, ?_, ?_, form_put h.form b, h.width, ?_, h.old⟩
  · rw [Below.heap_setCell _ _ _ _ (by show r ≠ c; omega), Below.heap_setCell _ _ _ _ (by show r ≠ c; omega)]
    exact hr
  · simp [World.setCell, Array.getElem?_modify, hc]
  · exact ho.words.keep (SameT.trans (SameT.setCell (U := 25) hty (by decide)) (SameT.setCell (U := 25) ((tyAt_set c).trans hty) (by decide)))
theorem put_eq {s : QSet} {m : Nat} (hm : s.width = (m : Int)) (b : Nat) (u : Value) (w : World) (hf : FormS s) (hb : b < m) (hu : WordsAt w u s.words) : Calls Tryd.prog 22 #[.agg #[.int .i64 (m : Int), u], .int .i64 b] w (MakeQ (putS s b) w) := by
  have h := put_any s b u w hf (by omega) hu
  unfold setV at h
  rw [hm] at h
  exact h
set_option maxHeartbeats 1000000 in
theorem set_any {B bt : Nat} (m : Nat) (hm : m ≤ 256) (w : World) (ht : TapeOk B w bt) : Calls Tryd.prog 16 #[.pointer (some ⟨bt, 0, none⟩), .int .i64 m] w (SetPost B bt m w) := by
  have hlt := ht.lt
  have HT := Lib.hid ht
  clear ht
  go_enter Tryd.func16, Tryd.ntmps16
  go_wp2_with fail
  refine (empty_any m hm _).mono ?_
  rintro e v ⟨u, rfl, ho, b1⟩
  obtain ⟨ua, un, uc, rfl⟩ := ho.words.shape
  have I0 : Hid (SetIn B bt w.heap.size v.heap.size m w (v.alloc (.cells #[.int .i64 (m : Int), .slice ua un uc] 25)) (emptyS m) (.slice ua un uc)) := by
    have h1 := (lies_below (heap_alloc_new w (.cells #[.int .i64 0, .slice none 0 0] 25)) b1 (by simp))
    have hs := b1.size
    simp only [World.size_alloc] at hs
    exact ⟨((HT.out.alloc _).below b1).alloc _, (((But.refl bt w).alloc _).below b1).alloc _, lies_alloc _ h1, heap_alloc_new _ _, form_empty hm, rfl, ho.words.keep SameT.alloc, by omega, by omega, by omega, hlt⟩
  obtain ⟨V, hV⟩ : ∃ V, v.alloc (.cells #[.int .i64 (m : Int), .slice ua un uc] 25) = V := ⟨_, rfl⟩
  rw [hV] at I0
  have HV := Lib.hid hV
  rw [show setV (emptyS m) (.slice ua un uc) = .agg #[.int .i64 (m : Int), .slice ua un uc] from rfl]
  clear ho b1 hV
  go_wp2_with fail
  rw [show v.alloc (.cells #[.int .i64 (m : Int), .slice ua un uc] 25) = V from HV.out]
  go_loopw [6] (fun y wr => ∃ i : Nat, i ≤ m ∧ y = .int .i64 i ∧ Hid (∃ s u, SetIn B bt w.heap.size v.heap.size m w wr s u)) (fun y _ => m - (intOf y).toNat)
  case atStart => exact ⟨0, Nat.zero_le _, rfl, _, _, I0.out⟩
  case round =>
    clear I0
    obtain ⟨i, hi, rfl, I⟩ := hrel
    obtain ⟨s, u', I⟩ := I
    obtain ⟨va, vn, vc, rfl⟩ := I.words.shape
    have HI := Lib.hid I
    clear I
    by_cases hi2 : i < m
    · go_wp2_with fail
      refine (next_any HI.out.tape 3 (by omega)).mono ?_
      rintro e w2 ⟨z, z1, z2, rfl, ht2, hb2⟩
      have J := Lib.hid (HI.out.next ht2 hb2)
      have L0 := (lies_cells J.out.cur).1 0
      have L1 := (lies_cells J.out.cur).1 1
      have L2 := (lies_cells J.out.cur).2 0
      have L3 := (lies_cells J.out.cur).2 1
      simp only [List.getElem?_toArray, List.getElem?_cons_zero, List.getElem?_cons_succ] at L0 L1
      clear ht2 hb2
      by_cases hz : z = 1
      · subst hz
        go_wp2_with fail
        refine (put_eq J.out.width i (.slice va vn vc) _ J.out.form hi2 J.out.words).mono ?_
        rintro e w3 ⟨u3, rfl, ho, b3⟩
        obtain ⟨ta, tn, tc, rfl⟩ := ho.words.shape
        have J3 := Lib.hid (J.out.put ho b3)
        have L0 := (b3.cell (p := ⟨v.heap.size, 0, none⟩) (lt_heap J.out.cur)).trans L0
        have L1 := (b3.cell (p := ⟨v.heap.size, 1, none⟩) (lt_heap J.out.cur)).trans L1
        have L2 := (b3.frozen (p := ⟨v.heap.size, 0, none⟩) (lt_heap J.out.cur)).trans L2
        have L3 := (b3.frozen (p := ⟨v.heap.size, 1, none⟩) (lt_heap J.out.cur)).trans L3
        rw [show setV (putS s i) (.slice ta tn tc) = .agg #[.int .i64 (m : Int), .slice ta tn tc] by unfold setV; rw [show (putS s i).width = s.width from rfl, J.out.width]]
        clear ho b3
        go_wp2
        go_roundw
        case rel => exact ⟨i + 1, by omega, by go_num, _, _, J3.out⟩
        case measure => simp [intOf]; omega
      · have hzb : (z == 1) = false := by simpa using hz
        clear hz
        go_wp2
        go_roundw
        case rel => exact ⟨i + 1, by omega, by go_num, _, _, J.out⟩
        case measure => simp [intOf]; omega
    · have K0 := (lies_cells HI.out.cur).1 0
      have K1 := (lies_cells HI.out.cur).1 1
      have R0 := (lies_cells HI.out.res).1 0
      have R1 := (lies_cells HI.out.res).1 1
      have R2 := (lies_cells HI.out.res).2 0
      have R3 := (lies_cells HI.out.res).2 1
      simp only [List.getElem?_toArray, List.getElem?_cons_zero, List.getElem?_cons_succ] at K0 K1 R0 R1
      have hrc := HI.out.old.2.2.1
      go_wp2
      refine bodyPost_ret (v := setV s (.slice va vn vc)) (by rw [show setV s (.slice va vn vc) = .agg #[.int .i64 (m : Int), .slice va vn vc] by unfold setV; rw [HI.out.width]]; simp [results, Tryd.results16, go_sem, R0, R1]) rfl ⟨s, _, rfl, HI.out.form, HI.out.width, ?_, ?_, ?_⟩
      · exact HI.out.words.keep (SameT.trans (SameT.setCell (U := 25) (tyAt_of HI.out.res (by have := HI.out.tape.bs; show Base.b ≤ w.heap.size; omega)) (by decide)) (SameT.setCell (U := 25) ((tyAt_set _).trans (tyAt_of HI.out.res (by have := HI.out.tape.bs; show Base.b ≤ w.heap.size; omega))) (by decide)))
      · exact (HI.out.tape.setCell (by show w.heap.size ≠ bt; omega) (by show B ≤ w.heap.size; have := HI.out.tape.ge; omega) _).setCell (by show w.heap.size ≠ bt; omega) (by show B ≤ w.heap.size; have := HI.out.tape.ge; omega) _
      · exact (HI.out.but.setCell ⟨w.heap.size, 0, none⟩ (.inr (Nat.le_refl _)) _).setCell ⟨w.heap.size, 1, none⟩ (.inr (Nat.le_refl _)) _
end Go.Proofs.YtmanmlankfoflaaDoor
