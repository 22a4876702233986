/- Walks: the program's Full, Of. Printed by wip/gen_bsf.py. -/
import Derived.Test.YtmanmlankfoflaaDoorBsE
import Derived.BigQuiet
import Derived.Deep.RegionHeld3
set_option linter.unusedVariables false
set_option linter.unusedSimpArgs false
set_option linter.unusedSectionVars false
namespace Go.Proofs.YtmanmlankfoflaaDoor
open Go.RowKit
variable [Base]

/-- A set that is being made: the result's cells, the set's cells, its words, which are the call's own. -/
structure MakeIn (w wr : World) (r c g m : Nat) (s : QSet) : Prop where
  below : Below w.heap.size w wr
  res : wr.heap[r]? = some (.cells #[.int .i64 0, .slice none 0 0] 25 (0, 0))
  cur : wr.heap[c]? = some (.cells #[.int .i64 (m : Int), .slice (some ⟨g, 0, none⟩) (wordsN m) (wordsN m)] 25 (0, 0))
  own : wr.heap[g]? = some (.cells (s.words.map uv).toArray 62 (0, 0))
  form : FormS s
  width : s.width = (m : Int)
  old : w.heap.size ≤ r ∧ w.heap.size ≤ c ∧ w.heap.size ≤ g ∧ r ≠ c ∧ r ≠ g ∧ c ≠ g
theorem MakeIn.len {w wr : World} {r c g m : Nat} {s : QSet} (h : MakeIn w wr r c g m s) : s.words.length = wordsN m := by
  obtain ⟨k, e, _, h2⟩ := form_len h.form
  have := h.width
  rw [h2, show k = m by omega]
theorem MakeIn.put {w wr w2 : World} {r c g m b : Nat} {s : QSet} (h : MakeIn w wr r c g m s) (hg : w2.heap[g]? = some (.cells ((putS s b).words.map uv).toArray 62 (0, 0))) (hb : ButB g wr w2) : MakeIn w w2 r c g m (putS s b) := by
  obtain ⟨o1, o2, o3, o4, o5, o6⟩ := h.old
  exact ⟨h.below.trans (hb.toBelow o3 h.below.size), (hb.block r (lt_heap h.res) o5).trans h.res, (hb.block c (lt_heap h.cur) o6).trans h.cur, hg, form_put h.form b, h.width, h.old⟩
theorem MakeIn.drew {w wr : World} {r c g m : Nat} {s : QSet} (h : MakeIn w wr r c g m s) (n : Nat) : MakeIn w (wr.drewN n) r c g m s := ⟨below_drewQ h.below n, h.res, h.cur, h.own, h.form, h.width, h.old⟩
/-- The result is stored: what the function answers. -/
theorem MakeIn.fin {w wr : World} {r c g m : Nat} {s : QSet} (h : MakeIn w wr r c g m s) (x y : Value) : NewS w.heap.size ((wr.setCell ⟨r, 0, none⟩ x).setCell ⟨r, 1, none⟩ y) (.slice (some ⟨g, 0, none⟩) (wordsN m) (wordsN m)) s ∧ Below w.heap.size w ((wr.setCell ⟨r, 0, none⟩ x).setCell ⟨r, 1, none⟩ y) := by
  obtain ⟨o1, o2, o3, o4, o5, o6⟩ := h.old
  refine ⟨?_, (h.below.setCell (p := ⟨r, 0, none⟩) o1 _).setCell (p := ⟨r, 1, none⟩) o1 _⟩
  have hg : ((wr.setCell ⟨r, 0, none⟩ x).setCell ⟨r, 1, none⟩ y).heap[g]? = some (.cells (s.words.map uv).toArray 62 (0, 0)) := by
    rw [Below.heap_setCell _ _ _ _ (by show g ≠ r; omega), Below.heap_setCell _ _ _ _ (by show g ≠ r; omega)]
    exact h.own
  exact .inr ⟨g, by rw [h.len], o3, hg, h.form⟩
theorem bput_in {w wr : World} {r c g m b : Nat} {s : QSet} (h : MakeIn w wr r c g m s) (hb : b < m) :
    Calls Tryd.prog 59 #[.agg #[.int .i64 (m : Int), .slice (some ⟨g, 0, none⟩) (wordsN m) (wordsN m)], .int .i64 b] wr (PutQ g (putS s b) wr) := by
  have k := bput_any s b g wr h.form (by rw [h.width]; omega) h.own
  rw [h.len, show setV s (.slice (some ⟨g, 0, none⟩) (wordsN m) (wordsN m)) = .agg #[.int .i64 (m : Int), .slice (some ⟨g, 0, none⟩) (wordsN m) (wordsN m)] from by unfold setV; rw [h.width]] at k
  exact k
theorem emptyS_len (m : Nat) : (emptyS m).words.length = wordsN m := by unfold emptyS; simp
set_option maxHeartbeats 1000000 in
theorem bfull_any (m : Nat) (hm : m ≤ 256) (w : World) : Calls Tryd.prog 29 #[.int .i64 m] w (SetE (fullTo m m, 0) w) := by
  have HM := Lib.hid hm
  go_enter Tryd.func29, Tryd.ntmps29
  go_wp2_with fail
  refine (bempty_any m hm _).mono ?_
  rintro e v ⟨u, rfl, ⟨g, rfl, o1, o2, o3⟩, b1⟩
  simp only [World.size_alloc] at o1 b1
  have hz : w.heap.size < v.heap.size := by have := b1.size; simp only [World.size_alloc] at this; omega
  rw [show setV (emptyS m) (.slice (some ⟨g, 0, none⟩) (emptyS m).words.length (emptyS m).words.length) = .agg #[.int .i64 (m : Int), .slice (some ⟨g, 0, none⟩) (wordsN m) (wordsN m)] from by rw [emptyS_len]; rfl]
  have hgv := lt_heap o2
  have I0 := Lib.hid (show MakeIn w (v.alloc (.cells #[.int .i64 (m : Int), .slice (some ⟨g, 0, none⟩) (wordsN m) (wordsN m)] 25)) w.heap.size v.heap.size g m (fullTo m 0) from
    ⟨(((Below.refl _ _).alloc (Nat.le_refl _) _).trans (b1.mono (by omega))).alloc (by omega) _, lies_alloc _ ((b1.block w.heap.size (by omega)).trans (heap_alloc_new w _)), heap_alloc_new _ _, lies_alloc _ o2, form_empty hm, rfl, by omega, by omega, by omega, by omega, by omega, by omega⟩)
  obtain ⟨V, hV⟩ : ∃ V, v.alloc (.cells #[.int .i64 (m : Int), .slice (some ⟨g, 0, none⟩) (wordsN m) (wordsN m)] 25) = V := ⟨_, rfl⟩
  rw [hV] at I0
  have HV := Lib.hid hV
  have hne : w.heap.size ≠ v.heap.size := by omega
  clear hV o1 o2 o3 b1
  go_wp2_with fail
  rw [show v.alloc (.cells #[.int .i64 (m : Int), .slice (some ⟨g, 0, none⟩) (wordsN m) (wordsN m)] 25) = V from HV.out]
  have J0 := Lib.hid (lies_cells I0.out.cur)
  have x0 := J0.out.1 0
  have x1 := J0.out.1 1
  simp only [List.getElem?_toArray, List.getElem?_cons_zero, List.getElem?_cons_succ] at x0 x1
  go_loopw [14] (fun y wr => ∃ i : Nat, i ≤ m ∧ y = .int .i64 i ∧ Hid (MakeIn w wr w.heap.size v.heap.size g m (fullTo m i))) (fun y _ => m - (intOf y).toNat)
  case atStart => exact ⟨0, Nat.zero_le _, rfl, I0⟩
  case round =>
    clear x0 x1 J0 I0
    obtain ⟨i, hi, rfl, I⟩ := hrel
    have J0 := Lib.hid (lies_cells I.out.cur)
    have x0 := J0.out.1 0
    have x1 := J0.out.1 1
    have J1 := Lib.hid (lies_cells I.out.res)
    have y0 := J1.out.1 0
    have y1 := J1.out.1 1
    have f0 := J1.out.2 0
    have f1 := J1.out.2 1
    simp only [List.getElem?_toArray, List.getElem?_cons_zero, List.getElem?_cons_succ] at x0 x1 y0 y1
    by_cases hlt : i < m
    · go_wp2_with fail
      refine (bput_in I.out hlt).mono ?_
      rintro e w2 ⟨rfl, p1, p2⟩
      have I2 := Lib.hid (show MakeIn w w2 w.heap.size v.heap.size g m (fullTo m (i + 1)) by rw [fullTo_succ]; exact I.out.put p1 p2)
      clear p1 p2 x0 x1 y0 y1 f0 f1
      go_wp2
      go_roundw
      case rel => exact ⟨i + 1, by omega, by go_num, I2⟩
      case measure => simp [intOf]; omega
    · obtain rfl : i = m := by omega
      have HF := Lib.hid (I.out.fin (.int .i64 (i : Int)) (.slice (some ⟨g, 0, none⟩) (wordsN i) (wordsN i)))
      go_wp2
      refine bodyPost_ret (v := .tuple #[setV (fullTo i i) (.slice (some ⟨g, 0, none⟩) (wordsN i) (wordsN i)), .int .i64 0]) (by rw [show setV (fullTo i i) (.slice (some ⟨g, 0, none⟩) (wordsN i) (wordsN i)) = .agg #[.int .i64 (i : Int), .slice (some ⟨g, 0, none⟩) (wordsN i) (wordsN i)] from by unfold setV; rw [I.out.width]]; simp [results, Tryd.results29, go_sem, y0, y1]) rfl ⟨_, rfl, HF.out.1, HF.out.2⟩
end Go.Proofs.YtmanmlankfoflaaDoor
