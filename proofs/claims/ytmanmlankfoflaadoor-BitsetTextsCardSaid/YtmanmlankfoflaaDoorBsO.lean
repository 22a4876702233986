/- Walks: the program's Of. Printed by wip/gen_bsf.py. -/
import Derived.Test.YtmanmlankfoflaaDoorBsF
import Derived.BigQuiet
set_option linter.unusedVariables false
set_option linter.unusedSimpArgs false
set_option linter.unusedSectionVars false
namespace Go.Proofs.YtmanmlankfoflaaDoor
open Go.RowKit
variable [Base]

abbrev iv (z : Int) : Value := .int .i64 z
def IntsAt (w : World) (v : Value) (l : List Int) : Prop := SliceAt w 3 1 v (l.map iv)
theorem IntsAt.below {w w' : World} {v : Value} {l : List Int} (h : IntsAt w v l) (hb : Below w.heap.size w w') : IntsAt w' v l := h.same (SameT.below hb)
theorem IntsAt.nil {w : World} : IntsAt w (.slice none 0 0) [] := SliceAt.nil
theorem IntsAt.cell {w : World} {v : Value} {l : List Int} (h : IntsAt w v l) : ∃ a c, v = .slice a l.length c ∧ l.length ≤ maxLen ∧ l.length ≤ c ∧ c ≤ maxLen ∧ ∀ k x, l[k]? = some x → ∃ b off, a = some ⟨b, off, none⟩ ∧ b < w.heap.size ∧ w.cell? ⟨b, off + k, none⟩ = some (iv x) := by
  obtain ⟨a, n, c, rfl, h1, h2, h3, h4, h5⟩ := SliceAt.form h
  simp at h1
  subst h1
  refine ⟨a, c, rfl, h2, h3, h4, fun k x hk => ?_⟩
  obtain ⟨hk2, rfl⟩ := List.getElem?_eq_some_iff.1 hk
  obtain ⟨b, off, rfl, hb, _, hc⟩ := h5 (by omega)
  refine ⟨b, off, rfl, hb, ?_⟩
  rw [hc _ (by simpa using hk2)]
  simp [hk2]
theorem ofGo_nil (m : Nat) (s : QSet) : ofGo m [] s = (s, 0) := rfl
theorem ofGo_cons (m : Nat) (b : Int) (l : List Int) (s : QSet) : ofGo m (b :: l) s = if b < 0 ∨ (m : Int) ≤ b then (⟨0, []⟩, 3) else ofGo m l (putS s b.toNat) := rfl
theorem ofS_no {n : Int} (h : rangedB n = false) (l : List Int) : ofS n l = (zeroS, 3) := by
  unfold ofS zeroS
  rw [if_neg]
  intro h2
  unfold rangedB at h
  simp only [Bool.and_eq_false_iff, decide_eq_false_iff_not] at h
  omega
theorem ofS_yes {m : Nat} (h : m ≤ 256) (l : List Int) : ofS m l = ofGo m l (emptyS m) := by
  unfold ofS
  rw [if_pos (by omega)]
  simp
/-- A result that says no: zero and the error's number are stored. -/
theorem MakeIn.stop {w wr : World} {r c g m : Nat} {s : QSet} (h : MakeIn w wr r c g m s) (x y : Value) : Below w.heap.size w ((wr.setCell ⟨r, 0, none⟩ x).setCell ⟨r, 1, none⟩ y) := (h.fin x y).2
set_option maxHeartbeats 1000000 in
theorem bof_yes (m : Nat) (hm : m ≤ 256) (l : List Int) (v0 : Value) (w : World) (hl : IntsAt w v0 l) : Calls Tryd.prog 46 #[.int .i64 m, v0] w (SetE (ofS m l) w) := by
  rw [ofS_yes hm]
  have HM := Lib.hid hm
  obtain ⟨la, lc, rfl, hlm, -, -, hcell⟩ := hl.cell
  obtain ⟨n, hn⟩ : ∃ n, l.length = n := ⟨_, rfl⟩
  rw [hn] at hlm ⊢
  have HN := Lib.hid hn
  have HC := Lib.hid hcell
  unfold maxLen at hlm
  clear hl hcell hn
  go_enter Tryd.func46, Tryd.ntmps46
  go_wp2_with fail
  refine (bempty_any m hm _).mono ?_
  rintro e v ⟨u, rfl, ⟨g, rfl, o1, o2, o3⟩, b1⟩
  simp only [World.size_alloc] at o1 b1
  have hz : w.heap.size < v.heap.size := by have := b1.size; simp only [World.size_alloc] at this; omega
  rw [show setV (emptyS m) (.slice (some ⟨g, 0, none⟩) (emptyS m).words.length (emptyS m).words.length) = .agg #[.int .i64 (m : Int), .slice (some ⟨g, 0, none⟩) (wordsN m) (wordsN m)] from by rw [emptyS_len]; rfl]
  have hgv := lt_heap o2
  have I0 := Lib.hid (show MakeIn w (v.alloc (.cells #[.int .i64 (m : Int), .slice (some ⟨g, 0, none⟩) (wordsN m) (wordsN m)] 25)) w.heap.size v.heap.size g m (emptyS m) from
    ⟨(((Below.refl _ _).alloc (Nat.le_refl _) _).trans (b1.mono (by omega))).alloc (by omega) _, lies_alloc _ ((b1.block w.heap.size (by omega)).trans (heap_alloc_new w _)), heap_alloc_new _ _, lies_alloc _ o2, form_empty hm, rfl, by omega, by omega, by omega, by omega, by omega, by omega⟩)
  obtain ⟨V, hV⟩ : ∃ V, v.alloc (.cells #[.int .i64 (m : Int), .slice (some ⟨g, 0, none⟩) (wordsN m) (wordsN m)] 25) = V := ⟨_, rfl⟩
  rw [hV] at I0
  have HV := Lib.hid hV
  have hne : w.heap.size ≠ v.heap.size := by omega
  clear hV o1 o2 o3 b1
  go_wp2_with fail
  rw [show v.alloc (.cells #[.int .i64 (m : Int), .slice (some ⟨g, 0, none⟩) (wordsN m) (wordsN m)] 25) = V from HV.out]
  go_loopw [17] (fun y wr => ∃ i : Nat, i ≤ n ∧ y = .int .i64 i ∧ Hid (∃ s, MakeIn w wr w.heap.size v.heap.size g m s ∧ ofGo m (l.drop i) s = ofGo m l (emptyS m))) (fun y _ => n - (intOf y).toNat)
  case atStart => exact ⟨0, Nat.zero_le _, rfl, ⟨_, I0.out, rfl⟩⟩
  case round =>
    clear I0
    obtain ⟨i, hi, rfl, II⟩ := hrel
    obtain ⟨s, I, hR⟩ := II.out
    have I := Lib.hid I
    have HR := Lib.hid hR
    clear II hR
    have J0 := Lib.hid (lies_cells I.out.cur)
    have x0 := J0.out.1 0
    have x1 := J0.out.1 1
    have J1 := Lib.hid (lies_cells I.out.res)
    have y0 := J1.out.1 0
    have y1 := J1.out.1 1
    have f0 := J1.out.2 0
    have f1 := J1.out.2 1
    simp only [List.getElem?_toArray, List.getElem?_cons_zero, List.getElem?_cons_succ] at x0 x1 y0 y1
    by_cases hlt : i < n
    · obtain ⟨b, hb⟩ : ∃ b, l[i]? = some b := ⟨_, List.getElem?_eq_getElem (show i < l.length by have := HN.out; omega)⟩
      obtain ⟨lb, lo, rfl, hlb, hlc⟩ := HC.out i b hb
      have g0 := (I.out.below.cell (p := ⟨lb, lo + i, none⟩) hlb).trans hlc
      have HD := Lib.hid (show l.drop i = b :: l.drop (i + 1) by rw [List.drop_eq_getElem_cons (show i < l.length by have := HN.out; omega)]; congr 1; exact (List.getElem?_eq_some_iff.1 hb).2)
      clear hb hlc
      by_cases hb0 : b < 0
      · have d1 : decide (b < 0) = true := by simpa using hb0
        have HE := Lib.hid (show ofGo m l (emptyS m) = (zeroS, 3) by rw [← HR.out, HD.out, ofGo_cons, if_pos (Or.inl hb0)]; rfl)
        have HS := Lib.hid (I.out.stop (.int .i64 0) (.slice none 0 0))
        go_wp2
        refine bodyPost_ret (v := .tuple #[zeroV, .int .i64 3]) (by simp [results, Tryd.results46, go_sem, y0, y1]) rfl ?_
        rw [HE.out]
        exact ZeroE.set ⟨rfl, HS.out⟩
      · have d1 : decide (b < 0) = false := by simpa using hb0
        by_cases hbm : (m : Int) ≤ b
        · have d2 : decide ((m : Int) ≤ b) = true := by simpa using hbm
          have HE := Lib.hid (show ofGo m l (emptyS m) = (zeroS, 3) by rw [← HR.out, HD.out, ofGo_cons, if_pos (Or.inr hbm)]; rfl)
          have HS := Lib.hid (I.out.stop (.int .i64 0) (.slice none 0 0))
          go_wp2
          refine bodyPost_ret (v := .tuple #[zeroV, .int .i64 3]) (by simp [results, Tryd.results46, go_sem, y0, y1]) rfl ?_
          rw [HE.out]
          exact ZeroE.set ⟨rfl, HS.out⟩
        · have d2 : decide ((m : Int) ≤ b) = false := by simpa using hbm
          obtain ⟨q, rfl⟩ := Int.eq_ofNat_of_zero_le (show 0 ≤ b by omega)
          go_wp2_with fail
          refine (bput_in I.out (show q < m by omega)).mono ?_
          rintro e w2 ⟨rfl, p1, p2⟩
          have I2 : Hid (∃ s, MakeIn w w2 w.heap.size v.heap.size g m s ∧ ofGo m (l.drop (i + 1)) s = ofGo m l (emptyS m)) := ⟨putS s q, I.out.put p1 p2, by rw [← HR.out, HD.out, ofGo_cons, if_neg (by omega)]; rfl⟩
          clear p1 p2 x0 x1 y0 y1 f0 f1 g0
          go_wp2
          go_roundw
          case rel => exact ⟨i + 1, by omega, by go_num, I2⟩
          case measure => simp [intOf]; omega
    · have HE := Lib.hid (show ofGo m l (emptyS m) = (s, 0) by rw [← HR.out, List.drop_eq_nil_of_le (by have := HN.out; omega), ofGo_nil])
      have HF := Lib.hid (I.out.fin (.int .i64 (m : Int)) (.slice (some ⟨g, 0, none⟩) (wordsN m) (wordsN m)))
      go_wp2
      refine bodyPost_ret (v := .tuple #[setV s (.slice (some ⟨g, 0, none⟩) (wordsN m) (wordsN m)), .int .i64 0]) (by rw [show setV s (.slice (some ⟨g, 0, none⟩) (wordsN m) (wordsN m)) = .agg #[.int .i64 (m : Int), .slice (some ⟨g, 0, none⟩) (wordsN m) (wordsN m)] from by unfold setV; rw [I.out.width]]; simp [results, Tryd.results46, go_sem, y0, y1]) rfl ?_
      rw [HE.out]
      exact ⟨_, rfl, HF.out.1, HF.out.2⟩
end Go.Proofs.YtmanmlankfoflaaDoor
