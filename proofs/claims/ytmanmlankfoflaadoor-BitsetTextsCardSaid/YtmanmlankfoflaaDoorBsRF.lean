/- Walks: the reference's Full, Of. Printed by wip/gen_bsrf.py. -/
import Derived.Test.YtmanmlankfoflaaDoorBsO
import Derived.BigQuiet
import Derived.RegionTactic
import Derived.BigRegion
import Derived.Deep.RegionHeld3
set_option linter.unusedVariables false
set_option linter.unusedSimpArgs false
set_option linter.unusedSectionVars false
namespace Go.Proofs.YtmanmlankfoflaaDoor
open Go.RowKit
variable [Base]

/-- A set that the reference makes, step by step: the result's cells, the set's cells, its words. -/
structure RIn (w wr : World) (r c m : Nat) (u : Value) (s : QSet) : Prop where
  below : Below w.heap.size w wr
  res : wr.heap[r]? = some (.cells #[.int .i64 0, .slice none 0 0] 25 (0, 0))
  cur : wr.heap[c]? = some (.cells #[.int .i64 (m : Int), u] 25 (0, 0))
  own : ∃ g, u = .slice (some ⟨g, 0, none⟩) s.words.length s.words.length ∧ wr.heap[g]? = some (.cells (s.words.map uv).toArray 62 (0, 0)) ∧ g ≠ r ∧ g ≠ c ∧ w.heap.size ≤ g
  form : FormS s
  width : s.width = (m : Int)
  old : w.heap.size ≤ r ∧ w.heap.size ≤ c ∧ r ≠ c
theorem RIn.words {w wr : World} {r c m : Nat} {u : Value} {s : QSet} (h : RIn w wr r c m u s) : WordsAt wr u s.words := by
  obtain ⟨g, e, hg, _⟩ := h.own
  exact OwnS.words (B := 0) ⟨g, e, Nat.zero_le _, hg, h.form⟩
theorem RIn.start {w v v2 : World} {m : Nat} {u : Value} {s : QSet} {r : Nat} (hb : Below w.heap.size w v) (hr : v.heap[r]? = some (.cells #[.int .i64 0, .slice none 0 0] 25 (0, 0))) (hw : w.heap.size ≤ r) (ho : OwnS v.heap.size v2 u s) (hb2 : Below v.heap.size v v2) (hs : s.width = (m : Int)) : RIn w (v2.alloc (.cells #[.int .i64 (m : Int), u] 25)) r v2.heap.size m u s := by
  obtain ⟨g, e, h1, h2, h3⟩ := ho
  have hlt := lt_heap hr
  have hg := lt_heap h2
  have hz := hb2.size
  exact ⟨(hb.trans (hb2.mono hb.size)).alloc (Nat.le_trans hb.size hz) _, lies_alloc _ ((hb2.block r hlt).trans hr), heap_alloc_new _ _, ⟨g, e, lies_alloc _ h2, by omega, by omega, Nat.le_trans hb.size h1⟩, h3, hs, hw, Nat.le_trans hb.size hz, by omega⟩
theorem RIn.put {w wr w2 : World} {r c m b : Nat} {u u2 : Value} {s : QSet} (h : RIn w wr r c m u s) (ho : OwnS wr.heap.size w2 u2 (putS s b)) (hb : Below wr.heap.size wr w2) :
    RIn w ((w2.setCell ⟨c, 0, none⟩ (.int .i64 (m : Int))).setCell ⟨c, 1, none⟩ u2) r c m u2 (putS s b) := by
  obtain ⟨o1, o2, o3⟩ := h.old
  obtain ⟨g, e, h1, h2, h3⟩ := ho
  have hr := lt_heap h.res
  have hc := lt_heap h.cur
  have kc : w2.heap[c]? = _ := (hb.block c hc).trans h.cur
  refine ⟨((h.below.trans (hb.mono h.below.size)).setCell (p := ⟨c, 0, none⟩) o2 _).setCell (p := ⟨c, 1, none⟩) o2 _, ?_, ?_, ⟨g, e, ?_, by omega, by omega, Nat.le_trans h.below.size h1⟩, h3, h.width, h.old⟩
  · rw [Below.heap_setCell _ _ _ _ (by show r ≠ c; omega), Below.heap_setCell _ _ _ _ (by show r ≠ c; omega)]
    exact (hb.block r hr).trans h.res
  · simp [World.setCell, Array.getElem?_modify, kc]
  · rw [Below.heap_setCell _ _ _ _ (by show g ≠ c; omega), Below.heap_setCell _ _ _ _ (by show g ≠ c; omega)]
    exact h2
theorem RIn.drew {w wr : World} {r c m : Nat} {u : Value} {s : QSet} (h : RIn w wr r c m u s) (n : Nat) : RIn w (wr.drewN n) r c m u s := ⟨below_drewQ h.below n, h.res, h.cur, h.own, h.form, h.width, h.old⟩
theorem RIn.after {w wr w2 : World} {r c m : Nat} {u : Value} {s : QSet} (h : RIn w wr r c m u s) (hb : Below wr.heap.size wr w2) : RIn w w2 r c m u s := by
  obtain ⟨g, e, h1, h2⟩ := h.own
  exact ⟨h.below.trans (hb.mono h.below.size), (hb.block r (lt_heap h.res)).trans h.res, (hb.block c (lt_heap h.cur)).trans h.cur, ⟨g, e, (hb.block g (lt_heap h1)).trans h1, h2⟩, h.form, h.width, h.old⟩
theorem RIn.fin {w wr : World} {r c m : Nat} {u : Value} {s : QSet} (h : RIn w wr r c m u s) (x y : Value) : NewS w.heap.size ((wr.setCell ⟨r, 0, none⟩ x).setCell ⟨r, 1, none⟩ y) u s ∧ Below w.heap.size w ((wr.setCell ⟨r, 0, none⟩ x).setCell ⟨r, 1, none⟩ y) := by
  obtain ⟨o1, o2, o3⟩ := h.old
  obtain ⟨g, e, h1, h2, h3, h4⟩ := h.own
  refine ⟨?_, (h.below.setCell (p := ⟨r, 0, none⟩) o1 _).setCell (p := ⟨r, 1, none⟩) o1 _⟩
  refine .inr ⟨g, e, h4, ?_, h.form⟩
  rw [Below.heap_setCell _ _ _ _ (by show g ≠ r; omega), Below.heap_setCell _ _ _ _ (by show g ≠ r; omega)]
  exact h1
theorem rput_in {w wr : World} {r c m b : Nat} {u : Value} {s : QSet} (h : RIn w wr r c m u s) (hb : b < m) :
    Calls Tryd.prog 22 #[.agg #[.int .i64 (m : Int), u], .int .i64 b] wr (MakeQ (putS s b) wr) := by
  have k := put_any s b u wr h.form (by rw [h.width]; omega) h.words
  rw [show setV s u = .agg #[.int .i64 (m : Int), u] from by unfold setV; rw [h.width]] at k
  exact k
theorem OwnS.shape {B : Nat} {w : World} {u : Value} {s : QSet} (h : OwnS B w u s) : ∃ a n c, u = .slice a n c := by
  obtain ⟨g, e, _⟩ := h
  exact ⟨_, _, _, e⟩
/-- A set alone, no error's number. -/
def SetQ (s : QSet) (w : World) (e : Ending) (w' : World) : Prop := ∃ u, e = .returned (setV s u) ∧ NewS w.heap.size w' u s ∧ Below w.heap.size w w'
set_option maxHeartbeats 1000000 in
theorem rfull_any (m : Nat) (hm : m ≤ 256) (w : World) : Calls Tryd.prog 49 #[.int .i64 m] w (SetQ (fullTo m m) w) := by
  have HM := Lib.hid hm
  go_enter Tryd.func49, Tryd.ntmps49
  go_wp2_with fail
  refine (empty_any m hm _).mono ?_
  rintro e v ⟨u, rfl, ho, b1⟩
  have I0 := Lib.hid (RIn.start ((Below.refl _ _).alloc (Nat.le_refl _) _) (heap_alloc_new w _) (Nat.le_refl _) ho b1 (rfl : (fullTo m 0).width = (m : Int)))
  have hz : w.heap.size < v.heap.size := by have := b1.size; simp only [World.size_alloc] at this; omega
  obtain ⟨ga, gn, gc, rfl⟩ : ∃ a n c, u = .slice a n c := by obtain ⟨g, e, _⟩ := ho; exact ⟨_, _, _, e⟩
  obtain ⟨V, hV⟩ : ∃ V, v.alloc (.cells #[.int .i64 (m : Int), .slice ga gn gc] 25) = V := ⟨_, rfl⟩
  rw [hV] at I0
  have HV := Lib.hid hV
  have hne : w.heap.size ≠ v.heap.size := by omega
  rw [show setV (emptyS m) (.slice ga gn gc) = .agg #[.int .i64 (m : Int), .slice ga gn gc] from rfl]
  clear hV ho b1
  go_wp2_with fail
  rw [show v.alloc (.cells #[.int .i64 (m : Int), .slice ga gn gc] 25) = V from HV.out]
  go_loopw [4] (fun y wr => ∃ i : Nat, i ≤ m ∧ y = .int .i64 i ∧ Hid (∃ u, RIn w wr w.heap.size v.heap.size m u (fullTo m i))) (fun y _ => m - (intOf y).toNat)
  case atStart => exact ⟨0, Nat.zero_le _, rfl, _, I0.out⟩
  case round =>
    clear I0
    obtain ⟨i, hi, rfl, II⟩ := hrel
    obtain ⟨u, I⟩ := II.out
    have I := Lib.hid I
    obtain ⟨ua, un, uc, rfl⟩ : ∃ a n c, u = .slice a n c := by obtain ⟨g, e, _⟩ := I.out.own; exact ⟨_, _, _, e⟩
    clear II
    have J0 := Lib.hid (lies_cells I.out.cur)
    have x0 := J0.out.1 0
    have x1 := J0.out.1 1
    have J1 := Lib.hid (lies_cells I.out.res)
    have y0 := J1.out.1 0
    have y1 := J1.out.1 1
    have f0 := J1.out.2 0
    have f1 := J1.out.2 1
    simp only [List.getElem?_toArray, List.getElem?_cons_zero, List.getElem?_cons_succ] at x0 x1 y0 y1
    by_cases hlt : i < m
    · go_wp2_with fail
      refine (rput_in I.out hlt).mono ?_
      rintro e w2 ⟨u2, rfl, ho, b2⟩
      obtain ⟨va, vn, vc, rfl⟩ : ∃ a n c, u2 = .slice a n c := by obtain ⟨g, e, _⟩ := ho; exact ⟨_, _, _, e⟩
      have I2 : Hid (∃ u, RIn w ((w2.setCell ⟨v.heap.size, 0, none⟩ (.int .i64 (m : Int))).setCell ⟨v.heap.size, 1, none⟩ (.slice va vn vc)) w.heap.size v.heap.size m u (fullTo m (i + 1))) := ⟨.slice va vn vc, by rw [fullTo_succ]; exact I.out.put ho b2⟩
      rw [show setV (putS (fullTo m i) i) (.slice va vn vc) = .agg #[.int .i64 (m : Int), .slice va vn vc] from by unfold setV; rw [show (putS (fullTo m i) i).width = (fullTo m i).width from rfl, I.out.width]]
      have L2 := Lib.hid (lies_below I.out.cur b2 (lt_heap I.out.cur))
      clear x0 x1 y0 y1 f0 f1 ho b2
      have x0 := (lies_cells L2.out).1 0
      have x1 := (lies_cells L2.out).1 1
      have f0 := (lies_cells L2.out).2 0
      have f1 := (lies_cells L2.out).2 1
      simp only [List.getElem?_toArray, List.getElem?_cons_zero, List.getElem?_cons_succ] at x0 x1
      go_wp2
      go_roundw
      case rel => exact ⟨i + 1, by omega, by go_num, I2⟩
      case measure => simp [intOf]; omega
    · obtain rfl : i = m := by omega
      have HF := Lib.hid (I.out.fin (.int .i64 (i : Int)) (.slice ua un uc))
      go_wp2
      refine bodyPost_ret (v := setV (fullTo i i) (.slice ua un uc)) (by rw [show setV (fullTo i i) (.slice ua un uc) = .agg #[.int .i64 (i : Int), .slice ua un uc] from by unfold setV; rw [I.out.width]]; simp [results, Tryd.results49, go_sem, y0, y1]) rfl ⟨_, rfl, HF.out.1, HF.out.2⟩
set_option maxHeartbeats 2000000 in
theorem rof_yes (m : Nat) (hm : m ≤ 256) (l : List Int) (v0 : Value) (w : World) (hl : IntsAt w v0 l) : Calls Tryd.prog 48 #[.int .i64 m, v0] w (SetE (ofS m l) w) := by
  rw [ofS_yes hm]
  have HM := Lib.hid hm
  obtain ⟨la, lc, rfl, hlm, -, -, hcell⟩ := hl.cell
  obtain ⟨n, hn⟩ : ∃ n, l.length = n := ⟨_, rfl⟩
  rw [hn] at hlm ⊢
  have HN := Lib.hid hn
  have HC := Lib.hid hcell
  unfold maxLen at hlm
  have dm0 : decide ((m : Int) < 0) = false := by simp
  have dm1 : decide ((256 : Int) < (m : Int)) = false := by simp; omega
  have dm2 : decide (256 < m) = false := by simp; omega
  clear hl hcell hn
  go_enter Tryd.func48, Tryd.ntmps48
  go_wp2_with fail
  refine (empty_any m hm _).mono ?_
  rintro e v ⟨u, rfl, ho, b1⟩
  have I0 := Lib.hid (RIn.start ((Below.refl _ _).alloc (Nat.le_refl _) _) (heap_alloc_new w _) (Nat.le_refl _) ho b1 (rfl : (emptyS m).width = (m : Int)))
  have hz : w.heap.size < v.heap.size := by have := b1.size; simp only [World.size_alloc] at this; omega
  obtain ⟨ga, gn, gc, rfl⟩ : ∃ a n c, u = .slice a n c := by obtain ⟨g, e, _⟩ := ho; exact ⟨_, _, _, e⟩
  obtain ⟨V, hV⟩ : ∃ V, v.alloc (.cells #[.int .i64 (m : Int), .slice ga gn gc] 25) = V := ⟨_, rfl⟩
  rw [hV] at I0
  have HV := Lib.hid hV
  have hne : w.heap.size ≠ v.heap.size := by omega
  rw [show setV (emptyS m) (.slice ga gn gc) = .agg #[.int .i64 (m : Int), .slice ga gn gc] from rfl]
  clear hV ho b1 dm0 dm1 dm2
  go_wp2_with fail
  rw [show v.alloc (.cells #[.int .i64 (m : Int), .slice ga gn gc] 25) = V from HV.out]
  go_loopw [7] (fun y wr => ∃ i : Nat, i ≤ n ∧ y = .int .i64 i ∧ Hid (∃ u s, RIn w wr w.heap.size v.heap.size m u s ∧ ofGo m (l.drop i) s = ofGo m l (emptyS m))) (fun y _ => n - (intOf y).toNat)
  case atStart => exact ⟨0, Nat.zero_le _, rfl, _, _, I0.out, rfl⟩
  case round =>
    clear I0
    obtain ⟨i, hi, rfl, II⟩ := hrel
    obtain ⟨u, s, I, hR⟩ := II.out
    have I := Lib.hid I
    have HR := Lib.hid hR
    obtain ⟨ua, un, uc, rfl⟩ : ∃ a n c, u = .slice a n c := by obtain ⟨g, e, _⟩ := I.out.own; exact ⟨_, _, _, e⟩
    clear II hR
    have J0 := Lib.hid (lies_cells I.out.cur)
    have x0 := J0.out.1 0
    have x1 := J0.out.1 1
    have J1 := Lib.hid (lies_cells I.out.res)
    have y0 := J1.out.1 0
    have y1 := J1.out.1 1
    have f0 := J1.out.2 0
    have f1 := J1.out.2 1
    simp only [List.getElem?_toArray, List.getElem?_cons_zero, List.getElem?_cons_succ] at x0 x1 y0 y1
    by_cases hlt : i < n
    · obtain ⟨b, hb⟩ : ∃ b, l[i]? = some b := ⟨_, List.getElem?_eq_getElem (show i < l.length by have := HN.out; omega)⟩
      obtain ⟨lb, lo, rfl, hlb, hlc⟩ := HC.out i b hb
      have g0 := (I.out.below.cell (p := ⟨lb, lo + i, none⟩) hlb).trans hlc
      have HD := Lib.hid (show l.drop i = b :: l.drop (i + 1) by rw [List.drop_eq_getElem_cons (show i < l.length by have := HN.out; omega)]; congr 1; exact (List.getElem?_eq_some_iff.1 hb).2)
      have HLB := Lib.hid (And.intro hlb hlc)
      clear hb hlc
      by_cases hb0 : b < 0
      · have d1 : decide (b < 0) = true := by simpa using hb0
        have HE := Lib.hid (show ofGo m l (emptyS m) = (zeroS, 3) by rw [← HR.out, HD.out, ofGo_cons, if_pos (Or.inl hb0)]; rfl)
        have HS := Lib.hid (I.out.fin (.int .i64 0) (.slice none 0 0)).2
        go_wp2
        refine bodyPost_ret (v := .tuple #[zeroV, .int .i64 3]) (by simp [results, Tryd.results48, go_sem, y0, y1]) rfl ?_
        rw [HE.out]
        exact ZeroE.set ⟨rfl, HS.out⟩
      · have d1 : decide (b < 0) = false := by simpa using hb0
        by_cases hbm : (m : Int) ≤ b
        · have d2 : decide ((m : Int) ≤ b) = true := by simpa using hbm
          have HE := Lib.hid (show ofGo m l (emptyS m) = (zeroS, 3) by rw [← HR.out, HD.out, ofGo_cons, if_pos (Or.inr hbm)]; rfl)
          have HS := Lib.hid (I.out.fin (.int .i64 0) (.slice none 0 0)).2
          go_wp2
          refine bodyPost_ret (v := .tuple #[zeroV, .int .i64 3]) (by simp [results, Tryd.results48, go_sem, y0, y1]) rfl ?_
          rw [HE.out]
          exact ZeroE.set ⟨rfl, HS.out⟩
        · have d2 : decide ((m : Int) ≤ b) = false := by simpa using hbm
          obtain ⟨q, rfl⟩ := Int.eq_ofNat_of_zero_le (show 0 ≤ b by omega)
          have d3 : decide (m ≤ q) = false := by simp; omega
          have i1 : (0 : Int) ≤ (i : Int) := by omega
          have i2 : (i : Int) < (n : Int) := by omega
          go_wp2_with fail
          have I9 := Lib.hid (I.out.drew 1)
          go_region_law (first | (go_simp; go_at_call 22; go_must (refine (rput_in I9.out (show q < m by omega)).mono ?_; rintro e w2 ⟨u2, rfl, ho, b2⟩; obtain ⟨va, vn, vc, rfl⟩ := ho.shape; rw [show setV (putS s q) (.slice va vn vc) = .agg #[.int .i64 (m : Int), .slice va vn vc] from by unfold setV; rw [show (putS s q).width = s.width from rfl, I.out.width]]; have I2 := Lib.hid (I9.out.put ho b2); have L2 := Lib.hid (lies_below I9.out.cur b2 (lt_heap I9.out.cur)); clear x0 x1 y0 y1 f0 f1 ho b2; have x0 := (lies_cells L2.out).1 0; have x1 := (lies_cells L2.out).1 1; have f0 := (lies_cells L2.out).2 0; have f1 := (lies_cells L2.out).2 1; simp only [List.getElem?_toArray, List.getElem?_cons_zero, List.getElem?_cons_succ] at x0 x1)) | fail)
          all_goals
            go_wp2
            go_roundw
            case rel => exact ⟨i + 1, by omega, by go_num, _, _, I2.out, by rw [← HR.out, HD.out, ofGo_cons, if_neg (by omega)]; rfl⟩
            case measure => simp [intOf]; omega
    · have HE := Lib.hid (show ofGo m l (emptyS m) = (s, 0) by rw [← HR.out, List.drop_eq_nil_of_le (by have := HN.out; omega), ofGo_nil])
      have HF := Lib.hid (I.out.fin (.int .i64 (m : Int)) (.slice ua un uc))
      go_wp2
      refine bodyPost_ret (v := .tuple #[setV s (.slice ua un uc), .int .i64 0]) (by rw [show setV s (.slice ua un uc) = .agg #[.int .i64 (m : Int), .slice ua un uc] from by unfold setV; rw [I.out.width]]; simp [results, Tryd.results48, go_sem, y0, y1]) rfl ?_
      rw [HE.out]
      exact ⟨_, rfl, HF.out.1, HF.out.2⟩
end Go.Proofs.YtmanmlankfoflaaDoor
