/- Walks: put into a row of words, changed, With, Without. Printed by wip/gen_bsch.py. -/
import Derived.Test.YtmanmlankfoflaaDoorBsG5
import Derived.Test.YtmanmlankfoflaaDoorBsE
import Derived.Test.YtmanmlankfoflaaDoorBsAp
import Derived.Test.YtmanmlankfoflaaDoorBsH
import Derived.Deep.CutRange
import Derived.Deep.RegionHeld3
set_option linter.unusedVariables false
set_option linter.unusedSimpArgs false
set_option linter.unusedSectionVars false
namespace Go.Proofs.YtmanmlankfoflaaDoor
open Go.RowKit
variable [Base]

/-- A row of words of one's own, with room behind it. -/
def RowW (B : Nat) (w : World) (g cap : Nat) (l : List Nat) : Prop := w.ownsRow B 62 1 (.slice (some ⟨g, 0, none⟩) l.length cap) l.length (l.map uv)
theorem RowW.own {B : Nat} {w : World} {g cap k : Nat} {l : List Nat} (h : RowW B w g cap l) (hk : l.length = k) : w.ownsRow B 62 1 (.slice (some ⟨g, 0, none⟩) k cap) k (l.map uv) := by subst hk; exact h
def PutR (B g cap : Nat) (s : QSet) (w : World) (e : Ending) (w' : World) : Prop := e = .returned (.tuple #[]) ∧ RowW B w' g cap s.words ∧ ButB g w w'
theorem bput_row {B : Nat} (s : QSet) (b g cap : Nat) (w : World) (hf : FormS s) (hb : (b : Int) < s.width) (ho : RowW B w g cap s.words) (hbs : Base.b ≤ B) :
    Calls Tryd.prog 59 #[setV s (.slice (some ⟨g, 0, none⟩) s.words.length cap), .int .i64 b] w (PutR B g cap (putS s b) w) := by
  obtain ⟨m, hm, hm2, hk⟩ := form_len hf
  obtain ⟨k, hk2⟩ : ∃ k, s.words.length = k := ⟨_, rfl⟩
  have hbk : b / 64 < k := by rw [← hk2, hk]; unfold wordsN; omega
  have hk5 : k ≤ 4 := by rw [← hk2, hk]; unfold wordsN; omega
  obtain ⟨x, hx⟩ : ∃ x, s.words[b / 64]? = some x := ⟨_, List.getElem?_eq_getElem (show b / 64 < s.words.length by omega)⟩
  have hxl : x < 18446744073709551616 := hf.2.2 x (List.mem_of_getElem? hx)
  obtain ⟨g', hg', -, hlt, -, hgc, hgf⟩ := own_pos ho (by omega) hbs
  injection hg' with hg'
  injection hg' with hg'
  subst hg'
  have g0 := hgc (b / 64) (by rw [List.length_map]; omega)
  have g1 := hgf (b / 64)
  rw [List.getElem?_map, hx] at g0
  simp only [Option.map_some] at g0
  have q1 : 0 ≤ (b : Int) / 64 := by omega
  have q2 : (b : Int) / 64 < k := by omega
  have q3 : ((b : Int) / 64).toNat = b / 64 := by omega
  have q4 : 0 ≤ (b : Int) % 64 := by omega
  have q5 : IntKind.u64.wrap (b : Int) = (b : Int) := by rw [IntKind.wrap_u64]; omega
  have q6 : ((b : Int) % 64).toNat = b % 64 := by omega
  obtain ⟨y, hy⟩ : ∃ y, x ||| 2 ^ (b % 64) = y := ⟨_, rfl⟩
  have q7 : bits .or .u64 (x : Int) (IntKind.u64.wrap (2 ^ (b % 64))) = (y : Int) := by
    have h1 : IntKind.u64.wrap (2 ^ (b % 64)) = ((2 ^ (b % 64) : Nat) : Int) := by
      have := pow_lt64 b
      rw [show ((2 : Int) ^ (b % 64)) = ((2 ^ (b % 64) : Nat) : Int) by simp, IntKind.wrap_u64]
      generalize 2 ^ (b % 64) = p at *
      omega
    rw [h1, or_nat x _ hxl (pow_lt64 b), hy]
  have HY := Lib.hid hy
  have HX := Lib.hid hx
  have HG := Lib.hid ho
  have hne : w.heap.size ≠ g := by omega
  rw [hk2]
  have HK2 := Lib.hid hk2
  clear hk2
  clear hy hx ho hf hm hk hgc hgf
  go_enter Tryd.func59, Tryd.ntmps59
  go_wp2_with fail
  have HP := Lib.hid (show (putS s b).words = s.words.set (b / 64) y by
    unfold putS
    rw [List.getD_eq_getElem?_getD, HX.out]
    simp [← HY.out])
  go_end0
  refine ⟨rfl, ?_, ?_⟩
  · have h := own_set_s (RowW.own HG.out HK2.out) (b / 64) (uv y)
    unfold RowW
    rw [HP.out, List.map_set, List.length_set, HK2.out]
    exact h.alloc _
  · exact ((ButB.refl g w).setCell _ _).alloc _
/-- 's' without a bit. -/
def remS (s : QSet) (b : Nat) : QSet := ⟨s.width, s.words.set (b / 64) (clr (s.words.getD (b / 64) 0) (2 ^ (b % 64)))⟩
theorem form_rem {s : QSet} (h : FormS s) (b : Nat) : FormS (remS s b) := by
  obtain ⟨h1, h2, h3⟩ := h
  refine ⟨h1, ?_, fun x hx => ?_⟩
  · unfold lensB remS at *
    simp only [List.length_set]
    exact h2
  · rcases List.mem_or_eq_of_mem_set hx with hx | rfl
    · exact h3 x hx
    · refine clr_lt ?_
      rw [List.getD_eq_getElem?_getD]
      rcases Nat.lt_or_ge (b / 64) s.words.length with hl | hl
      · rw [List.getElem?_eq_getElem hl]; exact h3 _ (List.getElem_mem _)
      · rw [List.getElem?_eq_none hl]; decide
theorem bit_rem {l : List Nat} {k b : Nat} : bitOf (l.set (k / 64) (clr (l.getD (k / 64) 0) (2 ^ (k % 64)))) b = (bitOf l b && !decide (b = k)) := by
  unfold bitOf
  rw [List.getD_eq_getElem?_getD, List.getD_eq_getElem?_getD, List.getElem?_set]
  by_cases h : k / 64 = b / 64
  · rw [if_pos h]
    by_cases hl : k / 64 < l.length
    · rw [if_pos (by omega)]
      simp only [Option.getD_some]
      rw [bit_clr, Nat.testBit_two_pow, ← h, List.getD_eq_getElem?_getD]
      congr 2
      rw [Bool.eq_iff_iff]
      simp only [decide_eq_true_eq]
      omega
    · rw [if_neg hl, List.getD_eq_getElem?_getD, List.getElem?_eq_none (by omega)]
      simp
  · rw [if_neg h]
    have : ¬ b = k := by intro e; subst e; exact h rfl
    simp [this, List.getD_eq_getElem?_getD]
theorem put_rem (s : QSet) (hf : FormS s) (b : Nat) (hb : (b : Int) < s.width) : putS (remS s b) b = putS s b := by
  refine set_ext rfl (form_put (form_rem hf b) b) (form_put hf b) fun k => ?_
  rw [put_bit (form_rem hf b) hb, put_bit hf hb, show bitOf (remS s b).words k = _ from bit_rem]
  cases bitOf s.words k <;> cases hd : decide (k = b) <;> rfl
/-- What 'changed' answers. -/
def chgS (s : QSet) (b : Int) (m : Bool) : QSet × Int := if setB s = true then (if 0 ≤ b ∧ b < s.width then ((if m = true then putS s b.toNat else remS s b.toNat), 0) else (zeroS, 3)) else (zeroS, 1)
/-- A set and an error's number. -/
def WordsE (r : QSet × Int) (w : World) (e : Ending) (w' : World) : Prop := ∃ u, e = .returned (.tuple #[setV r.1 u, .int .i64 r.2]) ∧ WordsAt w' u r.1.words ∧ Below w.heap.size w w'
theorem ZeroE.words {n : Int} {w w' : World} {e : Ending} (h : ZeroE n w e w') : WordsE (zeroS, n) w e w' := ⟨.slice none 0 0, h.1, WordsAt.nil, h.2⟩
/-- What stands while the set is changed: the result's cells, the new set's cells, its words, which are the call's own. -/
structure ChIn (B r c g cap : Nat) (w wx : World) (d : Int) (ws : List Nat) : Prop where
  below : Below w.heap.size w wx
  res : wx.heap[r]? = some (.cells #[.int .i64 0, .slice none 0 0] 25 (0, 0))
  cur : wx.heap[c]? = some (.cells #[.int .i64 d, .slice (some ⟨g, 0, none⟩) ws.length cap] 25 (0, 0))
  own : RowW B wx g cap ws
  old : w.heap.size ≤ r ∧ w.heap.size ≤ c ∧ w.heap.size ≤ g ∧ r ≠ c ∧ r ≠ g ∧ c ≠ g
theorem ChIn.drew {B r c g cap : Nat} {w wx : World} {d : Int} {ws : List Nat} (h : ChIn B r c g cap w wx d ws) (n : Nat) : ChIn B r c g cap w (wx.drewN n) d ws := ⟨below_drewQ h.below n, h.res, h.cur, h.own, h.old⟩
theorem ChIn.word {B r c g cap : Nat} {w wx : World} {d : Int} {ws : List Nat} (h : ChIn B r c g cap w wx d ws) (j y : Nat) : ChIn B r c g cap w (wx.setCell ⟨g, j, none⟩ (uv y)) d (ws.set j y) := by
  obtain ⟨o1, o2, o3, o4, o5, o6⟩ := h.old
  refine ⟨h.below.setCell (p := ⟨g, j, none⟩) o3 _, ?_, ?_, ?_, h.old⟩
  · rw [Below.heap_setCell _ _ _ _ (by exact o5)]; exact h.res
  · rw [Below.heap_setCell _ _ _ _ (by exact o6), List.length_set]; exact h.cur
  · unfold RowW
    rw [List.length_set, List.map_set]
    exact own_set_s h.own j _
theorem ChIn.but {B r c g cap : Nat} {w wx w' : World} {d : Int} {ws ws' : List Nat} (h : ChIn B r c g cap w wx d ws) (hb : ButB g wx w') (ho : RowW B w' g cap ws') (hl : ws'.length = ws.length) : ChIn B r c g cap w w' d ws' := by
  obtain ⟨o1, o2, o3, o4, o5, o6⟩ := h.old
  refine ⟨⟨hb.os.trans h.below.os, hb.tape.trans h.below.tape, hb.output.trans h.below.output, Nat.le_trans h.below.size hb.size, fun k hk => (hb.block k (by have := h.below.size; omega) (by omega)).trans (h.below.block k hk)⟩, ?_, ?_, ho, h.old⟩
  · rw [hb.block r (lt_heap h.res) o5]; exact h.res
  · rw [hb.block c (lt_heap h.cur) o6, hl]; exact h.cur
theorem ChIn.fin {B r c g cap : Nat} {w wx : World} {d : Int} {ws : List Nat} {x y : Value} (h : ChIn B r c g cap w wx d ws) (hok : wordsOk ws) (hbs : Base.b ≤ w.heap.size) : WordsAt ((wx.setCell ⟨r, 0, none⟩ x).setCell ⟨r, 1, none⟩ y) (.slice (some ⟨g, 0, none⟩) ws.length cap) ws ∧ Below w.heap.size w ((wx.setCell ⟨r, 0, none⟩ x).setCell ⟨r, 1, none⟩ y) := by
  obtain ⟨o1, o2, o3, o4, o5, o6⟩ := h.old
  have hty := tyAt_of h.res
  exact ⟨WordsAt.keep ⟨SliceAt.of_owns h.own, hok⟩ (SameT.trans (SameT.setCell (U := 25) hty (by decide)) (SameT.setCell (U := 25) ((tyAt_set r).trans hty) (by decide))),
    (h.below.setCell (p := ⟨r, 0, none⟩) o1 _).setCell (p := ⟨r, 1, none⟩) o1 _⟩
/-- The new set's cells lie behind the copy of its words .. -/
theorem ChIn.mkA {r g cap : Nat} {w w3 v : World} {d : Int} {ws : List Nat} (h3 : Below w.heap.size w w3) (hb : Below w3.heap.size w3 v) (hr : w3.heap[r]? = some (.cells #[.int .i64 0, .slice none 0 0] 25 (0, 0))) (hw : w.heap.size ≤ r) (own : RowW w3.heap.size v g cap ws) (hg : w3.heap.size ≤ g ∧ g < v.heap.size) :
    ChIn w3.heap.size r v.heap.size g cap w (v.alloc (.cells #[.int .i64 d, .slice (some ⟨g, 0, none⟩) ws.length cap] 25)) d ws := by
  have hlt := lt_heap hr
  have hs := hb.size
  have hs3 := h3.size
  exact ⟨(h3.trans (hb.mono hs3)).alloc (by omega) _, lies_alloc _ (lies_below hr hb hlt), heap_alloc_new _ _, ownB_s own ((Below.refl _ _).alloc (Nat.le_refl _) _), hw, by omega, by omega, by omega, by omega, by omega⟩
/-- .. or ahead of it. -/
theorem ChIn.mkB {r g cap : Nat} {w w3 v : World} {d : Int} {ws : List Nat} (h3 : Below w.heap.size w w3) (hb : Below (w3.heap.size + 1) (w3.alloc (.cells #[.int .i64 0, .slice none 0 0] 25)) v) (hr : w3.heap[r]? = some (.cells #[.int .i64 0, .slice none 0 0] 25 (0, 0))) (hw : w.heap.size ≤ r) (own : RowW (w3.heap.size + 1) v g cap ws) (hg : w3.heap.size + 1 ≤ g) (hbs : Base.b ≤ w.heap.size) :
    ChIn w3.heap.size r w3.heap.size g cap w ((v.setCell ⟨w3.heap.size, 0, none⟩ (.int .i64 d)).setCell ⟨w3.heap.size, 1, none⟩ (.slice (some ⟨g, 0, none⟩) ws.length cap)) d ws := by
  have hlt := lt_heap hr
  have hs := hb.size
  simp only [World.size_alloc] at hs
  have hs3 := h3.size
  have hz := lies_below (heap_alloc_new w3 (.cells #[.int .i64 0, .slice none 0 0] 25)) hb (by omega)
  have hr2 := lies_below (lies_alloc (.cells #[.int .i64 0, .slice none 0 0] 25) hr) hb (by omega)
  have hty := tyAt_of hz
  refine ⟨(((h3.alloc hs3 _).trans (hb.mono (by omega))).setCell (p := ⟨w3.heap.size, 0, none⟩) hs3 _).setCell (p := ⟨w3.heap.size, 1, none⟩) hs3 _, ?_, ?_, own_off_s (own_off_s (own_base_s own (by omega)) hty (by decide)) ((tyAt_set _).trans hty) (by decide), hw, by omega, by omega, by omega, by omega, by omega⟩
  · rw [Below.heap_setCell _ _ _ _ (by show r ≠ w3.heap.size; omega), Below.heap_setCell _ _ _ _ (by show r ≠ w3.heap.size; omega)]
    exact hr2
  · simp [World.setCell, Array.getElem?_modify, hz]
theorem below_drewA {B : Nat} {w v : World} (b : Below B w.drew v) : Below B w v := ⟨b.os, b.tape, b.output, b.size, b.block⟩
theorem below_drewB {n : Nat} {w v : World} {o : Obj} (b : Below (w.alloc o).drew.heap.size (w.alloc o).drew v) (h : w.heap.size + 1 = n) : Below n (w.alloc o) v := by
  rw [show (w.alloc o).drew.heap.size = n from (World.size_alloc w o).trans h] at b
  exact ⟨b.os, b.tape, b.output, b.size, b.block⟩
theorem words_drew {w : World} {u : Value} {l : List Nat} (h : WordsAt w u l) : WordsAt w.drew u l := h.keep fun _ _ _ _ _ e => e
def CloneP (l : List Nat) (w : World) (e : Ending) (w' : World) : Prop := ∃ g cap, e = .returned (.slice (some ⟨g, 0, none⟩) l.length cap) ∧ RowW w.heap.size w' g cap l ∧ (w.heap.size ≤ g ∧ g < w'.heap.size) ∧ Below w.heap.size w w'
theorem clone_w (l : List Nat) (u : Value) (w : World) (h : WordsAt w u l) (hn : l.length ≤ 1000000) (h0 : 0 < l.length) (hbs : Base.b ≤ w.heap.size) : Calls Tryd.prog 75 #[u] w (CloneP l w) :=
  (clone_u64 u l.length (l.map uv) w h.1 (by rw [List.length_map]; omega) (words_all l) hn).mono fun e w' ⟨a, c, h1, h2, h3⟩ => by
    obtain ⟨g, rfl, hg, hg2, -⟩ := own_pos h2 h0 hbs
    exact ⟨g, c, h1, h2, ⟨hg, hg2⟩, h3⟩
theorem bput_rem {B : Nat} (s : QSet) (b g cap : Nat) (w : World) (hf : FormS s) (hb : (b : Int) < s.width) (ho : RowW B w g cap (remS s b).words) (hbs : Base.b ≤ B) :
    Calls Tryd.prog 59 #[.agg #[.int .i64 s.width, .slice (some ⟨g, 0, none⟩) s.words.length cap], .int .i64 b] w (PutR B g cap (putS s b) w) := by
  have h := bput_row (remS s b) b g cap w (form_rem hf b) hb ho hbs
  rw [put_rem s hf b hb, show (remS s b).words.length = s.words.length by simp [remS]] at h
  exact h
set_option maxRecDepth 100000 in
set_option maxHeartbeats 4000000 in
theorem changed_any (s : QSet) (b : Int) (m : Bool) (u : Value) (w : World) (h : WordsAt w u s.words) (hbs : Base.b ≤ w.heap.size) : Calls Tryd.prog 54 #[setV s u, .int .i64 b, .bool m] w (WordsE (chgS s b m) w) := by
  obtain ⟨a, c, rfl, hm, hc, hcm, hk⟩ := h.cell
  obtain ⟨n, hn⟩ : ∃ n, s.words.length = n := ⟨_, rfl⟩
  obtain ⟨W, hW⟩ : ∃ W, (w.alloc (.cells #[.int .i64 s.width, .slice a n c] 25)).alloc (.cells #[.int .i64 0, .slice none 0 0] 25) = W := ⟨_, rfl⟩
  have B0 : Below w.heap.size w W := by rw [← hW]; exact ((Below.refl _ _).alloc (Nat.le_refl _) _).alloc (by simp) _
  have HB0 : W.heap[w.heap.size]? = some (.cells #[.int .i64 s.width, .slice a n c] 25 (0, 0)) := by rw [← hW]; exact lies_alloc _ (heap_alloc_new _ _)
  have HB1 : W.heap[w.heap.size + 1]? = some (.cells #[.int .i64 0, .slice none 0 0] 25 (0, 0)) := by rw [← hW]; exact lies_new2 _ _
  have x0 := (lies_cells HB0).1 0
  have x1 := (lies_cells HB0).1 1
  simp only [List.getElem?_toArray, List.getElem?_cons_zero, List.getElem?_cons_succ] at x0 x1
  rw [hn] at hm hc ⊢
  have H0 := Lib.hid HB0
  have H1 := Lib.hid HB1
  have HW := Lib.hid hW
  have BB := Lib.hid B0
  have HN := Lib.hid hn
  have HR := Lib.hid (show WordsAt W (.slice a n c) s.words by rw [← hn] at *; exact h.below B0)
  have HOK := Lib.hid h.2
  unfold maxLen at hm
  clear hW HB0 HB1 B0 hk hn
  rcases Bool.eq_false_or_eq_true (setB s) with hv | hv
  rotate_left
  · have HV := Lib.hid hv
    rw [show chgS s b m = (zeroS, 1) by unfold chgS; rw [hv]; rfl]
    clear hv
    go_enter Tryd.func54, Tryd.ntmps54
    go_wp2_with fail
    rw [show (w.alloc (.cells #[.int .i64 s.width, .slice a n c] 25)).alloc (.cells #[.int .i64 0, .slice none 0 0] 25) = W from HW.out]
    refine (bvalid_to HV.out _ _ HR.out).mono ?_
    rintro e w1 ⟨rfl, b1⟩
    have B1 := Lib.hid (BB.out.trans (b1.mono BB.out.size))
    have L1 := Lib.hid (lies_below H1.out b1 (lt_heap H1.out))
    have y0 := (lies_cells L1.out).1 0
    have y1 := (lies_cells L1.out).1 1
    have f0 := (lies_cells L1.out).2 0
    have f1 := (lies_cells L1.out).2 1
    simp only [List.getElem?_toArray, List.getElem?_cons_zero, List.getElem?_cons_succ] at y0 y1
    clear x0 x1 b1
    go_wp2
    exact bodyPost_ret (v := .tuple #[zeroV, .int .i64 1]) (by simp [results, Tryd.results54, go_sem, y0, y1]) rfl (ZeroE.words ⟨rfl, (B1.out.setCell (p := ⟨w.heap.size + 1, 0, none⟩) (by show w.heap.size ≤ w.heap.size + 1; omega) _).setCell (p := ⟨w.heap.size + 1, 1, none⟩) (by show w.heap.size ≤ w.heap.size + 1; omega) _⟩)
  have HV := Lib.hid hv
  by_cases hin : 0 ≤ b ∧ b < s.width
  rotate_left
  · rw [show chgS s b m = (zeroS, 3) by unfold chgS; rw [hv, if_pos rfl, if_neg hin]]
    have HI := Lib.hid (show (decide (0 ≤ b) && decide (b < s.width)) = false by rw [Bool.eq_false_iff]; simpa using hin)
    clear hv h hin
    go_enter Tryd.func54, Tryd.ntmps54
    go_wp2_with fail
    rw [show (w.alloc (.cells #[.int .i64 s.width, .slice a n c] 25)).alloc (.cells #[.int .i64 0, .slice none 0 0] 25) = W from HW.out]
    refine (bvalid_to HV.out _ _ HR.out).mono ?_
    rintro e w1 ⟨rfl, b1⟩
    have B1 := Lib.hid (BB.out.trans (b1.mono BB.out.size))
    have L1 := Lib.hid (lies_below H1.out b1 (lt_heap H1.out))
    have L0 := Lib.hid (lies_below H0.out b1 (lt_heap H0.out))
    clear x0 x1 b1
    have x0 := (lies_cells L0.out).1 0
    have x1 := (lies_cells L0.out).1 1
    simp only [List.getElem?_toArray, List.getElem?_cons_zero, List.getElem?_cons_succ] at x0 x1
    go_wp2_with fail
    refine (within_to (s := s) (b := false) HI.out a n c _).mono ?_
    rintro e w2 ⟨rfl, b2⟩
    have B2 := Lib.hid (B1.out.trans (b2.mono B1.out.size))
    have L2 := Lib.hid (lies_below L1.out b2 (lt_heap L1.out))
    have y0 := (lies_cells L2.out).1 0
    have y1 := (lies_cells L2.out).1 1
    have f0 := (lies_cells L2.out).2 0
    have f1 := (lies_cells L2.out).2 1
    simp only [List.getElem?_toArray, List.getElem?_cons_zero, List.getElem?_cons_succ] at y0 y1
    clear x0 x1 b2
    go_wp2
    exact bodyPost_ret (v := .tuple #[zeroV, .int .i64 3]) (by simp [results, Tryd.results54, go_sem, y0, y1]) rfl (ZeroE.words ⟨rfl, (B2.out.setCell (p := ⟨w.heap.size + 1, 0, none⟩) (by show w.heap.size ≤ w.heap.size + 1; omega) _).setCell (p := ⟨w.heap.size + 1, 1, none⟩) (by show w.heap.size ≤ w.heap.size + 1; omega) _⟩)
  have hf := valid_form hv h.2
  obtain ⟨h1, h2⟩ := hin
  obtain ⟨k, rfl⟩ := Int.eq_ofNat_of_zero_le h1
  obtain ⟨m2, e1, e2, e3⟩ := form_len hf
  have hkn : k / 64 < n := by have := HN.out; unfold wordsN at e3; omega
  have hn5 : n ≤ 4 := by have := HN.out; unfold wordsN at e3; omega
  have HI := Lib.hid (show (decide (0 ≤ (k : Int)) && decide ((k : Int) < s.width)) = true by simp; omega)
  obtain ⟨x, hx⟩ : ∃ x, s.words[k / 64]? = some x := ⟨_, List.getElem?_eq_getElem (by have := HN.out; omega)⟩
  have hxl : x < 18446744073709551616 := hf.2.2 x (List.mem_of_getElem? hx)
  have HF := Lib.hid hf
  have HX := Lib.hid hx
  have HK := Lib.hid h2
  have HC : Hid (chgS s k m = ((if m = true then putS s k else remS s k), 0)) := by
    refine Lib.hid ?_
    unfold chgS; rw [hv, if_pos rfl, if_pos ⟨h1, h2⟩]
    rfl
  rw [HC.out]
  obtain ⟨R, hR⟩ : ∃ R, (if m = true then putS s k else remS s k) = R := ⟨_, rfl⟩
  rw [hR]
  have HRR := Lib.hid hR
  clear hR
  clear hv h hf e1 e2 e3 hx h1 h2 HC
  go_enter Tryd.func54, Tryd.ntmps54
  go_wp2_with fail
  rw [show (w.alloc (.cells #[.int .i64 s.width, .slice a n c] 25)).alloc (.cells #[.int .i64 0, .slice none 0 0] 25) = W from HW.out]
  refine (bvalid_to HV.out _ _ HR.out).mono ?_
  rintro e w1 ⟨rfl, b1⟩
  have B1 := Lib.hid (BB.out.trans (b1.mono BB.out.size))
  have L1 := Lib.hid (lies_below H1.out b1 (lt_heap H1.out))
  have L0 := Lib.hid (lies_below H0.out b1 (lt_heap H0.out))
  have R1 := Lib.hid (HR.out.below b1)
  clear x0 x1 b1
  have x0 := (lies_cells L0.out).1 0
  have x1 := (lies_cells L0.out).1 1
  simp only [List.getElem?_toArray, List.getElem?_cons_zero, List.getElem?_cons_succ] at x0 x1
  go_wp2_with fail
  refine (within_to (s := s) (b := true) HI.out a n c _).mono ?_
  rintro e w2 ⟨rfl, b2⟩
  have B2 := Lib.hid (B1.out.trans (b2.mono B1.out.size))
  have M1 := Lib.hid (lies_below L1.out b2 (lt_heap L1.out))
  have M0 := Lib.hid (lies_below L0.out b2 (lt_heap L0.out))
  have R2 := Lib.hid (R1.out.below b2)
  clear x0 x1 b2
  have x0 := (lies_cells M0.out).1 0
  have x1 := (lies_cells M0.out).1 1
  simp only [List.getElem?_toArray, List.getElem?_cons_zero, List.getElem?_cons_succ] at x0 x1
  have hz0 : w.heap.size < w2.heap.size := lt_heap M0.out
  have hbs2 : Base.b ≤ w2.heap.size := by omega
  have hbs3 : Base.b ≤ w2.drew.heap.size := hbs2
  have hbs4 : Base.b ≤ (w2.alloc (.cells #[.int .i64 0, .slice none 0 0] 25)).drew.heap.size := by rw [show (w2.alloc (.cells #[.int .i64 0, .slice none 0 0] 25)).drew.heap.size = w2.heap.size + 1 from World.size_alloc _ _]; omega
  go_upto_region 5 with fail
  go_cut [8] from 20 to 25 (fun y8 wx => ∃ o g cap wy, wy = wx ∧ y8 = .pointer (some ⟨o, 0, none⟩) ∧ Hid (ChIn w2.heap.size (w.heap.size + 1) o g cap w wy s.width s.words))
  case first =>
    go_region_held3 (fun w' => w'.cell? ⟨w.heap.size, 0, none⟩ = some (.int .i64 s.width) ∧ w'.cell? ⟨w.heap.size, 1, none⟩ = some (.slice a n c)) (first | go_keep | exact ⟨cell_off (by omega) (cell_off (by omega) p0), cell_off (by omega) (cell_off (by omega) p1)⟩) ((first | (go_at_call 75; ((with_reducible refine (clone_w s.words (.slice a n c) w2.drew (words_drew R2.out) (by have := HN.out; omega) (by have := HN.out; omega) hbs3).mono ?_)); go_must (rintro e v ⟨g, cap, rfl, own, hg, b⟩; have OW := Lib.hid own; have HG := Lib.hid hg; have BV := Lib.hid (below_drewA b); have p0 := (BV.out.cell (p := ⟨w.heap.size, 0, none⟩) hz0).trans x0; have p1 := (BV.out.cell (p := ⟨w.heap.size, 1, none⟩) hz0).trans x1; clear own hg b)) | (go_at_call 75; ((with_reducible refine (clone_w s.words (.slice a n c) (w2.alloc (.cells #[.int .i64 0, .slice none 0 0] 25)).drew (words_drew (R2.out.keep SameT.alloc)) (by have := HN.out; omega) (by have := HN.out; omega) hbs4).mono ?_)); go_must (rintro e v ⟨g, cap, rfl, own, hg, b⟩; have OW := Lib.hid own; have HG := Lib.hid hg; have BV := Lib.hid (below_drewB b rfl); have p := lies_below (lies_alloc (.cells #[.int .i64 0, .slice none 0 0] 25) M0.out) BV.out (by omega); have p0 := (lies_cells p).1 0; have p1 := (lies_cells p).1 1; have z := lies_below (heap_alloc_new w2 (.cells #[.int .i64 0, .slice none 0 0] 25)) BV.out (by omega); have z0 := (lies_cells z).1 0; have z1 := (lies_cells z).1 1; have f0 := (lies_cells z).2 0; have f1 := (lies_cells z).2 1; simp only [List.getElem?_toArray, List.getElem?_cons_zero, List.getElem?_cons_succ] at p0 p1 z0 z1; clear own hg b p z))))
    · go_wp2_with fail
      go_meet
      case rel => exact ⟨_, _, _, _, rfl, rfl, ChIn.mkA (w3 := w2) B2.out BV.out M1.out (Nat.le_succ _) OW.out HG.out⟩
    · go_wp2_with fail
      go_meet
      case rel => exact ⟨_, _, _, _, rfl, rfl, ChIn.mkB B2.out BV.out M1.out (Nat.le_succ _) (by have h := OW.out; rw [show (w2.alloc (.cells #[.int .i64 0, .slice none 0 0] 25)).drew.heap.size = w2.heap.size + 1 from World.size_alloc _ _] at h; exact h) (by have h := HG.out.1; rw [show (w2.alloc (.cells #[.int .i64 0, .slice none 0 0] 25)).drew.heap.size = w2.heap.size + 1 from World.size_alloc _ _] at h; exact h) hbs⟩
  case rest =>
    clear x0 x1
    obtain ⟨o, g, cap, wy, rfl, rfl, J0⟩ := hcut
    obtain ⟨g', hg', -, -, -, hgc, hgf⟩ := own_pos J0.out.own (by have := HN.out; omega) hbs2
    injection hg' with hg'
    injection hg' with hg'
    subst hg'
    have g0 := hgc (k / 64) (by rw [List.length_map]; have := HN.out; omega)
    have g1 := hgf (k / 64)
    rw [List.getElem?_map, HX.out] at g0
    simp only [Option.map_some] at g0
    have c0 := (lies_cells J0.out.cur).1 0
    have c1 := (lies_cells J0.out.cur).1 1
    simp only [List.getElem?_toArray, List.getElem?_cons_zero, List.getElem?_cons_succ] at c0 c1
    have q1 : 0 ≤ (k : Int) / 64 := by omega
    have q2 : (k : Int) / 64 < n := by omega
    have q3 : ((k : Int) / 64).toNat = k / 64 := by omega
    have q4 : 0 ≤ (k : Int) % 64 := by omega
    have hk256 : k < 256 := by obtain ⟨m3, a1, a2, a3⟩ := form_len HF.out; have := HK.out; omega
    have q5 : IntKind.u64.wrap (k : Int) = (k : Int) := by rw [IntKind.wrap_u64]; omega
    have q6 : ((k : Int) % 64).toNat = k % 64 := by omega
    obtain ⟨y, hy⟩ : ∃ y, clr x (2 ^ (k % 64)) = y := ⟨_, rfl⟩
    have q7 : bits .andNot .u64 (x : Int) (IntKind.u64.wrap (2 ^ (k % 64))) = (y : Int) := by
      have h1 : IntKind.u64.wrap (2 ^ (k % 64)) = ((2 ^ (k % 64) : Nat) : Int) := by
        have := pow_lt64 k
        rw [show ((2 : Int) ^ (k % 64)) = ((2 ^ (k % 64) : Nat) : Int) by simp, IntKind.wrap_u64]
        generalize 2 ^ (k % 64) = p at *
        omega
      rw [h1, andNot_nat x _ hxl (pow_lt64 k), hy]
    have HREM := Lib.hid (show (remS s k).words = s.words.set (k / 64) y by
      unfold remS
      rw [List.getD_eq_getElem?_getD, HX.out]
      simp [← hy])
    have J1 := Lib.hid (show ChIn w2.heap.size (w.heap.size + 1) o g cap w (wy.setCell ⟨g, k / 64, none⟩ (uv y)) s.width (remS s k).words from by rw [HREM.out]; exact J0.out.word (k / 64) y)
    rw [HN.out] at c1
    have hlr : (remS s k).words.length = n := by rw [HREM.out, List.length_set]; exact HN.out
    obtain ⟨hor, hog, hrg⟩ : w.heap.size + 1 ≠ o ∧ o ≠ g ∧ w.heap.size + 1 ≠ g := by have := J0.out.old; omega
    have r0 := (lies_cells J0.out.res).1 0
    have r1 := (lies_cells J0.out.res).1 1
    have r2 := (lies_cells J0.out.res).2 0
    have r3 := (lies_cells J0.out.res).2 1
    simp only [List.getElem?_toArray, List.getElem?_cons_zero, List.getElem?_cons_succ] at r0 r1
    clear hy hgc hgf J0
    cases m
    · have hR := HRR.out
      simp only [Bool.false_eq_true, if_false] at hR
      subst hR
      have FIN := Lib.hid (fun x' y' => J1.out.fin (x := x') (y := y') (form_rem HF.out k).2.2 hbs)
      rw [hlr] at FIN
      go_wp2
      exact bodyPost_ret (v := .tuple #[setV (remS s k) (.slice (some ⟨g, 0, none⟩) n cap), .int .i64 0]) (by simp [results, Tryd.results54, go_sem, r0, r1, remS]) rfl ⟨_, rfl, (FIN.out _ _).1, (FIN.out _ _).2⟩
    · have hR := HRR.out
      simp only [if_true] at hR
      subst hR
      go_wp2_with fail
      rw [← HN.out]
      refine (bput_rem s k g cap _ HF.out HK.out J1.out.own hbs2).mono ?_
      rintro e w5 ⟨rfl, ho, hb⟩
      have J2 := Lib.hid (J1.out.but hb ho (by rw [hlr]; simp [putS, HN.out]))
      have hlp : (putS s k).words.length = n := by simp [putS, HN.out]
      have FIN := Lib.hid (fun x' y' => J2.out.fin (x := x') (y := y') (form_put HF.out k).2.2 hbs)
      rw [hlp] at FIN
      clear g0 g1 c0 c1 r0 r1 r2 r3 ho hb
      have c0 := (lies_cells J2.out.cur).1 0
      have c1 := (lies_cells J2.out.cur).1 1
      have r0 := (lies_cells J2.out.res).1 0
      have r1 := (lies_cells J2.out.res).1 1
      have r2 := (lies_cells J2.out.res).2 0
      have r3 := (lies_cells J2.out.res).2 1
      simp only [List.getElem?_toArray, List.getElem?_cons_zero, List.getElem?_cons_succ] at c0 c1 r0 r1
      rw [hlp] at c1
      rw [HN.out]
      go_wp2
      exact bodyPost_ret (v := .tuple #[setV (putS s k) (.slice (some ⟨g, 0, none⟩) n cap), .int .i64 0]) (by simp [results, Tryd.results54, go_sem, r0, r1, putS]) rfl ⟨_, rfl, (FIN.out _ _).1, (FIN.out _ _).2⟩
set_option maxHeartbeats 1000000 in
theorem with_any (s : QSet) (b : Int) (u : Value) (w : World) (h : WordsAt w u s.words) (hbs : Base.b ≤ w.heap.size) : Calls Tryd.prog 19 #[setV s u, .int .i64 b] w (WordsE (chgS s b true) w) := by
  obtain ⟨a1, n1, c1, rfl⟩ : ∃ a n c, u = .slice a n c := by obtain ⟨a, c, rfl, -⟩ := h.cell; exact ⟨_, _, _, rfl⟩
  have R1 := Lib.hid h
  obtain ⟨W, hW⟩ : ∃ W, (w.alloc (.cells #[.int .i64 s.width, .slice a1 n1 c1] 25)).alloc (.cells #[.int .i64 0, .slice none 0 0] 25) = W := ⟨_, rfl⟩
  have B0 : Below w.heap.size w W := by rw [← hW]; exact ((Below.refl _ _).alloc (Nat.le_refl _) _).alloc (by simp) _
  have L3 : W.heap[w.heap.size + 1]? = some (.cells #[.int .i64 0, .slice none 0 0] 25 (0, 0)) := by rw [← hW]; exact lies_new2 _ _
  have HW := Lib.hid hW
  have BB := Lib.hid B0
  have H3 := Lib.hid L3
  clear hW B0 L3 h
  go_enter Tryd.func19, Tryd.ntmps19
  go_wp2_with fail
  rw [show (w.alloc (.cells #[.int .i64 s.width, .slice a1 n1 c1] 25)).alloc (.cells #[.int .i64 0, .slice none 0 0] 25) = W from HW.out]
  refine (changed_any s b true _ _ (R1.out.below BB.out) (Nat.le_trans hbs BB.out.size)).mono ?_
  rintro e v ⟨u, rfl, hu, b1⟩
  obtain ⟨ua, un, uc, rfl⟩ := hu.shape
  obtain ⟨q, hq⟩ : ∃ q, chgS s b true = q := ⟨_, rfl⟩
  rw [hq] at hu ⊢
  have HU := Lib.hid hu
  have L3 := Lib.hid (lies_below H3.out b1 (lt_heap H3.out))
  have B1 := Lib.hid (BB.out.trans (b1.mono BB.out.size))
  have z0 := (lies_cells L3.out).1 0
  have z1 := (lies_cells L3.out).1 1
  have f0 := (lies_cells L3.out).2 0
  have f1 := (lies_cells L3.out).2 1
  simp only [List.getElem?_toArray, List.getElem?_cons_zero, List.getElem?_cons_succ] at z0 z1
  have hsz := lt_heap L3.out
  have hty : tyAt v (w.heap.size + 1) = some 25 := tyAt_of L3.out
  have HTY := Lib.hid hty
  have HQ := Lib.hid hq
  clear hu b1 hq hty
  go_wp2
  exact bodyPost_ret (v := .tuple #[setV q.1 (.slice ua un uc), .int .i64 q.2]) (by simp [results, Tryd.results19, go_sem, z0, z1]) rfl (by rw [HQ.out]; exact ⟨_, rfl, HU.out.keep (SameT.trans (SameT.setCell (U := 25) HTY.out (by decide)) (SameT.setCell (U := 25) ((tyAt_set _).trans HTY.out) (by decide))), (B1.out.setCell (p := ⟨w.heap.size + 1, 0, none⟩) (by show w.heap.size ≤ w.heap.size + 1; omega) _).setCell (p := ⟨w.heap.size + 1, 1, none⟩) (by show w.heap.size ≤ w.heap.size + 1; omega) _⟩)
set_option maxHeartbeats 1000000 in
theorem without_any (s : QSet) (b : Int) (u : Value) (w : World) (h : WordsAt w u s.words) (hbs : Base.b ≤ w.heap.size) : Calls Tryd.prog 20 #[setV s u, .int .i64 b] w (WordsE (chgS s b false) w) := by
  obtain ⟨a1, n1, c1, rfl⟩ : ∃ a n c, u = .slice a n c := by obtain ⟨a, c, rfl, -⟩ := h.cell; exact ⟨_, _, _, rfl⟩
  have R1 := Lib.hid h
  obtain ⟨W, hW⟩ : ∃ W, (w.alloc (.cells #[.int .i64 s.width, .slice a1 n1 c1] 25)).alloc (.cells #[.int .i64 0, .slice none 0 0] 25) = W := ⟨_, rfl⟩
  have B0 : Below w.heap.size w W := by rw [← hW]; exact ((Below.refl _ _).alloc (Nat.le_refl _) _).alloc (by simp) _
  have L3 : W.heap[w.heap.size + 1]? = some (.cells #[.int .i64 0, .slice none 0 0] 25 (0, 0)) := by rw [← hW]; exact lies_new2 _ _
  have HW := Lib.hid hW
  have BB := Lib.hid B0
  have H3 := Lib.hid L3
  clear hW B0 L3 h
  go_enter Tryd.func20, Tryd.ntmps20
  go_wp2_with fail
  rw [show (w.alloc (.cells #[.int .i64 s.width, .slice a1 n1 c1] 25)).alloc (.cells #[.int .i64 0, .slice none 0 0] 25) = W from HW.out]
  refine (changed_any s b false _ _ (R1.out.below BB.out) (Nat.le_trans hbs BB.out.size)).mono ?_
  rintro e v ⟨u, rfl, hu, b1⟩
  obtain ⟨ua, un, uc, rfl⟩ := hu.shape
  obtain ⟨q, hq⟩ : ∃ q, chgS s b false = q := ⟨_, rfl⟩
  rw [hq] at hu ⊢
  have HU := Lib.hid hu
  have L3 := Lib.hid (lies_below H3.out b1 (lt_heap H3.out))
  have B1 := Lib.hid (BB.out.trans (b1.mono BB.out.size))
  have z0 := (lies_cells L3.out).1 0
  have z1 := (lies_cells L3.out).1 1
  have f0 := (lies_cells L3.out).2 0
  have f1 := (lies_cells L3.out).2 1
  simp only [List.getElem?_toArray, List.getElem?_cons_zero, List.getElem?_cons_succ] at z0 z1
  have hsz := lt_heap L3.out
  have hty : tyAt v (w.heap.size + 1) = some 25 := tyAt_of L3.out
  have HTY := Lib.hid hty
  have HQ := Lib.hid hq
  clear hu b1 hq hty
  go_wp2
  exact bodyPost_ret (v := .tuple #[setV q.1 (.slice ua un uc), .int .i64 q.2]) (by simp [results, Tryd.results20, go_sem, z0, z1]) rfl (by rw [HQ.out]; exact ⟨_, rfl, HU.out.keep (SameT.trans (SameT.setCell (U := 25) HTY.out (by decide)) (SameT.setCell (U := 25) ((tyAt_set _).trans HTY.out) (by decide))), (B1.out.setCell (p := ⟨w.heap.size + 1, 0, none⟩) (by show w.heap.size ≤ w.heap.size + 1; omega) _).setCell (p := ⟨w.heap.size + 1, 1, none⟩) (by show w.heap.size ≤ w.heap.size + 1; omega) _⟩)
end Go.Proofs.YtmanmlankfoflaaDoor
