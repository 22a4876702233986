/- Walk of the generator 'Program': the middle loop. Printed by wip/gen_prog2.py. -/
import Derived.Test.YtpnfdmajpkpjoaaDoorQGenP
import Derived.Test.YtpnfdmajpkpjoaaDoorQHold
set_option linter.unusedVariables false
set_option linter.unusedSimpArgs false
namespace Go.Proofs.YtpnfdmajpkpjoaaDoor
open Go.RowKit

/-- What the middle loop holds: block fb the drawn function: its name, its blocks so far. -/
structure In2 (B bt fb : Nat) (F K : Int) (w0 w : World) (name : Str) (l : List PBlock) : Prop where
  tape : TapeOk B w bt
  but : But bt w0 w
  ge : w0.heap.size ≤ fb
  lt : bt < w0.heap.size
  row : ∃ v xss, w.heap[fb]? = some (.cells #[sv name, v] 50 (0, 0)) ∧ w.ownsRow (fb + 1) 53 2 v l.length xss.flatten ∧ All2 (BlockCells w) xss l
  gen : ∀ k b, l[k]? = some b → GenBlock F K k b

theorem In2.call {B bt fb : Nat} {F K : Int} {w0 w w1 : World} {name : Str} {l : List PBlock} (h : In2 B bt fb F K w0 w name l) (ht : TapeOk B w1 bt) (hb' : But bt w w1) : In2 B bt fb F K w0 w1 name l := by
  obtain ⟨v, xss, h1, h2, h3⟩ := h.row
  have := h.lt
  have := h.ge
  exact ⟨ht, h.but.trans hb', h.ge, h.lt, ⟨v, xss, hb'.blk h1 (by omega), ownsRow_but h2 hb' (by omega), h3.mono fun _ _ => BlockCells.keep (SameT.but hb' (by rw [h.tape.ty]; decide)) (SameT.but hb' (by rw [h.tape.ty]; decide))⟩, h.gen⟩
theorem In2.alloc {B bt fb : Nat} {F K : Int} {w0 w : World} {name : Str} {l : List PBlock} (h : In2 B bt fb F K w0 w name l) (o : Obj) : In2 B bt fb F K w0 (w.alloc o) name l :=
  h.call (h.tape.alloc o) ((But.refl bt w).alloc o)
theorem In3.alloc {B bt bb : Nat} {F : Int} {w0 w : World} {name : Str} {l : List PStmt} (h : In3 B bt bb F w0 w name l) (o : Obj) : In3 B bt bb F w0 (w.alloc o) name l :=
  h.call (h.tape.alloc o) ((But.refl bt w).alloc o)

theorem set_one {w : World} {b : Nat} {a0 a1 : Value} {t : TypeId} {fr : Nat × Nat} (h : w.heap[b]? = some (.cells #[a0, a1] t fr)) (x : Value) :
    (w.setCell ⟨b, 1, none⟩ x).heap[b]? = some (.cells #[a0, x] t fr) := by
  simp [World.setCell, Array.getElem?_modify, h]
theorem In3.cells {B bt bb : Nat} {F : Int} {w0 w : World} {name : Str} {l : List PStmt} (h : In3 B bt bb F w0 w name l) {v : Value} {fr : Nat × Nat} (hb : w.heap[bb]? = some (.cells #[sv name, v] 53 fr)) :
    BlockCells w [sv name, v] ⟨name, l⟩ := by
  obtain ⟨v', xss, h1, h2, h3⟩ := h.row
  rw [h1] at hb
  injection hb with hb
  injection hb with hb _ _
  injection hb with hb
  injection hb with _ hb
  injection hb with hb _
  subst hb
  exact ⟨v', rfl, xss, SliceAt.of_owns h2, h3⟩
theorem In2.push {B bt fb : Nat} {F K : Int} {w0 w w1 : World} {name : Str} {l : List PBlock} (h : In2 B bt fb F K w0 w name l) (b : PBlock) (hgen : GenBlock F K l.length b) (cs : List Value) (hc : BlockCells w cs b)
    {v : Value} {xss : List (List Value)} (hb : w.heap[fb]? = some (.cells #[sv name, v] 50 (0, 0))) (hown : w.ownsRow (fb + 1) 53 2 v l.length xss.flatten) (hall : All2 (BlockCells w) xss l)
    {g cap : Nat} (hown1 : w1.ownsRow (fb + 1) 53 2 (.slice (some ⟨g, 0, none⟩) (l.length + 1) cap) (l.length + 1) (xss.flatten ++ cs)) (hg : w.grownBy w1 v.ownBlock) :
    In2 B bt fb F K w0 (w1.setCell ⟨fb, 1, none⟩ (.slice (some ⟨g, 0, none⟩) (l.length + 1) cap)) name (l ++ [b]) := by
  have hlt := h.lt
  have hge := h.ge
  have hbb := lt_heap hb
  have hbel : Below (fb + 1) w w1 := Below.of_grown hg hown hbb
  have hb1 : w1.heap[fb]? = some (.cells #[sv name, v] 50 (0, 0)) := (hbel.block fb (by omega)).trans hb
  have hS (T : TypeId) (h1 : T ≠ 53) (h2 : T ≠ 50) : SameT T w (w1.setCell ⟨fb, 1, none⟩ (.slice (some ⟨g, 0, none⟩) (l.length + 1) cap)) :=
    (SameT.grown hg hown h1).trans (SameT.setCell (U := 50) (tyAt_of hb1) h2)
  have h9 := hS 9 (by decide) (by decide)
  have h64 := hS 67 (by decide) (by decide)
  have hget := h.tape.ge
  refine ⟨?_, ?_, hge, hlt, ⟨.slice (some ⟨g, 0, none⟩) (l.length + 1) cap, xss ++ [cs], ?_, ?_, ?_⟩, ?_⟩
  · have t1 : TapeOk B w1 bt := h.tape.keep (hbel.block bt (by omega)) (fun k hk => hbel.block k (by omega)) hbel.size
    exact t1.setCell (by show fb ≠ bt; omega) (by show B ≤ fb; omega) _
  · exact (h.but.belowB hbel (by omega)).setCell _ (.inr hge) _
  · simp [World.setCell, Array.getElem?_modify, hb1]
  · rw [List.length_append, List.flatten_append]
    refine ownsRow_setCell_below ?_ (by show fb < fb + 1; omega) _
    simpa using hown1
  · exact All2.append (hall.mono fun _ _ => BlockCells.keep h9 h64) ⟨hc.keep h9 h64, trivial⟩
  · intro k x hx
    rcases Nat.lt_or_ge k l.length with hk | hk
    · rw [List.getElem?_append_left hk] at hx
      exact h.gen k x hx
    · rw [List.getElem?_append_right hk] at hx
      have : k = l.length := by
        rcases Nat.eq_or_lt_of_le hk with h | h
        · exact h.symm
        · rw [List.getElem?_eq_none (by simp; omega)] at hx; cases hx
      subst this
      simp at hx
      subst hx
      exact hgen

/-- The innermost loop's state with the row named. -/
structure Bun (B bt bb : Nat) (F : Int) (w0 w : World) (nm : Str) (st : List PStmt) (v : Value) (xss : List (List Value)) : Prop where
  in3 : In3 B bt bb F w0 w nm st
  hb : w.heap[bb]? = some (.cells #[sv nm, v] 53 (0, 0))
  ho : w.ownsRow (bb + 1) 67 4 v st.length xss.flatten
  ha : All2 (StmtCells w) xss st
theorem Bun.cell {B bt bb : Nat} {F : Int} {w0 w : World} {nm : Str} {st : List PStmt} {v : Value} {xss : List (List Value)} (h : Bun B bt bb F w0 w nm st v xss) : w.cell? ⟨bb, 1, none⟩ = some v := by
  have := (blk_cells h.hb).1 1
  simpa using this
theorem Bun.call {B bt bb : Nat} {F : Int} {w0 w w1 : World} {nm : Str} {st : List PStmt} {v : Value} {xss : List (List Value)} (h : Bun B bt bb F w0 w nm st v xss) (ht : TapeOk B w1 bt) (hb : But bt w w1) : Bun B bt bb F w0 w1 nm st v xss := by
  have := h.in3.lt
  have := h.in3.ge
  exact ⟨h.in3.call ht hb, hb.blk h.hb (by omega), ownsRow_but h.ho hb (by omega), h.ha.mono fun _ _ => StmtCells.keep (SameT.but hb (by rw [h.in3.tape.ty]; decide))⟩
theorem Bun.alloc {B bt bb : Nat} {F : Int} {w0 w : World} {nm : Str} {st : List PStmt} {v : Value} {xss : List (List Value)} (h : Bun B bt bb F w0 w nm st v xss) (o : Obj) : Bun B bt bb F w0 (w.alloc o) nm st v xss :=
  h.call (h.in3.tape.alloc o) ((But.refl bt w).alloc o)
theorem Bun.below {B bt bb : Nat} {F : Int} {w0 w w1 : World} {nm : Str} {st : List PStmt} {v : Value} {xss : List (List Value)} (h : Bun B bt bb F w0 w nm st v xss) (hb : Below w.heap.size w w1) : Bun B bt bb F w0 w1 nm st v xss :=
  h.call (h.in3.tape.below hb) ((But.refl bt w).below hb)
theorem SliceAt.newH {w : World} {T : TypeId} {sz : Nat} (xs : List Value) (n : Nat) (H : Nat) (hH : w.heap.size = H) (h : xs.length = n * sz) (hn : n ≤ maxLen) :
    SliceAt (w.alloc (.cells xs.toArray T)) T sz (.slice (some ⟨H, 0, none⟩) n n) xs := by
  subst hH; exact SliceAt.new xs n h hn

theorem branch_cells1 {wC : World} {us : Value} {vn : Str} (to to2 : Str) (hu : StrsAt wC us [vn]) :
    StmtCells (wC.alloc (.cells #[sv to, sv to2] 9)) [.int .i64 8, .string ⟨#[]⟩, us, .slice (some ⟨wC.heap.size, 0, none⟩) 2 2] ⟨8, [], [vn], [to, to2]⟩ :=
  ⟨_, _, rfl, hu.same SameT.alloc, SliceAt.new [sv to, sv to2] 2 rfl (by unfold maxLen; omega)⟩
theorem branch_cells2 (wC : World) (vn to to2 : Str) :
    StmtCells ((wC.alloc (.cells #[sv vn] 9)).alloc (.cells #[sv to, sv to2] 9)) [.int .i64 8, .string ⟨#[]⟩, .slice (some ⟨wC.heap.size, 0, none⟩) 1 1, .slice (some ⟨wC.heap.size + 1, 0, none⟩) 2 2] ⟨8, [], [vn], [to, to2]⟩ :=
  ⟨_, _, rfl, SliceAt.same (SliceAt.new [sv vn] 1 rfl (by unfold maxLen; omega)) SameT.alloc, SliceAt.newH [sv to, sv to2] 2 _ (by simp) rfl (by unfold maxLen; omega)⟩
theorem branch_cells3 (wC : World) (vn to to2 : Str) :
    StmtCells ((wC.alloc (.cells #[sv to, sv to2] 9)).alloc (.cells #[sv vn] 9)) [.int .i64 8, .string ⟨#[]⟩, .slice (some ⟨wC.heap.size + 1, 0, none⟩) 1 1, .slice (some ⟨wC.heap.size, 0, none⟩) 2 2] ⟨8, [], [vn], [to, to2]⟩ :=
  ⟨_, _, rfl, SliceAt.newH [sv vn] 1 _ (by simp) rfl (by unfold maxLen; omega), SliceAt.same (SliceAt.new [sv to, sv to2] 2 rfl (by unfold maxLen; omega)) SameT.alloc⟩

set_option maxRecDepth 100000 in
set_option maxHeartbeats 4000000 in
theorem prog_round2 {B bt fb R : Nat} {F : Int} {Kn : Nat} {w0 w : World} {name : Str} {l : List PBlock} (iv bp n : Value) (u : Nat → Value) (hF1 : 1 ≤ F) (hF3 : F ≤ 3) (hK : Kn ≤ 3) (h : In2 B bt fb F Kn w0 w name l) (hk : l.length < Kn) :
    progBody2.wp Tryd.prog (Exit.then (fun a' w' => (∃ b, a' = frP bt R F iv (.pointer (some ⟨fb, 0, none⟩)) (.int .i64 (Kn : Int)) (.int .i64 ((l.length + 1 : Nat) : Int)) (slots a' 9) (slots a' 10) (slots a') ∧ In2 B bt fb F Kn w0 w' name (l ++ [b]))) noWay)
      (frP bt R F iv (.pointer (some ⟨fb, 0, none⟩)) (.int .i64 (Kn : Int)) (.int .i64 (l.length : Int)) bp n u) w := by
  obtain ⟨kn, hkn⟩ : ∃ kn, l.length = kn := ⟨_, rfl⟩
  rw [hkn]
  have hk3 : kn < 3 := by omega
  have hkK : kn < Kn := by omega
  have Hkn := Lib.hid hkn
  have hlt := h.lt
  have H := Lib.hid h
  clear h hkn hk
  obtain ⟨nm, hnm⟩ : ∃ nm, blockNames[kn]? = some nm := by
    have : kn = 0 ∨ kn = 1 ∨ kn = 2 := by omega
    rcases this with rfl | rfl | rfl <;> exact ⟨_, rfl⟩
  have hcell : (#[sv [97], sv [98], sv [99]] : Array Value)[kn]? = some (sv nm) := by
    have : kn = 0 ∨ kn = 1 ∨ kn = 2 := by omega
    rcases this with rfl | rfl | rfl <;> (injection hnm with hnm; rw [← hnm]; rfl)
  have hc := (blk_cells (heap_alloc_new w (.cells #[sv [97], sv [98], sv [99]] 9))).1 kn
  rw [hcell] at hc
  have Hnm := Lib.hid hnm
  clear hnm hcell
  conv => arg 2; whnf
  unfold frP
  go_wp2_with fail
  refine (next_any ((H.out.tape.alloc _).alloc _) _ (by omega)).mono ?_
  rintro e w1 ⟨r, r0, r4, rfl, t1, b1⟩
  have I1 : Hid (In3 B bt (w.heap.size + 1) F w w1 nm []) := by
    have hlt2 := H.out.tape.lt
    refine ⟨t1, (((But.refl bt w).alloc _).alloc _).trans b1, by omega, hlt2, ⟨.slice none 0 0, [], ?_, World.ownsRow_nil _ _ _ _, trivial⟩⟩
    refine b1.blk ?_ (by omega)
    have := heap_alloc_new (w.alloc (.cells #[sv [97], sv [98], sv [99]] 9)) (.cells #[sv nm, .slice none 0 0] 53)
    rw [World.size_alloc] at this
    exact this
  have H1 : Hid (In2 B bt fb F Kn w0 w1 name l) := (((H.out.alloc _).alloc _).call t1 b1)
  clear t1 b1
  obtain ⟨m, rfl⟩ := Int.eq_ofNat_of_zero_le r0
  go_wp2_with fail
  rename_i K2 hK2
  refine prog_loop3' (iv := iv) (fp := .pointer (some ⟨fb, 0, none⟩)) (K := .int .i64 (Kn : Int)) (k := .int .i64 (kn : Int)) (m := m) hF1 hF3 I1.out (by show 0 + m ≤ 3; omega) (by simp) rfl ?_
  rintro a w2 ⟨st, ha, hI3, hl3, hgen⟩
  rw [ha]
  generalize slots a = u2
  refine hK2 _ _ ?_
  have hfw : fb < w.heap.size := by
    obtain ⟨v, xss, h1, _⟩ := H.out.row
    exact lt_heap h1
  have I3 := Lib.hid hI3
  have HGen := Lib.hid hgen
  clear ha hI3 hgen I1 H1 hc hK2
  unfold frP
  obtain ⟨bb, hbb⟩ : ∃ bb, w.heap.size + 1 = bb := ⟨_, rfl⟩
  rw [hbb] at I3 ⊢
  have hfb : fb < bb := by omega
  have Hbb := Lib.hid hbb
  clear hbb
  go_wp2_with fail
  refine (next_any I3.out.tape _ (by omega)).mono ?_
  rintro e w3 ⟨r, q1, q2, rfl, t3, b3⟩
  have I4 := Lib.hid (I3.out.call t3 b3)
  clear t3 b3 I3
  obtain ⟨rn, rfl⟩ := Int.eq_ofNat_of_zero_le q1
  go_wp2_with fail
  refine (func2_any rn (by omega) _).mono ?_
  rintro e w4 ⟨⟨to, hto, rfl⟩, b4⟩
  have I5 := Lib.hid (I4.out.call (I4.out.tape.below b4) ((But.refl bt w3).below b4))
  clear b4 I4
  have Hto := Lib.hid hto
  clear hto
  go_wp2_with fail
  refine (next_any I5.out.tape _ (by omega)).mono ?_
  rintro e w5 ⟨q, q3, q4, rfl, t5, b5⟩
  have I6 := Lib.hid (I5.out.call t5 b5)
  clear t5 b5 I5
  obtain ⟨v, xss, hb, hown, hall⟩ := I6.out.row
  obtain ⟨fv, fxss, hfbk, hfown, hfall⟩ := (H.out.call I6.out.tape I6.out.but).row
  have HB := Lib.hid hb
  have HO := Lib.hid hown
  have HA := Lib.hid hall
  have hc1 := (blk_cells hb).1 1
  have hf1 := (blk_cells hb).2 1
  simp at hc1
  have hsz := lt_heap hb
  have hlx : l.length ≤ 3 := by have := Hkn.out; omega
  clear hb hown hall hfbk hfown hfall
  have hq : q = 0 ∨ q = 1 ∨ q = 2 ∨ q = 3 := by omega
  clear q3 q4
  rcases hq with rfl | rfl | rfl | rfl
  · go_wp2_with (first
      | (at_builtin; refine wpList_pushH [.int .i64 9, .string ⟨#[]⟩, .slice none 0 0, .slice none 0 0] rfl _ _ 51 rfl (bb + 1) 67 _ 4 72 Tryd.underlying51 infoStmt rfl (by omega) _ _ _ HO.out rfl _ rfl (by simp) rfl rfl (by unfold maxLen; omega) (by omega) (by omega) ?_; intro g cap w6 hown1 hg1 hg2 hg3; have hbl := Below.of_grown hg1 HO.out (by omega); have I7 := Lib.hid (I6.out.push ⟨9, [], [], []⟩ _ ⟨_, _, rfl, SliceAt.nil, SliceAt.nil⟩ HB.out HO.out HA.out hown1 hg1); obtain ⟨fv, fxss, hfbk, hfown, hfall⟩ := (H.out.call I7.out.tape I7.out.but).row; have hf6 := (Below.heap_setCell w6 ⟨bb, 1, none⟩ _ fb (by show fb ≠ bb; omega)).symm.trans hfbk; have hb6 := (hbl.block bb (by omega)).trans HB.out; have c0 := (blk_cells hb6).1 0; have c1 := (blk_cells hb6).1 1; have d0 := (blk_cells hb6).2 0; have d1 := (blk_cells hb6).2 1; have k1 := (blk_cells hf6).1 1; have k2 := (blk_cells hf6).2 1; simp only [List.getElem?_toArray, List.getElem?_cons_succ, List.getElem?_cons_zero] at c0 c1 k1; have HBC := Lib.hid (I7.out.cells (set_one hb6 _)); have HF7 := Lib.hid hfown; have HF8 := Lib.hid hfbk; have HF9 := Lib.hid hfall; have hne : ¬ fb = bb := (by omega); clear hown1 hg1 hbl hfbk hfown hfall hf6 hb6)
      | (at_builtin; refine wpList_pushH _ rfl _ _ 48 rfl (fb + 1) 53 _ 2 40 Tryd.underlying48 infoBlock rfl (by omega) _ _ _ HF7.out rfl _ rfl (by simp) rfl rfl (by unfold maxLen; omega) (by omega) (by have := HF8.out; have := lt_heap this; omega) ?_; intro g2 cap2 w8 hown8 hg8 hg9 hg10; have hb8 := Below.of_grown hg8 HF7.out (by have := HF8.out; have := lt_heap this; omega); have e1 := (blk_cells ((hb8.block fb (by omega)).trans HF8.out)).1 1; have e2 := (blk_cells ((hb8.block fb (by omega)).trans HF8.out)).2 1; simp only [List.getElem?_toArray, List.getElem?_cons_succ, List.getElem?_cons_zero] at e1; have J2 := Lib.hid hown8; have J3 := Lib.hid hg8; clear hown8 hg8 hb8)
      | fail)
    have hfin := Lib.hid ((H.out.call I7.out.tape I7.out.but).push _ (by rw [Hkn.out]; exact ⟨Hnm.out, st, _, rfl, hl3, HGen.out, .inl ⟨rfl, rfl, rfl, rfl⟩⟩) _ HBC.out HF8.out HF7.out HF9.out J2.out J3.out)
    go_wp2
    try simp only [Exit.then]
    exact ⟨_, rfl, hfin.out⟩
  · go_wp2_with (first
      | (at_builtin; refine wpList_pushH [.int .i64 7, .string ⟨#[]⟩, .slice none 0 0, .slice (some ⟨w5.heap.size, 0, none⟩) 1 1] rfl _ _ 51 rfl (bb + 1) 67 _ 4 72 Tryd.underlying51 infoStmt rfl (by omega) _ _ _ (HO.out.alloc _) rfl _ rfl (by simp) rfl rfl (by unfold maxLen; omega) (by omega) (by simp; omega) ?_; intro g cap w6 hown1 hg1 hg2 hg3; have hbl := Below.of_grown hg1 (HO.out.alloc _) (by simp; omega); have I7 := Lib.hid ((I6.out.alloc _).push ⟨7, [], [], [to]⟩ _ ⟨_, _, rfl, SliceAt.nil, SliceAt.new [sv to] 1 rfl (by unfold maxLen; omega)⟩ (alloc_blk _ HB.out) (HO.out.alloc _) (HA.out.mono fun _ _ => StmtCells.keep SameT.alloc) hown1 hg1); obtain ⟨fv, fxss, hfbk, hfown, hfall⟩ := (H.out.call I7.out.tape I7.out.but).row; have hf6 := (Below.heap_setCell w6 ⟨bb, 1, none⟩ _ fb (by show fb ≠ bb; omega)).symm.trans hfbk; have hb6 := (hbl.block bb (by omega)).trans (alloc_blk _ HB.out); have c0 := (blk_cells hb6).1 0; have c1 := (blk_cells hb6).1 1; have d0 := (blk_cells hb6).2 0; have d1 := (blk_cells hb6).2 1; have k1 := (blk_cells hf6).1 1; have k2 := (blk_cells hf6).2 1; simp only [List.getElem?_toArray, List.getElem?_cons_succ, List.getElem?_cons_zero] at c0 c1 k1; have HBC := Lib.hid (I7.out.cells (set_one hb6 _)); have HF7 := Lib.hid hfown; have HF8 := Lib.hid hfbk; have HF9 := Lib.hid hfall; have hne : ¬ fb = bb := (by omega); clear hown1 hg1 hbl hfbk hfown hfall hf6 hb6)
      | (at_builtin; refine wpList_pushH _ rfl _ _ 48 rfl (fb + 1) 53 _ 2 40 Tryd.underlying48 infoBlock rfl (by omega) _ _ _ HF7.out rfl _ rfl (by simp) rfl rfl (by unfold maxLen; omega) (by omega) (by have := HF8.out; have := lt_heap this; omega) ?_; intro g2 cap2 w8 hown8 hg8 hg9 hg10; have hb8 := Below.of_grown hg8 HF7.out (by have := HF8.out; have := lt_heap this; omega); have e1 := (blk_cells ((hb8.block fb (by omega)).trans HF8.out)).1 1; have e2 := (blk_cells ((hb8.block fb (by omega)).trans HF8.out)).2 1; simp only [List.getElem?_toArray, List.getElem?_cons_succ, List.getElem?_cons_zero] at e1; have J2 := Lib.hid hown8; have J3 := Lib.hid hg8; clear hown8 hg8 hb8)
      | fail)
    have hfin := Lib.hid ((H.out.call I7.out.tape I7.out.but).push _ (by rw [Hkn.out]; exact ⟨Hnm.out, st, _, rfl, hl3, HGen.out, .inr (.inl ⟨rfl, rfl, rfl, rn, by omega, to, Hto.out, rfl⟩)⟩) _ HBC.out HF8.out HF7.out HF9.out J2.out J3.out)
    go_wp2
    try simp only [Exit.then]
    exact ⟨_, rfl, hfin.out⟩
  · have BU := Lib.hid (show Bun B bt bb F w w5 nm st v xss from ⟨I6.out, HB.out, HO.out, HA.out⟩)
    clear HB HO HA I6
    go_wp2_with fail
    refine wp_region_T (S := fun w' => w'.cell? ⟨bb, 1, none⟩ = some v) (st := 15) (by kernel_rfl) ?_
    refine wpAnyT_pure 0 ?v1 rfl (by kernel_rfl) (by kernel_rfl) (by kernel_rfl) (by kernel_rfl) (fun _ _ _ h => h) BU.out.cell rfl ?run1 ?rest1
    case run1 => intro w hS; go_simp; rfl
    case rest1 =>
      refine wpAnyT_pure 1 ?v2 rfl (by kernel_rfl) (by kernel_rfl) (by kernel_rfl) (by kernel_rfl) (fun _ _ _ h => h) BU.out.cell rfl ?run2 ?rest2
      case run2 => intro w hS; go_simp; rfl
      case rest2 =>
        refine wpAnyT_pure 2 ?v3 rfl (by kernel_rfl) (by kernel_rfl) (by kernel_rfl) (by kernel_rfl) (fun _ _ _ h => h) BU.out.cell rfl ?run3 ?rest3
        case run3 => intro w hS; go_simp; rfl
        case rest3 =>
          refine wpAnyT_pure 5 ?v4 rfl (by kernel_rfl) (by kernel_rfl) (by kernel_rfl) (by kernel_rfl) (fun _ _ _ h => h) BU.out.cell rfl ?run4 ?rest4
          case run4 => intro w hS; go_simp; rfl
          case rest4 =>
            refine wpAnyT_pure 6 ?v5 rfl (by kernel_rfl) (by kernel_rfl) (by kernel_rfl) (by kernel_rfl) (fun _ _ _ h => h) BU.out.cell rfl ?run5 ?rest5
            case run5 => intro w hS; go_simp; rfl
            case rest5 =>
              refine wpAnyT_pure 7 ?v6 rfl (by kernel_rfl) (by kernel_rfl) (by kernel_rfl) (by kernel_rfl) (fun _ _ _ h => h) BU.out.cell rfl ?run6 ?rest6
              case run6 => intro w hS; go_simp; rfl
              case rest6 =>
                refine wpAnyT_all (rs := [3]) (by kernel_rfl) (by decide) ?_
                intro i hi
                obtain rfl : i = 3 := by simpa using hi
                clear hi
                refine wpOp_of_list rfl ?_
                go_wp2_with fail
                refine (name_any (BU.out.in3.tape.drewN 1)).mono ?_
                rintro e wA ⟨vn, hvn, rfl, tA, bA⟩
                have IA := Lib.hid (BU.out.call tA (But.undrew bA))
                clear tA bA
                go_wp2
                refine ⟨fun _ => (IA.out).cell, ?_⟩
                refine wpAnyT_all (rs := [4, 8]) (by kernel_rfl) (by decide) ?_
                intro i hi
                have hi2 : i = 4 ∨ i = 8 := by simpa using hi
                clear hi
                rcases hi2 with rfl | rfl
                · skip
                  refine wpOp_of_list rfl ?_
                  go_wp2
                  have UU : Hid (StrsAt (wA.alloc (.cells #[sv vn] 9)) (.slice (some ⟨wA.heap.size, 0, none⟩) 1 1) [vn]) := SliceAt.newH [sv vn] 1 _ (by simp) rfl (by unfold maxLen; omega)
                  refine ⟨fun _ => ((IA.out.alloc (.cells #[sv vn] 9))).cell, ?_⟩
                  refine wpAnyT_all (rs := [8]) (by kernel_rfl) (by decide) ?_
                  intro i hi
                  obtain rfl : i = 8 := by simpa using hi
                  clear hi
                  refine wpOp_of_list rfl ?_
                  go_wp2_with fail
                  refine (next_any ((IA.out.alloc (.cells #[sv vn] 9))).in3.tape _ (by omega)).mono ?_
                  rintro e wB ⟨rB, p1, p2, rfl, tB, bB⟩
                  have IB := Lib.hid (((IA.out.alloc (.cells #[sv vn] 9))).call tB bB)
                  have UB := Lib.hid (SliceAt.same (UU.out) (SameT.but bB (by rw [((IA.out.alloc (.cells #[sv vn] 9))).in3.tape.ty]; decide)))
                  clear tB bB
                  obtain ⟨rb, rfl⟩ := Int.eq_ofNat_of_zero_le p1
                  go_wp2
                  refine ⟨fun _ => (IB.out).cell, ?_⟩
                  refine wpAnyT_all (rs := [9]) (by kernel_rfl) (by decide) ?_
                  intro i hi
                  obtain rfl : i = 9 := by simpa using hi
                  clear hi
                  refine wpOp_of_list rfl ?_
                  go_wp2_with fail
                  refine (func2_any rb (by omega) _).mono ?_
                  rintro e wC ⟨⟨to2, hto2, rfl⟩, bC⟩
                  have IC := Lib.hid ((IB.out).below bC)
                  have UC := Lib.hid (SliceAt.same (UB.out) (SameT.below bC))
                  have Hto2 := Lib.hid hto2
                  clear bC hto2
                  go_wp2
                  refine ⟨fun _ => (IC.out).cell, ?_⟩
                  refine wpAnyT_all (rs := [10]) (by kernel_rfl) (by decide) ?_
                  intro i hi
                  obtain rfl : i = 10 := by simpa using hi
                  clear hi
                  refine wpOp_of_list rfl ?_
                  go_wp2
                  have TT : Hid (StrsAt (wC.alloc (.cells #[sv to, sv to2] 9)) (.slice (some ⟨wC.heap.size, 0, none⟩) 2 2) [to, to2]) := SliceAt.newH [sv to, sv to2] 2 _ (by simp) rfl (by unfold maxLen; omega)
                  refine ⟨fun _ => ((IC.out.alloc (.cells #[sv to, sv to2] 9))).cell, ?_⟩
                  refine wpAnyT_pure 11 ?v7 rfl (by kernel_rfl) (by kernel_rfl) (by kernel_rfl) (by kernel_rfl) (fun _ _ _ h => h) ((IC.out.alloc (.cells #[sv to, sv to2] 9))).cell rfl ?run7 ?rest7
                  case run7 => intro w hS; go_simp; rfl
                  case rest7 =>
                    refine wpAnyT_all (rs := [12]) (by kernel_rfl) (by decide) ?_
                    intro i hi
                    obtain rfl : i = 12 := by simpa using hi
                    clear hi
                    refine wpOp_of_list rfl ?_
                    go_wp2
                    refine ⟨fun _ => ((IC.out.alloc (.cells #[sv to, sv to2] 9)).alloc _).cell, ?_⟩
                    refine wpAnyT_all (rs := [13]) (by kernel_rfl) (by decide) ?_
                    intro i hi
                    obtain rfl : i = 13 := by simpa using hi
                    clear hi
                    refine wpOp_of_list rfl ?_
                    (refine wpList_pushH _ rfl _ _ 51 rfl (bb + 1) 67 _ 4 72 Tryd.underlying51 infoStmt rfl (by omega) v st.length xss.flatten ((IC.out.alloc (.cells #[sv to, sv to2] 9))).ho rfl _ rfl (by simp) rfl rfl (by unfold maxLen; omega) (by omega) (by have := lt_heap ((IC.out.alloc (.cells #[sv to, sv to2] 9))).hb; omega) ?_; intro g cap w6 hown1 hg1 hg2 hg3; have BW := Lib.hid ((IC.out.alloc (.cells #[sv to, sv to2] 9))); have CS := Lib.hid (show StmtCells (wC.alloc (.cells #[sv to, sv to2] 9)) _ ⟨8, [], [vn], [to, to2]⟩ from ⟨_, _, rfl, (SliceAt.same (UC.out) SameT.alloc), TT.out⟩); have I7 := Lib.hid (BW.out.in3.push _ _ CS.out BW.out.hb BW.out.ho BW.out.ha hown1 hg1); have hbl := Below.of_grown hg1 BW.out.ho (lt_heap BW.out.hb); obtain ⟨fv, fxss, hfbk, hfown, hfall⟩ := (H.out.call I7.out.tape I7.out.but).row; have hf6 := (Below.heap_setCell w6 ⟨bb, 1, none⟩ _ fb (by show fb ≠ bb; omega)).symm.trans hfbk; have hb6 := (hbl.block bb (by omega)).trans BW.out.hb; have c0 := (blk_cells hb6).1 0; have c1 := (blk_cells hb6).1 1; have d0 := (blk_cells hb6).2 0; have d1 := (blk_cells hb6).2 1; have k1 := (blk_cells hf6).1 1; have k2 := (blk_cells hf6).2 1; simp only [List.getElem?_toArray, List.getElem?_cons_succ, List.getElem?_cons_zero] at c0 c1 k1; have HBC := Lib.hid (I7.out.cells (set_one hb6 _)); have HF7 := Lib.hid hfown; have HF8 := Lib.hid hfbk; have HF9 := Lib.hid hfall; have hne : ¬ fb = bb := (by omega); clear hown1 hg1 hbl hfbk hfown hfall hf6 hb6)
                    go_wp2
                    refine wpAnyT_pure 14 ?v8 rfl (by kernel_rfl) (by kernel_rfl) (by kernel_rfl) (by kernel_rfl) (fun _ _ _ h => h) c1 rfl ?run8 ?rest8
                    case run8 => intro w hS; go_simp; rfl
                    case rest8 =>
                      refine wpAnyT_all (rs := [15]) (by kernel_rfl) (by decide) ?_
                      intro i hi
                      obtain rfl : i = 15 := by simpa using hi
                      clear hi
                      refine wpOp_of_list rfl ?_
                      go_wp2
                      refine ⟨fun h => absurd rfl h, ?_⟩
                      refine wpAnyT_done (by kernel_rfl) ?_ _
                      go_wp2_with (first | (at_builtin; refine wpList_pushH _ rfl _ _ 48 rfl (fb + 1) 53 _ 2 40 Tryd.underlying48 infoBlock rfl (by omega) _ _ _ HF7.out rfl _ rfl (by simp) rfl rfl (by unfold maxLen; omega) (by omega) (by have := HF8.out; have := lt_heap this; omega) ?_; intro g2 cap2 w8 hown8 hg8 hg9 hg10; have hb8 := Below.of_grown hg8 HF7.out (by have := HF8.out; have := lt_heap this; omega); have e1 := (blk_cells ((hb8.block fb (by omega)).trans HF8.out)).1 1; have e2 := (blk_cells ((hb8.block fb (by omega)).trans HF8.out)).2 1; simp only [List.getElem?_toArray, List.getElem?_cons_succ, List.getElem?_cons_zero] at e1; have J2 := Lib.hid hown8; have J3 := Lib.hid hg8; clear hown8 hg8 hb8) | fail)
                      have hfin := Lib.hid ((H.out.call I7.out.tape I7.out.but).push _ (by rw [Hkn.out]; exact ⟨Hnm.out, st, _, rfl, hl3, HGen.out, .inr (.inr ⟨rfl, rfl, ⟨vn, hvn, rfl⟩, rn, rb, by omega, by omega, to, to2, Hto.out, Hto2.out, rfl⟩)⟩) _ HBC.out HF8.out HF7.out HF9.out J2.out J3.out)
                      go_wp2
                      try simp only [Exit.then]
                      exact ⟨_, rfl, hfin.out⟩
                · skip
                  refine wpOp_of_list rfl ?_
                  go_wp2_with fail
                  refine (next_any (IA.out).in3.tape _ (by omega)).mono ?_
                  rintro e wB ⟨rB, p1, p2, rfl, tB, bB⟩
                  have IB := Lib.hid ((IA.out).call tB bB)
                  clear tB bB
                  obtain ⟨rb, rfl⟩ := Int.eq_ofNat_of_zero_le p1
                  go_wp2
                  refine ⟨fun _ => (IB.out).cell, ?_⟩
                  refine wpAnyT_all (rs := [4, 9]) (by kernel_rfl) (by decide) ?_
                  intro i hi
                  have hi2 : i = 4 ∨ i = 9 := by simpa using hi
                  clear hi
                  rcases hi2 with rfl | rfl
                  · skip
                    refine wpOp_of_list rfl ?_
                    go_wp2
                    have UU : Hid (StrsAt (wB.alloc (.cells #[sv vn] 9)) (.slice (some ⟨wB.heap.size, 0, none⟩) 1 1) [vn]) := SliceAt.newH [sv vn] 1 _ (by simp) rfl (by unfold maxLen; omega)
                    refine ⟨fun _ => ((IB.out.alloc (.cells #[sv vn] 9))).cell, ?_⟩
                    refine wpAnyT_all (rs := [9]) (by kernel_rfl) (by decide) ?_
                    intro i hi
                    obtain rfl : i = 9 := by simpa using hi
                    clear hi
                    refine wpOp_of_list rfl ?_
                    go_wp2_with fail
                    refine (func2_any rb (by omega) _).mono ?_
                    rintro e wC ⟨⟨to2, hto2, rfl⟩, bC⟩
                    have IC := Lib.hid (((IB.out.alloc (.cells #[sv vn] 9))).below bC)
                    have UC := Lib.hid (SliceAt.same (UU.out) (SameT.below bC))
                    have Hto2 := Lib.hid hto2
                    clear bC hto2
                    go_wp2
                    refine ⟨fun _ => (IC.out).cell, ?_⟩
                    refine wpAnyT_all (rs := [10]) (by kernel_rfl) (by decide) ?_
                    intro i hi
                    obtain rfl : i = 10 := by simpa using hi
                    clear hi
                    refine wpOp_of_list rfl ?_
                    go_wp2
                    have TT : Hid (StrsAt (wC.alloc (.cells #[sv to, sv to2] 9)) (.slice (some ⟨wC.heap.size, 0, none⟩) 2 2) [to, to2]) := SliceAt.newH [sv to, sv to2] 2 _ (by simp) rfl (by unfold maxLen; omega)
                    refine ⟨fun _ => ((IC.out.alloc (.cells #[sv to, sv to2] 9))).cell, ?_⟩
                    refine wpAnyT_pure 11 ?v9 rfl (by kernel_rfl) (by kernel_rfl) (by kernel_rfl) (by kernel_rfl) (fun _ _ _ h => h) ((IC.out.alloc (.cells #[sv to, sv to2] 9))).cell rfl ?run9 ?rest9
                    case run9 => intro w hS; go_simp; rfl
                    case rest9 =>
                      refine wpAnyT_all (rs := [12]) (by kernel_rfl) (by decide) ?_
                      intro i hi
                      obtain rfl : i = 12 := by simpa using hi
                      clear hi
                      refine wpOp_of_list rfl ?_
                      go_wp2
                      refine ⟨fun _ => ((IC.out.alloc (.cells #[sv to, sv to2] 9)).alloc _).cell, ?_⟩
                      refine wpAnyT_all (rs := [13]) (by kernel_rfl) (by decide) ?_
                      intro i hi
                      obtain rfl : i = 13 := by simpa using hi
                      clear hi
                      refine wpOp_of_list rfl ?_
                      (refine wpList_pushH _ rfl _ _ 51 rfl (bb + 1) 67 _ 4 72 Tryd.underlying51 infoStmt rfl (by omega) v st.length xss.flatten ((IC.out.alloc (.cells #[sv to, sv to2] 9))).ho rfl _ rfl (by simp) rfl rfl (by unfold maxLen; omega) (by omega) (by have := lt_heap ((IC.out.alloc (.cells #[sv to, sv to2] 9))).hb; omega) ?_; intro g cap w6 hown1 hg1 hg2 hg3; have BW := Lib.hid ((IC.out.alloc (.cells #[sv to, sv to2] 9))); have CS := Lib.hid (show StmtCells (wC.alloc (.cells #[sv to, sv to2] 9)) _ ⟨8, [], [vn], [to, to2]⟩ from ⟨_, _, rfl, (SliceAt.same (UC.out) SameT.alloc), TT.out⟩); have I7 := Lib.hid (BW.out.in3.push _ _ CS.out BW.out.hb BW.out.ho BW.out.ha hown1 hg1); have hbl := Below.of_grown hg1 BW.out.ho (lt_heap BW.out.hb); obtain ⟨fv, fxss, hfbk, hfown, hfall⟩ := (H.out.call I7.out.tape I7.out.but).row; have hf6 := (Below.heap_setCell w6 ⟨bb, 1, none⟩ _ fb (by show fb ≠ bb; omega)).symm.trans hfbk; have hb6 := (hbl.block bb (by omega)).trans BW.out.hb; have c0 := (blk_cells hb6).1 0; have c1 := (blk_cells hb6).1 1; have d0 := (blk_cells hb6).2 0; have d1 := (blk_cells hb6).2 1; have k1 := (blk_cells hf6).1 1; have k2 := (blk_cells hf6).2 1; simp only [List.getElem?_toArray, List.getElem?_cons_succ, List.getElem?_cons_zero] at c0 c1 k1; have HBC := Lib.hid (I7.out.cells (set_one hb6 _)); have HF7 := Lib.hid hfown; have HF8 := Lib.hid hfbk; have HF9 := Lib.hid hfall; have hne : ¬ fb = bb := (by omega); clear hown1 hg1 hbl hfbk hfown hfall hf6 hb6)
                      go_wp2
                      refine wpAnyT_pure 14 ?v10 rfl (by kernel_rfl) (by kernel_rfl) (by kernel_rfl) (by kernel_rfl) (fun _ _ _ h => h) c1 rfl ?run10 ?rest10
                      case run10 => intro w hS; go_simp; rfl
                      case rest10 =>
                        refine wpAnyT_all (rs := [15]) (by kernel_rfl) (by decide) ?_
                        intro i hi
                        obtain rfl : i = 15 := by simpa using hi
                        clear hi
                        refine wpOp_of_list rfl ?_
                        go_wp2
                        refine ⟨fun h => absurd rfl h, ?_⟩
                        refine wpAnyT_done (by kernel_rfl) ?_ _
                        go_wp2_with (first | (at_builtin; refine wpList_pushH _ rfl _ _ 48 rfl (fb + 1) 53 _ 2 40 Tryd.underlying48 infoBlock rfl (by omega) _ _ _ HF7.out rfl _ rfl (by simp) rfl rfl (by unfold maxLen; omega) (by omega) (by have := HF8.out; have := lt_heap this; omega) ?_; intro g2 cap2 w8 hown8 hg8 hg9 hg10; have hb8 := Below.of_grown hg8 HF7.out (by have := HF8.out; have := lt_heap this; omega); have e1 := (blk_cells ((hb8.block fb (by omega)).trans HF8.out)).1 1; have e2 := (blk_cells ((hb8.block fb (by omega)).trans HF8.out)).2 1; simp only [List.getElem?_toArray, List.getElem?_cons_succ, List.getElem?_cons_zero] at e1; have J2 := Lib.hid hown8; have J3 := Lib.hid hg8; clear hown8 hg8 hb8) | fail)
                        have hfin := Lib.hid ((H.out.call I7.out.tape I7.out.but).push _ (by rw [Hkn.out]; exact ⟨Hnm.out, st, _, rfl, hl3, HGen.out, .inr (.inr ⟨rfl, rfl, ⟨vn, hvn, rfl⟩, rn, rb, by omega, by omega, to, to2, Hto.out, Hto2.out, rfl⟩)⟩) _ HBC.out HF8.out HF7.out HF9.out J2.out J3.out)
                        go_wp2
                        try simp only [Exit.then]
                        exact ⟨_, rfl, hfin.out⟩
                  · skip
                    refine wpOp_of_list rfl ?_
                    go_wp2_with fail
                    refine (func2_any rb (by omega) _).mono ?_
                    rintro e wC ⟨⟨to2, hto2, rfl⟩, bC⟩
                    have IC := Lib.hid ((IB.out).below bC)
                    have Hto2 := Lib.hid hto2
                    clear bC hto2
                    go_wp2
                    refine ⟨fun _ => (IC.out).cell, ?_⟩
                    refine wpAnyT_all (rs := [4, 10]) (by kernel_rfl) (by decide) ?_
                    intro i hi
                    have hi2 : i = 4 ∨ i = 10 := by simpa using hi
                    clear hi
                    rcases hi2 with rfl | rfl
                    · skip
                      refine wpOp_of_list rfl ?_
                      go_wp2
                      have UU : Hid (StrsAt (wC.alloc (.cells #[sv vn] 9)) (.slice (some ⟨wC.heap.size, 0, none⟩) 1 1) [vn]) := SliceAt.newH [sv vn] 1 _ (by simp) rfl (by unfold maxLen; omega)
                      refine ⟨fun _ => ((IC.out.alloc (.cells #[sv vn] 9))).cell, ?_⟩
                      refine wpAnyT_all (rs := [10]) (by kernel_rfl) (by decide) ?_
                      intro i hi
                      obtain rfl : i = 10 := by simpa using hi
                      clear hi
                      refine wpOp_of_list rfl ?_
                      go_wp2
                      have TT : Hid (StrsAt ((wC.alloc (.cells #[sv vn] 9)).alloc (.cells #[sv to, sv to2] 9)) (.slice (some ⟨wC.heap.size + 1, 0, none⟩) 2 2) [to, to2]) := SliceAt.newH [sv to, sv to2] 2 _ (by simp) rfl (by unfold maxLen; omega)
                      refine ⟨fun _ => (((IC.out.alloc (.cells #[sv vn] 9)).alloc (.cells #[sv to, sv to2] 9))).cell, ?_⟩
                      refine wpAnyT_pure 11 ?v11 rfl (by kernel_rfl) (by kernel_rfl) (by kernel_rfl) (by kernel_rfl) (fun _ _ _ h => h) (((IC.out.alloc (.cells #[sv vn] 9)).alloc (.cells #[sv to, sv to2] 9))).cell rfl ?run11 ?rest11
                      case run11 => intro w hS; go_simp; rfl
                      case rest11 =>
                        refine wpAnyT_all (rs := [12]) (by kernel_rfl) (by decide) ?_
                        intro i hi
                        obtain rfl : i = 12 := by simpa using hi
                        clear hi
                        refine wpOp_of_list rfl ?_
                        go_wp2
                        refine ⟨fun _ => (((IC.out.alloc (.cells #[sv vn] 9)).alloc (.cells #[sv to, sv to2] 9)).alloc _).cell, ?_⟩
                        refine wpAnyT_all (rs := [13]) (by kernel_rfl) (by decide) ?_
                        intro i hi
                        obtain rfl : i = 13 := by simpa using hi
                        clear hi
                        refine wpOp_of_list rfl ?_
                        (refine wpList_pushH _ rfl _ _ 51 rfl (bb + 1) 67 _ 4 72 Tryd.underlying51 infoStmt rfl (by omega) v st.length xss.flatten (((IC.out.alloc (.cells #[sv vn] 9)).alloc (.cells #[sv to, sv to2] 9))).ho rfl _ rfl (by simp) rfl rfl (by unfold maxLen; omega) (by omega) (by have := lt_heap (((IC.out.alloc (.cells #[sv vn] 9)).alloc (.cells #[sv to, sv to2] 9))).hb; omega) ?_; intro g cap w6 hown1 hg1 hg2 hg3; have BW := Lib.hid (((IC.out.alloc (.cells #[sv vn] 9)).alloc (.cells #[sv to, sv to2] 9))); have CS := Lib.hid (show StmtCells ((wC.alloc (.cells #[sv vn] 9)).alloc (.cells #[sv to, sv to2] 9)) _ ⟨8, [], [vn], [to, to2]⟩ from ⟨_, _, rfl, (SliceAt.same (UU.out) SameT.alloc), TT.out⟩); have I7 := Lib.hid (BW.out.in3.push _ _ CS.out BW.out.hb BW.out.ho BW.out.ha hown1 hg1); have hbl := Below.of_grown hg1 BW.out.ho (lt_heap BW.out.hb); obtain ⟨fv, fxss, hfbk, hfown, hfall⟩ := (H.out.call I7.out.tape I7.out.but).row; have hf6 := (Below.heap_setCell w6 ⟨bb, 1, none⟩ _ fb (by show fb ≠ bb; omega)).symm.trans hfbk; have hb6 := (hbl.block bb (by omega)).trans BW.out.hb; have c0 := (blk_cells hb6).1 0; have c1 := (blk_cells hb6).1 1; have d0 := (blk_cells hb6).2 0; have d1 := (blk_cells hb6).2 1; have k1 := (blk_cells hf6).1 1; have k2 := (blk_cells hf6).2 1; simp only [List.getElem?_toArray, List.getElem?_cons_succ, List.getElem?_cons_zero] at c0 c1 k1; have HBC := Lib.hid (I7.out.cells (set_one hb6 _)); have HF7 := Lib.hid hfown; have HF8 := Lib.hid hfbk; have HF9 := Lib.hid hfall; have hne : ¬ fb = bb := (by omega); clear hown1 hg1 hbl hfbk hfown hfall hf6 hb6)
                        go_wp2
                        refine wpAnyT_pure 14 ?v12 rfl (by kernel_rfl) (by kernel_rfl) (by kernel_rfl) (by kernel_rfl) (fun _ _ _ h => h) c1 rfl ?run12 ?rest12
                        case run12 => intro w hS; go_simp; rfl
                        case rest12 =>
                          refine wpAnyT_all (rs := [15]) (by kernel_rfl) (by decide) ?_
                          intro i hi
                          obtain rfl : i = 15 := by simpa using hi
                          clear hi
                          refine wpOp_of_list rfl ?_
                          go_wp2
                          refine ⟨fun h => absurd rfl h, ?_⟩
                          refine wpAnyT_done (by kernel_rfl) ?_ _
                          go_wp2_with (first | (at_builtin; refine wpList_pushH _ rfl _ _ 48 rfl (fb + 1) 53 _ 2 40 Tryd.underlying48 infoBlock rfl (by omega) _ _ _ HF7.out rfl _ rfl (by simp) rfl rfl (by unfold maxLen; omega) (by omega) (by have := HF8.out; have := lt_heap this; omega) ?_; intro g2 cap2 w8 hown8 hg8 hg9 hg10; have hb8 := Below.of_grown hg8 HF7.out (by have := HF8.out; have := lt_heap this; omega); have e1 := (blk_cells ((hb8.block fb (by omega)).trans HF8.out)).1 1; have e2 := (blk_cells ((hb8.block fb (by omega)).trans HF8.out)).2 1; simp only [List.getElem?_toArray, List.getElem?_cons_succ, List.getElem?_cons_zero] at e1; have J2 := Lib.hid hown8; have J3 := Lib.hid hg8; clear hown8 hg8 hb8) | fail)
                          have hfin := Lib.hid ((H.out.call I7.out.tape I7.out.but).push _ (by rw [Hkn.out]; exact ⟨Hnm.out, st, _, rfl, hl3, HGen.out, .inr (.inr ⟨rfl, rfl, ⟨vn, hvn, rfl⟩, rn, rb, by omega, by omega, to, to2, Hto.out, Hto2.out, rfl⟩)⟩) _ HBC.out HF8.out HF7.out HF9.out J2.out J3.out)
                          go_wp2
                          try simp only [Exit.then]
                          exact ⟨_, rfl, hfin.out⟩
                    · skip
                      refine wpOp_of_list rfl ?_
                      go_wp2
                      have TT : Hid (StrsAt (wC.alloc (.cells #[sv to, sv to2] 9)) (.slice (some ⟨wC.heap.size, 0, none⟩) 2 2) [to, to2]) := SliceAt.newH [sv to, sv to2] 2 _ (by simp) rfl (by unfold maxLen; omega)
                      refine ⟨fun _ => ((IC.out.alloc (.cells #[sv to, sv to2] 9))).cell, ?_⟩
                      refine wpAnyT_all (rs := [4]) (by kernel_rfl) (by decide) ?_
                      intro i hi
                      obtain rfl : i = 4 := by simpa using hi
                      clear hi
                      refine wpOp_of_list rfl ?_
                      go_wp2
                      have UU : Hid (StrsAt ((wC.alloc (.cells #[sv to, sv to2] 9)).alloc (.cells #[sv vn] 9)) (.slice (some ⟨wC.heap.size + 1, 0, none⟩) 1 1) [vn]) := SliceAt.newH [sv vn] 1 _ (by simp) rfl (by unfold maxLen; omega)
                      refine ⟨fun _ => (((IC.out.alloc (.cells #[sv to, sv to2] 9)).alloc (.cells #[sv vn] 9))).cell, ?_⟩
                      refine wpAnyT_pure 11 ?v13 rfl (by kernel_rfl) (by kernel_rfl) (by kernel_rfl) (by kernel_rfl) (fun _ _ _ h => h) (((IC.out.alloc (.cells #[sv to, sv to2] 9)).alloc (.cells #[sv vn] 9))).cell rfl ?run13 ?rest13
                      case run13 => intro w hS; go_simp; rfl
                      case rest13 =>
                        refine wpAnyT_all (rs := [12]) (by kernel_rfl) (by decide) ?_
                        intro i hi
                        obtain rfl : i = 12 := by simpa using hi
                        clear hi
                        refine wpOp_of_list rfl ?_
                        go_wp2
                        refine ⟨fun _ => (((IC.out.alloc (.cells #[sv to, sv to2] 9)).alloc (.cells #[sv vn] 9)).alloc _).cell, ?_⟩
                        refine wpAnyT_all (rs := [13]) (by kernel_rfl) (by decide) ?_
                        intro i hi
                        obtain rfl : i = 13 := by simpa using hi
                        clear hi
                        refine wpOp_of_list rfl ?_
                        (refine wpList_pushH _ rfl _ _ 51 rfl (bb + 1) 67 _ 4 72 Tryd.underlying51 infoStmt rfl (by omega) v st.length xss.flatten (((IC.out.alloc (.cells #[sv to, sv to2] 9)).alloc (.cells #[sv vn] 9))).ho rfl _ rfl (by simp) rfl rfl (by unfold maxLen; omega) (by omega) (by have := lt_heap (((IC.out.alloc (.cells #[sv to, sv to2] 9)).alloc (.cells #[sv vn] 9))).hb; omega) ?_; intro g cap w6 hown1 hg1 hg2 hg3; have BW := Lib.hid (((IC.out.alloc (.cells #[sv to, sv to2] 9)).alloc (.cells #[sv vn] 9))); have CS := Lib.hid (show StmtCells ((wC.alloc (.cells #[sv to, sv to2] 9)).alloc (.cells #[sv vn] 9)) _ ⟨8, [], [vn], [to, to2]⟩ from ⟨_, _, rfl, UU.out, (SliceAt.same (TT.out) SameT.alloc)⟩); have I7 := Lib.hid (BW.out.in3.push _ _ CS.out BW.out.hb BW.out.ho BW.out.ha hown1 hg1); have hbl := Below.of_grown hg1 BW.out.ho (lt_heap BW.out.hb); obtain ⟨fv, fxss, hfbk, hfown, hfall⟩ := (H.out.call I7.out.tape I7.out.but).row; have hf6 := (Below.heap_setCell w6 ⟨bb, 1, none⟩ _ fb (by show fb ≠ bb; omega)).symm.trans hfbk; have hb6 := (hbl.block bb (by omega)).trans BW.out.hb; have c0 := (blk_cells hb6).1 0; have c1 := (blk_cells hb6).1 1; have d0 := (blk_cells hb6).2 0; have d1 := (blk_cells hb6).2 1; have k1 := (blk_cells hf6).1 1; have k2 := (blk_cells hf6).2 1; simp only [List.getElem?_toArray, List.getElem?_cons_succ, List.getElem?_cons_zero] at c0 c1 k1; have HBC := Lib.hid (I7.out.cells (set_one hb6 _)); have HF7 := Lib.hid hfown; have HF8 := Lib.hid hfbk; have HF9 := Lib.hid hfall; have hne : ¬ fb = bb := (by omega); clear hown1 hg1 hbl hfbk hfown hfall hf6 hb6)
                        go_wp2
                        refine wpAnyT_pure 14 ?v14 rfl (by kernel_rfl) (by kernel_rfl) (by kernel_rfl) (by kernel_rfl) (fun _ _ _ h => h) c1 rfl ?run14 ?rest14
                        case run14 => intro w hS; go_simp; rfl
                        case rest14 =>
                          refine wpAnyT_all (rs := [15]) (by kernel_rfl) (by decide) ?_
                          intro i hi
                          obtain rfl : i = 15 := by simpa using hi
                          clear hi
                          refine wpOp_of_list rfl ?_
                          go_wp2
                          refine ⟨fun h => absurd rfl h, ?_⟩
                          refine wpAnyT_done (by kernel_rfl) ?_ _
                          go_wp2_with (first | (at_builtin; refine wpList_pushH _ rfl _ _ 48 rfl (fb + 1) 53 _ 2 40 Tryd.underlying48 infoBlock rfl (by omega) _ _ _ HF7.out rfl _ rfl (by simp) rfl rfl (by unfold maxLen; omega) (by omega) (by have := HF8.out; have := lt_heap this; omega) ?_; intro g2 cap2 w8 hown8 hg8 hg9 hg10; have hb8 := Below.of_grown hg8 HF7.out (by have := HF8.out; have := lt_heap this; omega); have e1 := (blk_cells ((hb8.block fb (by omega)).trans HF8.out)).1 1; have e2 := (blk_cells ((hb8.block fb (by omega)).trans HF8.out)).2 1; simp only [List.getElem?_toArray, List.getElem?_cons_succ, List.getElem?_cons_zero] at e1; have J2 := Lib.hid hown8; have J3 := Lib.hid hg8; clear hown8 hg8 hb8) | fail)
                          have hfin := Lib.hid ((H.out.call I7.out.tape I7.out.but).push _ (by rw [Hkn.out]; exact ⟨Hnm.out, st, _, rfl, hl3, HGen.out, .inr (.inr ⟨rfl, rfl, ⟨vn, hvn, rfl⟩, rn, rb, by omega, by omega, to, to2, Hto.out, Hto2.out, rfl⟩)⟩) _ HBC.out HF8.out HF7.out HF9.out J2.out J3.out)
                          go_wp2
                          try simp only [Exit.then]
                          exact ⟨_, rfl, hfin.out⟩
  · have BU := Lib.hid (show Bun B bt bb F w w5 nm st v xss from ⟨I6.out, HB.out, HO.out, HA.out⟩)
    clear HB HO HA I6
    go_wp2_with fail
    refine wp_region_T (S := fun w' => w'.cell? ⟨bb, 1, none⟩ = some v) (st := 15) (by kernel_rfl) ?_
    refine wpAnyT_pure 0 ?v15 rfl (by kernel_rfl) (by kernel_rfl) (by kernel_rfl) (by kernel_rfl) (fun _ _ _ h => h) BU.out.cell rfl ?run15 ?rest15
    case run15 => intro w hS; go_simp; rfl
    case rest15 =>
      refine wpAnyT_pure 1 ?v16 rfl (by kernel_rfl) (by kernel_rfl) (by kernel_rfl) (by kernel_rfl) (fun _ _ _ h => h) BU.out.cell rfl ?run16 ?rest16
      case run16 => intro w hS; go_simp; rfl
      case rest16 =>
        refine wpAnyT_pure 2 ?v17 rfl (by kernel_rfl) (by kernel_rfl) (by kernel_rfl) (by kernel_rfl) (fun _ _ _ h => h) BU.out.cell rfl ?run17 ?rest17
        case run17 => intro w hS; go_simp; rfl
        case rest17 =>
          refine wpAnyT_pure 5 ?v18 rfl (by kernel_rfl) (by kernel_rfl) (by kernel_rfl) (by kernel_rfl) (fun _ _ _ h => h) BU.out.cell rfl ?run18 ?rest18
          case run18 => intro w hS; go_simp; rfl
          case rest18 =>
            refine wpAnyT_pure 6 ?v19 rfl (by kernel_rfl) (by kernel_rfl) (by kernel_rfl) (by kernel_rfl) (fun _ _ _ h => h) BU.out.cell rfl ?run19 ?rest19
            case run19 => intro w hS; go_simp; rfl
            case rest19 =>
              refine wpAnyT_pure 7 ?v20 rfl (by kernel_rfl) (by kernel_rfl) (by kernel_rfl) (by kernel_rfl) (fun _ _ _ h => h) BU.out.cell rfl ?run20 ?rest20
              case run20 => intro w hS; go_simp; rfl
              case rest20 =>
                refine wpAnyT_all (rs := [3]) (by kernel_rfl) (by decide) ?_
                intro i hi
                obtain rfl : i = 3 := by simpa using hi
                clear hi
                refine wpOp_of_list rfl ?_
                go_wp2_with fail
                refine (name_any (BU.out.in3.tape.drewN 1)).mono ?_
                rintro e wA ⟨vn, hvn, rfl, tA, bA⟩
                have IA := Lib.hid (BU.out.call tA (But.undrew bA))
                clear tA bA
                go_wp2
                refine ⟨fun _ => (IA.out).cell, ?_⟩
                refine wpAnyT_all (rs := [4, 8]) (by kernel_rfl) (by decide) ?_
                intro i hi
                have hi2 : i = 4 ∨ i = 8 := by simpa using hi
                clear hi
                rcases hi2 with rfl | rfl
                · skip
                  refine wpOp_of_list rfl ?_
                  go_wp2
                  have UU : Hid (StrsAt (wA.alloc (.cells #[sv vn] 9)) (.slice (some ⟨wA.heap.size, 0, none⟩) 1 1) [vn]) := SliceAt.newH [sv vn] 1 _ (by simp) rfl (by unfold maxLen; omega)
                  refine ⟨fun _ => ((IA.out.alloc (.cells #[sv vn] 9))).cell, ?_⟩
                  refine wpAnyT_all (rs := [8]) (by kernel_rfl) (by decide) ?_
                  intro i hi
                  obtain rfl : i = 8 := by simpa using hi
                  clear hi
                  refine wpOp_of_list rfl ?_
                  go_wp2_with fail
                  refine (next_any ((IA.out.alloc (.cells #[sv vn] 9))).in3.tape _ (by omega)).mono ?_
                  rintro e wB ⟨rB, p1, p2, rfl, tB, bB⟩
                  have IB := Lib.hid (((IA.out.alloc (.cells #[sv vn] 9))).call tB bB)
                  have UB := Lib.hid (SliceAt.same (UU.out) (SameT.but bB (by rw [((IA.out.alloc (.cells #[sv vn] 9))).in3.tape.ty]; decide)))
                  clear tB bB
                  obtain ⟨rb, rfl⟩ := Int.eq_ofNat_of_zero_le p1
                  go_wp2
                  refine ⟨fun _ => (IB.out).cell, ?_⟩
                  refine wpAnyT_all (rs := [9]) (by kernel_rfl) (by decide) ?_
                  intro i hi
                  obtain rfl : i = 9 := by simpa using hi
                  clear hi
                  refine wpOp_of_list rfl ?_
                  go_wp2_with fail
                  refine (func2_any rb (by omega) _).mono ?_
                  rintro e wC ⟨⟨to2, hto2, rfl⟩, bC⟩
                  have IC := Lib.hid ((IB.out).below bC)
                  have UC := Lib.hid (SliceAt.same (UB.out) (SameT.below bC))
                  have Hto2 := Lib.hid hto2
                  clear bC hto2
                  go_wp2
                  refine ⟨fun _ => (IC.out).cell, ?_⟩
                  refine wpAnyT_all (rs := [10]) (by kernel_rfl) (by decide) ?_
                  intro i hi
                  obtain rfl : i = 10 := by simpa using hi
                  clear hi
                  refine wpOp_of_list rfl ?_
                  go_wp2
                  have TT : Hid (StrsAt (wC.alloc (.cells #[sv to, sv to2] 9)) (.slice (some ⟨wC.heap.size, 0, none⟩) 2 2) [to, to2]) := SliceAt.newH [sv to, sv to2] 2 _ (by simp) rfl (by unfold maxLen; omega)
                  refine ⟨fun _ => ((IC.out.alloc (.cells #[sv to, sv to2] 9))).cell, ?_⟩
                  refine wpAnyT_pure 11 ?v21 rfl (by kernel_rfl) (by kernel_rfl) (by kernel_rfl) (by kernel_rfl) (fun _ _ _ h => h) ((IC.out.alloc (.cells #[sv to, sv to2] 9))).cell rfl ?run21 ?rest21
                  case run21 => intro w hS; go_simp; rfl
                  case rest21 =>
                    refine wpAnyT_all (rs := [12]) (by kernel_rfl) (by decide) ?_
                    intro i hi
                    obtain rfl : i = 12 := by simpa using hi
                    clear hi
                    refine wpOp_of_list rfl ?_
                    go_wp2
                    refine ⟨fun _ => ((IC.out.alloc (.cells #[sv to, sv to2] 9)).alloc _).cell, ?_⟩
                    refine wpAnyT_all (rs := [13]) (by kernel_rfl) (by decide) ?_
                    intro i hi
                    obtain rfl : i = 13 := by simpa using hi
                    clear hi
                    refine wpOp_of_list rfl ?_
                    (refine wpList_pushH _ rfl _ _ 51 rfl (bb + 1) 67 _ 4 72 Tryd.underlying51 infoStmt rfl (by omega) v st.length xss.flatten ((IC.out.alloc (.cells #[sv to, sv to2] 9))).ho rfl _ rfl (by simp) rfl rfl (by unfold maxLen; omega) (by omega) (by have := lt_heap ((IC.out.alloc (.cells #[sv to, sv to2] 9))).hb; omega) ?_; intro g cap w6 hown1 hg1 hg2 hg3; have BW := Lib.hid ((IC.out.alloc (.cells #[sv to, sv to2] 9))); have CS := Lib.hid (show StmtCells (wC.alloc (.cells #[sv to, sv to2] 9)) _ ⟨8, [], [vn], [to, to2]⟩ from ⟨_, _, rfl, (SliceAt.same (UC.out) SameT.alloc), TT.out⟩); have I7 := Lib.hid (BW.out.in3.push _ _ CS.out BW.out.hb BW.out.ho BW.out.ha hown1 hg1); have hbl := Below.of_grown hg1 BW.out.ho (lt_heap BW.out.hb); obtain ⟨fv, fxss, hfbk, hfown, hfall⟩ := (H.out.call I7.out.tape I7.out.but).row; have hf6 := (Below.heap_setCell w6 ⟨bb, 1, none⟩ _ fb (by show fb ≠ bb; omega)).symm.trans hfbk; have hb6 := (hbl.block bb (by omega)).trans BW.out.hb; have c0 := (blk_cells hb6).1 0; have c1 := (blk_cells hb6).1 1; have d0 := (blk_cells hb6).2 0; have d1 := (blk_cells hb6).2 1; have k1 := (blk_cells hf6).1 1; have k2 := (blk_cells hf6).2 1; simp only [List.getElem?_toArray, List.getElem?_cons_succ, List.getElem?_cons_zero] at c0 c1 k1; have HBC := Lib.hid (I7.out.cells (set_one hb6 _)); have HF7 := Lib.hid hfown; have HF8 := Lib.hid hfbk; have HF9 := Lib.hid hfall; have hne : ¬ fb = bb := (by omega); clear hown1 hg1 hbl hfbk hfown hfall hf6 hb6)
                    go_wp2
                    refine wpAnyT_pure 14 ?v22 rfl (by kernel_rfl) (by kernel_rfl) (by kernel_rfl) (by kernel_rfl) (fun _ _ _ h => h) c1 rfl ?run22 ?rest22
                    case run22 => intro w hS; go_simp; rfl
                    case rest22 =>
                      refine wpAnyT_all (rs := [15]) (by kernel_rfl) (by decide) ?_
                      intro i hi
                      obtain rfl : i = 15 := by simpa using hi
                      clear hi
                      refine wpOp_of_list rfl ?_
                      go_wp2
                      refine ⟨fun h => absurd rfl h, ?_⟩
                      refine wpAnyT_done (by kernel_rfl) ?_ _
                      go_wp2_with (first | (at_builtin; refine wpList_pushH _ rfl _ _ 48 rfl (fb + 1) 53 _ 2 40 Tryd.underlying48 infoBlock rfl (by omega) _ _ _ HF7.out rfl _ rfl (by simp) rfl rfl (by unfold maxLen; omega) (by omega) (by have := HF8.out; have := lt_heap this; omega) ?_; intro g2 cap2 w8 hown8 hg8 hg9 hg10; have hb8 := Below.of_grown hg8 HF7.out (by have := HF8.out; have := lt_heap this; omega); have e1 := (blk_cells ((hb8.block fb (by omega)).trans HF8.out)).1 1; have e2 := (blk_cells ((hb8.block fb (by omega)).trans HF8.out)).2 1; simp only [List.getElem?_toArray, List.getElem?_cons_succ, List.getElem?_cons_zero] at e1; have J2 := Lib.hid hown8; have J3 := Lib.hid hg8; clear hown8 hg8 hb8) | fail)
                      have hfin := Lib.hid ((H.out.call I7.out.tape I7.out.but).push _ (by rw [Hkn.out]; exact ⟨Hnm.out, st, _, rfl, hl3, HGen.out, .inr (.inr ⟨rfl, rfl, ⟨vn, hvn, rfl⟩, rn, rb, by omega, by omega, to, to2, Hto.out, Hto2.out, rfl⟩)⟩) _ HBC.out HF8.out HF7.out HF9.out J2.out J3.out)
                      go_wp2
                      try simp only [Exit.then]
                      exact ⟨_, rfl, hfin.out⟩
                · skip
                  refine wpOp_of_list rfl ?_
                  go_wp2_with fail
                  refine (next_any (IA.out).in3.tape _ (by omega)).mono ?_
                  rintro e wB ⟨rB, p1, p2, rfl, tB, bB⟩
                  have IB := Lib.hid ((IA.out).call tB bB)
                  clear tB bB
                  obtain ⟨rb, rfl⟩ := Int.eq_ofNat_of_zero_le p1
                  go_wp2
                  refine ⟨fun _ => (IB.out).cell, ?_⟩
                  refine wpAnyT_all (rs := [4, 9]) (by kernel_rfl) (by decide) ?_
                  intro i hi
                  have hi2 : i = 4 ∨ i = 9 := by simpa using hi
                  clear hi
                  rcases hi2 with rfl | rfl
                  · skip
                    refine wpOp_of_list rfl ?_
                    go_wp2
                    have UU : Hid (StrsAt (wB.alloc (.cells #[sv vn] 9)) (.slice (some ⟨wB.heap.size, 0, none⟩) 1 1) [vn]) := SliceAt.newH [sv vn] 1 _ (by simp) rfl (by unfold maxLen; omega)
                    refine ⟨fun _ => ((IB.out.alloc (.cells #[sv vn] 9))).cell, ?_⟩
                    refine wpAnyT_all (rs := [9]) (by kernel_rfl) (by decide) ?_
                    intro i hi
                    obtain rfl : i = 9 := by simpa using hi
                    clear hi
                    refine wpOp_of_list rfl ?_
                    go_wp2_with fail
                    refine (func2_any rb (by omega) _).mono ?_
                    rintro e wC ⟨⟨to2, hto2, rfl⟩, bC⟩
                    have IC := Lib.hid (((IB.out.alloc (.cells #[sv vn] 9))).below bC)
                    have UC := Lib.hid (SliceAt.same (UU.out) (SameT.below bC))
                    have Hto2 := Lib.hid hto2
                    clear bC hto2
                    go_wp2
                    refine ⟨fun _ => (IC.out).cell, ?_⟩
                    refine wpAnyT_all (rs := [10]) (by kernel_rfl) (by decide) ?_
                    intro i hi
                    obtain rfl : i = 10 := by simpa using hi
                    clear hi
                    refine wpOp_of_list rfl ?_
                    go_wp2
                    have TT : Hid (StrsAt (wC.alloc (.cells #[sv to, sv to2] 9)) (.slice (some ⟨wC.heap.size, 0, none⟩) 2 2) [to, to2]) := SliceAt.newH [sv to, sv to2] 2 _ (by simp) rfl (by unfold maxLen; omega)
                    refine ⟨fun _ => ((IC.out.alloc (.cells #[sv to, sv to2] 9))).cell, ?_⟩
                    refine wpAnyT_pure 11 ?v23 rfl (by kernel_rfl) (by kernel_rfl) (by kernel_rfl) (by kernel_rfl) (fun _ _ _ h => h) ((IC.out.alloc (.cells #[sv to, sv to2] 9))).cell rfl ?run23 ?rest23
                    case run23 => intro w hS; go_simp; rfl
                    case rest23 =>
                      refine wpAnyT_all (rs := [12]) (by kernel_rfl) (by decide) ?_
                      intro i hi
                      obtain rfl : i = 12 := by simpa using hi
                      clear hi
                      refine wpOp_of_list rfl ?_
                      go_wp2
                      refine ⟨fun _ => ((IC.out.alloc (.cells #[sv to, sv to2] 9)).alloc _).cell, ?_⟩
                      refine wpAnyT_all (rs := [13]) (by kernel_rfl) (by decide) ?_
                      intro i hi
                      obtain rfl : i = 13 := by simpa using hi
                      clear hi
                      refine wpOp_of_list rfl ?_
                      (refine wpList_pushH _ rfl _ _ 51 rfl (bb + 1) 67 _ 4 72 Tryd.underlying51 infoStmt rfl (by omega) v st.length xss.flatten ((IC.out.alloc (.cells #[sv to, sv to2] 9))).ho rfl _ rfl (by simp) rfl rfl (by unfold maxLen; omega) (by omega) (by have := lt_heap ((IC.out.alloc (.cells #[sv to, sv to2] 9))).hb; omega) ?_; intro g cap w6 hown1 hg1 hg2 hg3; have BW := Lib.hid ((IC.out.alloc (.cells #[sv to, sv to2] 9))); have CS := Lib.hid (show StmtCells (wC.alloc (.cells #[sv to, sv to2] 9)) _ ⟨8, [], [vn], [to, to2]⟩ from ⟨_, _, rfl, (SliceAt.same (UC.out) SameT.alloc), TT.out⟩); have I7 := Lib.hid (BW.out.in3.push _ _ CS.out BW.out.hb BW.out.ho BW.out.ha hown1 hg1); have hbl := Below.of_grown hg1 BW.out.ho (lt_heap BW.out.hb); obtain ⟨fv, fxss, hfbk, hfown, hfall⟩ := (H.out.call I7.out.tape I7.out.but).row; have hf6 := (Below.heap_setCell w6 ⟨bb, 1, none⟩ _ fb (by show fb ≠ bb; omega)).symm.trans hfbk; have hb6 := (hbl.block bb (by omega)).trans BW.out.hb; have c0 := (blk_cells hb6).1 0; have c1 := (blk_cells hb6).1 1; have d0 := (blk_cells hb6).2 0; have d1 := (blk_cells hb6).2 1; have k1 := (blk_cells hf6).1 1; have k2 := (blk_cells hf6).2 1; simp only [List.getElem?_toArray, List.getElem?_cons_succ, List.getElem?_cons_zero] at c0 c1 k1; have HBC := Lib.hid (I7.out.cells (set_one hb6 _)); have HF7 := Lib.hid hfown; have HF8 := Lib.hid hfbk; have HF9 := Lib.hid hfall; have hne : ¬ fb = bb := (by omega); clear hown1 hg1 hbl hfbk hfown hfall hf6 hb6)
                      go_wp2
                      refine wpAnyT_pure 14 ?v24 rfl (by kernel_rfl) (by kernel_rfl) (by kernel_rfl) (by kernel_rfl) (fun _ _ _ h => h) c1 rfl ?run24 ?rest24
                      case run24 => intro w hS; go_simp; rfl
                      case rest24 =>
                        refine wpAnyT_all (rs := [15]) (by kernel_rfl) (by decide) ?_
                        intro i hi
                        obtain rfl : i = 15 := by simpa using hi
                        clear hi
                        refine wpOp_of_list rfl ?_
                        go_wp2
                        refine ⟨fun h => absurd rfl h, ?_⟩
                        refine wpAnyT_done (by kernel_rfl) ?_ _
                        go_wp2_with (first | (at_builtin; refine wpList_pushH _ rfl _ _ 48 rfl (fb + 1) 53 _ 2 40 Tryd.underlying48 infoBlock rfl (by omega) _ _ _ HF7.out rfl _ rfl (by simp) rfl rfl (by unfold maxLen; omega) (by omega) (by have := HF8.out; have := lt_heap this; omega) ?_; intro g2 cap2 w8 hown8 hg8 hg9 hg10; have hb8 := Below.of_grown hg8 HF7.out (by have := HF8.out; have := lt_heap this; omega); have e1 := (blk_cells ((hb8.block fb (by omega)).trans HF8.out)).1 1; have e2 := (blk_cells ((hb8.block fb (by omega)).trans HF8.out)).2 1; simp only [List.getElem?_toArray, List.getElem?_cons_succ, List.getElem?_cons_zero] at e1; have J2 := Lib.hid hown8; have J3 := Lib.hid hg8; clear hown8 hg8 hb8) | fail)
                        have hfin := Lib.hid ((H.out.call I7.out.tape I7.out.but).push _ (by rw [Hkn.out]; exact ⟨Hnm.out, st, _, rfl, hl3, HGen.out, .inr (.inr ⟨rfl, rfl, ⟨vn, hvn, rfl⟩, rn, rb, by omega, by omega, to, to2, Hto.out, Hto2.out, rfl⟩)⟩) _ HBC.out HF8.out HF7.out HF9.out J2.out J3.out)
                        go_wp2
                        try simp only [Exit.then]
                        exact ⟨_, rfl, hfin.out⟩
                  · skip
                    refine wpOp_of_list rfl ?_
                    go_wp2_with fail
                    refine (func2_any rb (by omega) _).mono ?_
                    rintro e wC ⟨⟨to2, hto2, rfl⟩, bC⟩
                    have IC := Lib.hid ((IB.out).below bC)
                    have Hto2 := Lib.hid hto2
                    clear bC hto2
                    go_wp2
                    refine ⟨fun _ => (IC.out).cell, ?_⟩
                    refine wpAnyT_all (rs := [4, 10]) (by kernel_rfl) (by decide) ?_
                    intro i hi
                    have hi2 : i = 4 ∨ i = 10 := by simpa using hi
                    clear hi
                    rcases hi2 with rfl | rfl
                    · skip
                      refine wpOp_of_list rfl ?_
                      go_wp2
                      have UU : Hid (StrsAt (wC.alloc (.cells #[sv vn] 9)) (.slice (some ⟨wC.heap.size, 0, none⟩) 1 1) [vn]) := SliceAt.newH [sv vn] 1 _ (by simp) rfl (by unfold maxLen; omega)
                      refine ⟨fun _ => ((IC.out.alloc (.cells #[sv vn] 9))).cell, ?_⟩
                      refine wpAnyT_all (rs := [10]) (by kernel_rfl) (by decide) ?_
                      intro i hi
                      obtain rfl : i = 10 := by simpa using hi
                      clear hi
                      refine wpOp_of_list rfl ?_
                      go_wp2
                      have TT : Hid (StrsAt ((wC.alloc (.cells #[sv vn] 9)).alloc (.cells #[sv to, sv to2] 9)) (.slice (some ⟨wC.heap.size + 1, 0, none⟩) 2 2) [to, to2]) := SliceAt.newH [sv to, sv to2] 2 _ (by simp) rfl (by unfold maxLen; omega)
                      refine ⟨fun _ => (((IC.out.alloc (.cells #[sv vn] 9)).alloc (.cells #[sv to, sv to2] 9))).cell, ?_⟩
                      refine wpAnyT_pure 11 ?v25 rfl (by kernel_rfl) (by kernel_rfl) (by kernel_rfl) (by kernel_rfl) (fun _ _ _ h => h) (((IC.out.alloc (.cells #[sv vn] 9)).alloc (.cells #[sv to, sv to2] 9))).cell rfl ?run25 ?rest25
                      case run25 => intro w hS; go_simp; rfl
                      case rest25 =>
                        refine wpAnyT_all (rs := [12]) (by kernel_rfl) (by decide) ?_
                        intro i hi
                        obtain rfl : i = 12 := by simpa using hi
                        clear hi
                        refine wpOp_of_list rfl ?_
                        go_wp2
                        refine ⟨fun _ => (((IC.out.alloc (.cells #[sv vn] 9)).alloc (.cells #[sv to, sv to2] 9)).alloc _).cell, ?_⟩
                        refine wpAnyT_all (rs := [13]) (by kernel_rfl) (by decide) ?_
                        intro i hi
                        obtain rfl : i = 13 := by simpa using hi
                        clear hi
                        refine wpOp_of_list rfl ?_
                        (refine wpList_pushH _ rfl _ _ 51 rfl (bb + 1) 67 _ 4 72 Tryd.underlying51 infoStmt rfl (by omega) v st.length xss.flatten (((IC.out.alloc (.cells #[sv vn] 9)).alloc (.cells #[sv to, sv to2] 9))).ho rfl _ rfl (by simp) rfl rfl (by unfold maxLen; omega) (by omega) (by have := lt_heap (((IC.out.alloc (.cells #[sv vn] 9)).alloc (.cells #[sv to, sv to2] 9))).hb; omega) ?_; intro g cap w6 hown1 hg1 hg2 hg3; have BW := Lib.hid (((IC.out.alloc (.cells #[sv vn] 9)).alloc (.cells #[sv to, sv to2] 9))); have CS := Lib.hid (show StmtCells ((wC.alloc (.cells #[sv vn] 9)).alloc (.cells #[sv to, sv to2] 9)) _ ⟨8, [], [vn], [to, to2]⟩ from ⟨_, _, rfl, (SliceAt.same (UU.out) SameT.alloc), TT.out⟩); have I7 := Lib.hid (BW.out.in3.push _ _ CS.out BW.out.hb BW.out.ho BW.out.ha hown1 hg1); have hbl := Below.of_grown hg1 BW.out.ho (lt_heap BW.out.hb); obtain ⟨fv, fxss, hfbk, hfown, hfall⟩ := (H.out.call I7.out.tape I7.out.but).row; have hf6 := (Below.heap_setCell w6 ⟨bb, 1, none⟩ _ fb (by show fb ≠ bb; omega)).symm.trans hfbk; have hb6 := (hbl.block bb (by omega)).trans BW.out.hb; have c0 := (blk_cells hb6).1 0; have c1 := (blk_cells hb6).1 1; have d0 := (blk_cells hb6).2 0; have d1 := (blk_cells hb6).2 1; have k1 := (blk_cells hf6).1 1; have k2 := (blk_cells hf6).2 1; simp only [List.getElem?_toArray, List.getElem?_cons_succ, List.getElem?_cons_zero] at c0 c1 k1; have HBC := Lib.hid (I7.out.cells (set_one hb6 _)); have HF7 := Lib.hid hfown; have HF8 := Lib.hid hfbk; have HF9 := Lib.hid hfall; have hne : ¬ fb = bb := (by omega); clear hown1 hg1 hbl hfbk hfown hfall hf6 hb6)
                        go_wp2
                        refine wpAnyT_pure 14 ?v26 rfl (by kernel_rfl) (by kernel_rfl) (by kernel_rfl) (by kernel_rfl) (fun _ _ _ h => h) c1 rfl ?run26 ?rest26
                        case run26 => intro w hS; go_simp; rfl
                        case rest26 =>
                          refine wpAnyT_all (rs := [15]) (by kernel_rfl) (by decide) ?_
                          intro i hi
                          obtain rfl : i = 15 := by simpa using hi
                          clear hi
                          refine wpOp_of_list rfl ?_
                          go_wp2
                          refine ⟨fun h => absurd rfl h, ?_⟩
                          refine wpAnyT_done (by kernel_rfl) ?_ _
                          go_wp2_with (first | (at_builtin; refine wpList_pushH _ rfl _ _ 48 rfl (fb + 1) 53 _ 2 40 Tryd.underlying48 infoBlock rfl (by omega) _ _ _ HF7.out rfl _ rfl (by simp) rfl rfl (by unfold maxLen; omega) (by omega) (by have := HF8.out; have := lt_heap this; omega) ?_; intro g2 cap2 w8 hown8 hg8 hg9 hg10; have hb8 := Below.of_grown hg8 HF7.out (by have := HF8.out; have := lt_heap this; omega); have e1 := (blk_cells ((hb8.block fb (by omega)).trans HF8.out)).1 1; have e2 := (blk_cells ((hb8.block fb (by omega)).trans HF8.out)).2 1; simp only [List.getElem?_toArray, List.getElem?_cons_succ, List.getElem?_cons_zero] at e1; have J2 := Lib.hid hown8; have J3 := Lib.hid hg8; clear hown8 hg8 hb8) | fail)
                          have hfin := Lib.hid ((H.out.call I7.out.tape I7.out.but).push _ (by rw [Hkn.out]; exact ⟨Hnm.out, st, _, rfl, hl3, HGen.out, .inr (.inr ⟨rfl, rfl, ⟨vn, hvn, rfl⟩, rn, rb, by omega, by omega, to, to2, Hto.out, Hto2.out, rfl⟩)⟩) _ HBC.out HF8.out HF7.out HF9.out J2.out J3.out)
                          go_wp2
                          try simp only [Exit.then]
                          exact ⟨_, rfl, hfin.out⟩
                    · skip
                      refine wpOp_of_list rfl ?_
                      go_wp2
                      have TT : Hid (StrsAt (wC.alloc (.cells #[sv to, sv to2] 9)) (.slice (some ⟨wC.heap.size, 0, none⟩) 2 2) [to, to2]) := SliceAt.newH [sv to, sv to2] 2 _ (by simp) rfl (by unfold maxLen; omega)
                      refine ⟨fun _ => ((IC.out.alloc (.cells #[sv to, sv to2] 9))).cell, ?_⟩
                      refine wpAnyT_all (rs := [4]) (by kernel_rfl) (by decide) ?_
                      intro i hi
                      obtain rfl : i = 4 := by simpa using hi
                      clear hi
                      refine wpOp_of_list rfl ?_
                      go_wp2
                      have UU : Hid (StrsAt ((wC.alloc (.cells #[sv to, sv to2] 9)).alloc (.cells #[sv vn] 9)) (.slice (some ⟨wC.heap.size + 1, 0, none⟩) 1 1) [vn]) := SliceAt.newH [sv vn] 1 _ (by simp) rfl (by unfold maxLen; omega)
                      refine ⟨fun _ => (((IC.out.alloc (.cells #[sv to, sv to2] 9)).alloc (.cells #[sv vn] 9))).cell, ?_⟩
                      refine wpAnyT_pure 11 ?v27 rfl (by kernel_rfl) (by kernel_rfl) (by kernel_rfl) (by kernel_rfl) (fun _ _ _ h => h) (((IC.out.alloc (.cells #[sv to, sv to2] 9)).alloc (.cells #[sv vn] 9))).cell rfl ?run27 ?rest27
                      case run27 => intro w hS; go_simp; rfl
                      case rest27 =>
                        refine wpAnyT_all (rs := [12]) (by kernel_rfl) (by decide) ?_
                        intro i hi
                        obtain rfl : i = 12 := by simpa using hi
                        clear hi
                        refine wpOp_of_list rfl ?_
                        go_wp2
                        refine ⟨fun _ => (((IC.out.alloc (.cells #[sv to, sv to2] 9)).alloc (.cells #[sv vn] 9)).alloc _).cell, ?_⟩
                        refine wpAnyT_all (rs := [13]) (by kernel_rfl) (by decide) ?_
                        intro i hi
                        obtain rfl : i = 13 := by simpa using hi
                        clear hi
                        refine wpOp_of_list rfl ?_
                        (refine wpList_pushH _ rfl _ _ 51 rfl (bb + 1) 67 _ 4 72 Tryd.underlying51 infoStmt rfl (by omega) v st.length xss.flatten (((IC.out.alloc (.cells #[sv to, sv to2] 9)).alloc (.cells #[sv vn] 9))).ho rfl _ rfl (by simp) rfl rfl (by unfold maxLen; omega) (by omega) (by have := lt_heap (((IC.out.alloc (.cells #[sv to, sv to2] 9)).alloc (.cells #[sv vn] 9))).hb; omega) ?_; intro g cap w6 hown1 hg1 hg2 hg3; have BW := Lib.hid (((IC.out.alloc (.cells #[sv to, sv to2] 9)).alloc (.cells #[sv vn] 9))); have CS := Lib.hid (show StmtCells ((wC.alloc (.cells #[sv to, sv to2] 9)).alloc (.cells #[sv vn] 9)) _ ⟨8, [], [vn], [to, to2]⟩ from ⟨_, _, rfl, UU.out, (SliceAt.same (TT.out) SameT.alloc)⟩); have I7 := Lib.hid (BW.out.in3.push _ _ CS.out BW.out.hb BW.out.ho BW.out.ha hown1 hg1); have hbl := Below.of_grown hg1 BW.out.ho (lt_heap BW.out.hb); obtain ⟨fv, fxss, hfbk, hfown, hfall⟩ := (H.out.call I7.out.tape I7.out.but).row; have hf6 := (Below.heap_setCell w6 ⟨bb, 1, none⟩ _ fb (by show fb ≠ bb; omega)).symm.trans hfbk; have hb6 := (hbl.block bb (by omega)).trans BW.out.hb; have c0 := (blk_cells hb6).1 0; have c1 := (blk_cells hb6).1 1; have d0 := (blk_cells hb6).2 0; have d1 := (blk_cells hb6).2 1; have k1 := (blk_cells hf6).1 1; have k2 := (blk_cells hf6).2 1; simp only [List.getElem?_toArray, List.getElem?_cons_succ, List.getElem?_cons_zero] at c0 c1 k1; have HBC := Lib.hid (I7.out.cells (set_one hb6 _)); have HF7 := Lib.hid hfown; have HF8 := Lib.hid hfbk; have HF9 := Lib.hid hfall; have hne : ¬ fb = bb := (by omega); clear hown1 hg1 hbl hfbk hfown hfall hf6 hb6)
                        go_wp2
                        refine wpAnyT_pure 14 ?v28 rfl (by kernel_rfl) (by kernel_rfl) (by kernel_rfl) (by kernel_rfl) (fun _ _ _ h => h) c1 rfl ?run28 ?rest28
                        case run28 => intro w hS; go_simp; rfl
                        case rest28 =>
                          refine wpAnyT_all (rs := [15]) (by kernel_rfl) (by decide) ?_
                          intro i hi
                          obtain rfl : i = 15 := by simpa using hi
                          clear hi
                          refine wpOp_of_list rfl ?_
                          go_wp2
                          refine ⟨fun h => absurd rfl h, ?_⟩
                          refine wpAnyT_done (by kernel_rfl) ?_ _
                          go_wp2_with (first | (at_builtin; refine wpList_pushH _ rfl _ _ 48 rfl (fb + 1) 53 _ 2 40 Tryd.underlying48 infoBlock rfl (by omega) _ _ _ HF7.out rfl _ rfl (by simp) rfl rfl (by unfold maxLen; omega) (by omega) (by have := HF8.out; have := lt_heap this; omega) ?_; intro g2 cap2 w8 hown8 hg8 hg9 hg10; have hb8 := Below.of_grown hg8 HF7.out (by have := HF8.out; have := lt_heap this; omega); have e1 := (blk_cells ((hb8.block fb (by omega)).trans HF8.out)).1 1; have e2 := (blk_cells ((hb8.block fb (by omega)).trans HF8.out)).2 1; simp only [List.getElem?_toArray, List.getElem?_cons_succ, List.getElem?_cons_zero] at e1; have J2 := Lib.hid hown8; have J3 := Lib.hid hg8; clear hown8 hg8 hb8) | fail)
                          have hfin := Lib.hid ((H.out.call I7.out.tape I7.out.but).push _ (by rw [Hkn.out]; exact ⟨Hnm.out, st, _, rfl, hl3, HGen.out, .inr (.inr ⟨rfl, rfl, ⟨vn, hvn, rfl⟩, rn, rb, by omega, by omega, to, to2, Hto.out, Hto2.out, rfl⟩)⟩) _ HBC.out HF8.out HF7.out HF9.out J2.out J3.out)
                          go_wp2
                          try simp only [Exit.then]
                          exact ⟨_, rfl, hfin.out⟩
end Go.Proofs.YtpnfdmajpkpjoaaDoor


