/- Walk of the generator 'Program': the outer loop and the whole. -/
import Derived.Test.YtpnfdmajpkpjoaaDoorQGenP2
set_option linter.unusedVariables false
set_option linter.unusedSimpArgs false
namespace Go.Proofs.YtpnfdmajpkpjoaaDoor
open Go.RowKit

def End2 (B bt fb R : Nat) (F : Int) (Kn : Nat) (w0 : World) (name : Str) (iv : Value) (a : Act) (w : World) : Prop :=
  ∃ l, a = frP bt R F iv (.pointer (some ⟨fb, 0, none⟩)) (.int .i64 (Kn : Int)) (.int .i64 (Kn : Int)) (slots a 9) (slots a 10) (slots a) ∧ In2 B bt fb F Kn w0 w name l ∧ l.length = Kn

set_option maxRecDepth 100000 in
set_option maxHeartbeats 1000000 in
theorem prog_last2 {B bt fb R : Nat} {F : Int} {Kn : Nat} {w0 w : World} {name : Str} {l : List PBlock} (iv bp n : Value) (u : Nat → Value) (h : In2 B bt fb F Kn w0 w name l) (hm : l.length = Kn) (I : Act → World → Prop) :
    progBody2.wp Tryd.prog (Exit.then I (onExit 2 (End2 B bt fb R F Kn w0 name iv))) (frP bt R F iv (.pointer (some ⟨fb, 0, none⟩)) (.int .i64 (Kn : Int)) (.int .i64 (Kn : Int)) bp n u) w := by
  have H := Lib.hid h
  have HM := Lib.hid hm
  clear h hm
  conv => arg 2; whnf
  unfold frP
  go_wp2
  exact ⟨rfl, l, rfl, H.out, HM.out⟩

theorem prog_loop2 {B bt fb R : Nat} {F : Int} {Kn : Nat} {w0 w : World} {name : Str} (iv bp n : Value) (u : Nat → Value) (hF1 : 1 ≤ F) (hF3 : F ≤ 3) (hK : Kn ≤ 3) (h : In2 B bt fb F Kn w0 w name []) :
    (Code.loop progBody2).wp Tryd.prog (onExit 2 (End2 B bt fb R F Kn w0 name iv)) (frP bt R F iv (.pointer (some ⟨fb, 0, none⟩)) (.int .i64 (Kn : Int)) (.int .i64 ((0 : Nat) : Int)) bp n u) w := by
  refine wp_loop (fun a w => ∃ (l : List PBlock), a = frP bt R F iv (.pointer (some ⟨fb, 0, none⟩)) (.int .i64 (Kn : Int)) (.int .i64 (l.length : Int)) (slots a 9) (slots a 10) (slots a) ∧ In2 B bt fb F Kn w0 w name l ∧ l.length ≤ Kn) (fun a _ => Kn - (intOf (a.tmps.getD 8 undef)).toNat) ?_ ?_
  · exact ⟨[], rfl, h, Nat.zero_le _⟩
  · rintro a' w' ⟨l', ha, h', hm'⟩
    rw [ha]
    generalize slots a' 9 = bp'
    generalize slots a' 10 = n'
    generalize slots a' = u'
    rcases Nat.lt_or_ge l'.length Kn with hlt | hge
    · refine wp_mono (prog_round2 (R := R) iv bp' n' u' hF1 hF3 hK h' hlt) ?_
      intro e a w hq
      cases e with
      | normal =>
        obtain ⟨b, ha2, h2⟩ := hq
        refine ⟨⟨l' ++ [b], ?_, h2, by simp; omega⟩, ?_⟩
        · rw [List.length_append]; exact ha2
        · rw [ha2]
          show Kn - (intOf (Value.int .i64 ((l'.length + 1 : Nat) : Int))).toNat < Kn - (intOf (Value.int .i64 (l'.length : Int))).toNat
          simp [intOf]
          omega
      | _ => exact hq.elim
    · have he : l'.length = Kn := by omega
      rw [he]
      exact prog_last2 iv bp' n' u' h' he _

theorem prog_loop2' {B bt fb R : Nat} {F : Int} {Kn : Nat} {w0 w : World} {name : Str} {iv bp n : Value} {a : Act} (hF1 : 1 ≤ F) (hF3 : F ≤ 3) (hK : Kn ≤ 3) (h : In2 B bt fb F Kn w0 w name [])
    (ha : a = frP bt R F iv (.pointer (some ⟨fb, 0, none⟩)) (.int .i64 (Kn : Int)) (.int .i64 ((0 : Nat) : Int)) bp n (slots a)) {Q : Exit → Act → World → Prop} (hq : ∀ a w, End2 B bt fb R F Kn w0 name iv a w → Q (.exit 2) a w) :
    (Code.loop progBody2).wp Tryd.prog Q a w := by
  rw [ha]
  refine wp_mono (prog_loop2 iv bp n _ hF1 hF3 hK h) ?_
  intro e a w h
  cases e with
  | exit i => obtain ⟨rfl, h⟩ := h; exact hq _ _ h
  | _ => exact h.elim

/-- What the outer loop holds: block R the result, block R+1 the drawn program. -/
structure In1 (B bt R : Nat) (F : Int) (w0 w : World) (l : List PFunc) : Prop where
  tape : TapeOk B w bt
  but : But bt w0 w
  size : w0.heap.size = R
  lt : bt < w0.heap.size
  res : w.heap[R]? = some (.cells #[.slice none 0 0] 34 (0, 0))
  row : ∃ v xss, w.heap[R + 1]? = some (.cells #[v] 34 (0, 0)) ∧ w.ownsRow (R + 2) 50 2 v l.length xss.flatten ∧ All2 (FuncCells w) xss l
  gen : ∀ k b, l[k]? = some b → GenFunc F k b

theorem In1.call {B bt R : Nat} {F : Int} {w0 w w1 : World} {l : List PFunc} (h : In1 B bt R F w0 w l) (ht : TapeOk B w1 bt) (hb' : But bt w w1) : In1 B bt R F w0 w1 l := by
  obtain ⟨v, xss, h1, h2, h3⟩ := h.row
  have := h.lt
  have := h.size
  exact ⟨ht, h.but.trans hb', h.size, h.lt, hb'.blk h.res (by omega), ⟨v, xss, hb'.blk h1 (by omega), ownsRow_but h2 hb' (by omega), h3.mono fun _ _ => FuncCells.keep (SameT.but hb' (by rw [h.tape.ty]; decide)) (SameT.but hb' (by rw [h.tape.ty]; decide)) (SameT.but hb' (by rw [h.tape.ty]; decide))⟩, h.gen⟩
theorem In1.alloc {B bt R : Nat} {F : Int} {w0 w : World} {l : List PFunc} (h : In1 B bt R F w0 w l) (o : Obj) : In1 B bt R F w0 (w.alloc o) l :=
  h.call (h.tape.alloc o) ((But.refl bt w).alloc o)

theorem set_first {w : World} {b : Nat} {a0 : Value} {t : TypeId} {fr : Nat × Nat} (h : w.heap[b]? = some (.cells #[a0] t fr)) (x : Value) :
    (w.setCell ⟨b, 0, none⟩ x).heap[b]? = some (.cells #[x] t fr) := by
  simp [World.setCell, Array.getElem?_modify, h]

theorem In2.cells {B bt fb : Nat} {F K : Int} {w0 w : World} {name : Str} {l : List PBlock} (h : In2 B bt fb F K w0 w name l) {v : Value} {fr : Nat × Nat} (hb : w.heap[fb]? = some (.cells #[sv name, v] 50 fr)) :
    FuncCells w [sv name, v] ⟨name, l⟩ := by
  obtain ⟨v', xss, h1, h2, h3⟩ := h.row
  rw [h1] at hb
  injection hb with hb
  injection hb with hb _ _
  injection hb with hb
  injection hb with _ hb
  injection hb with hb _
  subst hb
  exact ⟨v', rfl, xss, SliceAt.of_owns h2, h3⟩

theorem In1.push {B bt R : Nat} {F : Int} {w0 w w1 : World} {l : List PFunc} (h : In1 B bt R F w0 w l) (f : PFunc) (hgen : GenFunc F l.length f) (cs : List Value) (hc : FuncCells w cs f)
    {v : Value} {xss : List (List Value)} (hb : w.heap[R + 1]? = some (.cells #[v] 34 (0, 0))) (hown : w.ownsRow (R + 2) 50 2 v l.length xss.flatten) (hall : All2 (FuncCells w) xss l)
    {g cap : Nat} (hown1 : w1.ownsRow (R + 2) 50 2 (.slice (some ⟨g, 0, none⟩) (l.length + 1) cap) (l.length + 1) (xss.flatten ++ cs)) (hg : w.grownBy w1 v.ownBlock) :
    In1 B bt R F w0 (w1.setCell ⟨R + 1, 0, none⟩ (.slice (some ⟨g, 0, none⟩) (l.length + 1) cap)) (l ++ [f]) := by
  have hlt := h.lt
  have hsz := h.size
  have hbb := lt_heap hb
  have hbel : Below (R + 2) w w1 := Below.of_grown hg hown hbb
  have hb1 : w1.heap[R + 1]? = some (.cells #[v] 34 (0, 0)) := (hbel.block (R + 1) (by omega)).trans hb
  have hr1 : w1.heap[R]? = some (.cells #[.slice none 0 0] 34 (0, 0)) := (hbel.block R (by omega)).trans h.res
  have hS (T : TypeId) (h1 : T ≠ 50) (h2 : T ≠ 34) : SameT T w (w1.setCell ⟨R + 1, 0, none⟩ (.slice (some ⟨g, 0, none⟩) (l.length + 1) cap)) :=
    (SameT.grown hg hown h1).trans (SameT.setCell (U := 34) (tyAt_of hb1) h2)
  have h9 := hS 9 (by decide) (by decide)
  have h64 := hS 67 (by decide) (by decide)
  have h62 := hS 53 (by decide) (by decide)
  have hget := h.tape.ge
  refine ⟨?_, ?_, hsz, hlt, ?_, ⟨.slice (some ⟨g, 0, none⟩) (l.length + 1) cap, xss ++ [cs], ?_, ?_, ?_⟩, ?_⟩
  · have t1 : TapeOk B w1 bt := h.tape.keep (hbel.block bt (by omega)) (fun k hk => hbel.block k (by omega)) hbel.size
    exact t1.setCell (by show R + 1 ≠ bt; omega) (by show B ≤ R + 1; omega) _
  · exact (h.but.belowB hbel (by omega)).setCell _ (.inr (by show w0.heap.size ≤ R + 1; omega)) _
  · exact (Below.heap_setCell _ _ _ _ (by show R ≠ R + 1; omega)).trans hr1
  · exact set_first hb1 _
  · rw [List.length_append, List.flatten_append]
    refine ownsRow_setCell_below ?_ (by show R + 1 < R + 2; omega) _
    simpa using hown1
  · exact All2.append (hall.mono fun _ _ => FuncCells.keep h9 h64 h62) ⟨hc.keep h9 h64 h62, trivial⟩
  · intro k x hx
    rcases Nat.lt_or_ge k l.length with hk | hk
    · rw [List.getElem?_append_left hk] at hx
      exact h.gen k x hx
    · rw [List.getElem?_append_right hk] at hx
      have : k = l.length := by
        rcases Nat.eq_or_lt_of_le hk with h | h
        · exact h.symm
        · rw [List.getElem?_eq_none (by simp; omega)] at hx; cases hx
      subst this
      simp at hx
      subst hx
      exact hgen

set_option maxRecDepth 100000 in
set_option maxHeartbeats 4000000 in
theorem prog_round1 {B bt R : Nat} {Fn : Nat} {w0 w : World} {l : List PFunc} (fp K k bp n : Value) (u : Nat → Value) (hF1 : 1 ≤ Fn) (hF3 : Fn ≤ 3) (h : In1 B bt R Fn w0 w l) (hk : l.length < Fn) :
    progBody1.wp Tryd.prog (Exit.then (fun a' w' => (∃ f, a' = frP bt R Fn (.int .i64 ((l.length + 1 : Nat) : Int)) (slots a' 6) (slots a' 7) (slots a' 8) (slots a' 9) (slots a' 10) (slots a') ∧ In1 B bt R Fn w0 w' (l ++ [f]))) noWay)
      (frP bt R Fn (.int .i64 (l.length : Int)) fp K k bp n u) w := by
  obtain ⟨kn, hkn⟩ : ∃ kn, l.length = kn := ⟨_, rfl⟩
  rw [hkn]
  have hk3 : kn < 3 := by omega
  have hkK : kn < Fn := by omega
  have Hkn := Lib.hid hkn
  have hlt := h.lt
  have hsz0 := h.size
  have H := Lib.hid h
  clear h hkn hk
  obtain ⟨nm, hnm⟩ : ∃ nm, funcNames[kn]? = some nm := by
    have : kn = 0 ∨ kn = 1 ∨ kn = 2 := by omega
    rcases this with rfl | rfl | rfl <;> exact ⟨_, rfl⟩
  have hcell : (#[sv [109], sv [102], sv [103]] : Array Value)[kn]? = some (sv nm) := by
    have : kn = 0 ∨ kn = 1 ∨ kn = 2 := by omega
    rcases this with rfl | rfl | rfl <;> (injection hnm with hnm; rw [← hnm]; rfl)
  have hc := (blk_cells (heap_alloc_new w (.cells #[sv [109], sv [102], sv [103]] 9))).1 kn
  rw [hcell] at hc
  have Hnm := Lib.hid hnm
  clear hnm hcell
  conv => arg 2; whnf
  unfold frP
  go_wp2_with fail
  refine (next_any ((H.out.tape.alloc _).alloc _) _ (by omega)).mono ?_
  rintro e w1 ⟨r, r0, r4, rfl, t1, b1⟩
  obtain ⟨m, rfl⟩ := Int.eq_ofNat_of_zero_le r0
  have hm3 : 1 + m ≤ 3 := by omega
  have I1 : Hid (In2 B bt (w.heap.size + 1) Fn (1 + m : Nat) w w1 nm []) := by
    have hlt2 := H.out.tape.lt
    refine ⟨t1, (((But.refl bt w).alloc _).alloc _).trans b1, by omega, hlt2, ⟨.slice none 0 0, [], ?_, World.ownsRow_nil _ _ _ _, trivial⟩, fun k b hb => by cases hb⟩
    refine b1.blk ?_ (by omega)
    have := heap_alloc_new (w.alloc (.cells #[sv [109], sv [102], sv [103]] 9)) (.cells #[sv nm, .slice none 0 0] 50)
    rw [World.size_alloc] at this
    exact this
  clear t1 b1 r0 r4
  go_wp2_with fail
  rename_i K2 hK2
  refine prog_loop2' (Kn := 1 + m) (iv := .int .i64 (kn : Int)) (bp := bp) (n := n) (by omega) (by omega) hm3 I1.out rfl ?_
  rintro a w2 ⟨bl, ha, hI2, hl2⟩
  rw [ha]
  generalize slots a 9 = bp2
  generalize slots a 10 = n2
  generalize slots a = u2
  refine hK2 _ _ ?_
  have hbut : But bt w w2 := hI2.but
  have htp := hI2.tape
  have I3 := Lib.hid hI2
  have H2 := Lib.hid (H.out.call htp hbut)
  obtain ⟨v, xss, hb, hown, hall⟩ := H2.out.row
  obtain ⟨fv, fxss, hfb, hfown, hfall⟩ := hI2.row
  have HB := Lib.hid hb
  have HO := Lib.hid hown
  have HA := Lib.hid hall
  have HC := Lib.hid (hI2.cells hfb)
  have HL2 := Lib.hid hl2
  have hOne := Lib.hid (SliceAt.one (SliceAt.of_owns hfown))
  have hc1 := (blk_cells hb).1 0
  have hf1 := (blk_cells hb).2 0
  have d0 := (blk_cells hfb).1 0
  have d1 := (blk_cells hfb).1 1
  simp at hc1 d0 d1
  have hsz := lt_heap hb
  have hlx : l.length ≤ 3 := by have := Hkn.out; omega
  clear hb hown hall hfb hfown hfall hbut htp hI2 ha hl2 I1 hc hK2
  unfold frP
  go_wp2_with (first
      | (at_builtin; refine wpList_pushH [sv nm, fv] rfl _ _ 32 rfl (R + 2) 50 _ 2 40 Tryd.underlying32 infoFunc rfl (by omega) _ _ _ HO.out rfl _ rfl (by simp) rfl (by simp only [List.all_cons, List.all_nil, hOne.out]; rfl) (by unfold maxLen; omega) (by omega) (by omega) ?_; intro g cap w6 hown1 hg1 hg2 hg3; have hbl := Below.of_grown hg1 HO.out (by omega); have e1 := (blk_cells ((hbl.block (R + 1) (by omega)).trans HB.out)).1 0; have e2 := (blk_cells ((hbl.block (R + 1) (by omega)).trans HB.out)).2 0; simp only [List.getElem?_toArray, List.getElem?_cons_succ, List.getElem?_cons_zero] at e1; have J2 := Lib.hid hown1; have J3 := Lib.hid hg1; clear hown1 hg1 hbl)
      | fail)
  try simp only [Exit.then]
  refine ⟨⟨nm, bl⟩, rfl, H2.out.push ⟨nm, bl⟩ ⟨by rw [Hkn.out]; exact Hnm.out, by show 1 ≤ bl.length; rw [HL2.out]; omega, by show bl.length ≤ 3; rw [HL2.out]; exact hm3, fun k b hb => ?_⟩ _ HC.out HB.out HO.out HA.out J2.out J3.out⟩
  show GenBlock Fn (bl.length : Nat) k b
  rw [HL2.out]
  exact I3.out.gen k b hb

def End1 (B bt R : Nat) (Fn : Nat) (w0 : World) (a : Act) (w : World) : Prop :=
  ∃ l, a = frP bt R Fn (.int .i64 (Fn : Int)) (slots a 6) (slots a 7) (slots a 8) (slots a 9) (slots a 10) (slots a) ∧ In1 B bt R Fn w0 w l ∧ l.length = Fn

set_option maxRecDepth 100000 in
set_option maxHeartbeats 1000000 in
theorem prog_last1 {B bt R : Nat} {Fn : Nat} {w0 w : World} {l : List PFunc} (fp K k bp n : Value) (u : Nat → Value) (h : In1 B bt R Fn w0 w l) (hm : l.length = Fn) (I : Act → World → Prop) :
    progBody1.wp Tryd.prog (Exit.then I (onExit 0 (End1 B bt R Fn w0))) (frP bt R Fn (.int .i64 (Fn : Int)) fp K k bp n u) w := by
  have H := Lib.hid h
  have HM := Lib.hid hm
  clear h hm
  conv => arg 2; whnf
  unfold frP
  go_wp2
  exact ⟨rfl, l, rfl, H.out, HM.out⟩

theorem prog_loop1 {B bt R : Nat} {Fn : Nat} {w0 w : World} (fp K k bp n : Value) (u : Nat → Value) (hF1 : 1 ≤ Fn) (hF3 : Fn ≤ 3) (h : In1 B bt R Fn w0 w []) :
    (Code.loop progBody1).wp Tryd.prog (onExit 0 (End1 B bt R Fn w0)) (frP bt R Fn (.int .i64 ((0 : Nat) : Int)) fp K k bp n u) w := by
  refine wp_loop (fun a w => ∃ (l : List PFunc), a = frP bt R Fn (.int .i64 (l.length : Int)) (slots a 6) (slots a 7) (slots a 8) (slots a 9) (slots a 10) (slots a) ∧ In1 B bt R Fn w0 w l ∧ l.length ≤ Fn) (fun a _ => Fn - (intOf (a.tmps.getD 5 undef)).toNat) ?_ ?_
  · exact ⟨[], rfl, h, Nat.zero_le _⟩
  · rintro a' w' ⟨l', ha, h', hm'⟩
    rw [ha]
    generalize slots a' 6 = fp'
    generalize slots a' 7 = K'
    generalize slots a' 8 = k'
    generalize slots a' 9 = bp'
    generalize slots a' 10 = n'
    generalize slots a' = u'
    rcases Nat.lt_or_ge l'.length Fn with hlt | hge
    · refine wp_mono (prog_round1 (R := R) fp' K' k' bp' n' u' hF1 hF3 h' hlt) ?_
      intro e a w hq
      cases e with
      | normal =>
        obtain ⟨b, ha2, h2⟩ := hq
        refine ⟨⟨l' ++ [b], ?_, h2, by simp; omega⟩, ?_⟩
        · rw [List.length_append]; exact ha2
        · rw [ha2]
          show Fn - (intOf (Value.int .i64 ((l'.length + 1 : Nat) : Int))).toNat < Fn - (intOf (Value.int .i64 (l'.length : Int))).toNat
          simp [intOf]
          omega
      | _ => exact hq.elim
    · have he : l'.length = Fn := by omega
      rw [he]
      exact prog_last1 fp' K' k' bp' n' u' h' he _

theorem prog_loop1' {B bt R : Nat} {Fn : Nat} {w0 w : World} {fp K k bp n : Value} {a : Act} (hF1 : 1 ≤ Fn) (hF3 : Fn ≤ 3) (h : In1 B bt R Fn w0 w [])
    (ha : a = frP bt R Fn (.int .i64 ((0 : Nat) : Int)) fp K k bp n (slots a)) {Q : Exit → Act → World → Prop} (hq : ∀ a w, End1 B bt R Fn w0 a w → Q (.exit 0) a w) :
    (Code.loop progBody1).wp Tryd.prog Q a w := by
  rw [ha]
  refine wp_mono (prog_loop1 fp K k bp n _ hF1 hF3 h) ?_
  intro e a w h
  cases e with
  | exit i => obtain ⟨rfl, h⟩ := h; exact hq _ _ h
  | _ => exact h.elim

/-- What a drawn program comes to. -/
def ProgPost (B bt : Nat) (w : World) (e : Ending) (w' : World) : Prop :=
  ∃ p v, GenProg p ∧ e = .returned (.agg #[v]) ∧ FuncsAt w' v p ∧ TapeOk B w' bt ∧ But bt w w'

set_option maxRecDepth 100000 in
set_option maxHeartbeats 1000000 in
theorem program_any {B bt : Nat} {w : World} (ht : TapeOk B w bt) :
    Calls Tryd.prog 15 #[.pointer (some ⟨bt, 0, none⟩)] w (ProgPost B bt w) := by
  have hlt := ht.lt
  have hge := ht.ge
  have Ht := Lib.hid ht
  clear ht
  go_enter Tryd.func15, Tryd.ntmps15
  go_wp2_with fail
  refine (next_any ((Ht.out.alloc _).alloc _) _ (by omega)).mono ?_
  rintro e w1 ⟨r, r0, r4, rfl, t1, b1⟩
  obtain ⟨m, rfl⟩ := Int.eq_ofNat_of_zero_le r0
  have hm3 : 1 + m ≤ 3 := by omega
  have I1 : Hid (In1 B bt w.heap.size (1 + m : Nat) w w1 []) := by
    have a1 := heap_alloc_new w (.cells #[.slice none 0 0] 34)
    have a2 := heap_alloc_new (w.alloc (.cells #[.slice none 0 0] 34)) (.cells #[.slice none 0 0] 34)
    rw [World.size_alloc] at a2
    exact ⟨t1, (((But.refl bt w).alloc _).alloc _).trans b1, rfl, hlt, b1.blk (alloc_blk _ a1) (by omega), ⟨.slice none 0 0, [], b1.blk a2 (by omega), World.ownsRow_nil _ _ _ _, trivial⟩, fun k b hb => by cases hb⟩
  clear t1 b1 r0 r4
  obtain ⟨R, hR⟩ : ∃ R, w.heap.size = R := ⟨_, rfl⟩
  rw [hR] at I1 ⊢
  go_wp2_with fail
  rename_i K2 hK2
  refine prog_loop1' (Fn := 1 + m) (R := R) (fp := undef) (K := undef) (k := undef) (bp := undef) (n := undef) (by omega) hm3 I1.out rfl ?_
  rintro a w2 ⟨l, ha, hI, hl⟩
  rw [ha]
  generalize slots a 6 = s6
  generalize slots a 7 = s7
  generalize slots a 8 = s8
  generalize slots a 9 = s9
  generalize slots a 10 = s10
  generalize slots a = u2
  refine hK2 _ _ ?_
  obtain ⟨v, xss, hb, hown, hall⟩ := hI.row
  obtain ⟨sa, sn, sc, hv, _⟩ := (SliceAt.of_owns hown).form
  subst hv
  have hres := hI.res
  have I2 := Lib.hid hI
  have HL := Lib.hid hl
  have HF : Hid (FuncsAt w2 (.slice sa sn sc) l) := ⟨xss, SliceAt.of_owns hown, hall⟩
  have c0 := (blk_cells hb).1 0
  have d0 := (blk_cells hres).1 0
  have f0 := (blk_cells hres).2 0
  have hsr := lt_heap hres
  simp at c0 d0
  have HR := Lib.hid hres
  clear hb hown hall hres hI hl ha hK2 I1
  unfold frP
  go_wp2
  have hty := tyAt_of HR.out
  have hS (T : TypeId) (h : T ≠ 34) : SameT T w2 (w2.setCell ⟨R, 0, none⟩ (.slice sa sn sc)) := SameT.setCell (U := 34) hty h
  have htape : TapeOk B (w2.setCell ⟨R, 0, none⟩ (.slice sa sn sc)) bt := I2.out.tape.setCell (by show R ≠ bt; omega) (by show B ≤ R; omega) _
  have hbut : But bt w (w2.setCell ⟨R, 0, none⟩ (.slice sa sn sc)) := I2.out.but.setCell _ (.inr (by show w.heap.size ≤ R; omega)) _
  have gc := (blk_cells (set_first HR.out (.slice sa sn sc))).1 0
  refine bodyPost_ret (v := .agg #[.slice sa sn sc]) ?_ rfl ?_
  · simp [results, Tryd.results15, go_sem, gc]
  refine ⟨l, _, ⟨by rw [HL.out]; omega, by rw [HL.out]; exact hm3, fun i f hf => ?_⟩, rfl, HF.out.keep (hS _ (by decide)) (hS _ (by decide)) (hS _ (by decide)) (hS _ (by decide)), htape, hbut⟩
  rw [HL.out]
  exact I2.out.gen i f hf
end Go.Proofs.YtpnfdmajpkpjoaaDoor

