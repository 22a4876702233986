/- The law ScriptPrints: the walk. Printed by wip/gen_scl2.py. -/
import Derived.Test.YtgmlnbheceeklaaDoorScG
set_option linter.unusedVariables false
set_option linter.unusedSimpArgs false
set_option linter.unusedSectionVars false
namespace Go.Proofs.YtgmlnbheceeklaaDoor
open Go.RowKit
variable [Base]

/-- What stands in a round: the tape, the drawn operation, the operation that came in. -/
structure PrIn (w0 wx : World) (bt yb : Nat) (o x : POp) : Prop where
  tape : TapeOk bt wx bt
  below : Below w0.heap.size w0 wx
  yl : wx.heap[yb]? = some (.cells (opC o) 24 (0, 0))
  xl : wx.heap[w0.heap.size]? = some (.cells (opC x) 24 (0, 0))
  old : w0.heap.size < bt ∧ bt < yb
theorem PrIn.after {w0 wx w2 : World} {bt yb : Nat} {o x : POp} (h : PrIn w0 wx bt yb o x) (k : Below wx.heap.size wx w2) : PrIn w0 w2 bt yb o x :=
  ⟨h.tape.below k, h.below.trans (k.mono h.below.size), lies_below h.yl k (lt_heap h.yl), lies_below h.xl k (lt_heap h.xl), h.old⟩
theorem set6 {w : World} {b : Nat} {o x : POp} (h : w.heap[b]? = some (.cells (opC o) 24 (0, 0))) :
    ((((((w.setCell ⟨b, 0, none⟩ (.int .i64 x.kind)).setCell ⟨b, 1, none⟩ (qs x.id)).setCell ⟨b, 2, none⟩ (qs x.text)).setCell ⟨b, 3, none⟩ (.int .i64 x.ana)).setCell ⟨b, 4, none⟩ (.int .i64 x.node)).setCell ⟨b, 5, none⟩ (.int .i64 x.n)).heap[b]? = some (.cells (opC x) 24 (0, 0)) := by
  simp [World.setCell, Array.getElem?_modify, h, opC]
theorem PrIn.six {w0 wx : World} {bt yb : Nat} {o x : POp} (h : PrIn w0 wx bt yb o x) :
    PrIn w0 ((((((wx.setCell ⟨yb, 0, none⟩ (.int .i64 x.kind)).setCell ⟨yb, 1, none⟩ (qs x.id)).setCell ⟨yb, 2, none⟩ (qs x.text)).setCell ⟨yb, 3, none⟩ (.int .i64 x.ana)).setCell ⟨yb, 4, none⟩ (.int .i64 x.node)).setCell ⟨yb, 5, none⟩ (.int .i64 x.n)) bt yb x x := by
  obtain ⟨o1, o2⟩ := h.old
  refine ⟨?_, ?_, set6 h.yl, ?_, h.old⟩
  · repeat (first | with_reducible exact h.tape | refine TapeOk.setCell ?_ (by show yb ≠ bt; omega) (by show bt ≤ yb; omega) _)
  · repeat (first | with_reducible exact h.below | refine Below.setCell ?_ (by show w0.heap.size ≤ yb; omega) _)
  · have hne : w0.heap.size ≠ yb := by omega
    repeat (first | with_reducible exact h.xl | rw [Below.heap_setCell _ _ _ _ (by exact hne)])
theorem opT_len (o : POp) : (opT o).length ≤ 100000 := by
  rcases Bool.eq_false_or_eq_true (opB o) with h | h
  · have hT : opT o = if o.kind = 1 then verbT o.kind ++ [32] ++ o.id ++ [32] ++ o.text
      else if o.kind = 3 then verbT o.kind ++ [32] ++ o.id ++ [32] ++ o.text ++ [32] ++ anaT o.ana ++ [32] ++ dec10 o.node.toNat ++ [32] ++ dec10 o.n.toNat
      else if o.kind = 5 ∨ o.kind = 8 then verbT o.kind ++ [32] ++ dec10 o.n.toNat
      else if o.kind = 9 then verbT o.kind
      else verbT o.kind ++ [32] ++ o.id := if_pos h
    have hv : ∀ k : Int, (verbT k).length ≤ 6 := fun k => by
      unfold verbT
      have : ∀ j, ((verbsL[j]?).getD []).length ≤ 6 := fun j => by
        rcases Nat.lt_or_ge j 10 with h | h
        · have : ∀ j, j < 10 → ((verbsL[j]?).getD []).length ≤ 6 := by decide
          exact this j h
        · rw [List.getElem?_eq_none (by show 10 ≤ j; omega)]; simp
      exact this _
    have ha : ∀ k : Int, (anaT k).length ≤ 6 := fun k => by
      unfold anaT
      have : ∀ j, ((anasL[j]?).getD []).length ≤ 6 := fun j => by
        rcases Nat.lt_or_ge j 5 with h | h
        · have : ∀ j, j < 5 → ((anasL[j]?).getD []).length ≤ 6 := by decide
          exact this j h
        · rw [List.getElem?_eq_none (by show 5 ≤ j; omega)]; simp
      exact this _
    rw [hT]
    have h1 := hv o.kind
    have h2 := ha o.ana
    rcases op_cases h with ⟨id, text, rfl, h3, h4⟩ | ⟨k, id, hk, rfl, h3⟩ | ⟨id, text, a, b, c, rfl, h3, h4, hA, hB, hC⟩ | ⟨k, n, hk, rfl, hn⟩ | rfl
    · have := name_len h3
      have := textB_len h4
      dsimp only at h1 ⊢
      rw [if_pos rfl]
      simp only [List.length_append, List.length_cons, List.length_nil]
      omega
    · have := name_len h3
      dsimp only at h1 ⊢
      rw [if_neg (by omega), if_neg (by omega), if_neg (by omega), if_neg (by omega)]
      simp only [List.length_append, List.length_cons, List.length_nil]
      omega
    · have := name_len h3
      have := name_len h4
      have h5 : (dec10 (b : Int).toNat).length ≤ 20 := dec10_le 20 (by omega) (by omega)
      have h6 : (dec10 (c : Int).toNat).length ≤ 20 := dec10_le 20 (by omega) (by omega)
      dsimp only at h1 h2 ⊢
      rw [if_neg (by decide), if_pos rfl]
      simp only [List.length_append, List.length_cons, List.length_nil]
      omega
    · have h5 : (dec10 (n : Int).toNat).length ≤ 20 := dec10_le 20 (by omega) (by omega)
      dsimp only at h1 ⊢
      rw [if_neg (by omega), if_neg (by omega), if_pos (by omega)]
      simp only [List.length_append, List.length_cons, List.length_nil]
      omega
    · dsimp only at h1 ⊢
      rw [if_neg (by decide), if_neg (by decide), if_neg (by decide), if_pos rfl]
      omega
  · rw [opT_no h]; simp
set_option maxRecDepth 100000 in
set_option maxHeartbeats 8000000 in
theorem printsLaw_any (w0 : World) (a : Option Addr) (n c : Nat) (hn : n ≤ maxLen)
    (h : ∀ j : Nat, j < n → ∃ b off z, a = some ⟨b, off, none⟩ ∧ b < w0.heap.size ∧ w0.cell? ⟨b, off + j, none⟩ = some (.int .i64 z)) (KT : VarsIn w0.heap.size w0) (hbs : Base.b ≤ w0.heap.size) (x : POp) (hxi : x.id.length ≤ 9223372036854775807) (hxt : x.text.length ≤ 9223372036854775807) :
    Calls Tryd.prog 3 #[.slice a n c, opV x] w0 (BoolQ true w0) := by
  have hud : ∀ b : Bool, (undef = Value.bool b) = False := fun b => by simp [undef]
  have HK := Lib.hid (show ∀ w', Below w0.heap.size w0 w' → VarsIn w0.heap.size w' from fun w' hb => KT.below hb)
  obtain ⟨W, hW⟩ : ∃ W, w0.alloc (.cells #[.int .i64 x.kind, qs x.id, qs x.text, .int .i64 x.ana, .int .i64 x.node, .int .i64 x.n] 24) = W := ⟨_, rfl⟩
  have XL := Lib.hid (show W.heap[w0.heap.size]? = some (.cells (opC x) 24 (0, 0)) by rw [← hW]; exact heap_alloc_new _ _)
  have B0 := Lib.hid (show Below w0.heap.size w0 W by rw [← hW]; exact (Below.refl _ _).alloc (Nat.le_refl _) _)
  have H := Lib.hid (show ∀ j : Nat, j < n → ∃ b off z, a = some ⟨b, off, none⟩ ∧ b < W.heap.size ∧ W.cell? ⟨b, off + j, none⟩ = some (.int .i64 z) from fun j hj => by
    obtain ⟨b, off, z, e1, e2, e3⟩ := h j hj
    exact ⟨b, off, z, e1, Nat.lt_of_lt_of_le e2 B0.out.size, (B0.out.cell (p := ⟨b, off + j, none⟩) e2).trans e3⟩)
  have hlt0 : w0.heap.size < W.heap.size := lt_heap XL.out
  have HW := Lib.hid hW
  obtain ⟨bt, hbt⟩ : ∃ bt, W.heap.size = bt := ⟨_, rfl⟩
  have HBT := Lib.hid hbt
  clear h KT hW
  go_enter Tryd.func3, Tryd.ntmps3
  go_wp2_with fail
  rw [show w0.alloc (.cells #[.int .i64 x.kind, qs x.id, qs x.text, .int .i64 x.ana, .int .i64 x.node, .int .i64 x.n] 24) = W from HW.out]
  refine (new_any HBT.out.symm a n c hn (by rw [← HBT.out]; exact H.out) (by rw [← HBT.out]; omega)).mono ?_
  rintro e w1 ⟨rfl, ht, hb⟩
  have T1 := Lib.hid ht
  have B1 := Lib.hid (B0.out.trans (hb.mono (by omega)))
  have X1 := Lib.hid (show w1.heap[w0.heap.size]? = some (.cells (opC x) 24 (0, 0)) from lies_below XL.out hb (by omega))
  rw [hbt] at hlt0
  clear ht hb hbt HBT HW XL
  go_wp2_with fail
  go_loopw [6] (fun y6 wr => ∃ i : Nat, i ≤ 12 ∧ y6 = .int .i64 i ∧ Hid (TapeOk bt wr bt) ∧ Hid (Below w0.heap.size w0 wr) ∧ Hid (wr.heap[w0.heap.size]? = some (.cells (opC x) 24 (0, 0)))) (fun y _ => 12 - (intOf y).toNat)
  case atStart => exact ⟨0, by omega, rfl, T1, B1, X1⟩
  case round =>
    clear T1 B1 X1
    obtain ⟨i, hi, rfl, HT, HB, HX⟩ := hrel
    by_cases hlt : i < 12
    · have i2 : (i : Int) < 12 := by omega
      go_wp2_with fail
      refine (op_any HT.out).mono ?_
      rintro e w2 ⟨y, rfl, hyi, hyt, t2, b2⟩
      have hyi2 : y.id.length ≤ 9223372036854775807 := by omega
      have hyt2 : y.text.length ≤ 9223372036854775807 := by omega
      obtain ⟨V, hV⟩ : ∃ V, w2.alloc (.cells #[.int .i64 y.kind, qs y.id, qs y.text, .int .i64 y.ana, .int .i64 y.node, .int .i64 y.n] 24) = V := ⟨_, rfl⟩
      obtain ⟨yb, hyb⟩ : ∃ b, w2.heap.size = b := ⟨_, rfl⟩
      have J0 := Lib.hid (show PrIn w0 V bt yb y x by
        rw [← hV, ← hyb]
        refine ⟨t2.alloc _, (HB.out.trans (b2.toBelow (by omega) HB.out.size)).alloc (by have := HB.out.size; have := b2.size; omega) _, heap_alloc_new _ _, lies_alloc _ ((b2.block w0.heap.size (lt_heap HX.out) (by omega)).trans HX.out), hlt0, t2.lt⟩)
      have HV := Lib.hid hV
      have HYB := Lib.hid hyb
      clear hV hyb t2 b2
      go_upto_region 6 with fail
      rw [show w2.alloc (.cells #[.int .i64 y.kind, qs y.id, qs y.text, .int .i64 y.ana, .int .i64 y.node, .int .i64 y.n] 24) = V from HV.out, show w2.heap.size = yb from HYB.out]
      clear HV HYB
      by_cases h11 : i = 11
      · have e11 : ((i : Int) == 11) = true := by simp; omega
        have u0 := (lies_cells J0.out.xl).1 0
        have u1 := (lies_cells J0.out.xl).1 1
        have u2 := (lies_cells J0.out.xl).1 2
        have u3 := (lies_cells J0.out.xl).1 3
        have u4 := (lies_cells J0.out.xl).1 4
        have u5 := (lies_cells J0.out.xl).1 5
        simp only [opC, List.getElem?_toArray, List.getElem?_cons_zero, List.getElem?_cons_succ] at u0 u1 u2 u3 u4 u5
        have x0 := (lies_cells J0.out.yl).1 0
        have x1 := (lies_cells J0.out.yl).1 1
        have x2 := (lies_cells J0.out.yl).1 2
        have x3 := (lies_cells J0.out.yl).1 3
        have x4 := (lies_cells J0.out.yl).1 4
        have x5 := (lies_cells J0.out.yl).1 5
        simp only [opC, List.getElem?_toArray, List.getElem?_cons_zero, List.getElem?_cons_succ] at x0 x1 x2 x3 x4 x5
        have q0 := (lies_cells J0.out.yl).2 0
        have q1 := (lies_cells J0.out.yl).2 1
        have q2 := (lies_cells J0.out.yl).2 2
        have q3 := (lies_cells J0.out.yl).2 3
        have q4 := (lies_cells J0.out.yl).2 4
        have q5 := (lies_cells J0.out.yl).2 5
        have J1 := Lib.hid J0.out.six
        obtain ⟨V1, hV1⟩ : ∃ V1, ((((((V.setCell ⟨yb, 0, none⟩ (.int .i64 x.kind)).setCell ⟨yb, 1, none⟩ (qs x.id)).setCell ⟨yb, 2, none⟩ (qs x.text)).setCell ⟨yb, 3, none⟩ (.int .i64 x.ana)).setCell ⟨yb, 4, none⟩ (.int .i64 x.node)).setCell ⟨yb, 5, none⟩ (.int .i64 x.n)) = V1 := ⟨_, rfl⟩
        rw [hV1] at J1
        have HV1 := Lib.hid hV1
        clear hV1
        go_upto_region 8 with fail
        rw [show ((((((V.setCell ⟨yb, 0, none⟩ (.int .i64 x.kind)).setCell ⟨yb, 1, none⟩ (qs x.id)).setCell ⟨yb, 2, none⟩ (qs x.text)).setCell ⟨yb, 3, none⟩ (.int .i64 x.ana)).setCell ⟨yb, 4, none⟩ (.int .i64 x.node)).setCell ⟨yb, 5, none⟩ (.int .i64 x.n)) = V1 from HV1.out]
        clear u0 u1 u2 u3 u4 u5 q0 q1 q2 q3 q4 q5 HV1
        clear x0 x1 x2 x3 x4 x5
        have x0 := (lies_cells J1.out.yl).1 0
        have x1 := (lies_cells J1.out.yl).1 1
        have x2 := (lies_cells J1.out.yl).1 2
        have x3 := (lies_cells J1.out.yl).1 3
        have x4 := (lies_cells J1.out.yl).1 4
        have x5 := (lies_cells J1.out.yl).1 5
        simp only [opC, List.getElem?_toArray, List.getElem?_cons_zero, List.getElem?_cons_succ] at x0 x1 x2 x3 x4 x5
        obtain ⟨tx, htx⟩ : ∃ t, opT x = t := ⟨_, rfl⟩
        obtain ⟨dv, hdv⟩ : ∃ d, opB x = d := ⟨_, rfl⟩
        have htl : tx.length ≤ 100000 := by rw [← htx]; exact opT_len _
        have HTX := Lib.hid htx
        have HDV := Lib.hid hdv
        have hx2 : (tx != tx) = false := by simp
        obtain ⟨Z, er, hzr⟩ : ∃ Z er, takeO tx (candP tx) = (Z, er) := ⟨_, _, rfl⟩
        have HZ := Lib.hid hzr
        have hzc : (dv = true ∧ x = Z ∧ 0 = er) ∨ (dv = false ∧ 4 = er) := by
          rcases Bool.eq_false_or_eq_true dv with h | h
          · left
            have := take_text (hdv.trans h)
            rw [htx, hzr] at this
            injection this with e1 e2
            exact ⟨h, e1.symm, e2.symm⟩
          · right
            have e0 := opT_no (hdv.trans h)
            rw [htx] at e0
            rw [e0, parse_nil] at hzr
            injection hzr with e1 e2
            exact ⟨h, e2⟩
        clear htx hdv hzr
        go_wp2_with fail
        refine (print_to (B := w0.heap.size) (o := x) HTX.out (hxi) (hxt) V1 (HK.out _ J1.out.below) J1.out.below.size).mono ?_
        rintro e p1 ⟨rfl, c1⟩
        have K1 := Lib.hid (J1.out.after c1)
        clear c1
        clear x0 x1 x2 x3 x4 x5
        have x0 := (lies_cells K1.out.yl).1 0
        have x1 := (lies_cells K1.out.yl).1 1
        have x2 := (lies_cells K1.out.yl).1 2
        have x3 := (lies_cells K1.out.yl).1 3
        have x4 := (lies_cells K1.out.yl).1 4
        have x5 := (lies_cells K1.out.yl).1 5
        simp only [opC, List.getElem?_toArray, List.getElem?_cons_zero, List.getElem?_cons_succ] at x0 x1 x2 x3 x4 x5
        go_wp2_with fail
        refine (parse_to (B := w0.heap.size) HZ.out (by omega) p1 (HK.out _ K1.out.below) K1.out.below.size).mono ?_
        rintro e p2 ⟨rfl, c2⟩
        have K2 := Lib.hid (K1.out.after c2)
        clear c2
        obtain ⟨V2, hV2⟩ : ∃ V, p2.alloc (.cells #[.int .i64 Z.kind, qs Z.id, qs Z.text, .int .i64 Z.ana, .int .i64 Z.node, .int .i64 Z.n] 24) = V := ⟨_, rfl⟩
        have ZL := Lib.hid (show V2.heap[p2.heap.size]? = some (.cells (opC Z) 24 (0, 0)) by rw [← hV2]; exact heap_alloc_new _ _)
        have K3 := Lib.hid (show PrIn w0 V2 bt yb x x by rw [← hV2]; exact K2.out.after ((Below.refl _ _).alloc (Nat.le_refl _) _))
        have HV2 := Lib.hid hV2
        clear hV2
        go_upto_region 10 with fail
        rw [show p2.alloc (.cells #[.int .i64 Z.kind, qs Z.id, qs Z.text, .int .i64 Z.ana, .int .i64 Z.node, .int .i64 Z.n] 24) = V2 from HV2.out]
        clear x0 x1 x2 x3 x4 x5
        have x0 := (lies_cells K3.out.yl).1 0
        have x1 := (lies_cells K3.out.yl).1 1
        have x2 := (lies_cells K3.out.yl).1 2
        have x3 := (lies_cells K3.out.yl).1 3
        have x4 := (lies_cells K3.out.yl).1 4
        have x5 := (lies_cells K3.out.yl).1 5
        simp only [opC, List.getElem?_toArray, List.getElem?_cons_zero, List.getElem?_cons_succ] at x0 x1 x2 x3 x4 x5
        go_wp2_with fail
        refine (rvalid_to (o := x) HDV.out (hxt) V2).mono ?_
        rintro e p3 ⟨rfl, c3⟩
        have K4 := Lib.hid (K3.out.after c3)
        have ZL4 := Lib.hid (lies_below ZL.out c3 (lt_heap ZL.out))
        clear c3
        clear x0 x1 x2 x3 x4 x5
        have x0 := (lies_cells K4.out.yl).1 0
        have x1 := (lies_cells K4.out.yl).1 1
        have x2 := (lies_cells K4.out.yl).1 2
        have x3 := (lies_cells K4.out.yl).1 3
        have x4 := (lies_cells K4.out.yl).1 4
        have x5 := (lies_cells K4.out.yl).1 5
        simp only [opC, List.getElem?_toArray, List.getElem?_cons_zero, List.getElem?_cons_succ] at x0 x1 x2 x3 x4 x5
        go_wp2_with fail
        refine (valid_to (B := w0.heap.size) (o := x) HDV.out (hxi) (hxt) p3 (HK.out _ K4.out.below) K4.out.below.size).mono ?_
        rintro e p4 ⟨rfl, c4⟩
        have K5 := Lib.hid (K4.out.after c4)
        have ZL5 := Lib.hid (lies_below ZL4.out c4 (lt_heap ZL4.out))
        clear c4
        clear x0 x1 x2 x3 x4 x5
        have x0 := (lies_cells K5.out.yl).1 0
        have x1 := (lies_cells K5.out.yl).1 1
        have x2 := (lies_cells K5.out.yl).1 2
        have x3 := (lies_cells K5.out.yl).1 3
        have x4 := (lies_cells K5.out.yl).1 4
        have x5 := (lies_cells K5.out.yl).1 5
        simp only [opC, List.getElem?_toArray, List.getElem?_cons_zero, List.getElem?_cons_succ] at x0 x1 x2 x3 x4 x5
        rcases hzc with ⟨rfl, rfl, rfl⟩ | ⟨rfl, rfl⟩
        · go_wp2_with fail
          refine (rprint_to (o := x) HTX.out (hxt) p4).mono ?_
          rintro e p5 ⟨rfl, c5⟩
          have K6 := Lib.hid (K5.out.after c5)
          have ZL6 := Lib.hid (lies_below ZL5.out c5 (lt_heap ZL5.out))
          clear c5
          clear x0 x1 x2 x3 x4 x5
          have x0 := (lies_cells K6.out.yl).1 0
          have x1 := (lies_cells K6.out.yl).1 1
          have x2 := (lies_cells K6.out.yl).1 2
          have x3 := (lies_cells K6.out.yl).1 3
          have x4 := (lies_cells K6.out.yl).1 4
          have x5 := (lies_cells K6.out.yl).1 5
          simp only [opC, List.getElem?_toArray, List.getElem?_cons_zero, List.getElem?_cons_succ] at x0 x1 x2 x3 x4 x5
          have z0 := (lies_cells ZL6.out).1 0
          have z1 := (lies_cells ZL6.out).1 1
          have z2 := (lies_cells ZL6.out).1 2
          have z3 := (lies_cells ZL6.out).1 3
          have z4 := (lies_cells ZL6.out).1 4
          have z5 := (lies_cells ZL6.out).1 5
          simp only [opC, List.getElem?_toArray, List.getElem?_cons_zero, List.getElem?_cons_succ] at z0 z1 z2 z3 z4 z5
          go_wp2
          go_roundw
          case rel => exact ⟨i + 1, by omega, by go_num, K6.out.tape, K6.out.below, K6.out.xl⟩
          case measure => simp [intOf]; omega
        · go_wp2_with fail
          refine (rprint_to (o := x) HTX.out (hxt) p4).mono ?_
          rintro e p5 ⟨rfl, c5⟩
          have K6 := Lib.hid (K5.out.after c5)
          have ZL6 := Lib.hid (lies_below ZL5.out c5 (lt_heap ZL5.out))
          clear c5
          clear x0 x1 x2 x3 x4 x5
          have x0 := (lies_cells K6.out.yl).1 0
          have x1 := (lies_cells K6.out.yl).1 1
          have x2 := (lies_cells K6.out.yl).1 2
          have x3 := (lies_cells K6.out.yl).1 3
          have x4 := (lies_cells K6.out.yl).1 4
          have x5 := (lies_cells K6.out.yl).1 5
          simp only [opC, List.getElem?_toArray, List.getElem?_cons_zero, List.getElem?_cons_succ] at x0 x1 x2 x3 x4 x5
          have z0 := (lies_cells ZL6.out).1 0
          have z1 := (lies_cells ZL6.out).1 1
          have z2 := (lies_cells ZL6.out).1 2
          have z3 := (lies_cells ZL6.out).1 3
          have z4 := (lies_cells ZL6.out).1 4
          have z5 := (lies_cells ZL6.out).1 5
          simp only [opC, List.getElem?_toArray, List.getElem?_cons_zero, List.getElem?_cons_succ] at z0 z1 z2 z3 z4 z5
          go_wp2
          go_roundw
          case rel => exact ⟨i + 1, by omega, by go_num, K6.out.tape, K6.out.below, K6.out.xl⟩
          case measure => simp [intOf]; omega
      · have e11 : ((i : Int) == 11) = false := by rw [beq_eq_false_iff_ne]; omega
        have x0 := (lies_cells J0.out.yl).1 0
        have x1 := (lies_cells J0.out.yl).1 1
        have x2 := (lies_cells J0.out.yl).1 2
        have x3 := (lies_cells J0.out.yl).1 3
        have x4 := (lies_cells J0.out.yl).1 4
        have x5 := (lies_cells J0.out.yl).1 5
        simp only [opC, List.getElem?_toArray, List.getElem?_cons_zero, List.getElem?_cons_succ] at x0 x1 x2 x3 x4 x5
        obtain ⟨tx, htx⟩ : ∃ t, opT y = t := ⟨_, rfl⟩
        obtain ⟨dv, hdv⟩ : ∃ d, opB y = d := ⟨_, rfl⟩
        have htl : tx.length ≤ 100000 := by rw [← htx]; exact opT_len _
        have HTX := Lib.hid htx
        have HDV := Lib.hid hdv
        have hx2 : (tx != tx) = false := by simp
        obtain ⟨Z, er, hzr⟩ : ∃ Z er, takeO tx (candP tx) = (Z, er) := ⟨_, _, rfl⟩
        have HZ := Lib.hid hzr
        have hzc : (dv = true ∧ y = Z ∧ 0 = er) ∨ (dv = false ∧ 4 = er) := by
          rcases Bool.eq_false_or_eq_true dv with h | h
          · left
            have := take_text (hdv.trans h)
            rw [htx, hzr] at this
            injection this with e1 e2
            exact ⟨h, e1.symm, e2.symm⟩
          · right
            have e0 := opT_no (hdv.trans h)
            rw [htx] at e0
            rw [e0, parse_nil] at hzr
            injection hzr with e1 e2
            exact ⟨h, e2⟩
        clear htx hdv hzr
        go_wp2_with fail
        refine (print_to (B := w0.heap.size) (o := y) HTX.out (hyi2) (hyt2) V (HK.out _ J0.out.below) J0.out.below.size).mono ?_
        rintro e p1 ⟨rfl, c1⟩
        have K1 := Lib.hid (J0.out.after c1)
        clear c1
        clear x0 x1 x2 x3 x4 x5
        have x0 := (lies_cells K1.out.yl).1 0
        have x1 := (lies_cells K1.out.yl).1 1
        have x2 := (lies_cells K1.out.yl).1 2
        have x3 := (lies_cells K1.out.yl).1 3
        have x4 := (lies_cells K1.out.yl).1 4
        have x5 := (lies_cells K1.out.yl).1 5
        simp only [opC, List.getElem?_toArray, List.getElem?_cons_zero, List.getElem?_cons_succ] at x0 x1 x2 x3 x4 x5
        go_wp2_with fail
        refine (parse_to (B := w0.heap.size) HZ.out (by omega) p1 (HK.out _ K1.out.below) K1.out.below.size).mono ?_
        rintro e p2 ⟨rfl, c2⟩
        have K2 := Lib.hid (K1.out.after c2)
        clear c2
        obtain ⟨V2, hV2⟩ : ∃ V, p2.alloc (.cells #[.int .i64 Z.kind, qs Z.id, qs Z.text, .int .i64 Z.ana, .int .i64 Z.node, .int .i64 Z.n] 24) = V := ⟨_, rfl⟩
        have ZL := Lib.hid (show V2.heap[p2.heap.size]? = some (.cells (opC Z) 24 (0, 0)) by rw [← hV2]; exact heap_alloc_new _ _)
        have K3 := Lib.hid (show PrIn w0 V2 bt yb y x by rw [← hV2]; exact K2.out.after ((Below.refl _ _).alloc (Nat.le_refl _) _))
        have HV2 := Lib.hid hV2
        clear hV2
        go_upto_region 10 with fail
        rw [show p2.alloc (.cells #[.int .i64 Z.kind, qs Z.id, qs Z.text, .int .i64 Z.ana, .int .i64 Z.node, .int .i64 Z.n] 24) = V2 from HV2.out]
        clear x0 x1 x2 x3 x4 x5
        have x0 := (lies_cells K3.out.yl).1 0
        have x1 := (lies_cells K3.out.yl).1 1
        have x2 := (lies_cells K3.out.yl).1 2
        have x3 := (lies_cells K3.out.yl).1 3
        have x4 := (lies_cells K3.out.yl).1 4
        have x5 := (lies_cells K3.out.yl).1 5
        simp only [opC, List.getElem?_toArray, List.getElem?_cons_zero, List.getElem?_cons_succ] at x0 x1 x2 x3 x4 x5
        go_wp2_with fail
        refine (rvalid_to (o := y) HDV.out (hyt2) V2).mono ?_
        rintro e p3 ⟨rfl, c3⟩
        have K4 := Lib.hid (K3.out.after c3)
        have ZL4 := Lib.hid (lies_below ZL.out c3 (lt_heap ZL.out))
        clear c3
        clear x0 x1 x2 x3 x4 x5
        have x0 := (lies_cells K4.out.yl).1 0
        have x1 := (lies_cells K4.out.yl).1 1
        have x2 := (lies_cells K4.out.yl).1 2
        have x3 := (lies_cells K4.out.yl).1 3
        have x4 := (lies_cells K4.out.yl).1 4
        have x5 := (lies_cells K4.out.yl).1 5
        simp only [opC, List.getElem?_toArray, List.getElem?_cons_zero, List.getElem?_cons_succ] at x0 x1 x2 x3 x4 x5
        go_wp2_with fail
        refine (valid_to (B := w0.heap.size) (o := y) HDV.out (hyi2) (hyt2) p3 (HK.out _ K4.out.below) K4.out.below.size).mono ?_
        rintro e p4 ⟨rfl, c4⟩
        have K5 := Lib.hid (K4.out.after c4)
        have ZL5 := Lib.hid (lies_below ZL4.out c4 (lt_heap ZL4.out))
        clear c4
        clear x0 x1 x2 x3 x4 x5
        have x0 := (lies_cells K5.out.yl).1 0
        have x1 := (lies_cells K5.out.yl).1 1
        have x2 := (lies_cells K5.out.yl).1 2
        have x3 := (lies_cells K5.out.yl).1 3
        have x4 := (lies_cells K5.out.yl).1 4
        have x5 := (lies_cells K5.out.yl).1 5
        simp only [opC, List.getElem?_toArray, List.getElem?_cons_zero, List.getElem?_cons_succ] at x0 x1 x2 x3 x4 x5
        rcases hzc with ⟨rfl, rfl, rfl⟩ | ⟨rfl, rfl⟩
        · go_wp2_with fail
          refine (rprint_to (o := y) HTX.out (hyt2) p4).mono ?_
          rintro e p5 ⟨rfl, c5⟩
          have K6 := Lib.hid (K5.out.after c5)
          have ZL6 := Lib.hid (lies_below ZL5.out c5 (lt_heap ZL5.out))
          clear c5
          clear x0 x1 x2 x3 x4 x5
          have x0 := (lies_cells K6.out.yl).1 0
          have x1 := (lies_cells K6.out.yl).1 1
          have x2 := (lies_cells K6.out.yl).1 2
          have x3 := (lies_cells K6.out.yl).1 3
          have x4 := (lies_cells K6.out.yl).1 4
          have x5 := (lies_cells K6.out.yl).1 5
          simp only [opC, List.getElem?_toArray, List.getElem?_cons_zero, List.getElem?_cons_succ] at x0 x1 x2 x3 x4 x5
          have z0 := (lies_cells ZL6.out).1 0
          have z1 := (lies_cells ZL6.out).1 1
          have z2 := (lies_cells ZL6.out).1 2
          have z3 := (lies_cells ZL6.out).1 3
          have z4 := (lies_cells ZL6.out).1 4
          have z5 := (lies_cells ZL6.out).1 5
          simp only [opC, List.getElem?_toArray, List.getElem?_cons_zero, List.getElem?_cons_succ] at z0 z1 z2 z3 z4 z5
          go_wp2
          go_roundw
          case rel => exact ⟨i + 1, by omega, by go_num, K6.out.tape, K6.out.below, K6.out.xl⟩
          case measure => simp [intOf]; omega
        · go_wp2_with fail
          refine (rprint_to (o := y) HTX.out (hyt2) p4).mono ?_
          rintro e p5 ⟨rfl, c5⟩
          have K6 := Lib.hid (K5.out.after c5)
          have ZL6 := Lib.hid (lies_below ZL5.out c5 (lt_heap ZL5.out))
          clear c5
          clear x0 x1 x2 x3 x4 x5
          have x0 := (lies_cells K6.out.yl).1 0
          have x1 := (lies_cells K6.out.yl).1 1
          have x2 := (lies_cells K6.out.yl).1 2
          have x3 := (lies_cells K6.out.yl).1 3
          have x4 := (lies_cells K6.out.yl).1 4
          have x5 := (lies_cells K6.out.yl).1 5
          simp only [opC, List.getElem?_toArray, List.getElem?_cons_zero, List.getElem?_cons_succ] at x0 x1 x2 x3 x4 x5
          have z0 := (lies_cells ZL6.out).1 0
          have z1 := (lies_cells ZL6.out).1 1
          have z2 := (lies_cells ZL6.out).1 2
          have z3 := (lies_cells ZL6.out).1 3
          have z4 := (lies_cells ZL6.out).1 4
          have z5 := (lies_cells ZL6.out).1 5
          simp only [opC, List.getElem?_toArray, List.getElem?_cons_zero, List.getElem?_cons_succ] at z0 z1 z2 z3 z4 z5
          go_wp2
          go_roundw
          case rel => exact ⟨i + 1, by omega, by go_num, K6.out.tape, K6.out.below, K6.out.xl⟩
          case measure => simp [intOf]; omega
    · have i2 : ¬ (i : Int) < 12 := by omega
      go_wp2_with fail
      refine (sane_any (B := w0.heap.size) _ (HK.out _ HB.out) HB.out.size).mono ?_
      rintro e w2 ⟨rfl, b⟩
      have B3 := Lib.hid (HB.out.trans (b.mono HB.out.size))
      clear b
      go_wp2
      go_ret
      exact ⟨rfl, B3.out⟩
end Go.Proofs.YtgmlnbheceeklaaDoor
