/- A part of the proof. -/
import Derived.Test.YtipnhmdibkkifaaGreatDoorNu24
set_option linter.unusedVariables false
set_option linter.unusedSimpArgs false
set_option linter.unusedVariables false
set_option linter.unusedSimpArgs false
set_option linter.unusedSectionVars false
namespace Go.Proofs.YtipnhmdibkkifaaGreatDoor
open Go.RowKit
variable [Base]
theorem PSt.ty {B bp : Nat} {T : List Tok} {s : PS} {w : World} (h : PSt B bp T s w) : tyAt w bp = some 70 := by
  obtain ⟨a, c, hb, _⟩ := h.blk
  exact tyAt_of hb (by have := h.kw.bs; have := h.ge; omega)
theorem PSt.setOther {B bp : Nat} {T : List Tok} {s : PS} {w : World} (h : PSt B bp T s w) {b o : Nat} {U : TypeId} (hb : tyAt w b = some U) (hU : 78 ≠ U) (hne : b ≠ bp) (hB : B ≤ b) (v : Value) : PSt B bp T s (w.setCell ⟨b, o, none⟩ v) :=
  h.keep (Below.heap_setCell _ _ _ _ (Ne.symm hne)) (fun k hk => Below.heap_setCell _ _ _ _ (by show k ≠ b; omega)) (SameT.setCell hb hU)
def zeroSt : Obj := .cells #[.int .i64 0, .string ⟨#[]⟩, .slice none 0 0, .slice none 0 0] 118
structure StL (B bp R : Nat) (T : List Tok) (w0 : World) (s : PS) (w : World) (x0 x1 x2 x3 : Value) : Prop where
  p : PSt B bp T s w
  but : But bp w0 w
  size : w0.heap.size = R
  lt : bp < R
  res : w.heap[R]? = some zeroSt
  loc : w.heap[R + 1]? = some (.cells #[x0, x1, x2, x3] 118 (0, 0))
section
variable {B bp R : Nat} {T : List Tok} {w0 w w' : World} {s s' : PS} {x0 x1 x2 x3 : Value}
theorem StL.call (h : StL B bp R T w0 s w x0 x1 x2 x3) (hp : PSt B bp T s' w') (hb : But bp w w') : StL B bp R T w0 s' w' x0 x1 x2 x3 :=
  ⟨hp, h.but.trans hb, h.size, h.lt, hb.blk h.res (by have := h.lt; omega), hb.blk h.loc (by have := h.lt; omega)⟩
theorem StL.alloc (h : StL B bp R T w0 s w x0 x1 x2 x3) (o : Obj) : StL B bp R T w0 s (w.alloc o) x0 x1 x2 x3 := h.call (h.p.alloc o) ((But.refl _ _).alloc o)
theorem StL.drewN (h : StL B bp R T w0 s w x0 x1 x2 x3) (n : Nat) : StL B bp R T w0 s (w.drewN n) x0 x1 x2 x3 := h.call (h.p.drewN n) ((But.refl _ _).drewN n)
theorem StL.put (h : StL B bp R T w0 s w x0 x1 x2 x3) (o : Nat) (v : Value) {y0 y1 y2 y3 : Value} (hv : (w.setCell ⟨R + 1, o, none⟩ v).heap[R + 1]? = some (.cells #[y0, y1, y2, y3] 118 (0, 0))) : StL B bp R T w0 s (w.setCell ⟨R + 1, o, none⟩ v) y0 y1 y2 y3 :=
  ⟨h.p.setOther (tyAt_of h.loc (by show Base.b ≤ R + 1; have := h.p.kw.bs; have := h.p.ge; have := h.lt; omega)) (by decide) (by have := h.lt; omega) (by have := h.lt; have := h.p.ge; omega) v, h.but.setCell _ (.inr (by have := h.size; show w0.heap.size ≤ R + 1; omega)) v, h.size, h.lt,
    (Below.heap_setCell _ _ _ _ (by show R ≠ R + 1; omega)).trans h.res, hv⟩
theorem StL.set0 (h : StL B bp R T w0 s w x0 x1 x2 x3) (v : Value) : StL B bp R T w0 s (w.setCell ⟨R + 1, 0, none⟩ v) v x1 x2 x3 := h.put 0 v (by simp [World.setCell, Array.getElem?_modify, h.loc])
theorem StL.set1 (h : StL B bp R T w0 s w x0 x1 x2 x3) (v : Value) : StL B bp R T w0 s (w.setCell ⟨R + 1, 1, none⟩ v) x0 v x2 x3 := h.put 1 v (by simp [World.setCell, Array.getElem?_modify, h.loc])
theorem StL.set2 (h : StL B bp R T w0 s w x0 x1 x2 x3) (v : Value) : StL B bp R T w0 s (w.setCell ⟨R + 1, 2, none⟩ v) x0 x1 v x3 := h.put 2 v (by simp [World.setCell, Array.getElem?_modify, h.loc])
theorem StL.set3 (h : StL B bp R T w0 s w x0 x1 x2 x3) (v : Value) : StL B bp R T w0 s (w.setCell ⟨R + 1, 3, none⟩ v) x0 x1 x2 v := h.put 3 v (by simp [World.setCell, Array.getElem?_modify, h.loc])
theorem StL.cells (h : StL B bp R T w0 s w x0 x1 x2 x3) : (w.cell? ⟨R + 1, 0, none⟩ = some x0 ∧ w.cell? ⟨R + 1, 1, none⟩ = some x1 ∧ w.cell? ⟨R + 1, 2, none⟩ = some x2 ∧ w.cell? ⟨R + 1, 3, none⟩ = some x3) ∧ ∀ o, w.frozen? ⟨R + 1, o, none⟩ = false :=
  ⟨⟨(blk_cells h.loc).1 0, (blk_cells h.loc).1 1, (blk_cells h.loc).1 2, (blk_cells h.loc).1 3⟩, (blk_cells h.loc).2⟩
theorem StL.rescells (h : StL B bp R T w0 s w x0 x1 x2 x3) : (w.cell? ⟨R, 0, none⟩ = some (.int .i64 0) ∧ w.cell? ⟨R, 1, none⟩ = some (.string ⟨#[]⟩) ∧ w.cell? ⟨R, 2, none⟩ = some (.slice none 0 0) ∧ w.cell? ⟨R, 3, none⟩ = some (.slice none 0 0)) ∧ ∀ o, w.frozen? ⟨R, o, none⟩ = false :=
  ⟨⟨(blk_cells h.res).1 0, (blk_cells h.res).1 1, (blk_cells h.res).1 2, (blk_cells h.res).1 3⟩, (blk_cells h.res).2⟩
end
def stmtS (T : List Tok) (s : PS) : PS := if startsB T s then (stmtM T s).2 else s.fail 4
def StPost (B bp : Nat) (T : List Tok) (s : PS) (w : World) (e : Ending) (w' : World) : Prop :=
  ∃ op d u t, e = .returned (.agg #[.int .i64 op, sv d, u, t]) ∧ u.oneCell' = true ∧ t.oneCell' = true ∧ PSt B bp T (stmtS T s) w' ∧ But bp w w' ∧
    (startsB T s = true → (stmtS T s).err = 0 → StmtCells w' [.int .i64 op, sv d, u, t] (stmtM T s).1)
theorem stl_end {B bp R : Nat} {T : List Tok} {w0 w : World} {s s1 : PS} {op : Int} {d : Str} {u t : Value} (h : StL B bp R T w0 s1 w (.int .i64 op) (sv d) u t) (hs : stmtS T s = s1) (hu : u.oneCell' = true) (ht : t.oneCell' = true)
    (hc : startsB T s = true → s1.err = 0 → op = (stmtM T s).1.op ∧ d = (stmtM T s).1.dfn ∧ StrsAt w u (stmtM T s).1.uses ∧ StrsAt w t (stmtM T s).1.targets) (y0 y1 y2 y3 : Value) :
    StPost B bp T s w0 (.returned (.agg #[.int .i64 op, sv d, u, t])) ((((w.setCell ⟨R, 0, none⟩ y0).setCell ⟨R, 1, none⟩ y1).setCell ⟨R, 2, none⟩ y2).setCell ⟨R, 3, none⟩ y3) := by
  have hlt := h.lt
  have hge := h.p.ge
  have hbs := h.p.kw.bs
  have hpg := h.p.ge
  have hlt := h.lt
  have hsz := h.size
  have ty (x : World) (y : Value) (o : Nat) : tyAt (x.setCell ⟨R, o, none⟩ y) R = tyAt x R := by
    unfold tyAt
    simp only [World.setCell, Array.getElem?_modify, if_true]
    cases x.heap[R]? with
    | none => rfl
    | some o => cases o <;> rfl
  have t0 : tyAt w R = some 118 := tyAt_of h.res
  have q (x : World) (hx : PSt B bp T s1 x) (hty : tyAt x R = some 118) (y : Value) (o : Nat) : PSt B bp T s1 (x.setCell ⟨R, o, none⟩ y) := hx.setOther hty (by decide) (by omega) (by omega) y
  have hS (x : World) (y : Value) (o : Nat) (hh : tyAt x R = some 118) : SameT 9 x (x.setCell ⟨R, o, none⟩ y) := SameT.setCell (U := 118) hh (by decide)
  have key : SameT 9 w ((((w.setCell ⟨R, 0, none⟩ y0).setCell ⟨R, 1, none⟩ y1).setCell ⟨R, 2, none⟩ y2).setCell ⟨R, 3, none⟩ y3) :=
    (((hS _ _ _ t0).trans (hS _ _ _ (by rw [ty]; exact t0))).trans (hS _ _ _ (by rw [ty, ty]; exact t0))).trans (hS _ _ _ (by rw [ty, ty, ty]; exact t0))
  refine ⟨op, d, u, t, rfl, hu, ht, ?_, ?_, fun h1 h2 => ?_⟩
  · rw [hs]
    exact q _ (q _ (q _ (q _ h.p t0 _ _) (by rw [ty]; exact t0) _ _) (by rw [ty, ty]; exact t0) _ _) (by rw [ty, ty, ty]; exact t0) _ _
  · exact (((h.but.setCell _ (.inr (by show w0.heap.size ≤ R; omega)) _).setCell _ (.inr (by show w0.heap.size ≤ R; omega)) _).setCell _ (.inr (by show w0.heap.size ≤ R; omega)) _).setCell _ (.inr (by show w0.heap.size ≤ R; omega)) _
  · rw [hs] at h2
    obtain ⟨e1, e2, e3, e4⟩ := hc h1 h2
    exact ⟨u, t, by rw [e1, e2], e3.same key, e4.same key⟩
theorem stl_start {B bp : Nat} {T : List Tok} {s : PS} {w : World} (h : PSt B bp T s w) : StL B bp w.heap.size T w s ((w.alloc zeroSt).alloc zeroSt) (.int .i64 0) (.string ⟨#[]⟩) (.slice none 0 0) (.slice none 0 0) := by
  have a1 := heap_alloc_new w zeroSt
  have a2 := heap_alloc_new (w.alloc zeroSt) zeroSt
  rw [World.size_alloc] at a2
  exact ⟨(h.alloc _).alloc _, ((But.refl _ _).alloc _).alloc _, rfl, h.lt, alloc_blk _ a1, a2⟩
theorem StL.str {B bp R : Nat} {T : List Tok} {w0 w w' : World} {s : PS} {x0 x1 x2 x3 : Value} (l : StL B bp R T w0 s w x0 x1 x2 x3) (hb : But bp w w') : SameT 9 w w' := SameT.but hb (by rw [l.p.ty]; decide) (by have := l.p.kw.bs; have := l.p.ge; omega)
theorem StL.sstr {B bp R : Nat} {T : List Tok} {w0 w : World} {s : PS} {x0 x1 x2 x3 : Value} (l : StL B bp R T w0 s w x0 x1 x2 x3) (o : Nat) (v : Value) : SameT 9 w (w.setCell ⟨R + 1, o, none⟩ v) := SameT.setCell (U := 118) (tyAt_of l.loc (by show Base.b ≤ R + 1; have := l.p.kw.bs; have := l.p.ge; have := l.lt; omega)) (by decide)
set_option maxHeartbeats 1000000 in
theorem stmt_name {B bp : Nat} {T : List Tok} {s : PS} {w : World} (h : PSt B bp T s w) (hT : T.length ≤ 1000000) (hN : isN T s = true) :
    Calls Tryz.prog 66 #[.pointer (some ⟨bp, 0, none⟩)] w (StPost B bp T s w) := by
  have hlt := h.lt
  have H := Lib.hid h
  have L0 := Lib.hid (stl_start h)
  clear h
  go_enter Tryz.func66, Tryz.ntmps66
  have HN := Lib.hid hN
  have hst : startsB T s = true := by unfold startsB; rw [hN]; rfl
  have HS := Lib.hid hst
  clear hN hst
  go_wp2_with fail
  refine (isName_any L0.out.p).mono ?_
  rintro e v1 ⟨rfl, hc, hb⟩
  have L1 := Lib.hid (L0.out.call hc hb)
  clear hc hb
  rw [HN.out]
  have ⟨⟨k0, k1, k2, k3⟩, kf⟩ := L1.out.cells
  have L2 := Lib.hid (L1.out.set0 (.int .i64 1))
  go_wp2_with fail
  refine (name_any' L2.out.p hT).mono ?_
  rintro e v3 ⟨rfl, hc, hb⟩
  have L3 := Lib.hid (L2.out.call hc hb)
  clear hc hb
  clear k0 k1 k2 k3 kf
  have ⟨⟨k0, k1, k2, k3⟩, kf⟩ := L3.out.cells
  have e1 : nameM T s = s.step := by unfold nameM; rw [HN.out]; rfl
  rw [e1] at L3
  clear e1
  obtain ⟨nv, hnv⟩ : ∃ x, nameV T s = x := ⟨_, rfl⟩
  rw [hnv]
  have HNV := Lib.hid hnv
  clear hnv
  have L4 := Lib.hid (L3.out.set1 (sv nv))
  go_wp2_with fail
  refine (next_any' L4.out.p).mono ?_
  rintro e v5 ⟨rfl, hc, hb⟩
  have L5 := Lib.hid (L4.out.call hc hb)
  clear hc hb
  clear k0 k1 k2 k3 kf
  obtain ⟨tt, htt⟩ : ∃ x, s.step.next T = x := ⟨_, rfl⟩
  rw [htt]
  have HTT := Lib.hid htt
  clear htt
  obtain ⟨tk, ty, tl, tc⟩ := tt
  dsimp only [tokV]
  have hfld := field_tok tk tl tc ty v5
  have hok : (tk == 2) = true → (s.step.next T).kind ≠ 0 := by intro hk; rw [HTT.out]; show tk ≠ 0; rw [beq_iff_eq] at hk; omega
  have TK := Lib.hid (take_any L5.out.p hT (tk == 2) hok)
  clear hok
  go_wp2_with fail
  refine (TK.out).mono ?_
  rintro e v6 ⟨rfl, hc, hb⟩
  have L6 := Lib.hid (L5.out.call hc hb)
  clear hc hb
  have e1 : takeM (tk == 2) s.step = takeM (isK T 2 s.step) s.step := by unfold isK; rw [HTT.out]
  rw [e1] at L6
  clear e1 hfld TK
  obtain ⟨s2, hs2⟩ : ∃ x, takeM (isK T 2 s.step) s.step = x := ⟨_, rfl⟩
  rw [hs2] at L6
  have HS2 := Lib.hid hs2
  clear hs2
  go_wp2_with fail
  refine (names_any L6.out.p hT).mono ?_
  rintro e v7 ⟨ua, un, uc, rfl, hc, hb, hu⟩
  have L7 := Lib.hid (L6.out.call hc hb)
  have U := Lib.hid hu
  clear hu
  clear hc hb
  have ⟨⟨k0, k1, k2, k3⟩, kf⟩ := L7.out.cells
  obtain ⟨r, hr⟩ : ∃ x, namesM T 4 [] s2 = x := ⟨_, rfl⟩
  rw [hr] at L7 U
  have HR := Lib.hid hr
  clear hr
  have L8 := Lib.hid (L7.out.set2 (.slice ua un uc))
  have U2 := Lib.hid (fun h0 => SliceAt.same (U.out h0) (L7.out.sstr 2 (.slice ua un uc)))
  go_wp2_with fail
  refine (end_any L8.out.p hT).mono ?_
  rintro e v9 ⟨rfl, hc, hb⟩
  have L9 := Lib.hid (L8.out.call hc hb)
  have U3 := Lib.hid (fun h0 => SliceAt.same (U2.out h0) (L8.out.str hb))
  clear hc hb
  clear k0 k1 k2 k3 kf
  have hst2 : stmtS T s = endM T r.2 := by unfold stmtS stmtM; rw [HS.out, HN.out, if_pos rfl, if_pos rfl]; dsimp only; rw [HS2.out, HR.out]
  have hval : (stmtM T s).1 = ⟨1, nv, r.1, []⟩ := by unfold stmtM; rw [HN.out, if_pos rfl]; dsimp only; rw [HS2.out, HR.out, HNV.out]
  have herr : (endM T r.2).err = 0 → r.2.err = 0 := by intro h0; cases hz : decide (r.2.err = 0) with | true => exact of_decide_eq_true hz | false => exact absurd h0 (by have hz2 := of_decide_eq_false hz; unfold endM; rw [isK_err hz2 (by decide), take_err hz2]; exact hz2)
  have FIN := Lib.hid hst2
  have VAL := Lib.hid hval
  have ERR := Lib.hid herr
  clear hst2 hval herr
  have ⟨⟨k0, k1, k2, k3⟩, kf⟩ := L9.out.cells
  have ⟨⟨j0, j1, j2, j3⟩, jf⟩ := L9.out.rescells
  go_wp2
  have G := set4 L9.out.res (.int .i64 1) (sv nv) (.slice ua un uc) (.slice none 0 0)
  have ⟨gc, _⟩ := blk_cells G
  refine bodyPost_ret (v := .agg #[.int .i64 1, sv nv, .slice ua un uc, .slice none 0 0]) ?_ rfl ?_
  · simp [results, Tryz.results66, go_sem, gc]
  · exact stl_end L9.out FIN.out rfl rfl (fun _ h0 => by rw [VAL.out]; exact ⟨rfl, rfl, U3.out (ERR.out h0), SliceAt.nil⟩) _ _ _ _
theorem starts_in {T : List Tok} {s : PS} (h : startsB T s = true) (hN : isN T s = false) : (s.next T).kind ≠ 0 := by
  unfold startsB at h
  rw [hN] at h
  simp only [Bool.false_or, Bool.and_eq_true, beq_iff_eq] at h
  rw [h.1]; decide
theorem end_err {T : List Tok} {s : PS} (h : (endM T s).err = 0) : s.err = 0 := by
  cases hz : decide (s.err = 0) with
  | true => exact of_decide_eq_true hz
  | false => exact absurd h (by have hz2 := of_decide_eq_false hz; unfold endM; rw [isK_err hz2 (by decide), take_err hz2]; exact hz2)
theorem own_one {w : World} {g base : Nat} {x : Value} (h : w.heap[g]? = some (.cells #[x] 9 (0, 0))) (hb : base ≤ g) : w.ownsRow base 9 1 (.slice (some ⟨g, 0, none⟩) 1 1) 1 [x] :=
  ⟨rfl, .inr ⟨g, 1, #[x], rfl, hb, h, Nat.le_refl _, by unfold maxLen; omega, rfl, rfl⟩⟩
set_option maxHeartbeats 1000000 in
theorem stmt_return {B bp : Nat} {T : List Tok} {s : PS} {w : World} (h : PSt B bp T s w) (hT : T.length ≤ 1000000) (hN : isN T s = false) (hS : startsB T s = true) (hop : opOf (s.next T).text = 9) :
    Calls Tryz.prog 66 #[.pointer (some ⟨bp, 0, none⟩)] w (StPost B bp T s w) := by
  have hlt := h.lt
  have H := Lib.hid h
  have L0 := Lib.hid (stl_start h)
  clear h
  go_enter Tryz.func66, Tryz.ntmps66
  have HN := Lib.hid hN
  have HS := Lib.hid hS
  have HOP := Lib.hid hop
  have HK := Lib.hid (starts_in hS hN)
  clear hN hS hop
  go_wp2_with fail
  refine (isName_any L0.out.p).mono ?_
  rintro e v1 ⟨rfl, hc, hb⟩
  have L1 := Lib.hid (L0.out.call hc hb)
  clear hc hb
  rw [HN.out]
  go_wp2_with fail
  refine (starts_any L1.out.p).mono ?_
  rintro e v2 ⟨rfl, hc, hb⟩
  have L2 := Lib.hid (L1.out.call hc hb)
  clear hc hb
  rw [HS.out]
  go_wp2_with fail
  refine (take_any L2.out.p hT true (fun _ => HK.out)).mono ?_
  rintro e v3 ⟨rfl, hc, hb⟩
  have L3 := Lib.hid (L2.out.call hc hb)
  clear hc hb
  have e1 : takeM true s = s.step := rfl
  rw [e1] at L3
  clear e1
  obtain ⟨s1, hs1⟩ : ∃ x, s.step = x := ⟨_, rfl⟩
  rw [hs1] at L3
  have HS1 := Lib.hid hs1
  clear hs1
  have e2 : textM T true s = (s.next T).text := rfl
  rw [e2]
  clear e2
  have ⟨⟨k0, k1, k2, k3⟩, kf⟩ := L3.out.cells
  go_wp2_with fail
  refine (operation_any _ _).mono ?_
  rintro e w' ⟨rfl, rfl⟩
  rw [HOP.out]
  have L4 := Lib.hid (L3.out.set0 (.int .i64 9))
  go_wp2_with fail
  refine (end_any L4.out.p hT).mono ?_
  rintro e v5 ⟨rfl, hc, hb⟩
  have L5 := Lib.hid (L4.out.call hc hb)
  clear hc hb
  clear k0 k1 k2 k3 kf
  have hst2 : stmtS T s = endM T (s1) := by unfold stmtS stmtM; rw [HS.out, HN.out, if_pos rfl]; dsimp only; rw [HOP.out, HS1.out]; simp
  have hval : (stmtM T s).1 = ⟨9, [], [], []⟩ := by unfold stmtM; rw [HN.out]; dsimp only; rw [HOP.out, HS1.out]; simp
  have FIN := Lib.hid hst2
  have VAL := Lib.hid hval
  clear hst2 hval
  have ⟨⟨k0, k1, k2, k3⟩, kf⟩ := L5.out.cells
  have ⟨⟨j0, j1, j2, j3⟩, jf⟩ := L5.out.rescells
  go_wp2
  have G := set4 L5.out.res (.int .i64 9) (.string ⟨#[]⟩) (.slice none 0 0) (.slice none 0 0)
  have ⟨gc, _⟩ := blk_cells G
  refine bodyPost_ret (v := .agg #[.int .i64 9, .string ⟨#[]⟩, .slice none 0 0, .slice none 0 0]) ?_ rfl ?_
  · simp [results, Tryz.results66, go_sem, gc]
  · exact stl_end L5.out FIN.out rfl rfl (fun _ h0 => by rw [VAL.out]; exact ⟨rfl, rfl, SliceAt.nil, SliceAt.nil⟩) _ _ _ _
set_option maxHeartbeats 1000000 in
theorem stmt_def4 {B bp : Nat} {T : List Tok} {s : PS} {w : World} (h : PSt B bp T s w) (hT : T.length ≤ 1000000) (hN : isN T s = false) (hS : startsB T s = true) (hop : opOf (s.next T).text = 4) :
    Calls Tryz.prog 66 #[.pointer (some ⟨bp, 0, none⟩)] w (StPost B bp T s w) := by
  have hlt := h.lt
  have H := Lib.hid h
  have L0 := Lib.hid (stl_start h)
  clear h
  go_enter Tryz.func66, Tryz.ntmps66
  have HN := Lib.hid hN
  have HS := Lib.hid hS
  have HOP := Lib.hid hop
  have HK := Lib.hid (starts_in hS hN)
  clear hN hS hop
  go_wp2_with fail
  refine (isName_any L0.out.p).mono ?_
  rintro e v1 ⟨rfl, hc, hb⟩
  have L1 := Lib.hid (L0.out.call hc hb)
  clear hc hb
  rw [HN.out]
  go_wp2_with fail
  refine (starts_any L1.out.p).mono ?_
  rintro e v2 ⟨rfl, hc, hb⟩
  have L2 := Lib.hid (L1.out.call hc hb)
  clear hc hb
  rw [HS.out]
  go_wp2_with fail
  refine (take_any L2.out.p hT true (fun _ => HK.out)).mono ?_
  rintro e v3 ⟨rfl, hc, hb⟩
  have L3 := Lib.hid (L2.out.call hc hb)
  clear hc hb
  have e1 : takeM true s = s.step := rfl
  rw [e1] at L3
  clear e1
  obtain ⟨s1, hs1⟩ : ∃ x, s.step = x := ⟨_, rfl⟩
  rw [hs1] at L3
  have HS1 := Lib.hid hs1
  clear hs1
  have e2 : textM T true s = (s.next T).text := rfl
  rw [e2]
  clear e2
  have ⟨⟨k0, k1, k2, k3⟩, kf⟩ := L3.out.cells
  go_wp2_with fail
  refine (operation_any _ _).mono ?_
  rintro e w' ⟨rfl, rfl⟩
  rw [HOP.out]
  have L4 := Lib.hid (L3.out.set0 (.int .i64 4))
  go_wp2_with fail
  refine (name_any' L4.out.p hT).mono ?_
  rintro e v5 ⟨rfl, hc, hb⟩
  have L5 := Lib.hid (L4.out.call hc hb)
  clear hc hb
  clear k0 k1 k2 k3 kf
  have ⟨⟨k0, k1, k2, k3⟩, kf⟩ := L5.out.cells
  obtain ⟨nv, hnv⟩ : ∃ x, nameV T s1 = x := ⟨_, rfl⟩
  rw [hnv]
  have HNV := Lib.hid hnv
  clear hnv
  have L6 := Lib.hid (L5.out.set1 (sv nv))
  go_wp2_with fail
  refine (end_any L6.out.p hT).mono ?_
  rintro e v7 ⟨rfl, hc, hb⟩
  have L7 := Lib.hid (L6.out.call hc hb)
  clear hc hb
  clear k0 k1 k2 k3 kf
  have hst2 : stmtS T s = endM T (nameM T s1) := by unfold stmtS stmtM; rw [HS.out, HN.out, if_pos rfl]; dsimp only; rw [HOP.out, HS1.out]; simp
  have hval : (stmtM T s).1 = ⟨4, nv, [], []⟩ := by unfold stmtM; rw [HN.out]; dsimp only; rw [HOP.out, HS1.out]; simp; exact HNV.out
  have FIN := Lib.hid hst2
  have VAL := Lib.hid hval
  clear hst2 hval
  have ⟨⟨k0, k1, k2, k3⟩, kf⟩ := L7.out.cells
  have ⟨⟨j0, j1, j2, j3⟩, jf⟩ := L7.out.rescells
  go_wp2
  have G := set4 L7.out.res (.int .i64 4) (sv nv) (.slice none 0 0) (.slice none 0 0)
  have ⟨gc, _⟩ := blk_cells G
  refine bodyPost_ret (v := .agg #[.int .i64 4, sv nv, .slice none 0 0, .slice none 0 0]) ?_ rfl ?_
  · simp [results, Tryz.results66, go_sem, gc]
  · exact stl_end L7.out FIN.out rfl rfl (fun _ h0 => by rw [VAL.out]; exact ⟨rfl, rfl, SliceAt.nil, SliceAt.nil⟩) _ _ _ _
set_option maxHeartbeats 1000000 in
theorem stmt_def6 {B bp : Nat} {T : List Tok} {s : PS} {w : World} (h : PSt B bp T s w) (hT : T.length ≤ 1000000) (hN : isN T s = false) (hS : startsB T s = true) (hop : opOf (s.next T).text = 6) :
    Calls Tryz.prog 66 #[.pointer (some ⟨bp, 0, none⟩)] w (StPost B bp T s w) := by
  have hlt := h.lt
  have H := Lib.hid h
  have L0 := Lib.hid (stl_start h)
  clear h
  go_enter Tryz.func66, Tryz.ntmps66
  have HN := Lib.hid hN
  have HS := Lib.hid hS
  have HOP := Lib.hid hop
  have HK := Lib.hid (starts_in hS hN)
  clear hN hS hop
  go_wp2_with fail
  refine (isName_any L0.out.p).mono ?_
  rintro e v1 ⟨rfl, hc, hb⟩
  have L1 := Lib.hid (L0.out.call hc hb)
  clear hc hb
  rw [HN.out]
  go_wp2_with fail
  refine (starts_any L1.out.p).mono ?_
  rintro e v2 ⟨rfl, hc, hb⟩
  have L2 := Lib.hid (L1.out.call hc hb)
  clear hc hb
  rw [HS.out]
  go_wp2_with fail
  refine (take_any L2.out.p hT true (fun _ => HK.out)).mono ?_
  rintro e v3 ⟨rfl, hc, hb⟩
  have L3 := Lib.hid (L2.out.call hc hb)
  clear hc hb
  have e1 : takeM true s = s.step := rfl
  rw [e1] at L3
  clear e1
  obtain ⟨s1, hs1⟩ : ∃ x, s.step = x := ⟨_, rfl⟩
  rw [hs1] at L3
  have HS1 := Lib.hid hs1
  clear hs1
  have e2 : textM T true s = (s.next T).text := rfl
  rw [e2]
  clear e2
  have ⟨⟨k0, k1, k2, k3⟩, kf⟩ := L3.out.cells
  go_wp2_with fail
  refine (operation_any _ _).mono ?_
  rintro e w' ⟨rfl, rfl⟩
  rw [HOP.out]
  have L4 := Lib.hid (L3.out.set0 (.int .i64 6))
  go_wp2_with fail
  refine (name_any' L4.out.p hT).mono ?_
  rintro e v5 ⟨rfl, hc, hb⟩
  have L5 := Lib.hid (L4.out.call hc hb)
  clear hc hb
  clear k0 k1 k2 k3 kf
  have ⟨⟨k0, k1, k2, k3⟩, kf⟩ := L5.out.cells
  obtain ⟨nv, hnv⟩ : ∃ x, nameV T s1 = x := ⟨_, rfl⟩
  rw [hnv]
  have HNV := Lib.hid hnv
  clear hnv
  have L6 := Lib.hid (L5.out.set1 (sv nv))
  go_wp2_with fail
  refine (end_any L6.out.p hT).mono ?_
  rintro e v7 ⟨rfl, hc, hb⟩
  have L7 := Lib.hid (L6.out.call hc hb)
  clear hc hb
  clear k0 k1 k2 k3 kf
  have hst2 : stmtS T s = endM T (nameM T s1) := by unfold stmtS stmtM; rw [HS.out, HN.out, if_pos rfl]; dsimp only; rw [HOP.out, HS1.out]; simp
  have hval : (stmtM T s).1 = ⟨6, nv, [], []⟩ := by unfold stmtM; rw [HN.out]; dsimp only; rw [HOP.out, HS1.out]; simp; exact HNV.out
  have FIN := Lib.hid hst2
  have VAL := Lib.hid hval
  clear hst2 hval
  have ⟨⟨k0, k1, k2, k3⟩, kf⟩ := L7.out.cells
  have ⟨⟨j0, j1, j2, j3⟩, jf⟩ := L7.out.rescells
  go_wp2
  have G := set4 L7.out.res (.int .i64 6) (sv nv) (.slice none 0 0) (.slice none 0 0)
  have ⟨gc, _⟩ := blk_cells G
  refine bodyPost_ret (v := .agg #[.int .i64 6, sv nv, .slice none 0 0, .slice none 0 0]) ?_ rfl ?_
  · simp [results, Tryz.results66, go_sem, gc]
  · exact stl_end L7.out FIN.out rfl rfl (fun _ h0 => by rw [VAL.out]; exact ⟨rfl, rfl, SliceAt.nil, SliceAt.nil⟩) _ _ _ _
set_option maxHeartbeats 1000000 in
theorem stmt_sink {B bp : Nat} {T : List Tok} {s : PS} {w : World} (h : PSt B bp T s w) (hT : T.length ≤ 1000000) (hN : isN T s = false) (hS : startsB T s = true) (hop : opOf (s.next T).text = 5) :
    Calls Tryz.prog 66 #[.pointer (some ⟨bp, 0, none⟩)] w (StPost B bp T s w) := by
  have hlt := h.lt
  have H := Lib.hid h
  have L0 := Lib.hid (stl_start h)
  clear h
  go_enter Tryz.func66, Tryz.ntmps66
  have HN := Lib.hid hN
  have HS := Lib.hid hS
  have HOP := Lib.hid hop
  have HK := Lib.hid (starts_in hS hN)
  clear hN hS hop
  go_wp2_with fail
  refine (isName_any L0.out.p).mono ?_
  rintro e v1 ⟨rfl, hc, hb⟩
  have L1 := Lib.hid (L0.out.call hc hb)
  clear hc hb
  rw [HN.out]
  go_wp2_with fail
  refine (starts_any L1.out.p).mono ?_
  rintro e v2 ⟨rfl, hc, hb⟩
  have L2 := Lib.hid (L1.out.call hc hb)
  clear hc hb
  rw [HS.out]
  go_wp2_with fail
  refine (take_any L2.out.p hT true (fun _ => HK.out)).mono ?_
  rintro e v3 ⟨rfl, hc, hb⟩
  have L3 := Lib.hid (L2.out.call hc hb)
  clear hc hb
  have e1 : takeM true s = s.step := rfl
  rw [e1] at L3
  clear e1
  obtain ⟨s1, hs1⟩ : ∃ x, s.step = x := ⟨_, rfl⟩
  rw [hs1] at L3
  have HS1 := Lib.hid hs1
  clear hs1
  have e2 : textM T true s = (s.next T).text := rfl
  rw [e2]
  clear e2
  have ⟨⟨k0, k1, k2, k3⟩, kf⟩ := L3.out.cells
  go_wp2_with fail
  refine (operation_any _ _).mono ?_
  rintro e w' ⟨rfl, rfl⟩
  rw [HOP.out]
  have L4 := Lib.hid (L3.out.set0 (.int .i64 5))
  go_wp2_with fail
  refine (name_any' L4.out.p hT).mono ?_
  rintro e v5 ⟨rfl, hc, hb⟩
  have L5 := Lib.hid (L4.out.call hc hb)
  clear hc hb
  clear k0 k1 k2 k3 kf
  obtain ⟨nv, hnv⟩ : ∃ x, nameV T s1 = x := ⟨_, rfl⟩
  rw [hnv]
  have HNV := Lib.hid hnv
  clear hnv
  have LA := Lib.hid (L5.out.alloc (.cells #[sv nv] 9))
  have UA : Hid (StrsAt (v5.alloc (.cells #[sv nv] 9)) (.slice (some ⟨v5.heap.size, 0, none⟩) 1 1) [nv]) := SliceAt.new [sv nv] 1 rfl (by unfold maxLen; omega)
  have ⟨⟨k0, k1, k2, k3⟩, kf⟩ := LA.out.cells
  have L6 := Lib.hid (LA.out.set2 (.slice (some ⟨v5.heap.size, 0, none⟩) 1 1))
  have UA_6 := Lib.hid (SliceAt.same UA.out (LA.out.sstr 2 (.slice (some ⟨v5.heap.size, 0, none⟩) 1 1)))
  go_wp2_with fail
  refine (end_any L6.out.p hT).mono ?_
  rintro e v7 ⟨rfl, hc, hb⟩
  have L7 := Lib.hid (L6.out.call hc hb)
  have UA_7 := Lib.hid (SliceAt.same UA_6.out (L6.out.str hb))
  clear hc hb
  clear k0 k1 k2 k3 kf
  have hst2 : stmtS T s = endM T (nameM T s1) := by unfold stmtS stmtM; rw [HS.out, HN.out, if_pos rfl]; dsimp only; rw [HOP.out, HS1.out]; simp
  have hval : (stmtM T s).1 = ⟨5, [], [nv], []⟩ := by unfold stmtM; rw [HN.out]; dsimp only; rw [HOP.out, HS1.out]; simp; exact HNV.out
  have FIN := Lib.hid hst2
  have VAL := Lib.hid hval
  clear hst2 hval
  have ⟨⟨k0, k1, k2, k3⟩, kf⟩ := L7.out.cells
  have ⟨⟨j0, j1, j2, j3⟩, jf⟩ := L7.out.rescells
  go_wp2
  have G := set4 L7.out.res (.int .i64 5) (.string ⟨#[]⟩) (.slice (some ⟨v5.heap.size, 0, none⟩) 1 1) (.slice none 0 0)
  have ⟨gc, _⟩ := blk_cells G
  refine bodyPost_ret (v := .agg #[.int .i64 5, .string ⟨#[]⟩, .slice (some ⟨v5.heap.size, 0, none⟩) 1 1, .slice none 0 0]) ?_ rfl ?_
  · simp [results, Tryz.results66, go_sem, gc]
  · exact stl_end L7.out FIN.out rfl rfl (fun _ h0 => by rw [VAL.out]; exact ⟨rfl, rfl, UA_7.out, SliceAt.nil⟩) _ _ _ _
set_option maxHeartbeats 1000000 in
theorem stmt_use1 {B bp : Nat} {T : List Tok} {s : PS} {w : World} (h : PSt B bp T s w) (hT : T.length ≤ 1000000) (hN : isN T s = false) (hS : startsB T s = true) (hop : opOf (s.next T).text = 2) (hN1 : isN T s.step = true) :
    Calls Tryz.prog 66 #[.pointer (some ⟨bp, 0, none⟩)] w (StPost B bp T s w) := by
  have hlt := h.lt
  have H := Lib.hid h
  have L0 := Lib.hid (stl_start h)
  clear h
  go_enter Tryz.func66, Tryz.ntmps66
  have HN := Lib.hid hN
  have HS := Lib.hid hS
  have HOP := Lib.hid hop
  have HK := Lib.hid (starts_in hS hN)
  clear hN hS hop
  go_wp2_with fail
  refine (isName_any L0.out.p).mono ?_
  rintro e v1 ⟨rfl, hc, hb⟩
  have L1 := Lib.hid (L0.out.call hc hb)
  clear hc hb
  rw [HN.out]
  go_wp2_with fail
  refine (starts_any L1.out.p).mono ?_
  rintro e v2 ⟨rfl, hc, hb⟩
  have L2 := Lib.hid (L1.out.call hc hb)
  clear hc hb
  rw [HS.out]
  go_wp2_with fail
  refine (take_any L2.out.p hT true (fun _ => HK.out)).mono ?_
  rintro e v3 ⟨rfl, hc, hb⟩
  have L3 := Lib.hid (L2.out.call hc hb)
  clear hc hb
  have e1 : takeM true s = s.step := rfl
  rw [e1] at L3
  clear e1
  obtain ⟨s1, hs1⟩ : ∃ x, s.step = x := ⟨_, rfl⟩
  rw [hs1] at L3
  have HS1 := Lib.hid hs1
  clear hs1
  have e2 : textM T true s = (s.next T).text := rfl
  rw [e2]
  clear e2
  have ⟨⟨k0, k1, k2, k3⟩, kf⟩ := L3.out.cells
  go_wp2_with fail
  refine (operation_any _ _).mono ?_
  rintro e w' ⟨rfl, rfl⟩
  rw [HOP.out]
  have L4 := Lib.hid (L3.out.set0 (.int .i64 2))
  have HN1 : Hid (isN T s1 = true) := by have := hN1; rw [HS1.out] at this; exact this
  clear hN1
  go_wp2_with fail
  refine (isName_any L4.out.p).mono ?_
  rintro e v5 ⟨rfl, hc, hb⟩
  have L5 := Lib.hid (L4.out.call hc hb)
  clear hc hb
  clear k0 k1 k2 k3 kf
  rw [HN1.out]
  go_wp2_with fail
  refine (names_any L5.out.p hT).mono ?_
  rintro e v6 ⟨ua, un, uc, rfl, hc, hb, hu⟩
  have L6 := Lib.hid (L5.out.call hc hb)
  have U := Lib.hid hu
  clear hu
  clear hc hb
  have ⟨⟨k0, k1, k2, k3⟩, kf⟩ := L6.out.cells
  obtain ⟨r, hr⟩ : ∃ x, namesM T 4 [] s1 = x := ⟨_, rfl⟩
  rw [hr] at L6 U
  have HR := Lib.hid hr
  clear hr
  have L7 := Lib.hid (L6.out.set2 (.slice ua un uc))
  have U2 := Lib.hid (fun h0 => SliceAt.same (U.out h0) (L6.out.sstr 2 (.slice ua un uc)))
  go_wp2_with fail
  refine (end_any L7.out.p hT).mono ?_
  rintro e v8 ⟨rfl, hc, hb⟩
  have L8 := Lib.hid (L7.out.call hc hb)
  have U3 := Lib.hid (fun h0 => SliceAt.same (U2.out h0) (L7.out.str hb))
  clear hc hb
  clear k0 k1 k2 k3 kf
  have hmod : Hid ((if isN T s1 = true then namesM T 3 [nameV T s1] s1.step else ([], s1.fail 4)) = r) := by unfold Hid; rw [HN1.out, if_pos rfl, ← HR.out, namesM_yes HN1.out]; rfl
  have hst2 : stmtS T s = endM T (r.2) := by unfold stmtS stmtM; rw [HS.out, HN.out, if_pos rfl]; dsimp only; rw [HOP.out, HS1.out]; simp; rw [hmod.out]
  have hval : (stmtM T s).1 = ⟨2, [], r.1, []⟩ := by unfold stmtM; rw [HN.out]; dsimp only; rw [HOP.out, HS1.out]; simp; rw [hmod.out]
  have FIN := Lib.hid hst2
  have VAL := Lib.hid hval
  clear hst2 hval
  have ⟨⟨k0, k1, k2, k3⟩, kf⟩ := L8.out.cells
  have ⟨⟨j0, j1, j2, j3⟩, jf⟩ := L8.out.rescells
  go_wp2
  have G := set4 L8.out.res (.int .i64 2) (.string ⟨#[]⟩) (.slice ua un uc) (.slice none 0 0)
  have ⟨gc, _⟩ := blk_cells G
  refine bodyPost_ret (v := .agg #[.int .i64 2, .string ⟨#[]⟩, .slice ua un uc, .slice none 0 0]) ?_ rfl ?_
  · simp [results, Tryz.results66, go_sem, gc]
  · exact stl_end L8.out FIN.out rfl rfl (fun _ h0 => by rw [VAL.out]; exact ⟨rfl, rfl, U3.out (end_err h0), SliceAt.nil⟩) _ _ _ _
set_option maxHeartbeats 1000000 in
theorem stmt_use0 {B bp : Nat} {T : List Tok} {s : PS} {w : World} (h : PSt B bp T s w) (hT : T.length ≤ 1000000) (hN : isN T s = false) (hS : startsB T s = true) (hop : opOf (s.next T).text = 2) (hN1 : isN T s.step = false) :
    Calls Tryz.prog 66 #[.pointer (some ⟨bp, 0, none⟩)] w (StPost B bp T s w) := by
  have hlt := h.lt
  have H := Lib.hid h
  have L0 := Lib.hid (stl_start h)
  clear h
  go_enter Tryz.func66, Tryz.ntmps66
  have HN := Lib.hid hN
  have HS := Lib.hid hS
  have HOP := Lib.hid hop
  have HK := Lib.hid (starts_in hS hN)
  clear hN hS hop
  go_wp2_with fail
  refine (isName_any L0.out.p).mono ?_
  rintro e v1 ⟨rfl, hc, hb⟩
  have L1 := Lib.hid (L0.out.call hc hb)
  clear hc hb
  rw [HN.out]
  go_wp2_with fail
  refine (starts_any L1.out.p).mono ?_
  rintro e v2 ⟨rfl, hc, hb⟩
  have L2 := Lib.hid (L1.out.call hc hb)
  clear hc hb
  rw [HS.out]
  go_wp2_with fail
  refine (take_any L2.out.p hT true (fun _ => HK.out)).mono ?_
  rintro e v3 ⟨rfl, hc, hb⟩
  have L3 := Lib.hid (L2.out.call hc hb)
  clear hc hb
  have e1 : takeM true s = s.step := rfl
  rw [e1] at L3
  clear e1
  obtain ⟨s1, hs1⟩ : ∃ x, s.step = x := ⟨_, rfl⟩
  rw [hs1] at L3
  have HS1 := Lib.hid hs1
  clear hs1
  have e2 : textM T true s = (s.next T).text := rfl
  rw [e2]
  clear e2
  have ⟨⟨k0, k1, k2, k3⟩, kf⟩ := L3.out.cells
  go_wp2_with fail
  refine (operation_any _ _).mono ?_
  rintro e w' ⟨rfl, rfl⟩
  rw [HOP.out]
  have L4 := Lib.hid (L3.out.set0 (.int .i64 2))
  have HN1 : Hid (isN T s1 = false) := by have := hN1; rw [HS1.out] at this; exact this
  clear hN1
  go_wp2_with fail
  refine (isName_any L4.out.p).mono ?_
  rintro e v5 ⟨rfl, hc, hb⟩
  have L5 := Lib.hid (L4.out.call hc hb)
  clear hc hb
  clear k0 k1 k2 k3 kf
  rw [HN1.out]
  go_wp2_with fail
  refine (fail_any L5.out.p 4 (by omega)).mono ?_
  rintro e v6 ⟨rfl, hc, hb⟩
  have L6 := Lib.hid (L5.out.call hc hb)
  clear hc hb
  go_wp2_with fail
  refine (names_any L6.out.p hT).mono ?_
  rintro e v7 ⟨ua, un, uc, rfl, hc, hb, hu⟩
  have L7 := Lib.hid (L6.out.call hc hb)
  have U := Lib.hid hu
  clear hu
  clear hc hb
  have ⟨⟨k0, k1, k2, k3⟩, kf⟩ := L7.out.cells
  obtain ⟨r, hr⟩ : ∃ x, namesM T 4 [] (s1.fail 4) = x := ⟨_, rfl⟩
  rw [hr] at L7 U
  have HR := Lib.hid hr
  clear hr
  have L8 := Lib.hid (L7.out.set2 (.slice ua un uc))
  have U2 := Lib.hid (fun h0 => SliceAt.same (U.out h0) (L7.out.sstr 2 (.slice ua un uc)))
  go_wp2_with fail
  refine (end_any L8.out.p hT).mono ?_
  rintro e v9 ⟨rfl, hc, hb⟩
  have L9 := Lib.hid (L8.out.call hc hb)
  have U3 := Lib.hid (fun h0 => SliceAt.same (U2.out h0) (L8.out.str hb))
  clear hc hb
  clear k0 k1 k2 k3 kf
  have hz : isN T (s1.fail 4) = false := by unfold PS.fail; split; (exact isN_err (show (4 : Int) ≠ 0 by decide)); exact HN1.out
  have hmod : Hid ((if isN T s1 = true then namesM T 3 [nameV T s1] s1.step else ([], s1.fail 4)) = r) := by unfold Hid; rw [HN1.out, if_neg (by decide), ← HR.out, namesM_no hz]
  clear hz
  have hst2 : stmtS T s = endM T (r.2) := by unfold stmtS stmtM; rw [HS.out, HN.out, if_pos rfl]; dsimp only; rw [HOP.out, HS1.out]; simp; rw [hmod.out]
  have hval : (stmtM T s).1 = ⟨2, [], r.1, []⟩ := by unfold stmtM; rw [HN.out]; dsimp only; rw [HOP.out, HS1.out]; simp; rw [hmod.out]
  have FIN := Lib.hid hst2
  have VAL := Lib.hid hval
  clear hst2 hval
  have ⟨⟨k0, k1, k2, k3⟩, kf⟩ := L9.out.cells
  have ⟨⟨j0, j1, j2, j3⟩, jf⟩ := L9.out.rescells
  go_wp2
  have G := set4 L9.out.res (.int .i64 2) (.string ⟨#[]⟩) (.slice ua un uc) (.slice none 0 0)
  have ⟨gc, _⟩ := blk_cells G
  refine bodyPost_ret (v := .agg #[.int .i64 2, .string ⟨#[]⟩, .slice ua un uc, .slice none 0 0]) ?_ rfl ?_
  · simp [results, Tryz.results66, go_sem, gc]
  · exact stl_end L9.out FIN.out rfl rfl (fun _ h0 => by rw [VAL.out]; exact ⟨rfl, rfl, U3.out (end_err h0), SliceAt.nil⟩) _ _ _ _
set_option maxHeartbeats 1000000 in
theorem stmt_none {B bp : Nat} {T : List Tok} {s : PS} {w : World} (h : PSt B bp T s w) (hT : T.length ≤ 1000000) (hS : startsB T s = false) :
    Calls Tryz.prog 66 #[.pointer (some ⟨bp, 0, none⟩)] w (StPost B bp T s w) := by
  have hlt := h.lt
  have H := Lib.hid h
  have L0 := Lib.hid (stl_start h)
  clear h
  go_enter Tryz.func66, Tryz.ntmps66
  have hN : isN T s = false := by cases hN : isN T s; (rfl); (unfold startsB at hS; rw [hN] at hS; cases hS)
  have HN := Lib.hid hN
  have HS := Lib.hid hS
  clear hN hS
  go_wp2_with fail
  refine (isName_any L0.out.p).mono ?_
  rintro e v1 ⟨rfl, hc, hb⟩
  have L1 := Lib.hid (L0.out.call hc hb)
  clear hc hb
  rw [HN.out]
  go_wp2_with fail
  refine (starts_any L1.out.p).mono ?_
  rintro e v2 ⟨rfl, hc, hb⟩
  have L2 := Lib.hid (L1.out.call hc hb)
  clear hc hb
  rw [HS.out]
  go_wp2_with fail
  refine (take_any L2.out.p hT false (fun h => by cases h)).mono ?_
  rintro e v3 ⟨rfl, hc, hb⟩
  have L3 := Lib.hid (L2.out.call hc hb)
  clear hc hb
  have e1 : takeM false s = s.fail 4 := rfl
  rw [e1] at L3
  clear e1
  have e2 : textM T false s = [] := rfl
  rw [e2]
  clear e2
  have ⟨⟨k0, k1, k2, k3⟩, kf⟩ := L3.out.cells
  go_wp2_with fail
  refine (operation_any _ _).mono ?_
  rintro e w' ⟨rfl, rfl⟩
  rw [show opOf [] = 0 from rfl]
  have L4 := Lib.hid (L3.out.set0 (.int .i64 0))
  go_wp2_with fail
  refine (end_any L4.out.p hT).mono ?_
  rintro e v5 ⟨rfl, hc, hb⟩
  have L5 := Lib.hid (L4.out.call hc hb)
  clear hc hb
  clear k0 k1 k2 k3 kf
  have hne : (s.fail 4).err ≠ 0 := by unfold PS.fail; split; (exact (show (4 : Int) ≠ 0 by decide)); assumption
  have e1 : endM T (s.fail 4) = s.fail 4 := by unfold endM; rw [isK_err hne (by decide), take_err hne]
  rw [e1] at L5
  have FIN : Hid (stmtS T s = s.fail 4) := by unfold Hid stmtS; rw [HS.out]; rfl
  clear hne e1
  have ⟨⟨k0, k1, k2, k3⟩, kf⟩ := L5.out.cells
  have ⟨⟨j0, j1, j2, j3⟩, jf⟩ := L5.out.rescells
  go_wp2
  have G := set4 L5.out.res (.int .i64 0) (.string ⟨#[]⟩) (.slice none 0 0) (.slice none 0 0)
  have ⟨gc, _⟩ := blk_cells G
  refine bodyPost_ret (v := .agg #[.int .i64 0, .string ⟨#[]⟩, .slice none 0 0, .slice none 0 0]) ?_ rfl ?_
  · simp [results, Tryz.results66, go_sem, gc]
  · exact stl_end L5.out FIN.out rfl rfl (fun h1 _ => by rw [HS.out] at h1; cases h1) _ _ _ _
end Go.Proofs.YtipnhmdibkkifaaGreatDoor
