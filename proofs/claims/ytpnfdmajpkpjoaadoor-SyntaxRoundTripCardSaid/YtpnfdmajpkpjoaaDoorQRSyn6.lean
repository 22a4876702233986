/- The reference's parser: statements. Printed by wip/gen_rsyn6.py. -/
import Derived.Test.YtpnfdmajpkpjoaaDoorQRSyn5
import Derived.Test.YtpnfdmajpkpjoaaDoorQSyn4
set_option linter.unusedVariables false
set_option linter.unusedSimpArgs false
namespace Go.Proofs.YtpnfdmajpkpjoaaDoor.R
open Go.RowKit

theorem PSt.ty {B bp : Nat} {T : List Tok} {s : PS} {w : World} (h : PSt B bp T s w) : tyAt w bp = some 82 := by
  obtain ⟨a, c, hb, _⟩ := h.blk
  exact tyAt_of hb
theorem PSt.setOther {B bp : Nat} {T : List Tok} {s : PS} {w : World} (h : PSt B bp T s w) {b o : Nat} {U : TypeId} (hb : tyAt w b = some U) (hU : 64 ≠ U) (hne : b ≠ bp) (hB : B ≤ b) (v : Value) : PSt B bp T s (w.setCell ⟨b, o, none⟩ v) :=
  h.keep (Below.heap_setCell _ _ _ _ (Ne.symm hne)) (fun k hk => Below.heap_setCell _ _ _ _ (by show k ≠ b; omega)) (SameT.setCell hb hU)
/-- Inside 'stmt': the parser, the result's block R, the statement's block R+1. -/
structure StL (B bp R : Nat) (T : List Tok) (w0 : World) (s : PS) (w : World) (x0 x1 x2 x3 : Value) : Prop where
  p : PSt B bp T s w
  but : But bp w0 w
  size : w0.heap.size = R
  lt : bp < R
  res : w.heap[R]? = some zeroS
  loc : w.heap[R + 1]? = some (.cells #[x0, x1, x2, x3] 67 (0, 0))
section
variable {B bp R : Nat} {T : List Tok} {w0 w w' : World} {s s' : PS} {x0 x1 x2 x3 : Value}
theorem StL.call (h : StL B bp R T w0 s w x0 x1 x2 x3) (hp : PSt B bp T s' w') (hb : But bp w w') : StL B bp R T w0 s' w' x0 x1 x2 x3 :=
  ⟨hp, h.but.trans hb, h.size, h.lt, hb.blk h.res (by have := h.lt; omega), hb.blk h.loc (by have := h.lt; omega)⟩
theorem StL.alloc (h : StL B bp R T w0 s w x0 x1 x2 x3) (o : Obj) : StL B bp R T w0 s (w.alloc o) x0 x1 x2 x3 := h.call (h.p.alloc o) ((But.refl _ _).alloc o)
theorem StL.drewN (h : StL B bp R T w0 s w x0 x1 x2 x3) (n : Nat) : StL B bp R T w0 s (w.drewN n) x0 x1 x2 x3 := h.call (h.p.drewN n) ((But.refl _ _).drewN n)
theorem StL.put (h : StL B bp R T w0 s w x0 x1 x2 x3) (o : Nat) (v : Value) {y0 y1 y2 y3 : Value} (hv : (w.setCell ⟨R + 1, o, none⟩ v).heap[R + 1]? = some (.cells #[y0, y1, y2, y3] 67 (0, 0))) : StL B bp R T w0 s (w.setCell ⟨R + 1, o, none⟩ v) y0 y1 y2 y3 :=
  ⟨h.p.setOther (tyAt_of h.loc) (by decide) (by have := h.lt; omega) (by have := h.lt; have := h.p.ge; omega) v, h.but.setCell _ (.inr (by have := h.size; show w0.heap.size ≤ R + 1; omega)) v, h.size, h.lt,
    (Below.heap_setCell _ _ _ _ (by show R ≠ R + 1; omega)).trans h.res, hv⟩
theorem StL.set0 (h : StL B bp R T w0 s w x0 x1 x2 x3) (v : Value) : StL B bp R T w0 s (w.setCell ⟨R + 1, 0, none⟩ v) v x1 x2 x3 := h.put 0 v (by simp [World.setCell, Array.getElem?_modify, h.loc])
theorem StL.set1 (h : StL B bp R T w0 s w x0 x1 x2 x3) (v : Value) : StL B bp R T w0 s (w.setCell ⟨R + 1, 1, none⟩ v) x0 v x2 x3 := h.put 1 v (by simp [World.setCell, Array.getElem?_modify, h.loc])
theorem StL.set2 (h : StL B bp R T w0 s w x0 x1 x2 x3) (v : Value) : StL B bp R T w0 s (w.setCell ⟨R + 1, 2, none⟩ v) x0 x1 v x3 := h.put 2 v (by simp [World.setCell, Array.getElem?_modify, h.loc])
theorem StL.set3 (h : StL B bp R T w0 s w x0 x1 x2 x3) (v : Value) : StL B bp R T w0 s (w.setCell ⟨R + 1, 3, none⟩ v) x0 x1 x2 v := h.put 3 v (by simp [World.setCell, Array.getElem?_modify, h.loc])
theorem StL.cells (h : StL B bp R T w0 s w x0 x1 x2 x3) : (w.cell? ⟨R + 1, 0, none⟩ = some x0 ∧ w.cell? ⟨R + 1, 1, none⟩ = some x1 ∧ w.cell? ⟨R + 1, 2, none⟩ = some x2 ∧ w.cell? ⟨R + 1, 3, none⟩ = some x3) ∧ ∀ o, w.frozen? ⟨R + 1, o, none⟩ = false :=
  ⟨⟨(blk_cells h.loc).1 0, (blk_cells h.loc).1 1, (blk_cells h.loc).1 2, (blk_cells h.loc).1 3⟩, (blk_cells h.loc).2⟩
theorem StL.rescells (h : StL B bp R T w0 s w x0 x1 x2 x3) : (w.cell? ⟨R, 0, none⟩ = some (.int .i64 0) ∧ w.cell? ⟨R, 1, none⟩ = some (.string ⟨#[]⟩) ∧ w.cell? ⟨R, 2, none⟩ = some (.slice none 0 0) ∧ w.cell? ⟨R, 3, none⟩ = some (.slice none 0 0)) ∧ ∀ o, w.frozen? ⟨R, o, none⟩ = false :=
  ⟨⟨(blk_cells h.res).1 0, (blk_cells h.res).1 1, (blk_cells h.res).1 2, (blk_cells h.res).1 3⟩, (blk_cells h.res).2⟩
end
/-- What 'stmt' leaves. -/
def StPost (B bp : Nat) (T : List Tok) (s : PS) (w : World) (e : Ending) (w' : World) : Prop :=
  ∃ op d u t, e = .returned (.agg #[.int .i64 op, sv d, u, t]) ∧ u.oneCell' = true ∧ t.oneCell' = true ∧ PSt B bp T (stmtS T s) w' ∧ But bp w w' ∧
    (startsB T s = true → (stmtS T s).err = 0 → StmtCells w' [.int .i64 op, sv d, u, t] (stmtM T s).1)

theorem stl_end {B bp R : Nat} {T : List Tok} {w0 w : World} {s s1 : PS} {op : Int} {d : Str} {u t : Value} (h : StL B bp R T w0 s1 w (.int .i64 op) (sv d) u t) (hs : stmtS T s = s1) (hu : u.oneCell' = true) (ht : t.oneCell' = true)
    (hc : startsB T s = true → s1.err = 0 → op = (stmtM T s).1.op ∧ d = (stmtM T s).1.dfn ∧ StrsAt w u (stmtM T s).1.uses ∧ StrsAt w t (stmtM T s).1.targets) (y0 y1 y2 y3 : Value) :
    StPost B bp T s w0 (.returned (.agg #[.int .i64 op, sv d, u, t])) ((((w.setCell ⟨R, 0, none⟩ y0).setCell ⟨R, 1, none⟩ y1).setCell ⟨R, 2, none⟩ y2).setCell ⟨R, 3, none⟩ y3) := by
  have hlt := h.lt
  have hge := h.p.ge
  have hsz := h.size
  have ty (x : World) (y : Value) (o : Nat) : tyAt (x.setCell ⟨R, o, none⟩ y) R = tyAt x R := by
    unfold tyAt
    simp only [World.setCell, Array.getElem?_modify, if_true]
    cases x.heap[R]? with
    | none => rfl
    | some o => cases o <;> rfl
  have t0 : tyAt w R = some 67 := tyAt_of h.res
  have q (x : World) (hx : PSt B bp T s1 x) (hty : tyAt x R = some 67) (y : Value) (o : Nat) : PSt B bp T s1 (x.setCell ⟨R, o, none⟩ y) := hx.setOther hty (by decide) (by omega) (by omega) y
  have hS (x : World) (y : Value) (o : Nat) (hh : tyAt x R = some 67) : SameT 9 x (x.setCell ⟨R, o, none⟩ y) := SameT.setCell (U := 67) hh (by decide)
  have key : SameT 9 w ((((w.setCell ⟨R, 0, none⟩ y0).setCell ⟨R, 1, none⟩ y1).setCell ⟨R, 2, none⟩ y2).setCell ⟨R, 3, none⟩ y3) :=
    (((hS _ _ _ t0).trans (hS _ _ _ (by rw [ty]; exact t0))).trans (hS _ _ _ (by rw [ty, ty]; exact t0))).trans (hS _ _ _ (by rw [ty, ty, ty]; exact t0))
  refine ⟨op, d, u, t, rfl, hu, ht, ?_, ?_, fun h1 h2 => ?_⟩
  · rw [hs]
    exact q _ (q _ (q _ (q _ h.p t0 _ _) (by rw [ty]; exact t0) _ _) (by rw [ty, ty]; exact t0) _ _) (by rw [ty, ty, ty]; exact t0) _ _
  · exact (((h.but.setCell _ (.inr (by show w0.heap.size ≤ R; omega)) _).setCell _ (.inr (by show w0.heap.size ≤ R; omega)) _).setCell _ (.inr (by show w0.heap.size ≤ R; omega)) _).setCell _ (.inr (by show w0.heap.size ≤ R; omega)) _
  · rw [hs] at h2
    obtain ⟨e1, e2, e3, e4⟩ := hc h1 h2
    exact ⟨u, t, by rw [e1, e2], e3.same key, e4.same key⟩
theorem stl_start {B bp : Nat} {T : List Tok} {s : PS} {w : World} (h : PSt B bp T s w) : StL B bp w.heap.size T w s ((w.alloc zeroS).alloc zeroS) (.int .i64 0) (.string ⟨#[]⟩) (.slice none 0 0) (.slice none 0 0) := by
  have a1 := heap_alloc_new w zeroS
  have a2 := heap_alloc_new (w.alloc zeroS) zeroS
  rw [World.size_alloc] at a2
  exact ⟨(h.alloc _).alloc _, ((But.refl _ _).alloc _).alloc _, rfl, h.lt, alloc_blk _ a1, a2⟩
theorem sv_one (x : Str) : (sv x).oneCell' = true := rfl
theorem SP.call {B bp R : Nat} {T : List Tok} {w0 w w' : World} {s s' : PS} {v : Value} {e : Ending} {x0 x1 x2 x3 : Value} (h : SP B bp T s' v w e w') (l : StL B bp R T w0 s w x0 x1 x2 x3) : StL B bp R T w0 s' w' x0 x1 x2 x3 := l.call h.2.1 h.2.2
theorem StL.str {B bp R : Nat} {T : List Tok} {w0 w w' : World} {s : PS} {x0 x1 x2 x3 : Value} (l : StL B bp R T w0 s w x0 x1 x2 x3) (hb : But bp w w') : SameT 9 w w' := SameT.but hb (by rw [l.p.ty]; decide)
theorem StL.sstr {B bp R : Nat} {T : List Tok} {w0 w : World} {s : PS} {x0 x1 x2 x3 : Value} (l : StL B bp R T w0 s w x0 x1 x2 x3) (o : Nat) (v : Value) : SameT 9 w (w.setCell ⟨R + 1, o, none⟩ v) := SameT.setCell (U := 67) (tyAt_of l.loc) (by decide)

theorem StL.next {B bp R : Nat} {T : List Tok} {w0 w : World} {s : PS} {x0 x1 x2 x3 : Value} (h : StL B bp R T w0 s w x0 x1 x2 x3) (hle : s.at_ + 1 ≤ T.length) : StL B bp R T w0 s.step (w.setCell ⟨bp, 1, none⟩ (.int .i64 ((s.at_ : Int) + 1))) x0 x1 x2 x3 :=
  h.call (h.p.setAt (s.at_ + 1) hle) ((But.refl bp w).setCell ⟨bp, 1, none⟩ (.inl rfl) _)
theorem op_text (x : Str) : (opOf x = 2 → x = [117, 115, 101]) ∧ (opOf x = 3 → x = [99, 97, 108, 108]) ∧ (opOf x = 4 → x = [115, 111, 117, 114, 99, 101]) ∧ (opOf x = 5 → x = [115, 105, 110, 107]) ∧ (opOf x = 6 → x = [115, 97, 110, 105, 116, 105, 122, 101]) ∧ (opOf x = 7 → x = [103, 111, 116, 111]) ∧ (opOf x = 8 → x = [98, 114, 97, 110, 99, 104]) ∧ (opOf x = 9 → x = [114, 101, 116, 117, 114, 110]) := by
  unfold opOf
  repeat' split
  all_goals simp_all
/-- The token that is next, in memory. -/
theorem PSt.tok {B bp : Nat} {T : List Tok} {s : PS} {w : World} (h : PSt B bp T s w) {t : Tok} (ht : T[s.at_]? = some t) :
    ∃ tb off c, w.cell? ⟨bp, 0, none⟩ = some (.slice (some ⟨tb, off, none⟩) T.length c) ∧ w.cell? ⟨bp, 1, none⟩ = some (.int .i64 s.at_) ∧ w.frozen? ⟨bp, 1, none⟩ = false ∧ w.cell? ⟨tb, off + s.at_ * 4 + 1, none⟩ = some (sv t.text) ∧ s.at_ < T.length := by
  obtain ⟨a, c, hb, hT⟩ := h.blk
  have c0 := (blk_cells hb).1 0
  have c1 := (blk_cells hb).1 1
  simp at c0 c1
  obtain ⟨a', c', e1, hml, _, _, hcell⟩ := TokensAt.form hT
  injection e1 with e1 e2 e3
  subst e1 e3
  obtain ⟨tb, off, rfl, htb, _, h4⟩ := hcell s.at_ t ht
  exact ⟨tb, off, c, c0, c1, (blk_cells hb).2 1, h4 1 (by omega), (List.getElem?_eq_some_iff.1 ht).1⟩

set_option maxHeartbeats 1000000 in
theorem rstmt_return {B bp : Nat} {T : List Tok} {s : PS} {w : World} (h : PSt B bp T s w) (hT : T.length ≤ 1000000) (hN : isN T s = false) (hS : startsB T s = true) (hop : opOf (s.next T).text = 9) :
    Calls Tryd.prog 82 #[.pointer (some ⟨bp, 0, none⟩)] w (StPost B bp T s w) := by
  have hlt := h.lt
  have H := Lib.hid h
  have hT' := Lib.hid hT
  have L0 := Lib.hid (stl_start h)
  clear h
  go_enter Tryd.func82, Tryd.ntmps82
  have HN := Lib.hid hN
  have HS := Lib.hid hS
  have HOP := Lib.hid hop
  obtain ⟨_, tk, htk, hen⟩ := next_in (starts_in hS hN)
  have hyx : tk.text = [114, 101, 116, 117, 114, 110] := by rw [← hen]; exact (op_text _).2.2.2.2.2.2.2 hop
  clear hN hS hop hen
  go_wp2_with fail
  refine (isName_any L0.out.p).mono ?_
  rintro e v1 ⟨rfl, hc, hb⟩
  have L1 := Lib.hid (L0.out.call hc hb)
  clear hc hb
  rw [HN.out]
  obtain ⟨tb, off, tc, p0, p1, pf, pt, hin⟩ := L1.out.p.tok htk
  rw [hyx] at pt
  have hle := Lib.hid (show s.at_ + 1 ≤ T.length from hin)
  obtain ⟨tn, htn⟩ : ∃ x, T.length = x := ⟨_, rfl⟩
  rw [htn] at p0 hin hT
  have hin2 : (s.at_ : Int) < (tn : Int) := by omega
  clear htn hyx htk
  go_wp2
  go_quiet (fail)
  have L2 := Lib.hid ((L1.out.drewN nq).next hle.out)
  obtain ⟨s1, hs1⟩ : ∃ x, s.step = x := ⟨_, rfl⟩
  rw [hs1] at L2
  have HS1 := Lib.hid hs1
  clear hs1
  have ⟨⟨k0, k1, k2, k3⟩, kf⟩ := L2.out.cells
  have L3 := Lib.hid (L2.out.set0 (.int .i64 9))
  go_wp2_with fail
  refine (end_any L3.out.p hT'.out).mono ?_
  rintro e v4 ⟨rfl, hc, hb⟩
  have L4 := Lib.hid (L3.out.call hc hb)
  clear p0 p1 pf pt
  clear hc hb
  clear k0 k1 k2 k3 kf
  have hst2 : stmtS T s = endM T (s1) := by unfold stmtS stmtM; rw [HS.out, HN.out, if_pos rfl]; dsimp only; rw [HOP.out, HS1.out]; simp
  have hval : (stmtM T s).1 = ⟨9, [], [], []⟩ := by unfold stmtM; rw [HN.out]; dsimp only; rw [HOP.out, HS1.out]; simp
  have FIN := Lib.hid hst2
  have VAL := Lib.hid hval
  clear hst2 hval
  have ⟨⟨k0, k1, k2, k3⟩, kf⟩ := L4.out.cells
  have ⟨⟨j0, j1, j2, j3⟩, jf⟩ := L4.out.rescells
  go_wp2
  have G := set4 L4.out.res (.int .i64 9) (.string ⟨#[]⟩) (.slice none 0 0) (.slice none 0 0)
  have ⟨gc, _⟩ := blk_cells G
  refine bodyPost_ret (v := .agg #[.int .i64 9, .string ⟨#[]⟩, .slice none 0 0, .slice none 0 0]) ?_ rfl ?_
  · simp [results, Tryd.results82, go_sem, gc]
  · exact stl_end L4.out FIN.out rfl rfl (fun _ h0 => by rw [VAL.out]; exact ⟨rfl, rfl, SliceAt.nil, SliceAt.nil⟩) _ _ _ _

set_option maxHeartbeats 1000000 in
theorem rstmt_def4 {B bp : Nat} {T : List Tok} {s : PS} {w : World} (h : PSt B bp T s w) (hT : T.length ≤ 1000000) (hN : isN T s = false) (hS : startsB T s = true) (hop : opOf (s.next T).text = 4) :
    Calls Tryd.prog 82 #[.pointer (some ⟨bp, 0, none⟩)] w (StPost B bp T s w) := by
  have hlt := h.lt
  have H := Lib.hid h
  have hT' := Lib.hid hT
  have L0 := Lib.hid (stl_start h)
  clear h
  go_enter Tryd.func82, Tryd.ntmps82
  have HN := Lib.hid hN
  have HS := Lib.hid hS
  have HOP := Lib.hid hop
  obtain ⟨_, tk, htk, hen⟩ := next_in (starts_in hS hN)
  have hyx : tk.text = [115, 111, 117, 114, 99, 101] := by rw [← hen]; exact (op_text _).2.2.1 hop
  clear hN hS hop hen
  go_wp2_with fail
  refine (isName_any L0.out.p).mono ?_
  rintro e v1 ⟨rfl, hc, hb⟩
  have L1 := Lib.hid (L0.out.call hc hb)
  clear hc hb
  rw [HN.out]
  obtain ⟨tb, off, tc, p0, p1, pf, pt, hin⟩ := L1.out.p.tok htk
  rw [hyx] at pt
  have hle := Lib.hid (show s.at_ + 1 ≤ T.length from hin)
  obtain ⟨tn, htn⟩ : ∃ x, T.length = x := ⟨_, rfl⟩
  rw [htn] at p0 hin hT
  have hin2 : (s.at_ : Int) < (tn : Int) := by omega
  clear htn hyx htk
  go_wp2
  go_quiet (fail)
  have L2 := Lib.hid ((L1.out.drewN nq).next hle.out)
  obtain ⟨s1, hs1⟩ : ∃ x, s.step = x := ⟨_, rfl⟩
  rw [hs1] at L2
  have HS1 := Lib.hid hs1
  clear hs1
  go_wp2_with fail
  refine (name_any L2.out.p hT'.out).mono ?_
  rintro e v3 ⟨rfl, hc, hb⟩
  have L3 := Lib.hid (L2.out.call hc hb)
  clear p0 p1 pf pt
  clear hc hb
  have ⟨⟨k0, k1, k2, k3⟩, kf⟩ := L3.out.cells
  obtain ⟨nv, hnv⟩ : ∃ x, nameV T s1 = x := ⟨_, rfl⟩
  rw [hnv]
  have HNV := Lib.hid hnv
  clear hnv
  have L4 := Lib.hid (L3.out.set0 (.int .i64 4))
  have L5 := Lib.hid (L4.out.set1 (sv nv))
  go_wp2_with fail
  refine (end_any L5.out.p hT'.out).mono ?_
  rintro e v6 ⟨rfl, hc, hb⟩
  have L6 := Lib.hid (L5.out.call hc hb)
  clear hc hb
  clear k0 k1 k2 k3 kf
  have hst2 : stmtS T s = endM T (nameM T s1) := by unfold stmtS stmtM; rw [HS.out, HN.out, if_pos rfl]; dsimp only; rw [HOP.out, HS1.out]; simp
  have hval : (stmtM T s).1 = ⟨4, nv, [], []⟩ := by unfold stmtM; rw [HN.out]; dsimp only; rw [HOP.out, HS1.out]; simp; exact HNV.out
  have FIN := Lib.hid hst2
  have VAL := Lib.hid hval
  clear hst2 hval
  have ⟨⟨k0, k1, k2, k3⟩, kf⟩ := L6.out.cells
  have ⟨⟨j0, j1, j2, j3⟩, jf⟩ := L6.out.rescells
  go_wp2
  have G := set4 L6.out.res (.int .i64 4) (sv nv) (.slice none 0 0) (.slice none 0 0)
  have ⟨gc, _⟩ := blk_cells G
  refine bodyPost_ret (v := .agg #[.int .i64 4, sv nv, .slice none 0 0, .slice none 0 0]) ?_ rfl ?_
  · simp [results, Tryd.results82, go_sem, gc]
  · exact stl_end L6.out FIN.out rfl rfl (fun _ h0 => by rw [VAL.out]; exact ⟨rfl, rfl, SliceAt.nil, SliceAt.nil⟩) _ _ _ _

set_option maxHeartbeats 1000000 in
theorem rstmt_def6 {B bp : Nat} {T : List Tok} {s : PS} {w : World} (h : PSt B bp T s w) (hT : T.length ≤ 1000000) (hN : isN T s = false) (hS : startsB T s = true) (hop : opOf (s.next T).text = 6) :
    Calls Tryd.prog 82 #[.pointer (some ⟨bp, 0, none⟩)] w (StPost B bp T s w) := by
  have hlt := h.lt
  have H := Lib.hid h
  have hT' := Lib.hid hT
  have L0 := Lib.hid (stl_start h)
  clear h
  go_enter Tryd.func82, Tryd.ntmps82
  have HN := Lib.hid hN
  have HS := Lib.hid hS
  have HOP := Lib.hid hop
  obtain ⟨_, tk, htk, hen⟩ := next_in (starts_in hS hN)
  have hyx : tk.text = [115, 97, 110, 105, 116, 105, 122, 101] := by rw [← hen]; exact (op_text _).2.2.2.2.1 hop
  clear hN hS hop hen
  go_wp2_with fail
  refine (isName_any L0.out.p).mono ?_
  rintro e v1 ⟨rfl, hc, hb⟩
  have L1 := Lib.hid (L0.out.call hc hb)
  clear hc hb
  rw [HN.out]
  obtain ⟨tb, off, tc, p0, p1, pf, pt, hin⟩ := L1.out.p.tok htk
  rw [hyx] at pt
  have hle := Lib.hid (show s.at_ + 1 ≤ T.length from hin)
  obtain ⟨tn, htn⟩ : ∃ x, T.length = x := ⟨_, rfl⟩
  rw [htn] at p0 hin hT
  have hin2 : (s.at_ : Int) < (tn : Int) := by omega
  clear htn hyx htk
  go_wp2
  go_quiet (fail)
  have L2 := Lib.hid ((L1.out.drewN nq).next hle.out)
  obtain ⟨s1, hs1⟩ : ∃ x, s.step = x := ⟨_, rfl⟩
  rw [hs1] at L2
  have HS1 := Lib.hid hs1
  clear hs1
  go_wp2_with fail
  refine (name_any L2.out.p hT'.out).mono ?_
  rintro e v3 ⟨rfl, hc, hb⟩
  have L3 := Lib.hid (L2.out.call hc hb)
  clear p0 p1 pf pt
  clear hc hb
  have ⟨⟨k0, k1, k2, k3⟩, kf⟩ := L3.out.cells
  obtain ⟨nv, hnv⟩ : ∃ x, nameV T s1 = x := ⟨_, rfl⟩
  rw [hnv]
  have HNV := Lib.hid hnv
  clear hnv
  have L4 := Lib.hid (L3.out.set0 (.int .i64 6))
  have L5 := Lib.hid (L4.out.set1 (sv nv))
  go_wp2_with fail
  refine (end_any L5.out.p hT'.out).mono ?_
  rintro e v6 ⟨rfl, hc, hb⟩
  have L6 := Lib.hid (L5.out.call hc hb)
  clear hc hb
  clear k0 k1 k2 k3 kf
  have hst2 : stmtS T s = endM T (nameM T s1) := by unfold stmtS stmtM; rw [HS.out, HN.out, if_pos rfl]; dsimp only; rw [HOP.out, HS1.out]; simp
  have hval : (stmtM T s).1 = ⟨6, nv, [], []⟩ := by unfold stmtM; rw [HN.out]; dsimp only; rw [HOP.out, HS1.out]; simp; exact HNV.out
  have FIN := Lib.hid hst2
  have VAL := Lib.hid hval
  clear hst2 hval
  have ⟨⟨k0, k1, k2, k3⟩, kf⟩ := L6.out.cells
  have ⟨⟨j0, j1, j2, j3⟩, jf⟩ := L6.out.rescells
  go_wp2
  have G := set4 L6.out.res (.int .i64 6) (sv nv) (.slice none 0 0) (.slice none 0 0)
  have ⟨gc, _⟩ := blk_cells G
  refine bodyPost_ret (v := .agg #[.int .i64 6, sv nv, .slice none 0 0, .slice none 0 0]) ?_ rfl ?_
  · simp [results, Tryd.results82, go_sem, gc]
  · exact stl_end L6.out FIN.out rfl rfl (fun _ h0 => by rw [VAL.out]; exact ⟨rfl, rfl, SliceAt.nil, SliceAt.nil⟩) _ _ _ _

set_option maxHeartbeats 1000000 in
theorem rstmt_one5 {B bp : Nat} {T : List Tok} {s : PS} {w : World} (h : PSt B bp T s w) (hT : T.length ≤ 1000000) (hN : isN T s = false) (hS : startsB T s = true) (hop : opOf (s.next T).text = 5) :
    Calls Tryd.prog 82 #[.pointer (some ⟨bp, 0, none⟩)] w (StPost B bp T s w) := by
  have hlt := h.lt
  have H := Lib.hid h
  have hT' := Lib.hid hT
  have L0 := Lib.hid (stl_start h)
  clear h
  go_enter Tryd.func82, Tryd.ntmps82
  have HN := Lib.hid hN
  have HS := Lib.hid hS
  have HOP := Lib.hid hop
  obtain ⟨_, tk, htk, hen⟩ := next_in (starts_in hS hN)
  have hyx : tk.text = [115, 105, 110, 107] := by rw [← hen]; exact (op_text _).2.2.2.1 hop
  clear hN hS hop hen
  go_wp2_with fail
  refine (isName_any L0.out.p).mono ?_
  rintro e v1 ⟨rfl, hc, hb⟩
  have L1 := Lib.hid (L0.out.call hc hb)
  clear hc hb
  rw [HN.out]
  obtain ⟨tb, off, tc, p0, p1, pf, pt, hin⟩ := L1.out.p.tok htk
  rw [hyx] at pt
  have hle := Lib.hid (show s.at_ + 1 ≤ T.length from hin)
  obtain ⟨tn, htn⟩ : ∃ x, T.length = x := ⟨_, rfl⟩
  rw [htn] at p0 hin hT
  have hin2 : (s.at_ : Int) < (tn : Int) := by omega
  clear htn hyx htk
  go_wp2
  go_quiet (fail)
  have L2 := Lib.hid ((L1.out.drewN nq).next hle.out)
  obtain ⟨s1, hs1⟩ : ∃ x, s.step = x := ⟨_, rfl⟩
  rw [hs1] at L2
  have HS1 := Lib.hid hs1
  clear hs1
  go_wp2_with fail
  refine (name_any L2.out.p hT'.out).mono ?_
  rintro e v3 ⟨rfl, hc, hb⟩
  have L3 := Lib.hid (L2.out.call hc hb)
  clear p0 p1 pf pt
  clear hc hb
  obtain ⟨nv, hnv⟩ : ∃ x, nameV T s1 = x := ⟨_, rfl⟩
  rw [hnv]
  have HNV := Lib.hid hnv
  clear hnv
  have LA := Lib.hid (L3.out.alloc (.cells #[sv nv] 9))
  have UA : Hid (StrsAt (v3.alloc (.cells #[sv nv] 9)) (.slice (some ⟨v3.heap.size, 0, none⟩) 1 1) [nv]) := SliceAt.new [sv nv] 1 rfl (by unfold maxLen; omega)
  have ⟨⟨k0, k1, k2, k3⟩, kf⟩ := LA.out.cells
  have L4 := Lib.hid (LA.out.set0 (.int .i64 5))
  have UA_4 := Lib.hid (SliceAt.same UA.out (LA.out.sstr 0 (.int .i64 5)))
  have L5 := Lib.hid (L4.out.set2 (.slice (some ⟨v3.heap.size, 0, none⟩) 1 1))
  have UA_5 := Lib.hid (SliceAt.same UA_4.out (L4.out.sstr 2 (.slice (some ⟨v3.heap.size, 0, none⟩) 1 1)))
  go_wp2_with fail
  refine (end_any L5.out.p hT'.out).mono ?_
  rintro e v6 ⟨rfl, hc, hb⟩
  have L6 := Lib.hid (L5.out.call hc hb)
  have UA_6 := Lib.hid (SliceAt.same UA_5.out (L5.out.str hb))
  clear hc hb
  clear k0 k1 k2 k3 kf
  have hst2 : stmtS T s = endM T (nameM T s1) := by unfold stmtS stmtM; rw [HS.out, HN.out, if_pos rfl]; dsimp only; rw [HOP.out, HS1.out]; simp
  have hval : (stmtM T s).1 = ⟨5, [], [nv], []⟩ := by unfold stmtM; rw [HN.out]; dsimp only; rw [HOP.out, HS1.out]; simp; exact HNV.out
  have FIN := Lib.hid hst2
  have VAL := Lib.hid hval
  clear hst2 hval
  have ⟨⟨k0, k1, k2, k3⟩, kf⟩ := L6.out.cells
  have ⟨⟨j0, j1, j2, j3⟩, jf⟩ := L6.out.rescells
  go_wp2
  have G := set4 L6.out.res (.int .i64 5) (.string ⟨#[]⟩) (.slice (some ⟨v3.heap.size, 0, none⟩) 1 1) (.slice none 0 0)
  have ⟨gc, _⟩ := blk_cells G
  refine bodyPost_ret (v := .agg #[.int .i64 5, .string ⟨#[]⟩, .slice (some ⟨v3.heap.size, 0, none⟩) 1 1, .slice none 0 0]) ?_ rfl ?_
  · simp [results, Tryd.results82, go_sem, gc]
  · exact stl_end L6.out FIN.out rfl rfl (fun _ h0 => by rw [VAL.out]; exact ⟨rfl, rfl, UA_6.out, SliceAt.nil⟩) _ _ _ _

set_option maxHeartbeats 1000000 in
theorem rstmt_one3 {B bp : Nat} {T : List Tok} {s : PS} {w : World} (h : PSt B bp T s w) (hT : T.length ≤ 1000000) (hN : isN T s = false) (hS : startsB T s = true) (hop : opOf (s.next T).text = 3) :
    Calls Tryd.prog 82 #[.pointer (some ⟨bp, 0, none⟩)] w (StPost B bp T s w) := by
  have hlt := h.lt
  have H := Lib.hid h
  have hT' := Lib.hid hT
  have L0 := Lib.hid (stl_start h)
  clear h
  go_enter Tryd.func82, Tryd.ntmps82
  have HN := Lib.hid hN
  have HS := Lib.hid hS
  have HOP := Lib.hid hop
  obtain ⟨_, tk, htk, hen⟩ := next_in (starts_in hS hN)
  have hyx : tk.text = [99, 97, 108, 108] := by rw [← hen]; exact (op_text _).2.1 hop
  clear hN hS hop hen
  go_wp2_with fail
  refine (isName_any L0.out.p).mono ?_
  rintro e v1 ⟨rfl, hc, hb⟩
  have L1 := Lib.hid (L0.out.call hc hb)
  clear hc hb
  rw [HN.out]
  obtain ⟨tb, off, tc, p0, p1, pf, pt, hin⟩ := L1.out.p.tok htk
  rw [hyx] at pt
  have hle := Lib.hid (show s.at_ + 1 ≤ T.length from hin)
  obtain ⟨tn, htn⟩ : ∃ x, T.length = x := ⟨_, rfl⟩
  rw [htn] at p0 hin hT
  have hin2 : (s.at_ : Int) < (tn : Int) := by omega
  clear htn hyx htk
  go_wp2
  go_quiet (fail)
  have L2 := Lib.hid ((L1.out.drewN nq).next hle.out)
  obtain ⟨s1, hs1⟩ : ∃ x, s.step = x := ⟨_, rfl⟩
  rw [hs1] at L2
  have HS1 := Lib.hid hs1
  clear hs1
  go_wp2_with fail
  refine (name_any L2.out.p hT'.out).mono ?_
  rintro e v3 ⟨rfl, hc, hb⟩
  have L3 := Lib.hid (L2.out.call hc hb)
  clear p0 p1 pf pt
  clear hc hb
  obtain ⟨nv, hnv⟩ : ∃ x, nameV T s1 = x := ⟨_, rfl⟩
  rw [hnv]
  have HNV := Lib.hid hnv
  clear hnv
  have LA := Lib.hid (L3.out.alloc (.cells #[sv nv] 9))
  have UA : Hid (StrsAt (v3.alloc (.cells #[sv nv] 9)) (.slice (some ⟨v3.heap.size, 0, none⟩) 1 1) [nv]) := SliceAt.new [sv nv] 1 rfl (by unfold maxLen; omega)
  have ⟨⟨k0, k1, k2, k3⟩, kf⟩ := LA.out.cells
  have L4 := Lib.hid (LA.out.set0 (.int .i64 3))
  have UA_4 := Lib.hid (SliceAt.same UA.out (LA.out.sstr 0 (.int .i64 3)))
  have L5 := Lib.hid (L4.out.set3 (.slice (some ⟨v3.heap.size, 0, none⟩) 1 1))
  have UA_5 := Lib.hid (SliceAt.same UA_4.out (L4.out.sstr 3 (.slice (some ⟨v3.heap.size, 0, none⟩) 1 1)))
  go_wp2_with fail
  refine (end_any L5.out.p hT'.out).mono ?_
  rintro e v6 ⟨rfl, hc, hb⟩
  have L6 := Lib.hid (L5.out.call hc hb)
  have UA_6 := Lib.hid (SliceAt.same UA_5.out (L5.out.str hb))
  clear hc hb
  clear k0 k1 k2 k3 kf
  have hst2 : stmtS T s = endM T (nameM T s1) := by unfold stmtS stmtM; rw [HS.out, HN.out, if_pos rfl]; dsimp only; rw [HOP.out, HS1.out]; simp
  have hval : (stmtM T s).1 = ⟨3, [], [], [nv]⟩ := by unfold stmtM; rw [HN.out]; dsimp only; rw [HOP.out, HS1.out]; simp; exact HNV.out
  have FIN := Lib.hid hst2
  have VAL := Lib.hid hval
  clear hst2 hval
  have ⟨⟨k0, k1, k2, k3⟩, kf⟩ := L6.out.cells
  have ⟨⟨j0, j1, j2, j3⟩, jf⟩ := L6.out.rescells
  go_wp2
  have G := set4 L6.out.res (.int .i64 3) (.string ⟨#[]⟩) (.slice none 0 0) (.slice (some ⟨v3.heap.size, 0, none⟩) 1 1)
  have ⟨gc, _⟩ := blk_cells G
  refine bodyPost_ret (v := .agg #[.int .i64 3, .string ⟨#[]⟩, .slice none 0 0, .slice (some ⟨v3.heap.size, 0, none⟩) 1 1]) ?_ rfl ?_
  · simp [results, Tryd.results82, go_sem, gc]
  · exact stl_end L6.out FIN.out rfl rfl (fun _ h0 => by rw [VAL.out]; exact ⟨rfl, rfl, SliceAt.nil, UA_6.out⟩) _ _ _ _

set_option maxHeartbeats 1000000 in
theorem rstmt_one7 {B bp : Nat} {T : List Tok} {s : PS} {w : World} (h : PSt B bp T s w) (hT : T.length ≤ 1000000) (hN : isN T s = false) (hS : startsB T s = true) (hop : opOf (s.next T).text = 7) :
    Calls Tryd.prog 82 #[.pointer (some ⟨bp, 0, none⟩)] w (StPost B bp T s w) := by
  have hlt := h.lt
  have H := Lib.hid h
  have hT' := Lib.hid hT
  have L0 := Lib.hid (stl_start h)
  clear h
  go_enter Tryd.func82, Tryd.ntmps82
  have HN := Lib.hid hN
  have HS := Lib.hid hS
  have HOP := Lib.hid hop
  obtain ⟨_, tk, htk, hen⟩ := next_in (starts_in hS hN)
  have hyx : tk.text = [103, 111, 116, 111] := by rw [← hen]; exact (op_text _).2.2.2.2.2.1 hop
  clear hN hS hop hen
  go_wp2_with fail
  refine (isName_any L0.out.p).mono ?_
  rintro e v1 ⟨rfl, hc, hb⟩
  have L1 := Lib.hid (L0.out.call hc hb)
  clear hc hb
  rw [HN.out]
  obtain ⟨tb, off, tc, p0, p1, pf, pt, hin⟩ := L1.out.p.tok htk
  rw [hyx] at pt
  have hle := Lib.hid (show s.at_ + 1 ≤ T.length from hin)
  obtain ⟨tn, htn⟩ : ∃ x, T.length = x := ⟨_, rfl⟩
  rw [htn] at p0 hin hT
  have hin2 : (s.at_ : Int) < (tn : Int) := by omega
  clear htn hyx htk
  go_wp2
  go_quiet (fail)
  have L2 := Lib.hid ((L1.out.drewN nq).next hle.out)
  obtain ⟨s1, hs1⟩ : ∃ x, s.step = x := ⟨_, rfl⟩
  rw [hs1] at L2
  have HS1 := Lib.hid hs1
  clear hs1
  go_wp2_with fail
  refine (name_any L2.out.p hT'.out).mono ?_
  rintro e v3 ⟨rfl, hc, hb⟩
  have L3 := Lib.hid (L2.out.call hc hb)
  clear p0 p1 pf pt
  clear hc hb
  obtain ⟨nv, hnv⟩ : ∃ x, nameV T s1 = x := ⟨_, rfl⟩
  rw [hnv]
  have HNV := Lib.hid hnv
  clear hnv
  have LA := Lib.hid (L3.out.alloc (.cells #[sv nv] 9))
  have UA : Hid (StrsAt (v3.alloc (.cells #[sv nv] 9)) (.slice (some ⟨v3.heap.size, 0, none⟩) 1 1) [nv]) := SliceAt.new [sv nv] 1 rfl (by unfold maxLen; omega)
  have ⟨⟨k0, k1, k2, k3⟩, kf⟩ := LA.out.cells
  have L4 := Lib.hid (LA.out.set0 (.int .i64 7))
  have UA_4 := Lib.hid (SliceAt.same UA.out (LA.out.sstr 0 (.int .i64 7)))
  have L5 := Lib.hid (L4.out.set3 (.slice (some ⟨v3.heap.size, 0, none⟩) 1 1))
  have UA_5 := Lib.hid (SliceAt.same UA_4.out (L4.out.sstr 3 (.slice (some ⟨v3.heap.size, 0, none⟩) 1 1)))
  go_wp2_with fail
  refine (end_any L5.out.p hT'.out).mono ?_
  rintro e v6 ⟨rfl, hc, hb⟩
  have L6 := Lib.hid (L5.out.call hc hb)
  have UA_6 := Lib.hid (SliceAt.same UA_5.out (L5.out.str hb))
  clear hc hb
  clear k0 k1 k2 k3 kf
  have hst2 : stmtS T s = endM T (nameM T s1) := by unfold stmtS stmtM; rw [HS.out, HN.out, if_pos rfl]; dsimp only; rw [HOP.out, HS1.out]; simp
  have hval : (stmtM T s).1 = ⟨7, [], [], [nv]⟩ := by unfold stmtM; rw [HN.out]; dsimp only; rw [HOP.out, HS1.out]; simp; exact HNV.out
  have FIN := Lib.hid hst2
  have VAL := Lib.hid hval
  clear hst2 hval
  have ⟨⟨k0, k1, k2, k3⟩, kf⟩ := L6.out.cells
  have ⟨⟨j0, j1, j2, j3⟩, jf⟩ := L6.out.rescells
  go_wp2
  have G := set4 L6.out.res (.int .i64 7) (.string ⟨#[]⟩) (.slice none 0 0) (.slice (some ⟨v3.heap.size, 0, none⟩) 1 1)
  have ⟨gc, _⟩ := blk_cells G
  refine bodyPost_ret (v := .agg #[.int .i64 7, .string ⟨#[]⟩, .slice none 0 0, .slice (some ⟨v3.heap.size, 0, none⟩) 1 1]) ?_ rfl ?_
  · simp [results, Tryd.results82, go_sem, gc]
  · exact stl_end L6.out FIN.out rfl rfl (fun _ h0 => by rw [VAL.out]; exact ⟨rfl, rfl, SliceAt.nil, UA_6.out⟩) _ _ _ _
end Go.Proofs.YtpnfdmajpkpjoaaDoor.R

