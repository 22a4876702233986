/- Walk: script.Parse. Printed by wip/gen_scw5.py. -/
import Derived.Test.YtgmlnbheceeklaaDoorScW4
import Derived.Deep.CutRange
set_option linter.unusedVariables false
set_option linter.unusedSimpArgs false
set_option linter.unusedSectionVars false
namespace Go.Proofs.YtgmlnbheceeklaaDoor
open Go.RowKit
variable [Base]

/-- What stands while a line is read: the result's cells, the operation's cells. -/
structure OpIn (w wx : World) (b : Nat) (o : POp) : Prop where
  below : Below w.heap.size w wx
  res : wx.heap[w.heap.size]? = some (.cells (opC zeroO) 24 (0, 0))
  cur : wx.heap[b]? = some (.cells (opC o) 24 (0, 0))
  old : w.heap.size < b
theorem OpIn.after {w wx w2 : World} {b : Nat} {o : POp} (h : OpIn w wx b o) (k : Below wx.heap.size wx w2) : OpIn w w2 b o :=
  ⟨h.below.trans (k.mono h.below.size), lies_below h.res k (lt_heap h.res), lies_below h.cur k (lt_heap h.cur), h.old⟩
theorem OpIn.draws {w wx : World} {b : Nat} {o : POp} (h : OpIn w wx b o) (n : Nat) : OpIn w (wx.drewN n) b o := ⟨below_drewQ h.below n, h.res, h.cur, h.old⟩
theorem OpIn.set {w wx : World} {b k : Nat} {o o2 : POp} {v : Value} (h : OpIn w wx b o) (he : (opC o).setIfInBounds k v = opC o2) : OpIn w (wx.setCell ⟨b, k, none⟩ v) b o2 := by
  have ho := h.old
  have hc := h.cur
  refine ⟨h.below.setCell (p := ⟨b, k, none⟩) (by show w.heap.size ≤ b; omega) _, ?_, ?_, h.old⟩
  · rw [Below.heap_setCell _ _ _ _ (by show w.heap.size ≠ b; omega)]; exact h.res
  · rw [← he]
    simp [World.setCell, Array.getElem?_modify, hc]
theorem OpIn.ids {w wx : World} {b : Nat} {k a n m : Int} {x y z : Str} (h : OpIn w wx b ⟨k, x, y, a, n, m⟩) : OpIn w (wx.setCell ⟨b, 1, none⟩ (qs z)) b ⟨k, z, y, a, n, m⟩ := h.set rfl
theorem OpIn.txt {w wx : World} {b : Nat} {k a n m : Int} {x y z : Str} (h : OpIn w wx b ⟨k, x, y, a, n, m⟩) : OpIn w (wx.setCell ⟨b, 2, none⟩ (qs z)) b ⟨k, x, z, a, n, m⟩ := h.set rfl
theorem OpIn.an {w wx : World} {b : Nat} {k a n m z : Int} {x y : Str} (h : OpIn w wx b ⟨k, x, y, a, n, m⟩) : OpIn w (wx.setCell ⟨b, 3, none⟩ (.int .i64 z)) b ⟨k, x, y, z, n, m⟩ := h.set rfl
theorem OpIn.nd {w wx : World} {b : Nat} {k a n m z : Int} {x y : Str} (h : OpIn w wx b ⟨k, x, y, a, n, m⟩) : OpIn w (wx.setCell ⟨b, 4, none⟩ (.int .i64 z)) b ⟨k, x, y, a, z, m⟩ := h.set rfl
theorem OpIn.nn {w wx : World} {b : Nat} {k a n m z : Int} {x y : Str} (h : OpIn w wx b ⟨k, x, y, a, n, m⟩) : OpIn w (wx.setCell ⟨b, 5, none⟩ (.int .i64 z)) b ⟨k, x, y, a, n, z⟩ := h.set rfl
theorem cut_to {l a r : Str} (h : wordS l = (a, r)) (hl : l.length ≤ 281474976710656) (w : World) : Calls Tryd.prog 21 #[qs l] w (fun e w' => e = .returned (.tuple #[qs a, qs r]) ∧ ∃ n, w' = w.drewN n) := by
  have k := cut_any ⟨l.toArray⟩ (by rw [size_str]; exact hl) w
  unfold CutQ at k
  rw [show (⟨l.toArray⟩ : ByteArray).data.toList = l from rfl, h] at k
  exact k
theorem word_len : ∀ (l : Str), (wordS l).1.length ≤ l.length ∧ (wordS l).2.length ≤ l.length
  | [] => by simp [wordS]
  | c :: r => by
    have := word_len r
    unfold wordS
    split
    · simp
    · simp only [List.length_cons]; omega
theorem atoi_to {B : Nat} {r : Str} {v : Int} (h : atoiVal r = v) (hl : r.length ≤ 281474976710656) (w : World) (hV : VarsIn B w) : Calls Tryd.prog 23 #[qs r] w (fun e w' => ∃ ev, e = .returned (.tuple #[.int .i64 v, ev]) ∧ Below w.heap.size w w') := h ▸ atoi_any r hl w hV
theorem index_to {ls : List Str} {l : Str} {n c k : Nat} {a : Option Addr} (h : (posS 0 ls l).getD 0 = k) (w : World) (hx : ls.length = n) (hn : n ≤ 1000000) (F : ∀ k s, ls[k]? = some s → ∃ b off, a = some ⟨b, off, none⟩ ∧ w.cell? ⟨b, off + k, none⟩ = some (qs s)) :
    Calls Tryd.prog 22 #[.slice a n c, qs l] w (fun e w' => e = .returned (.int .i64 (k : Int)) ∧ w' = w) := h ▸ sindex_any ls l n c a w hx hn F
def POpE (r : POp × Int) (w : World) (e : Ending) (w' : World) : Prop := e = .returned (.tuple #[opV r.1, .int .i64 r.2]) ∧ Below w.heap.size w w'
theorem pos_lt : ∀ (ls : List Str) (i : Nat) (s : Str) (k : Nat), posS i ls s = some k → k < i + ls.length
  | [], i, s, k, h => by simp [posS] at h
  | x :: r, i, s, k, h => by
    unfold posS at h
    split at h
    · injection h with h; simp; omega
    · have := pos_lt r (i + 1) s k h
      simp only [List.length_cons]; omega
theorem kind_lt (l : Str) : kindOf l < 10 := by
  unfold kindOf
  cases h : posS 0 verbsL (wordS l).1 with
  | none => decide
  | some k => have := pos_lt _ _ _ _ h; simpa [verbsL] using this
theorem print_to {B : Nat} {o : POp} {x : Str} (h : opT o = x) (hid : o.id.length ≤ 9223372036854775807) (ht : o.text.length ≤ 9223372036854775807) (w : World) (hV : VarsIn B w) (hB : B ≤ w.heap.size) : Calls Tryd.prog 8 #[opV o] w (StrQ x w) := h ▸ print_any o hid ht w hV hB
set_option maxRecDepth 100000 in
set_option maxHeartbeats 8000000 in
theorem parse_any {B : Nat} (l : Str) (hl : l.length ≤ 281474976710656) (w : World) (hV : VarsIn B w) (hB : B ≤ w.heap.size) : Calls Tryd.prog 9 #[qs l] w (POpE (takeO l (candP l)) w) := by
  have hud : ∀ b : Bool, (undef = Value.bool b) = False := fun b => by simp [undef]
  have HV := Lib.hid (show ∀ w', Below w.heap.size w w' → VarsIn B w' from fun w' hb => hV.below (hb.mono hB))
  obtain ⟨hl1, hl2⟩ := word_len l
  obtain ⟨⟨vb, rs⟩, hw1⟩ : ∃ q, wordS l = q := ⟨_, rfl⟩
  rw [hw1] at hl1 hl2
  have HW1 := Lib.hid hw1
  obtain ⟨k, hk⟩ : ∃ k, kindOf l = k := ⟨_, rfl⟩
  have hk10 : k < 10 := by rw [← hk]; exact kind_lt l
  have HKD := Lib.hid (show (posS 0 verbsL vb).getD 0 = k by rw [← hk]; unfold kindOf; rw [hw1])
  have HK := Lib.hid hk
  clear hw1 hk hV
  go_enter Tryd.func9, Tryd.ntmps9
  go_wp2_with fail
  obtain ⟨W, hW⟩ : ∃ W, w.alloc (.cells #[.int .i64 0, .string ⟨#[]⟩, .string ⟨#[]⟩, .int .i64 0, .int .i64 0, .int .i64 0] 24) = W := ⟨_, rfl⟩
  have b0 : Below w.heap.size w W := by rw [← hW]; exact (Below.refl _ _).alloc (Nat.le_refl _) _
  have LR := Lib.hid (show W.heap[w.heap.size]? = some (.cells (opC zeroO) 24 (0, 0)) by rw [← hW]; exact heap_alloc_new _ _)
  have B0 := Lib.hid b0
  rw [hW]
  clear hW b0
  refine (cut_to HW1.out hl W).mono ?_
  rintro e w' ⟨rfl, dn, rfl⟩
  obtain ⟨gb, go, gc, hgb, v0, hv⟩ := verbs_at (HV.out _ (below_drewQ B0.out dn)).verbs
  rw [show verbsL.length = 10 from rfl] at v0
  have HIX := Lib.hid (fun w9 (F : ∀ k s, verbsL[k]? = some s → w9.cell? ⟨gb, go + k, none⟩ = some (qs s)) => index_to (c := gc) HKD.out w9 rfl (by decide) (fun k s hk => ⟨gb, go, rfl, F k s hk⟩))
  have HVV := Lib.hid hv
  clear hv
  go_wp2_with fail
  refine (HIX.out _ HVV.out).mono ?_
  rintro e w' ⟨rfl, rfl⟩
  obtain ⟨V, hV⟩ : ∃ V, (W.drewN dn).alloc (.cells #[.int .i64 k, .string ⟨#[]⟩, .string ⟨#[]⟩, .int .i64 0, .int .i64 0, .int .i64 0] 24) = V := ⟨_, rfl⟩
  have J0 := Lib.hid (show OpIn w V W.heap.size ⟨k, [], [], 0, 0, 0⟩ by
    rw [← hV]
    exact ⟨(below_drewQ B0.out dn).alloc B0.out.size _, lies_alloc _ LR.out, heap_alloc_new _ _, lt_heap LR.out⟩)
  have hbo : ∃ bo, W.heap.size = bo := ⟨_, rfl⟩
  obtain ⟨bo, hbo⟩ := hbo
  have HVE := Lib.hid hV
  clear hV v0 HVV HIX
  have HBO := Lib.hid hbo
  go_upto_region 3 with fail
  rw [show (W.drewN dn).alloc (.cells #[.int .i64 k, .string ⟨#[]⟩, .string ⟨#[]⟩, .int .i64 0, .int .i64 0, .int .i64 0] 24) = V from HVE.out]
  rw [hbo] at J0
  clear hbo HBO
  have hc : k = 0 ∨ k = 1 ∨ k = 2 ∨ k = 3 ∨ k = 4 ∨ k = 5 ∨ k = 6 ∨ k = 7 ∨ k = 8 ∨ k = 9 := by omega
  rcases hc with rfl | rfl | rfl | rfl | rfl | rfl | rfl | rfl | rfl | rfl
  · have HCA := Lib.hid (show candP l = ⟨0, rs, [], 0, 0, 0⟩ by
      unfold candP
      rw [HK.out, HW1.out]
      rfl)
    have J1 := Lib.hid (J0.out.ids (z := rs))
    have x0 := (lies_cells J0.out.cur).1 0
    have x1 := (lies_cells J0.out.cur).1 1
    have x2 := (lies_cells J0.out.cur).1 2
    have x3 := (lies_cells J0.out.cur).1 3
    have x4 := (lies_cells J0.out.cur).1 4
    have x5 := (lies_cells J0.out.cur).1 5
    have q0 := (lies_cells J0.out.cur).2 0
    have q1 := (lies_cells J0.out.cur).2 1
    have q2 := (lies_cells J0.out.cur).2 2
    have q3 := (lies_cells J0.out.cur).2 3
    have q4 := (lies_cells J0.out.cur).2 4
    have q5 := (lies_cells J0.out.cur).2 5
    simp only [opC, List.getElem?_toArray, List.getElem?_cons_zero, List.getElem?_cons_succ] at x0 x1 x2 x3 x4 x5
    have HC := Lib.hid (show takeO l (candP l) = (if opB ⟨0, rs, [], 0, 0, 0⟩ = true ∧ opT ⟨0, rs, [], 0, 0, 0⟩ = l then (⟨0, rs, [], 0, 0, 0⟩, 0) else (zeroO, 4)) by rw [show candP l = ⟨0, rs, [], 0, 0, 0⟩ from HCA.out]; rfl)
    obtain ⟨dv, hdv⟩ : ∃ d, opB ⟨0, rs, [], 0, 0, 0⟩ = d := ⟨_, rfl⟩
    have HDV := Lib.hid hdv
    clear hdv
    go_wp2_with fail
    refine (valid_to (B := B) (o := ⟨0, rs, [], 0, 0, 0⟩) HDV.out (by show rs.length ≤ _; omega) (by show ([] : Str).length ≤ _; simp) _ (HV.out _ J1.out.below) (Nat.le_trans hB J1.out.below.size)).mono ?_
    rintro e y1 ⟨rfl, c1⟩
    clear x0 x1 x2 x3 x4 x5 q0 q1 q2 q3 q4 q5
    have K1 := Lib.hid (J1.out.after c1)
    clear c1
    have x0 := (lies_cells K1.out.cur).1 0
    have x1 := (lies_cells K1.out.cur).1 1
    have x2 := (lies_cells K1.out.cur).1 2
    have x3 := (lies_cells K1.out.cur).1 3
    have x4 := (lies_cells K1.out.cur).1 4
    have x5 := (lies_cells K1.out.cur).1 5
    simp only [opC, List.getElem?_toArray, List.getElem?_cons_zero, List.getElem?_cons_succ] at x0 x1 x2 x3 x4 x5
    have r0 := (lies_cells K1.out.res).1 0
    have r1 := (lies_cells K1.out.res).1 1
    have r2 := (lies_cells K1.out.res).1 2
    have r3 := (lies_cells K1.out.res).1 3
    have r4 := (lies_cells K1.out.res).1 4
    have r5 := (lies_cells K1.out.res).1 5
    have f0 := (lies_cells K1.out.res).2 0
    have f1 := (lies_cells K1.out.res).2 1
    have f2 := (lies_cells K1.out.res).2 2
    have f3 := (lies_cells K1.out.res).2 3
    have f4 := (lies_cells K1.out.res).2 4
    have f5 := (lies_cells K1.out.res).2 5
    simp only [opC, zeroO, List.getElem?_toArray, List.getElem?_cons_zero, List.getElem?_cons_succ] at r0 r1 r2 r3 r4 r5
    have hrb := K1.out.old
    have hrb2 : w.heap.size ≠ bo := by omega
    have hrb3 : bo ≠ w.heap.size := by omega
    cases dv
    · have HZ := Lib.hid (show takeO l (candP l) = (zeroO, 4) by rw [HC.out, HDV.out]; simp)
      have BZ := Lib.hid (fun (v0 v1 v2 v3 v4 v5 : Value) => ((((((K1.out.below.setCell (p := ⟨w.heap.size, 0, none⟩) (Nat.le_refl _) v0).setCell (p := ⟨w.heap.size, 1, none⟩) (Nat.le_refl _) v1).setCell (p := ⟨w.heap.size, 2, none⟩) (Nat.le_refl _) v2).setCell (p := ⟨w.heap.size, 3, none⟩) (Nat.le_refl _) v3).setCell (p := ⟨w.heap.size, 4, none⟩) (Nat.le_refl _) v4).setCell (p := ⟨w.heap.size, 5, none⟩) (Nat.le_refl _) v5))
      go_wp2
      refine bodyPost_ret (v := .tuple #[opV zeroO, .int .i64 4]) (by simp [results, Tryd.results9, go_sem, r0, r1, r2, r3, r4, r5, zeroO]) rfl ?_
      rw [HZ.out]
      exact ⟨rfl, BZ.out _ _ _ _ _ _⟩
    go_wp2_with fail
    refine (print_to (B := B) (o := ⟨0, rs, [], 0, 0, 0⟩) rfl (by show rs.length ≤ _; omega) (by show ([] : Str).length ≤ _; simp) y1 (HV.out _ K1.out.below) (Nat.le_trans hB K1.out.below.size)).mono ?_
    obtain ⟨tx, htx⟩ : ∃ t, opT ⟨0, rs, [], 0, 0, 0⟩ = t := ⟨_, rfl⟩
    rw [htx] at HC ⊢
    rintro e y2 ⟨rfl, c2⟩
    have K2 := Lib.hid (K1.out.after c2)
    clear c2 htx x0 x1 x2 x3 x4 x5 r0 r1 r2 r3 r4 r5 f0 f1 f2 f3 f4 f5
    have x0 := (lies_cells K2.out.cur).1 0
    have x1 := (lies_cells K2.out.cur).1 1
    have x2 := (lies_cells K2.out.cur).1 2
    have x3 := (lies_cells K2.out.cur).1 3
    have x4 := (lies_cells K2.out.cur).1 4
    have x5 := (lies_cells K2.out.cur).1 5
    simp only [opC, List.getElem?_toArray, List.getElem?_cons_zero, List.getElem?_cons_succ] at x0 x1 x2 x3 x4 x5
    have r0 := (lies_cells K2.out.res).1 0
    have r1 := (lies_cells K2.out.res).1 1
    have r2 := (lies_cells K2.out.res).1 2
    have r3 := (lies_cells K2.out.res).1 3
    have r4 := (lies_cells K2.out.res).1 4
    have r5 := (lies_cells K2.out.res).1 5
    have f0 := (lies_cells K2.out.res).2 0
    have f1 := (lies_cells K2.out.res).2 1
    have f2 := (lies_cells K2.out.res).2 2
    have f3 := (lies_cells K2.out.res).2 3
    have f4 := (lies_cells K2.out.res).2 4
    have f5 := (lies_cells K2.out.res).2 5
    simp only [opC, zeroO, List.getElem?_toArray, List.getElem?_cons_zero, List.getElem?_cons_succ] at r0 r1 r2 r3 r4 r5
    have BZ := Lib.hid (fun (v0 v1 v2 v3 v4 v5 : Value) => ((((((K2.out.below.setCell (p := ⟨w.heap.size, 0, none⟩) (Nat.le_refl _) v0).setCell (p := ⟨w.heap.size, 1, none⟩) (Nat.le_refl _) v1).setCell (p := ⟨w.heap.size, 2, none⟩) (Nat.le_refl _) v2).setCell (p := ⟨w.heap.size, 3, none⟩) (Nat.le_refl _) v3).setCell (p := ⟨w.heap.size, 4, none⟩) (Nat.le_refl _) v4).setCell (p := ⟨w.heap.size, 5, none⟩) (Nat.le_refl _) v5))
    by_cases ht : tx = l
    rotate_left
    · have ht1 : (tx == l) = false := by simpa using ht
      have HZ := Lib.hid (show takeO l (candP l) = (zeroO, 4) by rw [HC.out]; exact if_neg (fun h => ht h.2))
      clear ht
      go_wp2
      refine bodyPost_ret (v := .tuple #[opV zeroO, .int .i64 4]) (by simp [results, Tryd.results9, go_sem, r0, r1, r2, r3, r4, r5, zeroO]) rfl ?_
      rw [HZ.out]
      exact ⟨rfl, BZ.out _ _ _ _ _ _⟩
    have ht1 : (l == l) = true := by simp
    have HZ := Lib.hid (show takeO l (candP l) = (⟨0, rs, [], 0, 0, 0⟩, 0) by rw [HC.out]; exact if_pos ⟨HDV.out, ht⟩)
    rw [ht]
    clear ht
    go_wp2
    refine bodyPost_ret (v := .tuple #[opV ⟨0, rs, [], 0, 0, 0⟩, .int .i64 0]) (by simp [results, Tryd.results9, go_sem, r0, r1, r2, r3, r4, r5, zeroO]) rfl ?_
    rw [HZ.out]
    exact ⟨rfl, BZ.out _ _ _ _ _ _⟩
  · obtain ⟨hm1, hm2⟩ := word_len rs
    obtain ⟨⟨sa, sb⟩, hw2⟩ : ∃ q, wordS rs = q := ⟨_, rfl⟩
    rw [hw2] at hm1 hm2
    have hm1 : sa.length ≤ rs.length := hm1
    have hm2 : sb.length ≤ rs.length := hm2
    have HCA := Lib.hid (show candP l = ⟨1, sa, sb, 0, 0, 0⟩ by
      unfold candP
      simp only [HK.out, HW1.out, hw2]
      rfl)
    have HW2 := Lib.hid hw2
    clear hw2
    have x0 := (lies_cells J0.out.cur).1 0
    have x1 := (lies_cells J0.out.cur).1 1
    have x2 := (lies_cells J0.out.cur).1 2
    have x3 := (lies_cells J0.out.cur).1 3
    have x4 := (lies_cells J0.out.cur).1 4
    have x5 := (lies_cells J0.out.cur).1 5
    have q0 := (lies_cells J0.out.cur).2 0
    have q1 := (lies_cells J0.out.cur).2 1
    have q2 := (lies_cells J0.out.cur).2 2
    have q3 := (lies_cells J0.out.cur).2 3
    have q4 := (lies_cells J0.out.cur).2 4
    have q5 := (lies_cells J0.out.cur).2 5
    simp only [opC, List.getElem?_toArray, List.getElem?_cons_zero, List.getElem?_cons_succ] at x0 x1 x2 x3 x4 x5
    go_wp2_with fail
    refine (cut_to HW2.out (by omega) V).mono ?_
    rintro e z1 ⟨rfl, n1, rfl⟩
    have J1 := Lib.hid (J0.out.draws n1)
    clear x0 x1 x2 x3 x4 x5 q0 q1 q2 q3 q4 q5
    have x0 := (lies_cells J1.out.cur).1 0
    have x1 := (lies_cells J1.out.cur).1 1
    have x2 := (lies_cells J1.out.cur).1 2
    have x3 := (lies_cells J1.out.cur).1 3
    have x4 := (lies_cells J1.out.cur).1 4
    have x5 := (lies_cells J1.out.cur).1 5
    have q0 := (lies_cells J1.out.cur).2 0
    have q1 := (lies_cells J1.out.cur).2 1
    have q2 := (lies_cells J1.out.cur).2 2
    have q3 := (lies_cells J1.out.cur).2 3
    have q4 := (lies_cells J1.out.cur).2 4
    have q5 := (lies_cells J1.out.cur).2 5
    simp only [opC, List.getElem?_toArray, List.getElem?_cons_zero, List.getElem?_cons_succ] at x0 x1 x2 x3 x4 x5
    have J2 := Lib.hid ((J1.out.ids (z := sa)).txt (z := sb))
    have HC := Lib.hid (show takeO l (candP l) = (if opB ⟨1, sa, sb, 0, 0, 0⟩ = true ∧ opT ⟨1, sa, sb, 0, 0, 0⟩ = l then (⟨1, sa, sb, 0, 0, 0⟩, 0) else (zeroO, 4)) by rw [show candP l = ⟨1, sa, sb, 0, 0, 0⟩ from HCA.out]; rfl)
    obtain ⟨dv, hdv⟩ : ∃ d, opB ⟨1, sa, sb, 0, 0, 0⟩ = d := ⟨_, rfl⟩
    have HDV := Lib.hid hdv
    clear hdv
    go_wp2_with fail
    refine (valid_to (B := B) (o := ⟨1, sa, sb, 0, 0, 0⟩) HDV.out (by show sa.length ≤ _; omega) (by show sb.length ≤ _; omega) _ (HV.out _ J2.out.below) (Nat.le_trans hB J2.out.below.size)).mono ?_
    rintro e y1 ⟨rfl, c1⟩
    clear x0 x1 x2 x3 x4 x5 q0 q1 q2 q3 q4 q5
    have K1 := Lib.hid (J2.out.after c1)
    clear c1
    have x0 := (lies_cells K1.out.cur).1 0
    have x1 := (lies_cells K1.out.cur).1 1
    have x2 := (lies_cells K1.out.cur).1 2
    have x3 := (lies_cells K1.out.cur).1 3
    have x4 := (lies_cells K1.out.cur).1 4
    have x5 := (lies_cells K1.out.cur).1 5
    simp only [opC, List.getElem?_toArray, List.getElem?_cons_zero, List.getElem?_cons_succ] at x0 x1 x2 x3 x4 x5
    have r0 := (lies_cells K1.out.res).1 0
    have r1 := (lies_cells K1.out.res).1 1
    have r2 := (lies_cells K1.out.res).1 2
    have r3 := (lies_cells K1.out.res).1 3
    have r4 := (lies_cells K1.out.res).1 4
    have r5 := (lies_cells K1.out.res).1 5
    have f0 := (lies_cells K1.out.res).2 0
    have f1 := (lies_cells K1.out.res).2 1
    have f2 := (lies_cells K1.out.res).2 2
    have f3 := (lies_cells K1.out.res).2 3
    have f4 := (lies_cells K1.out.res).2 4
    have f5 := (lies_cells K1.out.res).2 5
    simp only [opC, zeroO, List.getElem?_toArray, List.getElem?_cons_zero, List.getElem?_cons_succ] at r0 r1 r2 r3 r4 r5
    have hrb := K1.out.old
    have hrb2 : w.heap.size ≠ bo := by omega
    have hrb3 : bo ≠ w.heap.size := by omega
    cases dv
    · have HZ := Lib.hid (show takeO l (candP l) = (zeroO, 4) by rw [HC.out, HDV.out]; simp)
      have BZ := Lib.hid (fun (v0 v1 v2 v3 v4 v5 : Value) => ((((((K1.out.below.setCell (p := ⟨w.heap.size, 0, none⟩) (Nat.le_refl _) v0).setCell (p := ⟨w.heap.size, 1, none⟩) (Nat.le_refl _) v1).setCell (p := ⟨w.heap.size, 2, none⟩) (Nat.le_refl _) v2).setCell (p := ⟨w.heap.size, 3, none⟩) (Nat.le_refl _) v3).setCell (p := ⟨w.heap.size, 4, none⟩) (Nat.le_refl _) v4).setCell (p := ⟨w.heap.size, 5, none⟩) (Nat.le_refl _) v5))
      go_wp2
      refine bodyPost_ret (v := .tuple #[opV zeroO, .int .i64 4]) (by simp [results, Tryd.results9, go_sem, r0, r1, r2, r3, r4, r5, zeroO]) rfl ?_
      rw [HZ.out]
      exact ⟨rfl, BZ.out _ _ _ _ _ _⟩
    go_wp2_with fail
    refine (print_to (B := B) (o := ⟨1, sa, sb, 0, 0, 0⟩) rfl (by show sa.length ≤ _; omega) (by show sb.length ≤ _; omega) y1 (HV.out _ K1.out.below) (Nat.le_trans hB K1.out.below.size)).mono ?_
    obtain ⟨tx, htx⟩ : ∃ t, opT ⟨1, sa, sb, 0, 0, 0⟩ = t := ⟨_, rfl⟩
    rw [htx] at HC ⊢
    rintro e y2 ⟨rfl, c2⟩
    have K2 := Lib.hid (K1.out.after c2)
    clear c2 htx x0 x1 x2 x3 x4 x5 r0 r1 r2 r3 r4 r5 f0 f1 f2 f3 f4 f5
    have x0 := (lies_cells K2.out.cur).1 0
    have x1 := (lies_cells K2.out.cur).1 1
    have x2 := (lies_cells K2.out.cur).1 2
    have x3 := (lies_cells K2.out.cur).1 3
    have x4 := (lies_cells K2.out.cur).1 4
    have x5 := (lies_cells K2.out.cur).1 5
    simp only [opC, List.getElem?_toArray, List.getElem?_cons_zero, List.getElem?_cons_succ] at x0 x1 x2 x3 x4 x5
    have r0 := (lies_cells K2.out.res).1 0
    have r1 := (lies_cells K2.out.res).1 1
    have r2 := (lies_cells K2.out.res).1 2
    have r3 := (lies_cells K2.out.res).1 3
    have r4 := (lies_cells K2.out.res).1 4
    have r5 := (lies_cells K2.out.res).1 5
    have f0 := (lies_cells K2.out.res).2 0
    have f1 := (lies_cells K2.out.res).2 1
    have f2 := (lies_cells K2.out.res).2 2
    have f3 := (lies_cells K2.out.res).2 3
    have f4 := (lies_cells K2.out.res).2 4
    have f5 := (lies_cells K2.out.res).2 5
    simp only [opC, zeroO, List.getElem?_toArray, List.getElem?_cons_zero, List.getElem?_cons_succ] at r0 r1 r2 r3 r4 r5
    have BZ := Lib.hid (fun (v0 v1 v2 v3 v4 v5 : Value) => ((((((K2.out.below.setCell (p := ⟨w.heap.size, 0, none⟩) (Nat.le_refl _) v0).setCell (p := ⟨w.heap.size, 1, none⟩) (Nat.le_refl _) v1).setCell (p := ⟨w.heap.size, 2, none⟩) (Nat.le_refl _) v2).setCell (p := ⟨w.heap.size, 3, none⟩) (Nat.le_refl _) v3).setCell (p := ⟨w.heap.size, 4, none⟩) (Nat.le_refl _) v4).setCell (p := ⟨w.heap.size, 5, none⟩) (Nat.le_refl _) v5))
    by_cases ht : tx = l
    rotate_left
    · have ht1 : (tx == l) = false := by simpa using ht
      have HZ := Lib.hid (show takeO l (candP l) = (zeroO, 4) by rw [HC.out]; exact if_neg (fun h => ht h.2))
      clear ht
      go_wp2
      refine bodyPost_ret (v := .tuple #[opV zeroO, .int .i64 4]) (by simp [results, Tryd.results9, go_sem, r0, r1, r2, r3, r4, r5, zeroO]) rfl ?_
      rw [HZ.out]
      exact ⟨rfl, BZ.out _ _ _ _ _ _⟩
    have ht1 : (l == l) = true := by simp
    have HZ := Lib.hid (show takeO l (candP l) = (⟨1, sa, sb, 0, 0, 0⟩, 0) by rw [HC.out]; exact if_pos ⟨HDV.out, ht⟩)
    rw [ht]
    clear ht
    go_wp2
    refine bodyPost_ret (v := .tuple #[opV ⟨1, sa, sb, 0, 0, 0⟩, .int .i64 0]) (by simp [results, Tryd.results9, go_sem, r0, r1, r2, r3, r4, r5, zeroO]) rfl ?_
    rw [HZ.out]
    exact ⟨rfl, BZ.out _ _ _ _ _ _⟩
  · have HCA := Lib.hid (show candP l = ⟨2, rs, [], 0, 0, 0⟩ by
      unfold candP
      rw [HK.out, HW1.out]
      rfl)
    have J1 := Lib.hid (J0.out.ids (z := rs))
    have x0 := (lies_cells J0.out.cur).1 0
    have x1 := (lies_cells J0.out.cur).1 1
    have x2 := (lies_cells J0.out.cur).1 2
    have x3 := (lies_cells J0.out.cur).1 3
    have x4 := (lies_cells J0.out.cur).1 4
    have x5 := (lies_cells J0.out.cur).1 5
    have q0 := (lies_cells J0.out.cur).2 0
    have q1 := (lies_cells J0.out.cur).2 1
    have q2 := (lies_cells J0.out.cur).2 2
    have q3 := (lies_cells J0.out.cur).2 3
    have q4 := (lies_cells J0.out.cur).2 4
    have q5 := (lies_cells J0.out.cur).2 5
    simp only [opC, List.getElem?_toArray, List.getElem?_cons_zero, List.getElem?_cons_succ] at x0 x1 x2 x3 x4 x5
    have HC := Lib.hid (show takeO l (candP l) = (if opB ⟨2, rs, [], 0, 0, 0⟩ = true ∧ opT ⟨2, rs, [], 0, 0, 0⟩ = l then (⟨2, rs, [], 0, 0, 0⟩, 0) else (zeroO, 4)) by rw [show candP l = ⟨2, rs, [], 0, 0, 0⟩ from HCA.out]; rfl)
    obtain ⟨dv, hdv⟩ : ∃ d, opB ⟨2, rs, [], 0, 0, 0⟩ = d := ⟨_, rfl⟩
    have HDV := Lib.hid hdv
    clear hdv
    go_wp2_with fail
    refine (valid_to (B := B) (o := ⟨2, rs, [], 0, 0, 0⟩) HDV.out (by show rs.length ≤ _; omega) (by show ([] : Str).length ≤ _; simp) _ (HV.out _ J1.out.below) (Nat.le_trans hB J1.out.below.size)).mono ?_
    rintro e y1 ⟨rfl, c1⟩
    clear x0 x1 x2 x3 x4 x5 q0 q1 q2 q3 q4 q5
    have K1 := Lib.hid (J1.out.after c1)
    clear c1
    have x0 := (lies_cells K1.out.cur).1 0
    have x1 := (lies_cells K1.out.cur).1 1
    have x2 := (lies_cells K1.out.cur).1 2
    have x3 := (lies_cells K1.out.cur).1 3
    have x4 := (lies_cells K1.out.cur).1 4
    have x5 := (lies_cells K1.out.cur).1 5
    simp only [opC, List.getElem?_toArray, List.getElem?_cons_zero, List.getElem?_cons_succ] at x0 x1 x2 x3 x4 x5
    have r0 := (lies_cells K1.out.res).1 0
    have r1 := (lies_cells K1.out.res).1 1
    have r2 := (lies_cells K1.out.res).1 2
    have r3 := (lies_cells K1.out.res).1 3
    have r4 := (lies_cells K1.out.res).1 4
    have r5 := (lies_cells K1.out.res).1 5
    have f0 := (lies_cells K1.out.res).2 0
    have f1 := (lies_cells K1.out.res).2 1
    have f2 := (lies_cells K1.out.res).2 2
    have f3 := (lies_cells K1.out.res).2 3
    have f4 := (lies_cells K1.out.res).2 4
    have f5 := (lies_cells K1.out.res).2 5
    simp only [opC, zeroO, List.getElem?_toArray, List.getElem?_cons_zero, List.getElem?_cons_succ] at r0 r1 r2 r3 r4 r5
    have hrb := K1.out.old
    have hrb2 : w.heap.size ≠ bo := by omega
    have hrb3 : bo ≠ w.heap.size := by omega
    cases dv
    · have HZ := Lib.hid (show takeO l (candP l) = (zeroO, 4) by rw [HC.out, HDV.out]; simp)
      have BZ := Lib.hid (fun (v0 v1 v2 v3 v4 v5 : Value) => ((((((K1.out.below.setCell (p := ⟨w.heap.size, 0, none⟩) (Nat.le_refl _) v0).setCell (p := ⟨w.heap.size, 1, none⟩) (Nat.le_refl _) v1).setCell (p := ⟨w.heap.size, 2, none⟩) (Nat.le_refl _) v2).setCell (p := ⟨w.heap.size, 3, none⟩) (Nat.le_refl _) v3).setCell (p := ⟨w.heap.size, 4, none⟩) (Nat.le_refl _) v4).setCell (p := ⟨w.heap.size, 5, none⟩) (Nat.le_refl _) v5))
      go_wp2
      refine bodyPost_ret (v := .tuple #[opV zeroO, .int .i64 4]) (by simp [results, Tryd.results9, go_sem, r0, r1, r2, r3, r4, r5, zeroO]) rfl ?_
      rw [HZ.out]
      exact ⟨rfl, BZ.out _ _ _ _ _ _⟩
    go_wp2_with fail
    refine (print_to (B := B) (o := ⟨2, rs, [], 0, 0, 0⟩) rfl (by show rs.length ≤ _; omega) (by show ([] : Str).length ≤ _; simp) y1 (HV.out _ K1.out.below) (Nat.le_trans hB K1.out.below.size)).mono ?_
    obtain ⟨tx, htx⟩ : ∃ t, opT ⟨2, rs, [], 0, 0, 0⟩ = t := ⟨_, rfl⟩
    rw [htx] at HC ⊢
    rintro e y2 ⟨rfl, c2⟩
    have K2 := Lib.hid (K1.out.after c2)
    clear c2 htx x0 x1 x2 x3 x4 x5 r0 r1 r2 r3 r4 r5 f0 f1 f2 f3 f4 f5
    have x0 := (lies_cells K2.out.cur).1 0
    have x1 := (lies_cells K2.out.cur).1 1
    have x2 := (lies_cells K2.out.cur).1 2
    have x3 := (lies_cells K2.out.cur).1 3
    have x4 := (lies_cells K2.out.cur).1 4
    have x5 := (lies_cells K2.out.cur).1 5
    simp only [opC, List.getElem?_toArray, List.getElem?_cons_zero, List.getElem?_cons_succ] at x0 x1 x2 x3 x4 x5
    have r0 := (lies_cells K2.out.res).1 0
    have r1 := (lies_cells K2.out.res).1 1
    have r2 := (lies_cells K2.out.res).1 2
    have r3 := (lies_cells K2.out.res).1 3
    have r4 := (lies_cells K2.out.res).1 4
    have r5 := (lies_cells K2.out.res).1 5
    have f0 := (lies_cells K2.out.res).2 0
    have f1 := (lies_cells K2.out.res).2 1
    have f2 := (lies_cells K2.out.res).2 2
    have f3 := (lies_cells K2.out.res).2 3
    have f4 := (lies_cells K2.out.res).2 4
    have f5 := (lies_cells K2.out.res).2 5
    simp only [opC, zeroO, List.getElem?_toArray, List.getElem?_cons_zero, List.getElem?_cons_succ] at r0 r1 r2 r3 r4 r5
    have BZ := Lib.hid (fun (v0 v1 v2 v3 v4 v5 : Value) => ((((((K2.out.below.setCell (p := ⟨w.heap.size, 0, none⟩) (Nat.le_refl _) v0).setCell (p := ⟨w.heap.size, 1, none⟩) (Nat.le_refl _) v1).setCell (p := ⟨w.heap.size, 2, none⟩) (Nat.le_refl _) v2).setCell (p := ⟨w.heap.size, 3, none⟩) (Nat.le_refl _) v3).setCell (p := ⟨w.heap.size, 4, none⟩) (Nat.le_refl _) v4).setCell (p := ⟨w.heap.size, 5, none⟩) (Nat.le_refl _) v5))
    by_cases ht : tx = l
    rotate_left
    · have ht1 : (tx == l) = false := by simpa using ht
      have HZ := Lib.hid (show takeO l (candP l) = (zeroO, 4) by rw [HC.out]; exact if_neg (fun h => ht h.2))
      clear ht
      go_wp2
      refine bodyPost_ret (v := .tuple #[opV zeroO, .int .i64 4]) (by simp [results, Tryd.results9, go_sem, r0, r1, r2, r3, r4, r5, zeroO]) rfl ?_
      rw [HZ.out]
      exact ⟨rfl, BZ.out _ _ _ _ _ _⟩
    have ht1 : (l == l) = true := by simp
    have HZ := Lib.hid (show takeO l (candP l) = (⟨2, rs, [], 0, 0, 0⟩, 0) by rw [HC.out]; exact if_pos ⟨HDV.out, ht⟩)
    rw [ht]
    clear ht
    go_wp2
    refine bodyPost_ret (v := .tuple #[opV ⟨2, rs, [], 0, 0, 0⟩, .int .i64 0]) (by simp [results, Tryd.results9, go_sem, r0, r1, r2, r3, r4, r5, zeroO]) rfl ?_
    rw [HZ.out]
    exact ⟨rfl, BZ.out _ _ _ _ _ _⟩
  · obtain ⟨hm0, hn0⟩ := word_len rs
    obtain ⟨⟨sa, r1⟩, hw0⟩ : ∃ q, wordS rs = q := ⟨_, rfl⟩
    rw [hw0] at hm0 hn0
    have hm0 : sa.length ≤ rs.length := hm0
    have hn0 : r1.length ≤ rs.length := hn0
    have HX0 := Lib.hid hw0
    obtain ⟨hm1, hn1⟩ := word_len r1
    obtain ⟨⟨sb, r2⟩, hw1⟩ : ∃ q, wordS r1 = q := ⟨_, rfl⟩
    rw [hw1] at hm1 hn1
    have hm1 : sb.length ≤ r1.length := hm1
    have hn1 : r2.length ≤ r1.length := hn1
    have HX1 := Lib.hid hw1
    obtain ⟨hm2, hn2⟩ := word_len r2
    obtain ⟨⟨sc, r3⟩, hw2⟩ : ∃ q, wordS r2 = q := ⟨_, rfl⟩
    rw [hw2] at hm2 hn2
    have hm2 : sc.length ≤ r2.length := hm2
    have hn2 : r3.length ≤ r2.length := hn2
    have HX2 := Lib.hid hw2
    obtain ⟨hm3, hn3⟩ := word_len r3
    obtain ⟨⟨sd, r4⟩, hw3⟩ : ∃ q, wordS r3 = q := ⟨_, rfl⟩
    rw [hw3] at hm3 hn3
    have hm3 : sd.length ≤ r3.length := hm3
    have hn3 : r4.length ≤ r3.length := hn3
    have HX3 := Lib.hid hw3
    obtain ⟨ka, hka⟩ : ∃ v, (posS 0 anasL sc).getD 0 = v := ⟨_, rfl⟩
    obtain ⟨vd, hvd⟩ : ∃ v, atoiVal sd = v := ⟨_, rfl⟩
    obtain ⟨vn, hvn⟩ : ∃ v, atoiVal r4 = v := ⟨_, rfl⟩
    have HCA := Lib.hid (show candP l = ⟨3, sa, sb, (ka : Nat), vd, vn⟩ by
      unfold candP
      simp only [HK.out, HW1.out, hw0, hw1, hw2, hw3, hka, hvd, hvn]
      rfl)
    have HKA := Lib.hid hka
    have HVD := Lib.hid hvd
    have HVN := Lib.hid hvn
    clear hw0 hw1 hw2 hw3 hka hvd hvn
    have x0 := (lies_cells J0.out.cur).1 0
    have x1 := (lies_cells J0.out.cur).1 1
    have x2 := (lies_cells J0.out.cur).1 2
    have x3 := (lies_cells J0.out.cur).1 3
    have x4 := (lies_cells J0.out.cur).1 4
    have x5 := (lies_cells J0.out.cur).1 5
    have q0 := (lies_cells J0.out.cur).2 0
    have q1 := (lies_cells J0.out.cur).2 1
    have q2 := (lies_cells J0.out.cur).2 2
    have q3 := (lies_cells J0.out.cur).2 3
    have q4 := (lies_cells J0.out.cur).2 4
    have q5 := (lies_cells J0.out.cur).2 5
    simp only [opC, List.getElem?_toArray, List.getElem?_cons_zero, List.getElem?_cons_succ] at x0 x1 x2 x3 x4 x5
    go_wp2_with fail
    refine (cut_to HX0.out (by omega) V).mono ?_
    rintro e z1 ⟨rfl, n1, rfl⟩
    have J1 := Lib.hid (J0.out.draws n1)
    clear x0 x1 x2 x3 x4 x5 q0 q1 q2 q3 q4 q5
    have x0 := (lies_cells J1.out.cur).1 0
    have x1 := (lies_cells J1.out.cur).1 1
    have x2 := (lies_cells J1.out.cur).1 2
    have x3 := (lies_cells J1.out.cur).1 3
    have x4 := (lies_cells J1.out.cur).1 4
    have x5 := (lies_cells J1.out.cur).1 5
    have q0 := (lies_cells J1.out.cur).2 0
    have q1 := (lies_cells J1.out.cur).2 1
    have q2 := (lies_cells J1.out.cur).2 2
    have q3 := (lies_cells J1.out.cur).2 3
    have q4 := (lies_cells J1.out.cur).2 4
    have q5 := (lies_cells J1.out.cur).2 5
    simp only [opC, List.getElem?_toArray, List.getElem?_cons_zero, List.getElem?_cons_succ] at x0 x1 x2 x3 x4 x5
    go_wp2_with fail
    refine (cut_to HX1.out (by omega) _).mono ?_
    rintro e z1 ⟨rfl, n2, rfl⟩
    have J2 := Lib.hid ((J1.out.ids (z := sa)).draws n2)
    clear x0 x1 x2 x3 x4 x5 q0 q1 q2 q3 q4 q5
    have x0 := (lies_cells J2.out.cur).1 0
    have x1 := (lies_cells J2.out.cur).1 1
    have x2 := (lies_cells J2.out.cur).1 2
    have x3 := (lies_cells J2.out.cur).1 3
    have x4 := (lies_cells J2.out.cur).1 4
    have x5 := (lies_cells J2.out.cur).1 5
    have q0 := (lies_cells J2.out.cur).2 0
    have q1 := (lies_cells J2.out.cur).2 1
    have q2 := (lies_cells J2.out.cur).2 2
    have q3 := (lies_cells J2.out.cur).2 3
    have q4 := (lies_cells J2.out.cur).2 4
    have q5 := (lies_cells J2.out.cur).2 5
    simp only [opC, List.getElem?_toArray, List.getElem?_cons_zero, List.getElem?_cons_succ] at x0 x1 x2 x3 x4 x5
    go_wp2_with fail
    refine (cut_to HX2.out (by omega) _).mono ?_
    rintro e z1 ⟨rfl, n3, rfl⟩
    have J3 := Lib.hid ((J2.out.txt (z := sb)).draws n3)
    clear x0 x1 x2 x3 x4 x5 q0 q1 q2 q3 q4 q5
    have x0 := (lies_cells J3.out.cur).1 0
    have x1 := (lies_cells J3.out.cur).1 1
    have x2 := (lies_cells J3.out.cur).1 2
    have x3 := (lies_cells J3.out.cur).1 3
    have x4 := (lies_cells J3.out.cur).1 4
    have x5 := (lies_cells J3.out.cur).1 5
    have q0 := (lies_cells J3.out.cur).2 0
    have q1 := (lies_cells J3.out.cur).2 1
    have q2 := (lies_cells J3.out.cur).2 2
    have q3 := (lies_cells J3.out.cur).2 3
    have q4 := (lies_cells J3.out.cur).2 4
    have q5 := (lies_cells J3.out.cur).2 5
    simp only [opC, List.getElem?_toArray, List.getElem?_cons_zero, List.getElem?_cons_succ] at x0 x1 x2 x3 x4 x5
    go_wp2_with fail
    refine (cut_to HX3.out (by omega) _).mono ?_
    rintro e z1 ⟨rfl, n4, rfl⟩
    have J4 := Lib.hid ((J2.out.txt (z := sb)).draws (n3 + n4))
    clear x0 x1 x2 x3 x4 x5 q0 q1 q2 q3 q4 q5
    have x0 := (lies_cells J4.out.cur).1 0
    have x1 := (lies_cells J4.out.cur).1 1
    have x2 := (lies_cells J4.out.cur).1 2
    have x3 := (lies_cells J4.out.cur).1 3
    have x4 := (lies_cells J4.out.cur).1 4
    have x5 := (lies_cells J4.out.cur).1 5
    have q0 := (lies_cells J4.out.cur).2 0
    have q1 := (lies_cells J4.out.cur).2 1
    have q2 := (lies_cells J4.out.cur).2 2
    have q3 := (lies_cells J4.out.cur).2 3
    have q4 := (lies_cells J4.out.cur).2 4
    have q5 := (lies_cells J4.out.cur).2 5
    simp only [opC, List.getElem?_toArray, List.getElem?_cons_zero, List.getElem?_cons_succ] at x0 x1 x2 x3 x4 x5
    obtain ⟨ab, ao, ac, hab, a0, hav⟩ := verbs_at (HV.out _ J4.out.below).anas
    rw [show anasL.length = 5 from rfl] at a0
    have HAV := Lib.hid hav
    clear hav
    go_wp2_with fail
    refine (index_to (c := ac) HKA.out _ rfl (by decide) (fun k s hk => ⟨ab, ao, rfl, HAV.out k s hk⟩)).mono ?_
    rintro e z1 ⟨rfl, rfl⟩
    clear a0 HAV
    go_wp2_with fail
    refine (atoi_to (B := B) HVD.out (by omega) _ (HV.out _ (J4.out.an (z := (ka : Int))).below)).mono ?_
    rintro e z5 ⟨ev, rfl, d1⟩
    have J5 := Lib.hid ((J4.out.an (z := (ka : Int))).after d1)
    clear d1
    clear x0 x1 x2 x3 x4 x5 q0 q1 q2 q3 q4 q5
    have x0 := (lies_cells J5.out.cur).1 0
    have x1 := (lies_cells J5.out.cur).1 1
    have x2 := (lies_cells J5.out.cur).1 2
    have x3 := (lies_cells J5.out.cur).1 3
    have x4 := (lies_cells J5.out.cur).1 4
    have x5 := (lies_cells J5.out.cur).1 5
    have q0 := (lies_cells J5.out.cur).2 0
    have q1 := (lies_cells J5.out.cur).2 1
    have q2 := (lies_cells J5.out.cur).2 2
    have q3 := (lies_cells J5.out.cur).2 3
    have q4 := (lies_cells J5.out.cur).2 4
    have q5 := (lies_cells J5.out.cur).2 5
    simp only [opC, List.getElem?_toArray, List.getElem?_cons_zero, List.getElem?_cons_succ] at x0 x1 x2 x3 x4 x5
    go_wp2_with fail
    refine (atoi_to (B := B) HVN.out (by omega) _ (HV.out _ (J5.out.nd (z := vd)).below)).mono ?_
    rintro e z6 ⟨ev2, rfl, d2⟩
    have J6 := Lib.hid ((J5.out.nd (z := vd)).after d2)
    clear d2
    clear x0 x1 x2 x3 x4 x5 q0 q1 q2 q3 q4 q5
    have x0 := (lies_cells J6.out.cur).1 0
    have x1 := (lies_cells J6.out.cur).1 1
    have x2 := (lies_cells J6.out.cur).1 2
    have x3 := (lies_cells J6.out.cur).1 3
    have x4 := (lies_cells J6.out.cur).1 4
    have x5 := (lies_cells J6.out.cur).1 5
    have q0 := (lies_cells J6.out.cur).2 0
    have q1 := (lies_cells J6.out.cur).2 1
    have q2 := (lies_cells J6.out.cur).2 2
    have q3 := (lies_cells J6.out.cur).2 3
    have q4 := (lies_cells J6.out.cur).2 4
    have q5 := (lies_cells J6.out.cur).2 5
    simp only [opC, List.getElem?_toArray, List.getElem?_cons_zero, List.getElem?_cons_succ] at x0 x1 x2 x3 x4 x5
    have J7 := Lib.hid (J6.out.nn (z := vn))
    have HC := Lib.hid (show takeO l (candP l) = (if opB ⟨3, sa, sb, (ka : Nat), vd, vn⟩ = true ∧ opT ⟨3, sa, sb, (ka : Nat), vd, vn⟩ = l then (⟨3, sa, sb, (ka : Nat), vd, vn⟩, 0) else (zeroO, 4)) by rw [show candP l = ⟨3, sa, sb, (ka : Nat), vd, vn⟩ from HCA.out]; rfl)
    obtain ⟨dv, hdv⟩ : ∃ d, opB ⟨3, sa, sb, (ka : Nat), vd, vn⟩ = d := ⟨_, rfl⟩
    have HDV := Lib.hid hdv
    clear hdv
    go_wp2_with fail
    refine (valid_to (B := B) (o := ⟨3, sa, sb, (ka : Nat), vd, vn⟩) HDV.out (by show sa.length ≤ _; omega) (by show sb.length ≤ _; omega) _ (HV.out _ J7.out.below) (Nat.le_trans hB J7.out.below.size)).mono ?_
    rintro e y1 ⟨rfl, c1⟩
    clear x0 x1 x2 x3 x4 x5 q0 q1 q2 q3 q4 q5
    have K1 := Lib.hid (J7.out.after c1)
    clear c1
    have x0 := (lies_cells K1.out.cur).1 0
    have x1 := (lies_cells K1.out.cur).1 1
    have x2 := (lies_cells K1.out.cur).1 2
    have x3 := (lies_cells K1.out.cur).1 3
    have x4 := (lies_cells K1.out.cur).1 4
    have x5 := (lies_cells K1.out.cur).1 5
    simp only [opC, List.getElem?_toArray, List.getElem?_cons_zero, List.getElem?_cons_succ] at x0 x1 x2 x3 x4 x5
    have r0 := (lies_cells K1.out.res).1 0
    have r1 := (lies_cells K1.out.res).1 1
    have r2 := (lies_cells K1.out.res).1 2
    have r3 := (lies_cells K1.out.res).1 3
    have r4 := (lies_cells K1.out.res).1 4
    have r5 := (lies_cells K1.out.res).1 5
    have f0 := (lies_cells K1.out.res).2 0
    have f1 := (lies_cells K1.out.res).2 1
    have f2 := (lies_cells K1.out.res).2 2
    have f3 := (lies_cells K1.out.res).2 3
    have f4 := (lies_cells K1.out.res).2 4
    have f5 := (lies_cells K1.out.res).2 5
    simp only [opC, zeroO, List.getElem?_toArray, List.getElem?_cons_zero, List.getElem?_cons_succ] at r0 r1 r2 r3 r4 r5
    have hrb := K1.out.old
    have hrb2 : w.heap.size ≠ bo := by omega
    have hrb3 : bo ≠ w.heap.size := by omega
    cases dv
    · have HZ := Lib.hid (show takeO l (candP l) = (zeroO, 4) by rw [HC.out, HDV.out]; simp)
      have BZ := Lib.hid (fun (v0 v1 v2 v3 v4 v5 : Value) => ((((((K1.out.below.setCell (p := ⟨w.heap.size, 0, none⟩) (Nat.le_refl _) v0).setCell (p := ⟨w.heap.size, 1, none⟩) (Nat.le_refl _) v1).setCell (p := ⟨w.heap.size, 2, none⟩) (Nat.le_refl _) v2).setCell (p := ⟨w.heap.size, 3, none⟩) (Nat.le_refl _) v3).setCell (p := ⟨w.heap.size, 4, none⟩) (Nat.le_refl _) v4).setCell (p := ⟨w.heap.size, 5, none⟩) (Nat.le_refl _) v5))
      go_wp2
      refine bodyPost_ret (v := .tuple #[opV zeroO, .int .i64 4]) (by simp [results, Tryd.results9, go_sem, r0, r1, r2, r3, r4, r5, zeroO]) rfl ?_
      rw [HZ.out]
      exact ⟨rfl, BZ.out _ _ _ _ _ _⟩
    go_wp2_with fail
    refine (print_to (B := B) (o := ⟨3, sa, sb, (ka : Nat), vd, vn⟩) rfl (by show sa.length ≤ _; omega) (by show sb.length ≤ _; omega) y1 (HV.out _ K1.out.below) (Nat.le_trans hB K1.out.below.size)).mono ?_
    obtain ⟨tx, htx⟩ : ∃ t, opT ⟨3, sa, sb, (ka : Nat), vd, vn⟩ = t := ⟨_, rfl⟩
    rw [htx] at HC ⊢
    rintro e y2 ⟨rfl, c2⟩
    have K2 := Lib.hid (K1.out.after c2)
    clear c2 htx x0 x1 x2 x3 x4 x5 r0 r1 r2 r3 r4 r5 f0 f1 f2 f3 f4 f5
    have x0 := (lies_cells K2.out.cur).1 0
    have x1 := (lies_cells K2.out.cur).1 1
    have x2 := (lies_cells K2.out.cur).1 2
    have x3 := (lies_cells K2.out.cur).1 3
    have x4 := (lies_cells K2.out.cur).1 4
    have x5 := (lies_cells K2.out.cur).1 5
    simp only [opC, List.getElem?_toArray, List.getElem?_cons_zero, List.getElem?_cons_succ] at x0 x1 x2 x3 x4 x5
    have r0 := (lies_cells K2.out.res).1 0
    have r1 := (lies_cells K2.out.res).1 1
    have r2 := (lies_cells K2.out.res).1 2
    have r3 := (lies_cells K2.out.res).1 3
    have r4 := (lies_cells K2.out.res).1 4
    have r5 := (lies_cells K2.out.res).1 5
    have f0 := (lies_cells K2.out.res).2 0
    have f1 := (lies_cells K2.out.res).2 1
    have f2 := (lies_cells K2.out.res).2 2
    have f3 := (lies_cells K2.out.res).2 3
    have f4 := (lies_cells K2.out.res).2 4
    have f5 := (lies_cells K2.out.res).2 5
    simp only [opC, zeroO, List.getElem?_toArray, List.getElem?_cons_zero, List.getElem?_cons_succ] at r0 r1 r2 r3 r4 r5
    have BZ := Lib.hid (fun (v0 v1 v2 v3 v4 v5 : Value) => ((((((K2.out.below.setCell (p := ⟨w.heap.size, 0, none⟩) (Nat.le_refl _) v0).setCell (p := ⟨w.heap.size, 1, none⟩) (Nat.le_refl _) v1).setCell (p := ⟨w.heap.size, 2, none⟩) (Nat.le_refl _) v2).setCell (p := ⟨w.heap.size, 3, none⟩) (Nat.le_refl _) v3).setCell (p := ⟨w.heap.size, 4, none⟩) (Nat.le_refl _) v4).setCell (p := ⟨w.heap.size, 5, none⟩) (Nat.le_refl _) v5))
    by_cases ht : tx = l
    rotate_left
    · have ht1 : (tx == l) = false := by simpa using ht
      have HZ := Lib.hid (show takeO l (candP l) = (zeroO, 4) by rw [HC.out]; exact if_neg (fun h => ht h.2))
      clear ht
      go_wp2
      refine bodyPost_ret (v := .tuple #[opV zeroO, .int .i64 4]) (by simp [results, Tryd.results9, go_sem, r0, r1, r2, r3, r4, r5, zeroO]) rfl ?_
      rw [HZ.out]
      exact ⟨rfl, BZ.out _ _ _ _ _ _⟩
    have ht1 : (l == l) = true := by simp
    have HZ := Lib.hid (show takeO l (candP l) = (⟨3, sa, sb, (ka : Nat), vd, vn⟩, 0) by rw [HC.out]; exact if_pos ⟨HDV.out, ht⟩)
    rw [ht]
    clear ht
    go_wp2
    refine bodyPost_ret (v := .tuple #[opV ⟨3, sa, sb, (ka : Nat), vd, vn⟩, .int .i64 0]) (by simp [results, Tryd.results9, go_sem, r0, r1, r2, r3, r4, r5, zeroO]) rfl ?_
    rw [HZ.out]
    exact ⟨rfl, BZ.out _ _ _ _ _ _⟩
  · have HCA := Lib.hid (show candP l = ⟨4, rs, [], 0, 0, 0⟩ by
      unfold candP
      rw [HK.out, HW1.out]
      rfl)
    have J1 := Lib.hid (J0.out.ids (z := rs))
    have x0 := (lies_cells J0.out.cur).1 0
    have x1 := (lies_cells J0.out.cur).1 1
    have x2 := (lies_cells J0.out.cur).1 2
    have x3 := (lies_cells J0.out.cur).1 3
    have x4 := (lies_cells J0.out.cur).1 4
    have x5 := (lies_cells J0.out.cur).1 5
    have q0 := (lies_cells J0.out.cur).2 0
    have q1 := (lies_cells J0.out.cur).2 1
    have q2 := (lies_cells J0.out.cur).2 2
    have q3 := (lies_cells J0.out.cur).2 3
    have q4 := (lies_cells J0.out.cur).2 4
    have q5 := (lies_cells J0.out.cur).2 5
    simp only [opC, List.getElem?_toArray, List.getElem?_cons_zero, List.getElem?_cons_succ] at x0 x1 x2 x3 x4 x5
    have HC := Lib.hid (show takeO l (candP l) = (if opB ⟨4, rs, [], 0, 0, 0⟩ = true ∧ opT ⟨4, rs, [], 0, 0, 0⟩ = l then (⟨4, rs, [], 0, 0, 0⟩, 0) else (zeroO, 4)) by rw [show candP l = ⟨4, rs, [], 0, 0, 0⟩ from HCA.out]; rfl)
    obtain ⟨dv, hdv⟩ : ∃ d, opB ⟨4, rs, [], 0, 0, 0⟩ = d := ⟨_, rfl⟩
    have HDV := Lib.hid hdv
    clear hdv
    go_wp2_with fail
    refine (valid_to (B := B) (o := ⟨4, rs, [], 0, 0, 0⟩) HDV.out (by show rs.length ≤ _; omega) (by show ([] : Str).length ≤ _; simp) _ (HV.out _ J1.out.below) (Nat.le_trans hB J1.out.below.size)).mono ?_
    rintro e y1 ⟨rfl, c1⟩
    clear x0 x1 x2 x3 x4 x5 q0 q1 q2 q3 q4 q5
    have K1 := Lib.hid (J1.out.after c1)
    clear c1
    have x0 := (lies_cells K1.out.cur).1 0
    have x1 := (lies_cells K1.out.cur).1 1
    have x2 := (lies_cells K1.out.cur).1 2
    have x3 := (lies_cells K1.out.cur).1 3
    have x4 := (lies_cells K1.out.cur).1 4
    have x5 := (lies_cells K1.out.cur).1 5
    simp only [opC, List.getElem?_toArray, List.getElem?_cons_zero, List.getElem?_cons_succ] at x0 x1 x2 x3 x4 x5
    have r0 := (lies_cells K1.out.res).1 0
    have r1 := (lies_cells K1.out.res).1 1
    have r2 := (lies_cells K1.out.res).1 2
    have r3 := (lies_cells K1.out.res).1 3
    have r4 := (lies_cells K1.out.res).1 4
    have r5 := (lies_cells K1.out.res).1 5
    have f0 := (lies_cells K1.out.res).2 0
    have f1 := (lies_cells K1.out.res).2 1
    have f2 := (lies_cells K1.out.res).2 2
    have f3 := (lies_cells K1.out.res).2 3
    have f4 := (lies_cells K1.out.res).2 4
    have f5 := (lies_cells K1.out.res).2 5
    simp only [opC, zeroO, List.getElem?_toArray, List.getElem?_cons_zero, List.getElem?_cons_succ] at r0 r1 r2 r3 r4 r5
    have hrb := K1.out.old
    have hrb2 : w.heap.size ≠ bo := by omega
    have hrb3 : bo ≠ w.heap.size := by omega
    cases dv
    · have HZ := Lib.hid (show takeO l (candP l) = (zeroO, 4) by rw [HC.out, HDV.out]; simp)
      have BZ := Lib.hid (fun (v0 v1 v2 v3 v4 v5 : Value) => ((((((K1.out.below.setCell (p := ⟨w.heap.size, 0, none⟩) (Nat.le_refl _) v0).setCell (p := ⟨w.heap.size, 1, none⟩) (Nat.le_refl _) v1).setCell (p := ⟨w.heap.size, 2, none⟩) (Nat.le_refl _) v2).setCell (p := ⟨w.heap.size, 3, none⟩) (Nat.le_refl _) v3).setCell (p := ⟨w.heap.size, 4, none⟩) (Nat.le_refl _) v4).setCell (p := ⟨w.heap.size, 5, none⟩) (Nat.le_refl _) v5))
      go_wp2
      refine bodyPost_ret (v := .tuple #[opV zeroO, .int .i64 4]) (by simp [results, Tryd.results9, go_sem, r0, r1, r2, r3, r4, r5, zeroO]) rfl ?_
      rw [HZ.out]
      exact ⟨rfl, BZ.out _ _ _ _ _ _⟩
    go_wp2_with fail
    refine (print_to (B := B) (o := ⟨4, rs, [], 0, 0, 0⟩) rfl (by show rs.length ≤ _; omega) (by show ([] : Str).length ≤ _; simp) y1 (HV.out _ K1.out.below) (Nat.le_trans hB K1.out.below.size)).mono ?_
    obtain ⟨tx, htx⟩ : ∃ t, opT ⟨4, rs, [], 0, 0, 0⟩ = t := ⟨_, rfl⟩
    rw [htx] at HC ⊢
    rintro e y2 ⟨rfl, c2⟩
    have K2 := Lib.hid (K1.out.after c2)
    clear c2 htx x0 x1 x2 x3 x4 x5 r0 r1 r2 r3 r4 r5 f0 f1 f2 f3 f4 f5
    have x0 := (lies_cells K2.out.cur).1 0
    have x1 := (lies_cells K2.out.cur).1 1
    have x2 := (lies_cells K2.out.cur).1 2
    have x3 := (lies_cells K2.out.cur).1 3
    have x4 := (lies_cells K2.out.cur).1 4
    have x5 := (lies_cells K2.out.cur).1 5
    simp only [opC, List.getElem?_toArray, List.getElem?_cons_zero, List.getElem?_cons_succ] at x0 x1 x2 x3 x4 x5
    have r0 := (lies_cells K2.out.res).1 0
    have r1 := (lies_cells K2.out.res).1 1
    have r2 := (lies_cells K2.out.res).1 2
    have r3 := (lies_cells K2.out.res).1 3
    have r4 := (lies_cells K2.out.res).1 4
    have r5 := (lies_cells K2.out.res).1 5
    have f0 := (lies_cells K2.out.res).2 0
    have f1 := (lies_cells K2.out.res).2 1
    have f2 := (lies_cells K2.out.res).2 2
    have f3 := (lies_cells K2.out.res).2 3
    have f4 := (lies_cells K2.out.res).2 4
    have f5 := (lies_cells K2.out.res).2 5
    simp only [opC, zeroO, List.getElem?_toArray, List.getElem?_cons_zero, List.getElem?_cons_succ] at r0 r1 r2 r3 r4 r5
    have BZ := Lib.hid (fun (v0 v1 v2 v3 v4 v5 : Value) => ((((((K2.out.below.setCell (p := ⟨w.heap.size, 0, none⟩) (Nat.le_refl _) v0).setCell (p := ⟨w.heap.size, 1, none⟩) (Nat.le_refl _) v1).setCell (p := ⟨w.heap.size, 2, none⟩) (Nat.le_refl _) v2).setCell (p := ⟨w.heap.size, 3, none⟩) (Nat.le_refl _) v3).setCell (p := ⟨w.heap.size, 4, none⟩) (Nat.le_refl _) v4).setCell (p := ⟨w.heap.size, 5, none⟩) (Nat.le_refl _) v5))
    by_cases ht : tx = l
    rotate_left
    · have ht1 : (tx == l) = false := by simpa using ht
      have HZ := Lib.hid (show takeO l (candP l) = (zeroO, 4) by rw [HC.out]; exact if_neg (fun h => ht h.2))
      clear ht
      go_wp2
      refine bodyPost_ret (v := .tuple #[opV zeroO, .int .i64 4]) (by simp [results, Tryd.results9, go_sem, r0, r1, r2, r3, r4, r5, zeroO]) rfl ?_
      rw [HZ.out]
      exact ⟨rfl, BZ.out _ _ _ _ _ _⟩
    have ht1 : (l == l) = true := by simp
    have HZ := Lib.hid (show takeO l (candP l) = (⟨4, rs, [], 0, 0, 0⟩, 0) by rw [HC.out]; exact if_pos ⟨HDV.out, ht⟩)
    rw [ht]
    clear ht
    go_wp2
    refine bodyPost_ret (v := .tuple #[opV ⟨4, rs, [], 0, 0, 0⟩, .int .i64 0]) (by simp [results, Tryd.results9, go_sem, r0, r1, r2, r3, r4, r5, zeroO]) rfl ?_
    rw [HZ.out]
    exact ⟨rfl, BZ.out _ _ _ _ _ _⟩
  · obtain ⟨vn, hvn⟩ : ∃ v, atoiVal rs = v := ⟨_, rfl⟩
    have HCA := Lib.hid (show candP l = ⟨5, [], [], 0, 0, vn⟩ by
      unfold candP
      rw [HK.out, HW1.out, ← hvn]
      rfl)
    have HVN := Lib.hid hvn
    clear hvn
    have x0 := (lies_cells J0.out.cur).1 0
    have x1 := (lies_cells J0.out.cur).1 1
    have x2 := (lies_cells J0.out.cur).1 2
    have x3 := (lies_cells J0.out.cur).1 3
    have x4 := (lies_cells J0.out.cur).1 4
    have x5 := (lies_cells J0.out.cur).1 5
    have q0 := (lies_cells J0.out.cur).2 0
    have q1 := (lies_cells J0.out.cur).2 1
    have q2 := (lies_cells J0.out.cur).2 2
    have q3 := (lies_cells J0.out.cur).2 3
    have q4 := (lies_cells J0.out.cur).2 4
    have q5 := (lies_cells J0.out.cur).2 5
    simp only [opC, List.getElem?_toArray, List.getElem?_cons_zero, List.getElem?_cons_succ] at x0 x1 x2 x3 x4 x5
    go_wp2_with fail
    refine (atoi_to (B := B) HVN.out (by omega) V (HV.out _ J0.out.below)).mono ?_
    rintro e z1 ⟨ev, rfl, d1⟩
    have J1 := Lib.hid (J0.out.after d1)
    clear d1
    clear x0 x1 x2 x3 x4 x5 q0 q1 q2 q3 q4 q5
    have x0 := (lies_cells J1.out.cur).1 0
    have x1 := (lies_cells J1.out.cur).1 1
    have x2 := (lies_cells J1.out.cur).1 2
    have x3 := (lies_cells J1.out.cur).1 3
    have x4 := (lies_cells J1.out.cur).1 4
    have x5 := (lies_cells J1.out.cur).1 5
    have q0 := (lies_cells J1.out.cur).2 0
    have q1 := (lies_cells J1.out.cur).2 1
    have q2 := (lies_cells J1.out.cur).2 2
    have q3 := (lies_cells J1.out.cur).2 3
    have q4 := (lies_cells J1.out.cur).2 4
    have q5 := (lies_cells J1.out.cur).2 5
    simp only [opC, List.getElem?_toArray, List.getElem?_cons_zero, List.getElem?_cons_succ] at x0 x1 x2 x3 x4 x5
    have J2 := Lib.hid (J1.out.nn (z := vn))
    have HC := Lib.hid (show takeO l (candP l) = (if opB ⟨5, [], [], 0, 0, vn⟩ = true ∧ opT ⟨5, [], [], 0, 0, vn⟩ = l then (⟨5, [], [], 0, 0, vn⟩, 0) else (zeroO, 4)) by rw [show candP l = ⟨5, [], [], 0, 0, vn⟩ from HCA.out]; rfl)
    obtain ⟨dv, hdv⟩ : ∃ d, opB ⟨5, [], [], 0, 0, vn⟩ = d := ⟨_, rfl⟩
    have HDV := Lib.hid hdv
    clear hdv
    go_wp2_with fail
    refine (valid_to (B := B) (o := ⟨5, [], [], 0, 0, vn⟩) HDV.out (by show ([] : Str).length ≤ _; simp) (by show ([] : Str).length ≤ _; simp) _ (HV.out _ J2.out.below) (Nat.le_trans hB J2.out.below.size)).mono ?_
    rintro e y1 ⟨rfl, c1⟩
    clear x0 x1 x2 x3 x4 x5 q0 q1 q2 q3 q4 q5
    have K1 := Lib.hid (J2.out.after c1)
    clear c1
    have x0 := (lies_cells K1.out.cur).1 0
    have x1 := (lies_cells K1.out.cur).1 1
    have x2 := (lies_cells K1.out.cur).1 2
    have x3 := (lies_cells K1.out.cur).1 3
    have x4 := (lies_cells K1.out.cur).1 4
    have x5 := (lies_cells K1.out.cur).1 5
    simp only [opC, List.getElem?_toArray, List.getElem?_cons_zero, List.getElem?_cons_succ] at x0 x1 x2 x3 x4 x5
    have r0 := (lies_cells K1.out.res).1 0
    have r1 := (lies_cells K1.out.res).1 1
    have r2 := (lies_cells K1.out.res).1 2
    have r3 := (lies_cells K1.out.res).1 3
    have r4 := (lies_cells K1.out.res).1 4
    have r5 := (lies_cells K1.out.res).1 5
    have f0 := (lies_cells K1.out.res).2 0
    have f1 := (lies_cells K1.out.res).2 1
    have f2 := (lies_cells K1.out.res).2 2
    have f3 := (lies_cells K1.out.res).2 3
    have f4 := (lies_cells K1.out.res).2 4
    have f5 := (lies_cells K1.out.res).2 5
    simp only [opC, zeroO, List.getElem?_toArray, List.getElem?_cons_zero, List.getElem?_cons_succ] at r0 r1 r2 r3 r4 r5
    have hrb := K1.out.old
    have hrb2 : w.heap.size ≠ bo := by omega
    have hrb3 : bo ≠ w.heap.size := by omega
    cases dv
    · have HZ := Lib.hid (show takeO l (candP l) = (zeroO, 4) by rw [HC.out, HDV.out]; simp)
      have BZ := Lib.hid (fun (v0 v1 v2 v3 v4 v5 : Value) => ((((((K1.out.below.setCell (p := ⟨w.heap.size, 0, none⟩) (Nat.le_refl _) v0).setCell (p := ⟨w.heap.size, 1, none⟩) (Nat.le_refl _) v1).setCell (p := ⟨w.heap.size, 2, none⟩) (Nat.le_refl _) v2).setCell (p := ⟨w.heap.size, 3, none⟩) (Nat.le_refl _) v3).setCell (p := ⟨w.heap.size, 4, none⟩) (Nat.le_refl _) v4).setCell (p := ⟨w.heap.size, 5, none⟩) (Nat.le_refl _) v5))
      go_wp2
      refine bodyPost_ret (v := .tuple #[opV zeroO, .int .i64 4]) (by simp [results, Tryd.results9, go_sem, r0, r1, r2, r3, r4, r5, zeroO]) rfl ?_
      rw [HZ.out]
      exact ⟨rfl, BZ.out _ _ _ _ _ _⟩
    go_wp2_with fail
    refine (print_to (B := B) (o := ⟨5, [], [], 0, 0, vn⟩) rfl (by show ([] : Str).length ≤ _; simp) (by show ([] : Str).length ≤ _; simp) y1 (HV.out _ K1.out.below) (Nat.le_trans hB K1.out.below.size)).mono ?_
    obtain ⟨tx, htx⟩ : ∃ t, opT ⟨5, [], [], 0, 0, vn⟩ = t := ⟨_, rfl⟩
    rw [htx] at HC ⊢
    rintro e y2 ⟨rfl, c2⟩
    have K2 := Lib.hid (K1.out.after c2)
    clear c2 htx x0 x1 x2 x3 x4 x5 r0 r1 r2 r3 r4 r5 f0 f1 f2 f3 f4 f5
    have x0 := (lies_cells K2.out.cur).1 0
    have x1 := (lies_cells K2.out.cur).1 1
    have x2 := (lies_cells K2.out.cur).1 2
    have x3 := (lies_cells K2.out.cur).1 3
    have x4 := (lies_cells K2.out.cur).1 4
    have x5 := (lies_cells K2.out.cur).1 5
    simp only [opC, List.getElem?_toArray, List.getElem?_cons_zero, List.getElem?_cons_succ] at x0 x1 x2 x3 x4 x5
    have r0 := (lies_cells K2.out.res).1 0
    have r1 := (lies_cells K2.out.res).1 1
    have r2 := (lies_cells K2.out.res).1 2
    have r3 := (lies_cells K2.out.res).1 3
    have r4 := (lies_cells K2.out.res).1 4
    have r5 := (lies_cells K2.out.res).1 5
    have f0 := (lies_cells K2.out.res).2 0
    have f1 := (lies_cells K2.out.res).2 1
    have f2 := (lies_cells K2.out.res).2 2
    have f3 := (lies_cells K2.out.res).2 3
    have f4 := (lies_cells K2.out.res).2 4
    have f5 := (lies_cells K2.out.res).2 5
    simp only [opC, zeroO, List.getElem?_toArray, List.getElem?_cons_zero, List.getElem?_cons_succ] at r0 r1 r2 r3 r4 r5
    have BZ := Lib.hid (fun (v0 v1 v2 v3 v4 v5 : Value) => ((((((K2.out.below.setCell (p := ⟨w.heap.size, 0, none⟩) (Nat.le_refl _) v0).setCell (p := ⟨w.heap.size, 1, none⟩) (Nat.le_refl _) v1).setCell (p := ⟨w.heap.size, 2, none⟩) (Nat.le_refl _) v2).setCell (p := ⟨w.heap.size, 3, none⟩) (Nat.le_refl _) v3).setCell (p := ⟨w.heap.size, 4, none⟩) (Nat.le_refl _) v4).setCell (p := ⟨w.heap.size, 5, none⟩) (Nat.le_refl _) v5))
    by_cases ht : tx = l
    rotate_left
    · have ht1 : (tx == l) = false := by simpa using ht
      have HZ := Lib.hid (show takeO l (candP l) = (zeroO, 4) by rw [HC.out]; exact if_neg (fun h => ht h.2))
      clear ht
      go_wp2
      refine bodyPost_ret (v := .tuple #[opV zeroO, .int .i64 4]) (by simp [results, Tryd.results9, go_sem, r0, r1, r2, r3, r4, r5, zeroO]) rfl ?_
      rw [HZ.out]
      exact ⟨rfl, BZ.out _ _ _ _ _ _⟩
    have ht1 : (l == l) = true := by simp
    have HZ := Lib.hid (show takeO l (candP l) = (⟨5, [], [], 0, 0, vn⟩, 0) by rw [HC.out]; exact if_pos ⟨HDV.out, ht⟩)
    rw [ht]
    clear ht
    go_wp2
    refine bodyPost_ret (v := .tuple #[opV ⟨5, [], [], 0, 0, vn⟩, .int .i64 0]) (by simp [results, Tryd.results9, go_sem, r0, r1, r2, r3, r4, r5, zeroO]) rfl ?_
    rw [HZ.out]
    exact ⟨rfl, BZ.out _ _ _ _ _ _⟩
  · have HCA := Lib.hid (show candP l = ⟨6, rs, [], 0, 0, 0⟩ by
      unfold candP
      rw [HK.out, HW1.out]
      rfl)
    have J1 := Lib.hid (J0.out.ids (z := rs))
    have x0 := (lies_cells J0.out.cur).1 0
    have x1 := (lies_cells J0.out.cur).1 1
    have x2 := (lies_cells J0.out.cur).1 2
    have x3 := (lies_cells J0.out.cur).1 3
    have x4 := (lies_cells J0.out.cur).1 4
    have x5 := (lies_cells J0.out.cur).1 5
    have q0 := (lies_cells J0.out.cur).2 0
    have q1 := (lies_cells J0.out.cur).2 1
    have q2 := (lies_cells J0.out.cur).2 2
    have q3 := (lies_cells J0.out.cur).2 3
    have q4 := (lies_cells J0.out.cur).2 4
    have q5 := (lies_cells J0.out.cur).2 5
    simp only [opC, List.getElem?_toArray, List.getElem?_cons_zero, List.getElem?_cons_succ] at x0 x1 x2 x3 x4 x5
    have HC := Lib.hid (show takeO l (candP l) = (if opB ⟨6, rs, [], 0, 0, 0⟩ = true ∧ opT ⟨6, rs, [], 0, 0, 0⟩ = l then (⟨6, rs, [], 0, 0, 0⟩, 0) else (zeroO, 4)) by rw [show candP l = ⟨6, rs, [], 0, 0, 0⟩ from HCA.out]; rfl)
    obtain ⟨dv, hdv⟩ : ∃ d, opB ⟨6, rs, [], 0, 0, 0⟩ = d := ⟨_, rfl⟩
    have HDV := Lib.hid hdv
    clear hdv
    go_wp2_with fail
    refine (valid_to (B := B) (o := ⟨6, rs, [], 0, 0, 0⟩) HDV.out (by show rs.length ≤ _; omega) (by show ([] : Str).length ≤ _; simp) _ (HV.out _ J1.out.below) (Nat.le_trans hB J1.out.below.size)).mono ?_
    rintro e y1 ⟨rfl, c1⟩
    clear x0 x1 x2 x3 x4 x5 q0 q1 q2 q3 q4 q5
    have K1 := Lib.hid (J1.out.after c1)
    clear c1
    have x0 := (lies_cells K1.out.cur).1 0
    have x1 := (lies_cells K1.out.cur).1 1
    have x2 := (lies_cells K1.out.cur).1 2
    have x3 := (lies_cells K1.out.cur).1 3
    have x4 := (lies_cells K1.out.cur).1 4
    have x5 := (lies_cells K1.out.cur).1 5
    simp only [opC, List.getElem?_toArray, List.getElem?_cons_zero, List.getElem?_cons_succ] at x0 x1 x2 x3 x4 x5
    have r0 := (lies_cells K1.out.res).1 0
    have r1 := (lies_cells K1.out.res).1 1
    have r2 := (lies_cells K1.out.res).1 2
    have r3 := (lies_cells K1.out.res).1 3
    have r4 := (lies_cells K1.out.res).1 4
    have r5 := (lies_cells K1.out.res).1 5
    have f0 := (lies_cells K1.out.res).2 0
    have f1 := (lies_cells K1.out.res).2 1
    have f2 := (lies_cells K1.out.res).2 2
    have f3 := (lies_cells K1.out.res).2 3
    have f4 := (lies_cells K1.out.res).2 4
    have f5 := (lies_cells K1.out.res).2 5
    simp only [opC, zeroO, List.getElem?_toArray, List.getElem?_cons_zero, List.getElem?_cons_succ] at r0 r1 r2 r3 r4 r5
    have hrb := K1.out.old
    have hrb2 : w.heap.size ≠ bo := by omega
    have hrb3 : bo ≠ w.heap.size := by omega
    cases dv
    · have HZ := Lib.hid (show takeO l (candP l) = (zeroO, 4) by rw [HC.out, HDV.out]; simp)
      have BZ := Lib.hid (fun (v0 v1 v2 v3 v4 v5 : Value) => ((((((K1.out.below.setCell (p := ⟨w.heap.size, 0, none⟩) (Nat.le_refl _) v0).setCell (p := ⟨w.heap.size, 1, none⟩) (Nat.le_refl _) v1).setCell (p := ⟨w.heap.size, 2, none⟩) (Nat.le_refl _) v2).setCell (p := ⟨w.heap.size, 3, none⟩) (Nat.le_refl _) v3).setCell (p := ⟨w.heap.size, 4, none⟩) (Nat.le_refl _) v4).setCell (p := ⟨w.heap.size, 5, none⟩) (Nat.le_refl _) v5))
      go_wp2
      refine bodyPost_ret (v := .tuple #[opV zeroO, .int .i64 4]) (by simp [results, Tryd.results9, go_sem, r0, r1, r2, r3, r4, r5, zeroO]) rfl ?_
      rw [HZ.out]
      exact ⟨rfl, BZ.out _ _ _ _ _ _⟩
    go_wp2_with fail
    refine (print_to (B := B) (o := ⟨6, rs, [], 0, 0, 0⟩) rfl (by show rs.length ≤ _; omega) (by show ([] : Str).length ≤ _; simp) y1 (HV.out _ K1.out.below) (Nat.le_trans hB K1.out.below.size)).mono ?_
    obtain ⟨tx, htx⟩ : ∃ t, opT ⟨6, rs, [], 0, 0, 0⟩ = t := ⟨_, rfl⟩
    rw [htx] at HC ⊢
    rintro e y2 ⟨rfl, c2⟩
    have K2 := Lib.hid (K1.out.after c2)
    clear c2 htx x0 x1 x2 x3 x4 x5 r0 r1 r2 r3 r4 r5 f0 f1 f2 f3 f4 f5
    have x0 := (lies_cells K2.out.cur).1 0
    have x1 := (lies_cells K2.out.cur).1 1
    have x2 := (lies_cells K2.out.cur).1 2
    have x3 := (lies_cells K2.out.cur).1 3
    have x4 := (lies_cells K2.out.cur).1 4
    have x5 := (lies_cells K2.out.cur).1 5
    simp only [opC, List.getElem?_toArray, List.getElem?_cons_zero, List.getElem?_cons_succ] at x0 x1 x2 x3 x4 x5
    have r0 := (lies_cells K2.out.res).1 0
    have r1 := (lies_cells K2.out.res).1 1
    have r2 := (lies_cells K2.out.res).1 2
    have r3 := (lies_cells K2.out.res).1 3
    have r4 := (lies_cells K2.out.res).1 4
    have r5 := (lies_cells K2.out.res).1 5
    have f0 := (lies_cells K2.out.res).2 0
    have f1 := (lies_cells K2.out.res).2 1
    have f2 := (lies_cells K2.out.res).2 2
    have f3 := (lies_cells K2.out.res).2 3
    have f4 := (lies_cells K2.out.res).2 4
    have f5 := (lies_cells K2.out.res).2 5
    simp only [opC, zeroO, List.getElem?_toArray, List.getElem?_cons_zero, List.getElem?_cons_succ] at r0 r1 r2 r3 r4 r5
    have BZ := Lib.hid (fun (v0 v1 v2 v3 v4 v5 : Value) => ((((((K2.out.below.setCell (p := ⟨w.heap.size, 0, none⟩) (Nat.le_refl _) v0).setCell (p := ⟨w.heap.size, 1, none⟩) (Nat.le_refl _) v1).setCell (p := ⟨w.heap.size, 2, none⟩) (Nat.le_refl _) v2).setCell (p := ⟨w.heap.size, 3, none⟩) (Nat.le_refl _) v3).setCell (p := ⟨w.heap.size, 4, none⟩) (Nat.le_refl _) v4).setCell (p := ⟨w.heap.size, 5, none⟩) (Nat.le_refl _) v5))
    by_cases ht : tx = l
    rotate_left
    · have ht1 : (tx == l) = false := by simpa using ht
      have HZ := Lib.hid (show takeO l (candP l) = (zeroO, 4) by rw [HC.out]; exact if_neg (fun h => ht h.2))
      clear ht
      go_wp2
      refine bodyPost_ret (v := .tuple #[opV zeroO, .int .i64 4]) (by simp [results, Tryd.results9, go_sem, r0, r1, r2, r3, r4, r5, zeroO]) rfl ?_
      rw [HZ.out]
      exact ⟨rfl, BZ.out _ _ _ _ _ _⟩
    have ht1 : (l == l) = true := by simp
    have HZ := Lib.hid (show takeO l (candP l) = (⟨6, rs, [], 0, 0, 0⟩, 0) by rw [HC.out]; exact if_pos ⟨HDV.out, ht⟩)
    rw [ht]
    clear ht
    go_wp2
    refine bodyPost_ret (v := .tuple #[opV ⟨6, rs, [], 0, 0, 0⟩, .int .i64 0]) (by simp [results, Tryd.results9, go_sem, r0, r1, r2, r3, r4, r5, zeroO]) rfl ?_
    rw [HZ.out]
    exact ⟨rfl, BZ.out _ _ _ _ _ _⟩
  · have HCA := Lib.hid (show candP l = ⟨7, rs, [], 0, 0, 0⟩ by
      unfold candP
      rw [HK.out, HW1.out]
      rfl)
    have J1 := Lib.hid (J0.out.ids (z := rs))
    have x0 := (lies_cells J0.out.cur).1 0
    have x1 := (lies_cells J0.out.cur).1 1
    have x2 := (lies_cells J0.out.cur).1 2
    have x3 := (lies_cells J0.out.cur).1 3
    have x4 := (lies_cells J0.out.cur).1 4
    have x5 := (lies_cells J0.out.cur).1 5
    have q0 := (lies_cells J0.out.cur).2 0
    have q1 := (lies_cells J0.out.cur).2 1
    have q2 := (lies_cells J0.out.cur).2 2
    have q3 := (lies_cells J0.out.cur).2 3
    have q4 := (lies_cells J0.out.cur).2 4
    have q5 := (lies_cells J0.out.cur).2 5
    simp only [opC, List.getElem?_toArray, List.getElem?_cons_zero, List.getElem?_cons_succ] at x0 x1 x2 x3 x4 x5
    have HC := Lib.hid (show takeO l (candP l) = (if opB ⟨7, rs, [], 0, 0, 0⟩ = true ∧ opT ⟨7, rs, [], 0, 0, 0⟩ = l then (⟨7, rs, [], 0, 0, 0⟩, 0) else (zeroO, 4)) by rw [show candP l = ⟨7, rs, [], 0, 0, 0⟩ from HCA.out]; rfl)
    obtain ⟨dv, hdv⟩ : ∃ d, opB ⟨7, rs, [], 0, 0, 0⟩ = d := ⟨_, rfl⟩
    have HDV := Lib.hid hdv
    clear hdv
    go_wp2_with fail
    refine (valid_to (B := B) (o := ⟨7, rs, [], 0, 0, 0⟩) HDV.out (by show rs.length ≤ _; omega) (by show ([] : Str).length ≤ _; simp) _ (HV.out _ J1.out.below) (Nat.le_trans hB J1.out.below.size)).mono ?_
    rintro e y1 ⟨rfl, c1⟩
    clear x0 x1 x2 x3 x4 x5 q0 q1 q2 q3 q4 q5
    have K1 := Lib.hid (J1.out.after c1)
    clear c1
    have x0 := (lies_cells K1.out.cur).1 0
    have x1 := (lies_cells K1.out.cur).1 1
    have x2 := (lies_cells K1.out.cur).1 2
    have x3 := (lies_cells K1.out.cur).1 3
    have x4 := (lies_cells K1.out.cur).1 4
    have x5 := (lies_cells K1.out.cur).1 5
    simp only [opC, List.getElem?_toArray, List.getElem?_cons_zero, List.getElem?_cons_succ] at x0 x1 x2 x3 x4 x5
    have r0 := (lies_cells K1.out.res).1 0
    have r1 := (lies_cells K1.out.res).1 1
    have r2 := (lies_cells K1.out.res).1 2
    have r3 := (lies_cells K1.out.res).1 3
    have r4 := (lies_cells K1.out.res).1 4
    have r5 := (lies_cells K1.out.res).1 5
    have f0 := (lies_cells K1.out.res).2 0
    have f1 := (lies_cells K1.out.res).2 1
    have f2 := (lies_cells K1.out.res).2 2
    have f3 := (lies_cells K1.out.res).2 3
    have f4 := (lies_cells K1.out.res).2 4
    have f5 := (lies_cells K1.out.res).2 5
    simp only [opC, zeroO, List.getElem?_toArray, List.getElem?_cons_zero, List.getElem?_cons_succ] at r0 r1 r2 r3 r4 r5
    have hrb := K1.out.old
    have hrb2 : w.heap.size ≠ bo := by omega
    have hrb3 : bo ≠ w.heap.size := by omega
    cases dv
    · have HZ := Lib.hid (show takeO l (candP l) = (zeroO, 4) by rw [HC.out, HDV.out]; simp)
      have BZ := Lib.hid (fun (v0 v1 v2 v3 v4 v5 : Value) => ((((((K1.out.below.setCell (p := ⟨w.heap.size, 0, none⟩) (Nat.le_refl _) v0).setCell (p := ⟨w.heap.size, 1, none⟩) (Nat.le_refl _) v1).setCell (p := ⟨w.heap.size, 2, none⟩) (Nat.le_refl _) v2).setCell (p := ⟨w.heap.size, 3, none⟩) (Nat.le_refl _) v3).setCell (p := ⟨w.heap.size, 4, none⟩) (Nat.le_refl _) v4).setCell (p := ⟨w.heap.size, 5, none⟩) (Nat.le_refl _) v5))
      go_wp2
      refine bodyPost_ret (v := .tuple #[opV zeroO, .int .i64 4]) (by simp [results, Tryd.results9, go_sem, r0, r1, r2, r3, r4, r5, zeroO]) rfl ?_
      rw [HZ.out]
      exact ⟨rfl, BZ.out _ _ _ _ _ _⟩
    go_wp2_with fail
    refine (print_to (B := B) (o := ⟨7, rs, [], 0, 0, 0⟩) rfl (by show rs.length ≤ _; omega) (by show ([] : Str).length ≤ _; simp) y1 (HV.out _ K1.out.below) (Nat.le_trans hB K1.out.below.size)).mono ?_
    obtain ⟨tx, htx⟩ : ∃ t, opT ⟨7, rs, [], 0, 0, 0⟩ = t := ⟨_, rfl⟩
    rw [htx] at HC ⊢
    rintro e y2 ⟨rfl, c2⟩
    have K2 := Lib.hid (K1.out.after c2)
    clear c2 htx x0 x1 x2 x3 x4 x5 r0 r1 r2 r3 r4 r5 f0 f1 f2 f3 f4 f5
    have x0 := (lies_cells K2.out.cur).1 0
    have x1 := (lies_cells K2.out.cur).1 1
    have x2 := (lies_cells K2.out.cur).1 2
    have x3 := (lies_cells K2.out.cur).1 3
    have x4 := (lies_cells K2.out.cur).1 4
    have x5 := (lies_cells K2.out.cur).1 5
    simp only [opC, List.getElem?_toArray, List.getElem?_cons_zero, List.getElem?_cons_succ] at x0 x1 x2 x3 x4 x5
    have r0 := (lies_cells K2.out.res).1 0
    have r1 := (lies_cells K2.out.res).1 1
    have r2 := (lies_cells K2.out.res).1 2
    have r3 := (lies_cells K2.out.res).1 3
    have r4 := (lies_cells K2.out.res).1 4
    have r5 := (lies_cells K2.out.res).1 5
    have f0 := (lies_cells K2.out.res).2 0
    have f1 := (lies_cells K2.out.res).2 1
    have f2 := (lies_cells K2.out.res).2 2
    have f3 := (lies_cells K2.out.res).2 3
    have f4 := (lies_cells K2.out.res).2 4
    have f5 := (lies_cells K2.out.res).2 5
    simp only [opC, zeroO, List.getElem?_toArray, List.getElem?_cons_zero, List.getElem?_cons_succ] at r0 r1 r2 r3 r4 r5
    have BZ := Lib.hid (fun (v0 v1 v2 v3 v4 v5 : Value) => ((((((K2.out.below.setCell (p := ⟨w.heap.size, 0, none⟩) (Nat.le_refl _) v0).setCell (p := ⟨w.heap.size, 1, none⟩) (Nat.le_refl _) v1).setCell (p := ⟨w.heap.size, 2, none⟩) (Nat.le_refl _) v2).setCell (p := ⟨w.heap.size, 3, none⟩) (Nat.le_refl _) v3).setCell (p := ⟨w.heap.size, 4, none⟩) (Nat.le_refl _) v4).setCell (p := ⟨w.heap.size, 5, none⟩) (Nat.le_refl _) v5))
    by_cases ht : tx = l
    rotate_left
    · have ht1 : (tx == l) = false := by simpa using ht
      have HZ := Lib.hid (show takeO l (candP l) = (zeroO, 4) by rw [HC.out]; exact if_neg (fun h => ht h.2))
      clear ht
      go_wp2
      refine bodyPost_ret (v := .tuple #[opV zeroO, .int .i64 4]) (by simp [results, Tryd.results9, go_sem, r0, r1, r2, r3, r4, r5, zeroO]) rfl ?_
      rw [HZ.out]
      exact ⟨rfl, BZ.out _ _ _ _ _ _⟩
    have ht1 : (l == l) = true := by simp
    have HZ := Lib.hid (show takeO l (candP l) = (⟨7, rs, [], 0, 0, 0⟩, 0) by rw [HC.out]; exact if_pos ⟨HDV.out, ht⟩)
    rw [ht]
    clear ht
    go_wp2
    refine bodyPost_ret (v := .tuple #[opV ⟨7, rs, [], 0, 0, 0⟩, .int .i64 0]) (by simp [results, Tryd.results9, go_sem, r0, r1, r2, r3, r4, r5, zeroO]) rfl ?_
    rw [HZ.out]
    exact ⟨rfl, BZ.out _ _ _ _ _ _⟩
  · obtain ⟨vn, hvn⟩ : ∃ v, atoiVal rs = v := ⟨_, rfl⟩
    have HCA := Lib.hid (show candP l = ⟨8, [], [], 0, 0, vn⟩ by
      unfold candP
      rw [HK.out, HW1.out, ← hvn]
      rfl)
    have HVN := Lib.hid hvn
    clear hvn
    have x0 := (lies_cells J0.out.cur).1 0
    have x1 := (lies_cells J0.out.cur).1 1
    have x2 := (lies_cells J0.out.cur).1 2
    have x3 := (lies_cells J0.out.cur).1 3
    have x4 := (lies_cells J0.out.cur).1 4
    have x5 := (lies_cells J0.out.cur).1 5
    have q0 := (lies_cells J0.out.cur).2 0
    have q1 := (lies_cells J0.out.cur).2 1
    have q2 := (lies_cells J0.out.cur).2 2
    have q3 := (lies_cells J0.out.cur).2 3
    have q4 := (lies_cells J0.out.cur).2 4
    have q5 := (lies_cells J0.out.cur).2 5
    simp only [opC, List.getElem?_toArray, List.getElem?_cons_zero, List.getElem?_cons_succ] at x0 x1 x2 x3 x4 x5
    go_wp2_with fail
    refine (atoi_to (B := B) HVN.out (by omega) V (HV.out _ J0.out.below)).mono ?_
    rintro e z1 ⟨ev, rfl, d1⟩
    have J1 := Lib.hid (J0.out.after d1)
    clear d1
    clear x0 x1 x2 x3 x4 x5 q0 q1 q2 q3 q4 q5
    have x0 := (lies_cells J1.out.cur).1 0
    have x1 := (lies_cells J1.out.cur).1 1
    have x2 := (lies_cells J1.out.cur).1 2
    have x3 := (lies_cells J1.out.cur).1 3
    have x4 := (lies_cells J1.out.cur).1 4
    have x5 := (lies_cells J1.out.cur).1 5
    have q0 := (lies_cells J1.out.cur).2 0
    have q1 := (lies_cells J1.out.cur).2 1
    have q2 := (lies_cells J1.out.cur).2 2
    have q3 := (lies_cells J1.out.cur).2 3
    have q4 := (lies_cells J1.out.cur).2 4
    have q5 := (lies_cells J1.out.cur).2 5
    simp only [opC, List.getElem?_toArray, List.getElem?_cons_zero, List.getElem?_cons_succ] at x0 x1 x2 x3 x4 x5
    have J2 := Lib.hid (J1.out.nn (z := vn))
    have HC := Lib.hid (show takeO l (candP l) = (if opB ⟨8, [], [], 0, 0, vn⟩ = true ∧ opT ⟨8, [], [], 0, 0, vn⟩ = l then (⟨8, [], [], 0, 0, vn⟩, 0) else (zeroO, 4)) by rw [show candP l = ⟨8, [], [], 0, 0, vn⟩ from HCA.out]; rfl)
    obtain ⟨dv, hdv⟩ : ∃ d, opB ⟨8, [], [], 0, 0, vn⟩ = d := ⟨_, rfl⟩
    have HDV := Lib.hid hdv
    clear hdv
    go_wp2_with fail
    refine (valid_to (B := B) (o := ⟨8, [], [], 0, 0, vn⟩) HDV.out (by show ([] : Str).length ≤ _; simp) (by show ([] : Str).length ≤ _; simp) _ (HV.out _ J2.out.below) (Nat.le_trans hB J2.out.below.size)).mono ?_
    rintro e y1 ⟨rfl, c1⟩
    clear x0 x1 x2 x3 x4 x5 q0 q1 q2 q3 q4 q5
    have K1 := Lib.hid (J2.out.after c1)
    clear c1
    have x0 := (lies_cells K1.out.cur).1 0
    have x1 := (lies_cells K1.out.cur).1 1
    have x2 := (lies_cells K1.out.cur).1 2
    have x3 := (lies_cells K1.out.cur).1 3
    have x4 := (lies_cells K1.out.cur).1 4
    have x5 := (lies_cells K1.out.cur).1 5
    simp only [opC, List.getElem?_toArray, List.getElem?_cons_zero, List.getElem?_cons_succ] at x0 x1 x2 x3 x4 x5
    have r0 := (lies_cells K1.out.res).1 0
    have r1 := (lies_cells K1.out.res).1 1
    have r2 := (lies_cells K1.out.res).1 2
    have r3 := (lies_cells K1.out.res).1 3
    have r4 := (lies_cells K1.out.res).1 4
    have r5 := (lies_cells K1.out.res).1 5
    have f0 := (lies_cells K1.out.res).2 0
    have f1 := (lies_cells K1.out.res).2 1
    have f2 := (lies_cells K1.out.res).2 2
    have f3 := (lies_cells K1.out.res).2 3
    have f4 := (lies_cells K1.out.res).2 4
    have f5 := (lies_cells K1.out.res).2 5
    simp only [opC, zeroO, List.getElem?_toArray, List.getElem?_cons_zero, List.getElem?_cons_succ] at r0 r1 r2 r3 r4 r5
    have hrb := K1.out.old
    have hrb2 : w.heap.size ≠ bo := by omega
    have hrb3 : bo ≠ w.heap.size := by omega
    cases dv
    · have HZ := Lib.hid (show takeO l (candP l) = (zeroO, 4) by rw [HC.out, HDV.out]; simp)
      have BZ := Lib.hid (fun (v0 v1 v2 v3 v4 v5 : Value) => ((((((K1.out.below.setCell (p := ⟨w.heap.size, 0, none⟩) (Nat.le_refl _) v0).setCell (p := ⟨w.heap.size, 1, none⟩) (Nat.le_refl _) v1).setCell (p := ⟨w.heap.size, 2, none⟩) (Nat.le_refl _) v2).setCell (p := ⟨w.heap.size, 3, none⟩) (Nat.le_refl _) v3).setCell (p := ⟨w.heap.size, 4, none⟩) (Nat.le_refl _) v4).setCell (p := ⟨w.heap.size, 5, none⟩) (Nat.le_refl _) v5))
      go_wp2
      refine bodyPost_ret (v := .tuple #[opV zeroO, .int .i64 4]) (by simp [results, Tryd.results9, go_sem, r0, r1, r2, r3, r4, r5, zeroO]) rfl ?_
      rw [HZ.out]
      exact ⟨rfl, BZ.out _ _ _ _ _ _⟩
    go_wp2_with fail
    refine (print_to (B := B) (o := ⟨8, [], [], 0, 0, vn⟩) rfl (by show ([] : Str).length ≤ _; simp) (by show ([] : Str).length ≤ _; simp) y1 (HV.out _ K1.out.below) (Nat.le_trans hB K1.out.below.size)).mono ?_
    obtain ⟨tx, htx⟩ : ∃ t, opT ⟨8, [], [], 0, 0, vn⟩ = t := ⟨_, rfl⟩
    rw [htx] at HC ⊢
    rintro e y2 ⟨rfl, c2⟩
    have K2 := Lib.hid (K1.out.after c2)
    clear c2 htx x0 x1 x2 x3 x4 x5 r0 r1 r2 r3 r4 r5 f0 f1 f2 f3 f4 f5
    have x0 := (lies_cells K2.out.cur).1 0
    have x1 := (lies_cells K2.out.cur).1 1
    have x2 := (lies_cells K2.out.cur).1 2
    have x3 := (lies_cells K2.out.cur).1 3
    have x4 := (lies_cells K2.out.cur).1 4
    have x5 := (lies_cells K2.out.cur).1 5
    simp only [opC, List.getElem?_toArray, List.getElem?_cons_zero, List.getElem?_cons_succ] at x0 x1 x2 x3 x4 x5
    have r0 := (lies_cells K2.out.res).1 0
    have r1 := (lies_cells K2.out.res).1 1
    have r2 := (lies_cells K2.out.res).1 2
    have r3 := (lies_cells K2.out.res).1 3
    have r4 := (lies_cells K2.out.res).1 4
    have r5 := (lies_cells K2.out.res).1 5
    have f0 := (lies_cells K2.out.res).2 0
    have f1 := (lies_cells K2.out.res).2 1
    have f2 := (lies_cells K2.out.res).2 2
    have f3 := (lies_cells K2.out.res).2 3
    have f4 := (lies_cells K2.out.res).2 4
    have f5 := (lies_cells K2.out.res).2 5
    simp only [opC, zeroO, List.getElem?_toArray, List.getElem?_cons_zero, List.getElem?_cons_succ] at r0 r1 r2 r3 r4 r5
    have BZ := Lib.hid (fun (v0 v1 v2 v3 v4 v5 : Value) => ((((((K2.out.below.setCell (p := ⟨w.heap.size, 0, none⟩) (Nat.le_refl _) v0).setCell (p := ⟨w.heap.size, 1, none⟩) (Nat.le_refl _) v1).setCell (p := ⟨w.heap.size, 2, none⟩) (Nat.le_refl _) v2).setCell (p := ⟨w.heap.size, 3, none⟩) (Nat.le_refl _) v3).setCell (p := ⟨w.heap.size, 4, none⟩) (Nat.le_refl _) v4).setCell (p := ⟨w.heap.size, 5, none⟩) (Nat.le_refl _) v5))
    by_cases ht : tx = l
    rotate_left
    · have ht1 : (tx == l) = false := by simpa using ht
      have HZ := Lib.hid (show takeO l (candP l) = (zeroO, 4) by rw [HC.out]; exact if_neg (fun h => ht h.2))
      clear ht
      go_wp2
      refine bodyPost_ret (v := .tuple #[opV zeroO, .int .i64 4]) (by simp [results, Tryd.results9, go_sem, r0, r1, r2, r3, r4, r5, zeroO]) rfl ?_
      rw [HZ.out]
      exact ⟨rfl, BZ.out _ _ _ _ _ _⟩
    have ht1 : (l == l) = true := by simp
    have HZ := Lib.hid (show takeO l (candP l) = (⟨8, [], [], 0, 0, vn⟩, 0) by rw [HC.out]; exact if_pos ⟨HDV.out, ht⟩)
    rw [ht]
    clear ht
    go_wp2
    refine bodyPost_ret (v := .tuple #[opV ⟨8, [], [], 0, 0, vn⟩, .int .i64 0]) (by simp [results, Tryd.results9, go_sem, r0, r1, r2, r3, r4, r5, zeroO]) rfl ?_
    rw [HZ.out]
    exact ⟨rfl, BZ.out _ _ _ _ _ _⟩
  · have HCA := Lib.hid (show candP l = ⟨9, [], [], 0, 0, 0⟩ by
      unfold candP
      rw [HK.out, HW1.out]
      rfl)
    have x0 := (lies_cells J0.out.cur).1 0
    have x1 := (lies_cells J0.out.cur).1 1
    have x2 := (lies_cells J0.out.cur).1 2
    have x3 := (lies_cells J0.out.cur).1 3
    have x4 := (lies_cells J0.out.cur).1 4
    have x5 := (lies_cells J0.out.cur).1 5
    have q0 := (lies_cells J0.out.cur).2 0
    have q1 := (lies_cells J0.out.cur).2 1
    have q2 := (lies_cells J0.out.cur).2 2
    have q3 := (lies_cells J0.out.cur).2 3
    have q4 := (lies_cells J0.out.cur).2 4
    have q5 := (lies_cells J0.out.cur).2 5
    simp only [opC, List.getElem?_toArray, List.getElem?_cons_zero, List.getElem?_cons_succ] at x0 x1 x2 x3 x4 x5
    have HC := Lib.hid (show takeO l (candP l) = (if opB ⟨9, [], [], 0, 0, 0⟩ = true ∧ opT ⟨9, [], [], 0, 0, 0⟩ = l then (⟨9, [], [], 0, 0, 0⟩, 0) else (zeroO, 4)) by rw [show candP l = ⟨9, [], [], 0, 0, 0⟩ from HCA.out]; rfl)
    obtain ⟨dv, hdv⟩ : ∃ d, opB ⟨9, [], [], 0, 0, 0⟩ = d := ⟨_, rfl⟩
    have HDV := Lib.hid hdv
    clear hdv
    go_wp2_with fail
    refine (valid_to (B := B) (o := ⟨9, [], [], 0, 0, 0⟩) HDV.out (by show ([] : Str).length ≤ _; simp) (by show ([] : Str).length ≤ _; simp) _ (HV.out _ J0.out.below) (Nat.le_trans hB J0.out.below.size)).mono ?_
    rintro e y1 ⟨rfl, c1⟩
    clear x0 x1 x2 x3 x4 x5 q0 q1 q2 q3 q4 q5
    have K1 := Lib.hid (J0.out.after c1)
    clear c1
    have x0 := (lies_cells K1.out.cur).1 0
    have x1 := (lies_cells K1.out.cur).1 1
    have x2 := (lies_cells K1.out.cur).1 2
    have x3 := (lies_cells K1.out.cur).1 3
    have x4 := (lies_cells K1.out.cur).1 4
    have x5 := (lies_cells K1.out.cur).1 5
    simp only [opC, List.getElem?_toArray, List.getElem?_cons_zero, List.getElem?_cons_succ] at x0 x1 x2 x3 x4 x5
    have r0 := (lies_cells K1.out.res).1 0
    have r1 := (lies_cells K1.out.res).1 1
    have r2 := (lies_cells K1.out.res).1 2
    have r3 := (lies_cells K1.out.res).1 3
    have r4 := (lies_cells K1.out.res).1 4
    have r5 := (lies_cells K1.out.res).1 5
    have f0 := (lies_cells K1.out.res).2 0
    have f1 := (lies_cells K1.out.res).2 1
    have f2 := (lies_cells K1.out.res).2 2
    have f3 := (lies_cells K1.out.res).2 3
    have f4 := (lies_cells K1.out.res).2 4
    have f5 := (lies_cells K1.out.res).2 5
    simp only [opC, zeroO, List.getElem?_toArray, List.getElem?_cons_zero, List.getElem?_cons_succ] at r0 r1 r2 r3 r4 r5
    have hrb := K1.out.old
    have hrb2 : w.heap.size ≠ bo := by omega
    have hrb3 : bo ≠ w.heap.size := by omega
    cases dv
    · have HZ := Lib.hid (show takeO l (candP l) = (zeroO, 4) by rw [HC.out, HDV.out]; simp)
      have BZ := Lib.hid (fun (v0 v1 v2 v3 v4 v5 : Value) => ((((((K1.out.below.setCell (p := ⟨w.heap.size, 0, none⟩) (Nat.le_refl _) v0).setCell (p := ⟨w.heap.size, 1, none⟩) (Nat.le_refl _) v1).setCell (p := ⟨w.heap.size, 2, none⟩) (Nat.le_refl _) v2).setCell (p := ⟨w.heap.size, 3, none⟩) (Nat.le_refl _) v3).setCell (p := ⟨w.heap.size, 4, none⟩) (Nat.le_refl _) v4).setCell (p := ⟨w.heap.size, 5, none⟩) (Nat.le_refl _) v5))
      go_wp2
      refine bodyPost_ret (v := .tuple #[opV zeroO, .int .i64 4]) (by simp [results, Tryd.results9, go_sem, r0, r1, r2, r3, r4, r5, zeroO]) rfl ?_
      rw [HZ.out]
      exact ⟨rfl, BZ.out _ _ _ _ _ _⟩
    go_wp2_with fail
    refine (print_to (B := B) (o := ⟨9, [], [], 0, 0, 0⟩) rfl (by show ([] : Str).length ≤ _; simp) (by show ([] : Str).length ≤ _; simp) y1 (HV.out _ K1.out.below) (Nat.le_trans hB K1.out.below.size)).mono ?_
    obtain ⟨tx, htx⟩ : ∃ t, opT ⟨9, [], [], 0, 0, 0⟩ = t := ⟨_, rfl⟩
    rw [htx] at HC ⊢
    rintro e y2 ⟨rfl, c2⟩
    have K2 := Lib.hid (K1.out.after c2)
    clear c2 htx x0 x1 x2 x3 x4 x5 r0 r1 r2 r3 r4 r5 f0 f1 f2 f3 f4 f5
    have x0 := (lies_cells K2.out.cur).1 0
    have x1 := (lies_cells K2.out.cur).1 1
    have x2 := (lies_cells K2.out.cur).1 2
    have x3 := (lies_cells K2.out.cur).1 3
    have x4 := (lies_cells K2.out.cur).1 4
    have x5 := (lies_cells K2.out.cur).1 5
    simp only [opC, List.getElem?_toArray, List.getElem?_cons_zero, List.getElem?_cons_succ] at x0 x1 x2 x3 x4 x5
    have r0 := (lies_cells K2.out.res).1 0
    have r1 := (lies_cells K2.out.res).1 1
    have r2 := (lies_cells K2.out.res).1 2
    have r3 := (lies_cells K2.out.res).1 3
    have r4 := (lies_cells K2.out.res).1 4
    have r5 := (lies_cells K2.out.res).1 5
    have f0 := (lies_cells K2.out.res).2 0
    have f1 := (lies_cells K2.out.res).2 1
    have f2 := (lies_cells K2.out.res).2 2
    have f3 := (lies_cells K2.out.res).2 3
    have f4 := (lies_cells K2.out.res).2 4
    have f5 := (lies_cells K2.out.res).2 5
    simp only [opC, zeroO, List.getElem?_toArray, List.getElem?_cons_zero, List.getElem?_cons_succ] at r0 r1 r2 r3 r4 r5
    have BZ := Lib.hid (fun (v0 v1 v2 v3 v4 v5 : Value) => ((((((K2.out.below.setCell (p := ⟨w.heap.size, 0, none⟩) (Nat.le_refl _) v0).setCell (p := ⟨w.heap.size, 1, none⟩) (Nat.le_refl _) v1).setCell (p := ⟨w.heap.size, 2, none⟩) (Nat.le_refl _) v2).setCell (p := ⟨w.heap.size, 3, none⟩) (Nat.le_refl _) v3).setCell (p := ⟨w.heap.size, 4, none⟩) (Nat.le_refl _) v4).setCell (p := ⟨w.heap.size, 5, none⟩) (Nat.le_refl _) v5))
    by_cases ht : tx = l
    rotate_left
    · have ht1 : (tx == l) = false := by simpa using ht
      have HZ := Lib.hid (show takeO l (candP l) = (zeroO, 4) by rw [HC.out]; exact if_neg (fun h => ht h.2))
      clear ht
      go_wp2
      refine bodyPost_ret (v := .tuple #[opV zeroO, .int .i64 4]) (by simp [results, Tryd.results9, go_sem, r0, r1, r2, r3, r4, r5, zeroO]) rfl ?_
      rw [HZ.out]
      exact ⟨rfl, BZ.out _ _ _ _ _ _⟩
    have ht1 : (l == l) = true := by simp
    have HZ := Lib.hid (show takeO l (candP l) = (⟨9, [], [], 0, 0, 0⟩, 0) by rw [HC.out]; exact if_pos ⟨HDV.out, ht⟩)
    rw [ht]
    clear ht
    go_wp2
    refine bodyPost_ret (v := .tuple #[opV ⟨9, [], [], 0, 0, 0⟩, .int .i64 0]) (by simp [results, Tryd.results9, go_sem, r0, r1, r2, r3, r4, r5, zeroO]) rfl ?_
    rw [HZ.out]
    exact ⟨rfl, BZ.out _ _ _ _ _ _⟩
end Go.Proofs.YtgmlnbheceeklaaDoor
