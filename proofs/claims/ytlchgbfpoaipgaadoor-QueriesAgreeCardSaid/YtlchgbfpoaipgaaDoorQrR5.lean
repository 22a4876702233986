/- Walks: the reference's finish. Printed by wip/gen_qrr5.py. -/
import Derived.Test.YtlchgbfpoaipgaaDoorQrR4
import Derived.Test.YtlchgbfpoaipgaaDoorQrW7
import Derived.RegionTactic
import Derived.BigRegion
set_option linter.unusedVariables false
set_option linter.unusedSimpArgs false
set_option linter.unusedSectionVars false
namespace Go.Proofs.YtlchgbfpoaipgaaDoor
open Go.RowKit
variable [Base]

set_option maxHeartbeats 2000000 in
theorem rfinish_any (l : List QRec) (x : Str) (st : Int) (s : QSet) (v u : Value) (w : World) (ht : tabB l = true) (hs : setB s = true) (h : RecsAt w v l) (hu : WordsAt w u s.words) (hbs : Base.b ≤ w.heap.size) :
    Calls Tryd.prog 47 #[v, qs x, .int .i64 st, setV s u] w (TabQ (finishQ l x st s) w) := by
  obtain ⟨a, c, rfl, hn, -, -, hc⟩ := h.cell
  have HC := Lib.hid hc
  have HBS := Lib.hid hbs
  clear hbs
  obtain ⟨n, hl⟩ : ∃ n, l.length = n := ⟨_, rfl⟩
  rw [hl] at hn h ⊢
  have HL := Lib.hid hl
  have HR := Lib.hid h
  obtain ⟨ua, uc, rfl, hum, -⟩ := hu.cell
  obtain ⟨un, hun⟩ : ∃ n, s.words.length = n := ⟨_, rfl⟩
  rw [hun] at hu hum ⊢
  have HUN := Lib.hid hun
  have HU := Lib.hid hu
  unfold maxLen at hn
  obtain ⟨W, hW⟩ : ∃ W, w.alloc (.cells #[.int .i64 s.width, .slice ua un uc] 29) = W := ⟨_, rfl⟩
  have B0 : Below w.heap.size w W := by rw [← hW]; exact (Below.refl _ _).alloc (Nat.le_refl _) _
  have HB0 : W.heap[w.heap.size]? = some (.cells #[.int .i64 s.width, .slice ua un uc] 29 (0, 0)) := by rw [← hW]; exact heap_alloc_new _ _
  have hzz := lt_heap HB0
  have x0 := (lies_cells HB0).1 0
  have x1 := (lies_cells HB0).1 1
  simp only [List.getElem?_toArray, List.getElem?_cons_zero, List.getElem?_cons_succ] at x0 x1
  have HZ := Lib.hid hzz
  have BB := Lib.hid B0
  have HW := Lib.hid hW
  clear hc h hl hW HB0 B0 hzz hun hu
  by_cases h0 : findQ l x < 0
  · have hr : finishQ l x st s = ([], 8) := by unfold finishQ; simp [ht, hs, h0]
    rw [hr]
    clear hr
    obtain ⟨m, hf⟩ : ∃ m, findQ l x = m := ⟨_, rfl⟩
    rw [hf] at h0
    go_enter Tryd.func47, Tryd.ntmps47
    go_wp2_with fail
    rw [show w.alloc (.cells #[.int .i64 s.width, .slice ua un uc] 29) = W from HW.out]
    go_wp2_with first | (go_at_call 36; refine (rfind_eq hf _ _ (HR.out.below BB.out)).mono ?_; rintro e w3 ⟨rfl, rfl⟩)
    go_ret2
    exact ⟨_, rfl, RecsAt.nil, BB.out⟩
  obtain ⟨i, r, hf, hri, -⟩ := findQ_some h0
  obtain ⟨rb, off, ru, rfl, hrb, -, hcs⟩ := HC.out i r hri
  have hin : i < n := by have := (List.getElem?_eq_some_iff.1 hri).1; have := HL.out; omega
  have g5 := hcs 5 (by omega)
  simp only [List.getElem?_cons_zero, List.getElem?_cons_succ] at g5
  have g5 := (BB.out.cell (p := ⟨rb, off + i * 8 + 5, none⟩) hrb).trans g5
  have h64 : n ≤ 64 := by have := tabB_len ht; have := HL.out; omega
  by_cases hst : r.status = 1
  rotate_left
  · have hr : finishQ l x st s = ([], 10) := by unfold finishQ; simp [ht, hs, hf, hri, hst]
    have hsb : (r.status != 1) = true := by simpa using hst
    rw [hr]
    clear hr hcs hri h0 HC hst
    go_enter Tryd.func47, Tryd.ntmps47
    go_wp2_with fail
    rw [show w.alloc (.cells #[.int .i64 s.width, .slice ua un uc] 29) = W from HW.out]
    go_wp2_with first | (go_at_call 36; refine (rfind_eq hf _ _ (HR.out.below BB.out)).mono ?_; rintro e w3 ⟨rfl, rfl⟩)
    go_ret2
    exact ⟨_, rfl, RecsAt.nil, BB.out⟩
  have hr : finishQ l x st s = (l.set i (turn st s r), 0) := by unfold finishQ; simp [ht, hs, hf, hri, hst]
  have hsb : (r.status != 1) = false := by simpa using hst
  rw [hr]
  obtain ⟨xss, sa, al, ln, oc⟩ := RecsAt.rows HR.out
  rw [HL.out] at ln
  obtain ⟨xr, hxr, xu, hxe, -⟩ := al.satR hri
  have Q5 : Hid (xss.flatten[i * 8 + 5]? = some (.int .i64 r.status)) := by
    unfold Hid
    obtain ⟨h2, h3⟩ := List.getElem?_eq_some_iff.1 hxr
    rw [flatten_get 8 xss (rows_len al) i 5 h2 (by omega), h3, hxe]; rfl
  have Q6 : Hid (xss.flatten[i * 8 + 6]? = some (.int .i64 r.value.width)) := by
    unfold Hid
    obtain ⟨h2, h3⟩ := List.getElem?_eq_some_iff.1 hxr
    rw [flatten_get 8 xss (rows_len al) i 6 h2 (by omega), h3, hxe]; rfl
  have Q7 : Hid (xss.flatten[i * 8 + 7]? = some xu) := by
    unfold Hid
    obtain ⟨h2, h3⟩ := List.getElem?_eq_some_iff.1 hxr
    rw [flatten_get 8 xss (rows_len al) i 7 h2 (by omega), h3, hxe]; rfl
  have SA := Lib.hid sa
  have AL := Lib.hid al
  have LN := Lib.hid ln
  have OC := Lib.hid oc
  have OW := Lib.hid (empty_rec W)
  have HRI := Lib.hid hri
  clear hr hcs hri h0 HC hst sa al ln oc hxr hxe
  go_enter Tryd.func47, Tryd.ntmps47
  go_wp2_with fail
  rw [show w.alloc (.cells #[.int .i64 s.width, .slice ua un uc] 29) = W from HW.out]
  go_wp2_with first | (go_at_call 36; refine (rfind_eq hf _ _ (HR.out.below BB.out)).mono ?_; rintro e w3 ⟨rfl, rfl⟩) | (at_builtin; refine wpList_append_sl rfl _ _ 22 rfl W.heap.size 31 _ 8 88 Tryd.underlying22 info_rec rfl (by decide) _ _ _ OW.out rfl _ n _ rfl (SliceAt.same (SliceAt.same SA.out (SameT.below BB.out)) SameT.alloc) LN.out OC.out (by unfold maxLen; omega) (by omega) (by simp) ?_; intro g0 d w4 own gr; simp only [Nat.zero_add, List.nil_append] at own; obtain ⟨g, rfl, hg1, hg2, hty, hgc, hgf⟩ := own_pos own (by omega) (Nat.le_trans HBS.out BB.out.size); have b4 := Lib.hid (((Below.refl W.heap.size W).alloc (Nat.le_refl _) (.cells #[] 31)).trans (Below.of_grown gr OW.out (by simp))); have OWN := Lib.hid own; have GC := Lib.hid hgc; have GF := Lib.hid hgf; have TY := Lib.hid hty; have o0 := (b4.out.cell (p := ⟨w.heap.size, 0, none⟩) HZ.out).trans x0; have o1 := (b4.out.cell (p := ⟨w.heap.size, 1, none⟩) HZ.out).trans x1; clear own gr x0 x1 hgc hgf hty)
  have q5 := (GC.out (i * 8 + 5) (by rw [LN.out]; omega)).trans Q5.out
  have q6 := (GC.out (i * 8 + 6) (by rw [LN.out]; omega)).trans Q6.out
  have q7 := (GC.out (i * 8 + 7) (by rw [LN.out]; omega)).trans Q7.out
  have f5 := GF.out (i * 8 + 5)
  have f6 := GF.out (i * 8 + 6)
  have f7 := GF.out (i * 8 + 7)
  have hzg : w.heap.size ≠ g := by have := HZ.out; omega
  have z1 : (w.heap.size == g) = false := by simpa using hzg
  have z2 : (g == w.heap.size) = false := by simpa using (Ne.symm hzg)
  have BW := Lib.hid (show Below w.heap.size w w4 from BB.out.trans (b4.out.mono BB.out.size))
  have hwg : w.heap.size ≤ g := by have := HZ.out; omega
  have HWG := Lib.hid hwg
  clear hg1 hzg g5 hwg
  go_region
  go_wp2
  go_ret2
  exact ⟨_, rfl, RecsAt.turned (SliceAt.set (SliceAt.set (SliceAt.set (SliceAt.of_owns OWN.out) _ _) _ _) _ _) (AL.out.mono fun _ _ hx => RecCells.keep ((SameT.below BW.out).trans (SameT.trans (SameT.words TY.out) (SameT.trans (SameT.words ((tyAt_set g).trans TY.out)) (SameT.words ((tyAt_set g).trans ((tyAt_set g).trans TY.out)))))) hx) HRI.out (WordsAt.keep HU.out ((SameT.below BW.out).trans (SameT.trans (SameT.words TY.out) (SameT.trans (SameT.words ((tyAt_set g).trans TY.out)) (SameT.words ((tyAt_set g).trans ((tyAt_set g).trans TY.out))))))), (((BW.out.setCell (p := ⟨g, i * 8 + 5, none⟩) HWG.out _).setCell (p := ⟨g, i * 8 + 6, none⟩) HWG.out _).setCell (p := ⟨g, i * 8 + 7, none⟩) HWG.out _).drew⟩
end Go.Proofs.YtlchgbfpoaipgaaDoor
