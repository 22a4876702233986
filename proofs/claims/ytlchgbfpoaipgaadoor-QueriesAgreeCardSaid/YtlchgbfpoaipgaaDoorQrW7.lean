/- Walks: queries.finish. Printed by wip/gen_qrw7.py. -/
import Derived.Test.YtlchgbfpoaipgaaDoorQrW6
import Derived.Test.YtlchgbfpoaipgaaDoorQryN
import Derived.Test.YtlchgbfpoaipgaaDoorSlU
import Derived.Deep.RegionHeld3
set_option linter.unusedVariables false
set_option linter.unusedSimpArgs false
set_option linter.unusedSectionVars false
namespace Go.Proofs.YtlchgbfpoaipgaaDoor
open Go.RowKit
variable [Base]

theorem find_eq {l : List QRec} {x : Str} {m : Int} (hm : findQ l x = m) (v : Value) (w : World) (h : RecsAt w v l) : Calls Tryd.prog 25 #[v, qs x] w (IntQ m w) := hm ▸ find_any l x v w h
theorem setB_len {s : QSet} (h : setB s = true) : s.words.length ≤ 4 := by
  simp only [setB, rangedB, lensB, Bool.and_eq_true, decide_eq_true_eq] at h
  omega
theorem words_ok (l : List Nat) : (l.map uv).all Value.oneCell' = true := by
  rw [List.all_eq_true]
  intro x hx
  obtain ⟨y, _, rfl⟩ := List.mem_map.1 hx
  rfl
set_option maxHeartbeats 2000000 in
theorem finish_any {B : Nat} (l : List QRec) (x : Str) (st : Int) (s : QSet) (v u : Value) (w : World) (KW : KwIn B w) (hB : B ≤ w.heap.size) (h : RecsAt w v l) (hu : WordsAt w u s.words) :
    Calls Tryd.prog 39 #[v, qs x, .int .i64 st, setV s u] w (TabQ (finishQ l x st s) w) := by
  obtain ⟨a, c, rfl, hn, -, -, hc⟩ := h.cell
  have HC := Lib.hid hc
  have HK := Lib.hid KW
  have HBS := Lib.hid (Nat.le_trans KW.bs hB)
  obtain ⟨n, hl⟩ : ∃ n, l.length = n := ⟨_, rfl⟩
  rw [hl] at hn h ⊢
  have HL := Lib.hid hl
  have HR := Lib.hid h
  obtain ⟨ua, uc, rfl, hum, -⟩ := hu.cell
  obtain ⟨un, hun⟩ : ∃ n, s.words.length = n := ⟨_, rfl⟩
  rw [hun] at hu hum ⊢
  have HUN := Lib.hid hun
  have HU := Lib.hid hu
  unfold maxLen at hn
  obtain ⟨W, hW⟩ : ∃ W, w.alloc (.cells #[.int .i64 s.width, .slice ua un uc] 29) = W := ⟨_, rfl⟩
  have B0 : Below w.heap.size w W := by rw [← hW]; exact (Below.refl _ _).alloc (Nat.le_refl _) _
  have HB0 : W.heap[w.heap.size]? = some (.cells #[.int .i64 s.width, .slice ua un uc] 29 (0, 0)) := by rw [← hW]; exact heap_alloc_new _ _
  have hzz := lt_heap HB0
  have x0 := (lies_cells HB0).1 0
  have x1 := (lies_cells HB0).1 1
  simp only [List.getElem?_toArray, List.getElem?_cons_zero, List.getElem?_cons_succ] at x0 x1
  have HZ := Lib.hid hzz
  have H0 := Lib.hid HB0
  have BB := Lib.hid B0
  have HW := Lib.hid hW
  clear hc h hl KW hW HB0 B0 hzz hun hu
  rcases Bool.eq_false_or_eq_true (tabB l) with ht | ht
  rotate_left
  · have hr : finishQ l x st s = ([], 1) := by unfold finishQ; simp [ht]
    rw [hr]
    clear hr
    go_enter Tryd.func39, Tryd.ntmps39
    go_wp2_with fail
    rw [show w.alloc (.cells #[.int .i64 s.width, .slice ua un uc] 29) = W from HW.out]
    go_wp2_with first | (go_at_call 22; refine (tvalid_eq (B := B) ht _ _ (HK.out.keep fun q hq => BB.out.block q (by omega)) (Nat.le_trans hB BB.out.size) (HR.out.below BB.out)).mono ?_; rintro e w1 ⟨rfl, b1⟩; have B1 := Lib.hid b1; have y0 := (lies_cells (lies_below H0.out B1.out HZ.out)).1 0; have y1 := (lies_cells (lies_below H0.out B1.out HZ.out)).1 1; simp only [List.getElem?_toArray, List.getElem?_cons_zero, List.getElem?_cons_succ] at y0 y1; clear b1 x0 x1)
    go_ret2
    exact ⟨_, rfl, RecsAt.nil, BB.out.trans (B1.out.mono BB.out.size)⟩
  rcases Bool.eq_false_or_eq_true (setB s) with hs | hs
  rotate_left
  · have hr : finishQ l x st s = ([], 1) := by unfold finishQ; simp [hs]
    rw [hr]
    clear hr
    go_enter Tryd.func39, Tryd.ntmps39
    go_wp2_with fail
    rw [show w.alloc (.cells #[.int .i64 s.width, .slice ua un uc] 29) = W from HW.out]
    go_wp2_with first | (go_at_call 22; refine (tvalid_eq (B := B) ht _ _ (HK.out.keep fun q hq => BB.out.block q (by omega)) (Nat.le_trans hB BB.out.size) (HR.out.below BB.out)).mono ?_; rintro e w1 ⟨rfl, b1⟩; have B1 := Lib.hid b1; have y0 := (lies_cells (lies_below H0.out B1.out HZ.out)).1 0; have y1 := (lies_cells (lies_below H0.out B1.out HZ.out)).1 1; simp only [List.getElem?_toArray, List.getElem?_cons_zero, List.getElem?_cons_succ] at y0 y1; clear b1 x0 x1) | (go_at_call 43; refine (setB_ret hs _ _ (HU.out.below (BB.out.trans (B1.out.mono BB.out.size)))).mono ?_; rintro e w2 ⟨rfl, b2⟩; have B2 := Lib.hid (B1.out.trans (b2.mono B1.out.size)); have z0 := (lies_cells (lies_below H0.out B2.out HZ.out)).1 0; have z1 := (lies_cells (lies_below H0.out B2.out HZ.out)).1 1; simp only [List.getElem?_toArray, List.getElem?_cons_zero, List.getElem?_cons_succ] at z0 z1; clear b2 y0 y1)
    go_ret2
    exact ⟨_, rfl, RecsAt.nil, BB.out.trans (B2.out.mono BB.out.size)⟩
  by_cases h0 : findQ l x < 0
  · have hr : finishQ l x st s = ([], 8) := by unfold finishQ; simp [ht, hs, h0]
    rw [hr]
    clear hr
    obtain ⟨m, hf⟩ : ∃ m, findQ l x = m := ⟨_, rfl⟩
    rw [hf] at h0
    go_enter Tryd.func39, Tryd.ntmps39
    go_wp2_with fail
    rw [show w.alloc (.cells #[.int .i64 s.width, .slice ua un uc] 29) = W from HW.out]
    go_wp2_with first | (go_at_call 22; refine (tvalid_eq (B := B) ht _ _ (HK.out.keep fun q hq => BB.out.block q (by omega)) (Nat.le_trans hB BB.out.size) (HR.out.below BB.out)).mono ?_; rintro e w1 ⟨rfl, b1⟩; have B1 := Lib.hid b1; have y0 := (lies_cells (lies_below H0.out B1.out HZ.out)).1 0; have y1 := (lies_cells (lies_below H0.out B1.out HZ.out)).1 1; simp only [List.getElem?_toArray, List.getElem?_cons_zero, List.getElem?_cons_succ] at y0 y1; clear b1 x0 x1) | (go_at_call 43; refine (setB_ret hs _ _ (HU.out.below (BB.out.trans (B1.out.mono BB.out.size)))).mono ?_; rintro e w2 ⟨rfl, b2⟩; have B2 := Lib.hid (B1.out.trans (b2.mono B1.out.size)); have z0 := (lies_cells (lies_below H0.out B2.out HZ.out)).1 0; have z1 := (lies_cells (lies_below H0.out B2.out HZ.out)).1 1; simp only [List.getElem?_toArray, List.getElem?_cons_zero, List.getElem?_cons_succ] at z0 z1; clear b2 y0 y1) | (go_at_call 25; refine (find_eq hf _ _ (HR.out.below (BB.out.trans (B2.out.mono BB.out.size)))).mono ?_; rintro e w3 ⟨rfl, b3⟩; have B3 := Lib.hid (B2.out.trans (b3.mono B2.out.size)); have v0 := (lies_cells (lies_below H0.out B3.out HZ.out)).1 0; have v1 := (lies_cells (lies_below H0.out B3.out HZ.out)).1 1; simp only [List.getElem?_toArray, List.getElem?_cons_zero, List.getElem?_cons_succ] at v0 v1; clear b3 z0 z1)
    go_ret2
    exact ⟨_, rfl, RecsAt.nil, BB.out.trans (B3.out.mono BB.out.size)⟩
  obtain ⟨i, r, hf, hri, -⟩ := findQ_some h0
  obtain ⟨rb, off, ru, rfl, hrb, -, hcs⟩ := HC.out i r hri
  have hin : i < n := by have := (List.getElem?_eq_some_iff.1 hri).1; have := HL.out; omega
  have G5 := Lib.hid (hcs 5 (by omega))
  simp only [List.getElem?_cons_zero, List.getElem?_cons_succ] at G5
  have h64 : n ≤ 64 := by have := tabB_len ht; have := HL.out; omega
  by_cases hst : r.status = 1
  rotate_left
  · have hr : finishQ l x st s = ([], 10) := by unfold finishQ; simp [ht, hs, hf, hri, hst]
    have hsb : (r.status != 1) = true := by simpa using hst
    rw [hr]
    clear hr hcs hri h0 HC hst
    go_enter Tryd.func39, Tryd.ntmps39
    go_wp2_with fail
    rw [show w.alloc (.cells #[.int .i64 s.width, .slice ua un uc] 29) = W from HW.out]
    go_wp2_with first | (go_at_call 22; refine (tvalid_eq (B := B) ht _ _ (HK.out.keep fun q hq => BB.out.block q (by omega)) (Nat.le_trans hB BB.out.size) (HR.out.below BB.out)).mono ?_; rintro e w1 ⟨rfl, b1⟩; have B1 := Lib.hid b1; have y0 := (lies_cells (lies_below H0.out B1.out HZ.out)).1 0; have y1 := (lies_cells (lies_below H0.out B1.out HZ.out)).1 1; simp only [List.getElem?_toArray, List.getElem?_cons_zero, List.getElem?_cons_succ] at y0 y1; clear b1 x0 x1) | (go_at_call 43; refine (setB_ret hs _ _ (HU.out.below (BB.out.trans (B1.out.mono BB.out.size)))).mono ?_; rintro e w2 ⟨rfl, b2⟩; have B2 := Lib.hid (B1.out.trans (b2.mono B1.out.size)); have z0 := (lies_cells (lies_below H0.out B2.out HZ.out)).1 0; have z1 := (lies_cells (lies_below H0.out B2.out HZ.out)).1 1; simp only [List.getElem?_toArray, List.getElem?_cons_zero, List.getElem?_cons_succ] at z0 z1; clear b2 y0 y1) | (go_at_call 25; refine (find_eq hf _ _ (HR.out.below (BB.out.trans (B2.out.mono BB.out.size)))).mono ?_; rintro e w3 ⟨rfl, b3⟩; have B3 := Lib.hid (B2.out.trans (b3.mono B2.out.size)); have v0 := (lies_cells (lies_below H0.out B3.out HZ.out)).1 0; have v1 := (lies_cells (lies_below H0.out B3.out HZ.out)).1 1; simp only [List.getElem?_toArray, List.getElem?_cons_zero, List.getElem?_cons_succ] at v0 v1; have g5 := ((BB.out.trans (B3.out.mono BB.out.size)).cell (p := ⟨rb, off + i * 8 + 5, none⟩) hrb).trans G5.out; clear b3 z0 z1)
    go_ret2
    exact ⟨_, rfl, RecsAt.nil, BB.out.trans (B3.out.mono BB.out.size)⟩
  have hr : finishQ l x st s = (l.set i (turn st s r), 0) := by unfold finishQ; simp [ht, hs, hf, hri, hst]
  have hsb : (r.status != 1) = false := by simpa using hst
  rw [hr]
  obtain ⟨xss, sa, al, ln, oc⟩ := RecsAt.rows HR.out
  rw [HL.out] at ln
  obtain ⟨xr, hxr, xu, hxe, -⟩ := al.satR hri
  have Q5 : Hid (xss.flatten[i * 8 + 5]? = some (.int .i64 r.status)) := by
    unfold Hid
    have h1 := (List.getElem?_eq_some_iff.1 hxr)
    obtain ⟨h2, h3⟩ := h1
    rw [flatten_get 8 xss (rows_len al) i 5 h2 (by omega), h3, hxe]; rfl
  have Q6 : Hid (xss.flatten[i * 8 + 6]? = some (.int .i64 r.value.width)) := by
    unfold Hid
    obtain ⟨h2, h3⟩ := List.getElem?_eq_some_iff.1 hxr
    rw [flatten_get 8 xss (rows_len al) i 6 h2 (by omega), h3, hxe]; rfl
  have Q7 : Hid (xss.flatten[i * 8 + 7]? = some xu) := by
    unfold Hid
    obtain ⟨h2, h3⟩ := List.getElem?_eq_some_iff.1 hxr
    rw [flatten_get 8 xss (rows_len al) i 7 h2 (by omega), h3, hxe]; rfl
  have SA := Lib.hid sa
  have AL := Lib.hid al
  have LN := Lib.hid ln
  have OC := Lib.hid oc
  have HRI := Lib.hid hri
  clear hr hcs hri h0 HC hst sa al ln oc hxr hxe
  go_enter Tryd.func39, Tryd.ntmps39
  go_wp2_with fail
  rw [show w.alloc (.cells #[.int .i64 s.width, .slice ua un uc] 29) = W from HW.out]
  go_wp2_with first | (go_at_call 22; refine (tvalid_eq (B := B) ht _ _ (HK.out.keep fun q hq => BB.out.block q (by omega)) (Nat.le_trans hB BB.out.size) (HR.out.below BB.out)).mono ?_; rintro e w1 ⟨rfl, b1⟩; have B1 := Lib.hid b1; have y0 := (lies_cells (lies_below H0.out B1.out HZ.out)).1 0; have y1 := (lies_cells (lies_below H0.out B1.out HZ.out)).1 1; simp only [List.getElem?_toArray, List.getElem?_cons_zero, List.getElem?_cons_succ] at y0 y1; clear b1 x0 x1) | (go_at_call 43; refine (setB_ret hs _ _ (HU.out.below (BB.out.trans (B1.out.mono BB.out.size)))).mono ?_; rintro e w2 ⟨rfl, b2⟩; have B2 := Lib.hid (B1.out.trans (b2.mono B1.out.size)); have z0 := (lies_cells (lies_below H0.out B2.out HZ.out)).1 0; have z1 := (lies_cells (lies_below H0.out B2.out HZ.out)).1 1; simp only [List.getElem?_toArray, List.getElem?_cons_zero, List.getElem?_cons_succ] at z0 z1; clear b2 y0 y1) | (go_at_call 25; refine (find_eq hf _ _ (HR.out.below (BB.out.trans (B2.out.mono BB.out.size)))).mono ?_; rintro e w3 ⟨rfl, b3⟩; have B3 := Lib.hid (B2.out.trans (b3.mono B2.out.size)); have v0 := (lies_cells (lies_below H0.out B3.out HZ.out)).1 0; have v1 := (lies_cells (lies_below H0.out B3.out HZ.out)).1 1; simp only [List.getElem?_toArray, List.getElem?_cons_zero, List.getElem?_cons_succ] at v0 v1; have g5 := ((BB.out.trans (B3.out.mono BB.out.size)).cell (p := ⟨rb, off + i * 8 + 5, none⟩) hrb).trans G5.out; clear b3 z0 z1) | (go_at_call 26; refine (clone_rec _ n xss.flatten w3 (SliceAt.same SA.out (SameT.below (BB.out.trans (B3.out.mono BB.out.size)))) LN.out OC.out (by omega)).mono ?_; rintro e w4 ⟨g0, d, rfl, own, b4⟩; obtain ⟨g, rfl, hg1, hg2, hty, hgc, hgf⟩ := own_pos own (by omega) (Nat.le_trans HBS.out (BB.out.trans (B3.out.mono BB.out.size)).size); have OW := Lib.hid own; have B4 := Lib.hid b4; have q5 := (hgc (i * 8 + 5) (by rw [LN.out]; omega)).trans Q5.out; have f5 := hgf (i * 8 + 5); have GC := Lib.hid hgc; have GF := Lib.hid hgf; have TY := Lib.hid hty; have o0 := (b4.cell (p := ⟨w.heap.size, 0, none⟩) (Nat.lt_of_lt_of_le HZ.out B3.out.size)).trans v0; have o1 := (b4.cell (p := ⟨w.heap.size, 1, none⟩) (Nat.lt_of_lt_of_le HZ.out B3.out.size)).trans v1; clear own b4 v0 v1 hgc hgf hty)
  have q6 := (GC.out (i * 8 + 6) (by rw [LN.out]; omega)).trans Q6.out
  have q7 := (GC.out (i * 8 + 7) (by rw [LN.out]; omega)).trans Q7.out
  have f6 := GF.out (i * 8 + 6)
  have f7 := GF.out (i * 8 + 7)
  have hzg : w.heap.size ≠ g := by have := HZ.out; have := B3.out.size; omega
  obtain ⟨w5, hw5⟩ : ∃ w5, w4.setCell ⟨g, i * 8 + 5, none⟩ (.int .i64 st) = w5 := ⟨_, rfl⟩
  have t0 : w5.cell? ⟨w.heap.size, 0, none⟩ = some (.int .i64 s.width) := by rw [← hw5]; rw [World.cell?_of_block (Below.heap_setCell _ _ _ _ hzg)]; exact o0
  have t1 : w5.cell? ⟨w.heap.size, 1, none⟩ = some (.slice ua un uc) := by rw [← hw5]; rw [World.cell?_of_block (Below.heap_setCell _ _ _ _ hzg)]; exact o1
  have p6 : w5.cell? ⟨g, i * 8 + 6, none⟩ = some (.int .i64 r.value.width) := by rw [← hw5]; exact cell_else (by omega) q6
  have p7 : w5.cell? ⟨g, i * 8 + 7, none⟩ = some xu := by rw [← hw5]; exact cell_else (by omega) q7
  have e6 : w5.frozen? ⟨g, i * 8 + 6, none⟩ = false := by rw [← hw5]; exact frozen_set.trans f6
  have e7 : w5.frozen? ⟨g, i * 8 + 7, none⟩ = false := by rw [← hw5]; exact frozen_set.trans f7
  have B5 := Lib.hid (show Below w3.heap.size w3 w5 by rw [← hw5]; exact B4.out.setCell hg1 _)
  have S5 := Lib.hid (show SliceAt w5 31 8 (.slice (some ⟨g, 0, none⟩) n d) (xss.flatten.set (i * 8 + 5) (.int .i64 st)) by rw [← hw5]; exact SliceAt.set (SliceAt.of_owns OW.out) _ _)
  have T5 := Lib.hid (show tyAt w5 g = some 31 by rw [← hw5]; exact (tyAt_set g).trans TY.out)
  have g5lt : g < w5.heap.size := by rw [← hw5]; simpa using hg2
  have B53 := Lib.hid (show Below w.heap.size w w5 from (BB.out.trans (B3.out.mono BB.out.size)).trans (B5.out.mono (BB.out.trans (B3.out.mono BB.out.size)).size))
  have WU := Lib.hid (HU.out.below B53.out)
  have ALU := Lib.hid (show (s.words.map uv).length = un * 1 by rw [List.length_map, HUN.out, Nat.mul_one])
  have WOK := Lib.hid (words_ok s.words)
  rw [show w4.setCell ⟨g, i * 8 + 5, none⟩ (.int .i64 st) = w5 from hw5]
  have hs256 : un ≤ 1000000 := by have h1 := setB_len hs; rw [HUN.out] at h1; omega
  have HG5 : w.heap.size ≤ g := by have := HZ.out; have := B3.out.size; omega
  clear hw5 q5 q6 q7 f5 f6 f7 o0 o1 g5 hg1 hg2
  have hz5 : w.heap.size < w5.heap.size := by have := B5.out.size; have := HZ.out; have := B3.out.size; omega
  go_region_held3 (fun w' => w'.cell? ⟨w.heap.size, 0, none⟩ = some (.int .i64 s.width) ∧ w'.cell? ⟨w.heap.size, 1, none⟩ = some (.slice ua un uc)) (first | go_keep | exact ⟨cell_off hzg (cell_off hzg k0), cell_off hzg (cell_off hzg k1)⟩) ((go_at_call 49; refine (clone_u64 _ un (s.words.map uv) w5.drew WU.out.1 ALU.out WOK.out hs256).mono ?_; rintro e w6 ⟨ga, da, rfl, own6, b6⟩; have OW6 := Lib.hid own6; have B6 := Lib.hid (show Below w5.heap.size w5 w6 from ((Below.refl w5.heap.size w5).drew).trans b6); have r6 := (b6.cell (p := ⟨g, i * 8 + 6, none⟩) g5lt).trans p6; have r7 := (b6.cell (p := ⟨g, i * 8 + 7, none⟩) g5lt).trans p7; have s6 := (b6.frozen (p := ⟨g, i * 8 + 6, none⟩) g5lt).trans e6; have s7 := (b6.frozen (p := ⟨g, i * 8 + 7, none⟩) g5lt).trans e7; have k0 := (b6.cell (p := ⟨w.heap.size, 0, none⟩) hz5).trans t0; have k1 := (b6.cell (p := ⟨w.heap.size, 1, none⟩) hz5).trans t1; clear own6 b6))
  go_wp2
  go_ret2
  exact ⟨_, rfl, RecsAt.turned (SliceAt.set (SliceAt.set (SliceAt.same S5.out (SameT.below B6.out)) _ _) _ _) (AL.out.mono fun _ _ hx => RecCells.keep (((SameT.below B53.out).trans (SameT.below B6.out)).trans (SameT.trans (SameT.words ((tyAt_below B6.out g5lt).trans T5.out)) (SameT.words ((tyAt_set g).trans ((tyAt_below B6.out g5lt).trans T5.out))))) hx) HRI.out
    (WordsAt.keep ⟨SliceAt.of_owns OW6.out, HU.out.2⟩ (SameT.trans (SameT.words ((tyAt_below B6.out g5lt).trans T5.out)) (SameT.words ((tyAt_set g).trans ((tyAt_below B6.out g5lt).trans T5.out))))), ((B53.out.trans (B6.out.mono B53.out.size)).setCell HG5 _).setCell HG5 _⟩
end Go.Proofs.YtlchgbfpoaipgaaDoor
