/- Walks: the reference's Submit. Printed by wip/gen_qrr8.py. -/
import Derived.Test.YtlchgbfpoaipgaaDoorQrR6
import Derived.Deep.RegionHeld3
set_option linter.unusedVariables false
set_option linter.unusedSimpArgs false
set_option linter.unusedSectionVars false
namespace Go.Proofs.YtlchgbfpoaipgaaDoor
open Go.RowKit
variable [Base]

theorem empty_rec1 (w : World) (o : Obj) : ((w.alloc o).alloc (.cells #[] 31)).ownsRow (w.heap.size + 1) 31 8 (.slice (some ⟨w.heap.size + 1, 0, none⟩) 0 0) 0 [] := by
  have h := empty_rec (w.alloc o)
  rw [World.size_alloc] at h
  exact h
theorem new_rec1 (w : World) (o : Obj) (xs : List Value) (h : xs.length = 8) : SliceAt ((w.alloc o).alloc (.cells xs.toArray 31)) 31 8 (.slice (some ⟨w.heap.size + 1, 0, none⟩) 1 1) xs := by
  have k := SliceAt.new (w := w.alloc o) (T := 31) (sz := 8) xs 1 (by omega) (by decide)
  rw [World.size_alloc] at k
  exact k
theorem SliceAt.offB {w w' : World} {T : TypeId} {sz b off n c : Nat} {xs : List Value} {ob : Option Nat} (h : SliceAt w T sz (.slice (some ⟨b, off, none⟩) n c) xs) (hg : w.grownBy w' ob) (hne : ob ≠ some b) : SliceAt w' T sz (.slice (some ⟨b, off, none⟩) n c) xs := by
  obtain ⟨n', cap, h1, h2, h3, h4⟩ := h
  refine ⟨n', cap, h1, h2, h3, ?_⟩
  rcases h4 with h4 | ⟨b', off', cs, fr, e1, e2, e3⟩
  · exact .inl h4
  · injection e1 with e1 e4 e5
    injection e1 with e1
    injection e1 with e6 e7
    subst e4 e5 e6 e7
    exact .inr ⟨b, off, cs, fr, rfl, e2.block (hg.block b e2.lt (fun h => hne h.symm)), e3⟩
set_option maxHeartbeats 2000000 in
theorem rsubmit_any (l : List QRec) (r : QRec) (most : Int) (v u : Value) (w : World) (h : RecsAt w v l) (hu : WordsAt w u r.value.words) :
    Calls Tryd.prog 33 #[v, recV r u, .int .i64 most] w (TabQ (submitQ l r most) w) := by
  obtain ⟨a, c, rfl, hn, -, -, hc⟩ := h.cell
  obtain ⟨n, hl⟩ : ∃ n, l.length = n := ⟨_, rfl⟩
  rw [hl] at hn h ⊢
  have HL := Lib.hid hl
  have HR := Lib.hid h
  obtain ⟨u0, u1, rfl, -, -⟩ := hu.cell
  obtain ⟨un, hun⟩ : ∃ n, r.value.words.length = n := ⟨_, rfl⟩
  rw [hun]
  unfold maxLen at hn
  obtain ⟨W, hW⟩ : ∃ W, w.alloc (.cells #[qs r.id, .int .i64 r.prog, .int .i64 r.kind, .int .i64 r.node, .int .i64 r.prio, .int .i64 1, .int .i64 0, .slice none 0 0] 31) = W := ⟨_, rfl⟩
  have B0 : Below w.heap.size w W := by rw [← hW]; exact (Below.refl _ _).alloc (Nat.le_refl _) _
  have HB0 : W.heap[w.heap.size]? = some (.cells #[qs r.id, .int .i64 r.prog, .int .i64 r.kind, .int .i64 r.node, .int .i64 r.prio, .int .i64 1, .int .i64 0, .slice none 0 0] 31 (0, 0)) := by rw [← hW]; exact heap_alloc_new _ _
  have hzz := lt_heap HB0
  obtain ⟨x0, x1, x2, x3, x4, x5, x6, x7⟩ := cells8 HB0
  have HZ := Lib.hid hzz
  have H0 := Lib.hid HB0
  have BB := Lib.hid B0
  have HW := Lib.hid hW
  clear hc h hl hW HB0 B0 hzz hun hu
  rcases Bool.eq_false_or_eq_true (tabB l) with ht | ht
  rotate_left
  · have hr : submitQ l r most = ([], 1) := by unfold submitQ; simp [ht]
    rw [hr]
    clear hr
    go_enter Tryd.func33, Tryd.ntmps33
    go_wp2_with fail
    rw [show w.alloc (.cells #[qs r.id, .int .i64 r.prog, .int .i64 r.kind, .int .i64 r.node, .int .i64 r.prio, .int .i64 1, .int .i64 0, .slice none 0 0] 31) = W from HW.out]
    go_wp2_with first | (go_at_call 35; refine (rtvalid_eq ht _ _ (HR.out.below BB.out)).mono ?_; rintro e w1 ⟨rfl, b1⟩; have B1 := Lib.hid b1; obtain ⟨y0, y1, y2, y3, y4, y5, y6, y7⟩ := cells8 (lies_below H0.out B1.out HZ.out); clear b1 x0 x1 x2 x3 x4 x5 x6 x7)
    go_ret2
    exact ⟨_, rfl, RecsAt.nil, BB.out.trans (B1.out.mono BB.out.size)⟩
  rcases Bool.eq_false_or_eq_true (recB (fresh r)) with hb | hb
  rotate_left
  · have hr : submitQ l r most = ([], 1) := by unfold submitQ; simp [hb]
    rw [hr]
    clear hr
    go_enter Tryd.func33, Tryd.ntmps33
    go_wp2_with fail
    rw [show w.alloc (.cells #[qs r.id, .int .i64 r.prog, .int .i64 r.kind, .int .i64 r.node, .int .i64 r.prio, .int .i64 1, .int .i64 0, .slice none 0 0] 31) = W from HW.out]
    go_wp2_with first | (go_at_call 35; refine (rtvalid_eq ht _ _ (HR.out.below BB.out)).mono ?_; rintro e w1 ⟨rfl, b1⟩; have B1 := Lib.hid b1; obtain ⟨y0, y1, y2, y3, y4, y5, y6, y7⟩ := cells8 (lies_below H0.out B1.out HZ.out); clear b1 x0 x1 x2 x3 x4 x5 x6 x7) | (go_at_call 48; refine (fits_eq (r := fresh r) hb (.slice none 0 0) _ WordsAt.nil).mono ?_; rintro e w2 ⟨rfl, b2⟩; have B2 := Lib.hid (B1.out.trans (b2.mono B1.out.size)); obtain ⟨z0, z1, z2, z3, z4, z5, z6, z7⟩ := cells8 (lies_below H0.out B2.out HZ.out); clear b2 y0 y1 y2 y3 y4 y5 y6 y7)
    go_ret2
    exact ⟨_, rfl, RecsAt.nil, BB.out.trans (B2.out.mono BB.out.size)⟩
  obtain ⟨m, hm⟩ : ∃ m, findQ l r.id = m := ⟨_, rfl⟩
  by_cases hf : 0 ≤ m
  · have hr : submitQ l r most = ([], 6) := by unfold submitQ; simp [ht, hb, hm, hf]
    rw [hr]
    clear hr
    go_enter Tryd.func33, Tryd.ntmps33
    go_wp2_with fail
    rw [show w.alloc (.cells #[qs r.id, .int .i64 r.prog, .int .i64 r.kind, .int .i64 r.node, .int .i64 r.prio, .int .i64 1, .int .i64 0, .slice none 0 0] 31) = W from HW.out]
    go_wp2_with first | (go_at_call 35; refine (rtvalid_eq ht _ _ (HR.out.below BB.out)).mono ?_; rintro e w1 ⟨rfl, b1⟩; have B1 := Lib.hid b1; obtain ⟨y0, y1, y2, y3, y4, y5, y6, y7⟩ := cells8 (lies_below H0.out B1.out HZ.out); clear b1 x0 x1 x2 x3 x4 x5 x6 x7) | (go_at_call 48; refine (fits_eq (r := fresh r) hb (.slice none 0 0) _ WordsAt.nil).mono ?_; rintro e w2 ⟨rfl, b2⟩; have B2 := Lib.hid (B1.out.trans (b2.mono B1.out.size)); obtain ⟨z0, z1, z2, z3, z4, z5, z6, z7⟩ := cells8 (lies_below H0.out B2.out HZ.out); clear b2 y0 y1 y2 y3 y4 y5 y6 y7) | (go_at_call 36; refine (rfind_eq hm _ _ (HR.out.below (BB.out.trans (B2.out.mono BB.out.size)))).mono ?_; rintro e w3 ⟨rfl, rfl⟩)
    go_ret2
    exact ⟨_, rfl, RecsAt.nil, BB.out.trans (B2.out.mono BB.out.size)⟩
  have h64 : n ≤ 64 := by have := tabB_len ht; have := HL.out; omega
  by_cases hp : most ≤ (pend l : Int)
  · have hr : submitQ l r most = ([], 7) := by unfold submitQ; simp [ht, hb, hm, hf, hp]
    rw [hr]
    clear hr
    go_enter Tryd.func33, Tryd.ntmps33
    go_wp2_with fail
    rw [show w.alloc (.cells #[qs r.id, .int .i64 r.prog, .int .i64 r.kind, .int .i64 r.node, .int .i64 r.prio, .int .i64 1, .int .i64 0, .slice none 0 0] 31) = W from HW.out]
    go_wp2_with first | (go_at_call 35; refine (rtvalid_eq ht _ _ (HR.out.below BB.out)).mono ?_; rintro e w1 ⟨rfl, b1⟩; have B1 := Lib.hid b1; obtain ⟨y0, y1, y2, y3, y4, y5, y6, y7⟩ := cells8 (lies_below H0.out B1.out HZ.out); clear b1 x0 x1 x2 x3 x4 x5 x6 x7) | (go_at_call 48; refine (fits_eq (r := fresh r) hb (.slice none 0 0) _ WordsAt.nil).mono ?_; rintro e w2 ⟨rfl, b2⟩; have B2 := Lib.hid (B1.out.trans (b2.mono B1.out.size)); obtain ⟨z0, z1, z2, z3, z4, z5, z6, z7⟩ := cells8 (lies_below H0.out B2.out HZ.out); clear b2 y0 y1 y2 y3 y4 y5 y6 y7) | (go_at_call 36; refine (rfind_eq hm _ _ (HR.out.below (BB.out.trans (B2.out.mono BB.out.size)))).mono ?_; rintro e w3 ⟨rfl, rfl⟩) | (go_at_call 37; refine (rpending_eq _ _ (HR.out.below (BB.out.trans (B2.out.mono BB.out.size)))).mono ?_; rintro e w4 ⟨rfl, rfl⟩)
    go_ret2
    exact ⟨_, rfl, RecsAt.nil, BB.out.trans (B2.out.mono BB.out.size)⟩
  by_cases hq : 64 ≤ n
  · have hr : submitQ l r most = ([], 7) := by unfold submitQ; simp [ht, hb, hm, hf, hp, HL.out, hq]
    rw [hr]
    clear hr
    go_enter Tryd.func33, Tryd.ntmps33
    go_wp2_with fail
    rw [show w.alloc (.cells #[qs r.id, .int .i64 r.prog, .int .i64 r.kind, .int .i64 r.node, .int .i64 r.prio, .int .i64 1, .int .i64 0, .slice none 0 0] 31) = W from HW.out]
    go_wp2_with first | (go_at_call 35; refine (rtvalid_eq ht _ _ (HR.out.below BB.out)).mono ?_; rintro e w1 ⟨rfl, b1⟩; have B1 := Lib.hid b1; obtain ⟨y0, y1, y2, y3, y4, y5, y6, y7⟩ := cells8 (lies_below H0.out B1.out HZ.out); clear b1 x0 x1 x2 x3 x4 x5 x6 x7) | (go_at_call 48; refine (fits_eq (r := fresh r) hb (.slice none 0 0) _ WordsAt.nil).mono ?_; rintro e w2 ⟨rfl, b2⟩; have B2 := Lib.hid (B1.out.trans (b2.mono B1.out.size)); obtain ⟨z0, z1, z2, z3, z4, z5, z6, z7⟩ := cells8 (lies_below H0.out B2.out HZ.out); clear b2 y0 y1 y2 y3 y4 y5 y6 y7) | (go_at_call 36; refine (rfind_eq hm _ _ (HR.out.below (BB.out.trans (B2.out.mono BB.out.size)))).mono ?_; rintro e w3 ⟨rfl, rfl⟩) | (go_at_call 37; refine (rpending_eq _ _ (HR.out.below (BB.out.trans (B2.out.mono BB.out.size)))).mono ?_; rintro e w4 ⟨rfl, rfl⟩)
    go_ret2
    exact ⟨_, rfl, RecsAt.nil, BB.out.trans (B2.out.mono BB.out.size)⟩
  have hr : submitQ l r most = (l ++ [fresh r], 0) := by unfold submitQ; simp [ht, hb, hm, hf, hp, HL.out, hq]
  rw [hr]
  clear hr
  go_enter Tryd.func33, Tryd.ntmps33
  go_wp2_with fail
  rw [show w.alloc (.cells #[qs r.id, .int .i64 r.prog, .int .i64 r.kind, .int .i64 r.node, .int .i64 r.prio, .int .i64 1, .int .i64 0, .slice none 0 0] 31) = W from HW.out]
  go_wp2_with first | (go_at_call 35; refine (rtvalid_eq ht _ _ (HR.out.below BB.out)).mono ?_; rintro e w1 ⟨rfl, b1⟩; have B1 := Lib.hid b1; obtain ⟨y0, y1, y2, y3, y4, y5, y6, y7⟩ := cells8 (lies_below H0.out B1.out HZ.out); clear b1 x0 x1 x2 x3 x4 x5 x6 x7) | (go_at_call 48; refine (fits_eq (r := fresh r) hb (.slice none 0 0) _ WordsAt.nil).mono ?_; rintro e w2 ⟨rfl, b2⟩; have B2 := Lib.hid (B1.out.trans (b2.mono B1.out.size)); obtain ⟨z0, z1, z2, z3, z4, z5, z6, z7⟩ := cells8 (lies_below H0.out B2.out HZ.out); clear b2 y0 y1 y2 y3 y4 y5 y6 y7) | (go_at_call 36; refine (rfind_eq hm _ _ (HR.out.below (BB.out.trans (B2.out.mono BB.out.size)))).mono ?_; rintro e w3 ⟨rfl, rfl⟩) | (go_at_call 37; refine (rpending_eq _ _ (HR.out.below (BB.out.trans (B2.out.mono BB.out.size)))).mono ?_; rintro e w4 ⟨rfl, rfl⟩)
  obtain ⟨xss, sa, al, ln, oc⟩ := RecsAt.rows (HR.out.below (BB.out.trans (B2.out.mono BB.out.size)))
  have SA := Lib.hid sa
  have AL := Lib.hid al
  have OC := Lib.hid oc
  rw [HL.out] at ln
  have BF := Lib.hid (BB.out.trans (B2.out.mono BB.out.size))
  clear sa al oc
  go_region_held3 (fun w' => w'.cell? ⟨w.heap.size, 0, none⟩ = some (qs r.id) ∧ w'.cell? ⟨w.heap.size, 1, none⟩ = some (.int .i64 r.prog) ∧ w'.cell? ⟨w.heap.size, 2, none⟩ = some (.int .i64 r.kind) ∧ w'.cell? ⟨w.heap.size, 3, none⟩ = some (.int .i64 r.node) ∧ w'.cell? ⟨w.heap.size, 4, none⟩ = some (.int .i64 r.prio) ∧ w'.cell? ⟨w.heap.size, 5, none⟩ = some (.int .i64 1) ∧ w'.cell? ⟨w.heap.size, 6, none⟩ = some (.int .i64 0) ∧ w'.cell? ⟨w.heap.size, 7, none⟩ = some (.slice none 0 0)) (go_keep) ((first | (refine step_append_sl rfl (.tmp 36) (.tmp 37) 22 rfl w2.drew.heap.size 31 _ 8 88 Tryd.underlying22 info_rec rfl (by decide) _ _ _ (empty_rec w2.drew) rfl _ n xss.flatten rfl (SliceAt.same SA.out SameT.alloc) ln OC.out (by unfold maxLen; omega) (by omega) (by first | (simp; done) | (simp; omega)) ?_; intro g1 d1 v1 own1 gr1; have OW0 := Lib.hid own1; simp only [Nat.zero_add, List.nil_append] at own1; have OW1 := Lib.hid own1; have GR1 := Lib.hid gr1; have BV1 := Lib.hid (show Below w2.drew.heap.size w2.drew v1 from ((Below.refl w2.drew.heap.size w2.drew).alloc (Nat.le_refl _) (.cells #[] 31)).trans (Below.of_grown gr1 (empty_rec w2.drew) (by first | (simp; done) | (simp; omega)))); obtain ⟨t0, t1, t2, t3, t4, t5, t6, t7⟩ := cells8 (lies_below (w := w2.drew) (lies_below H0.out B2.out.drew HZ.out) BV1.out (Nat.lt_of_lt_of_le HZ.out B2.out.size)); clear own1 gr1) | (refine step_append_sl rfl (.tmp 36) (.tmp 37) 22 rfl w2.drew.heap.size 31 _ 8 88 Tryd.underlying22 info_rec rfl (by decide) _ _ _ ((empty_rec w2.drew).alloc (.cells #[qs r.id, .int .i64 r.prog, .int .i64 r.kind, .int .i64 r.node, .int .i64 r.prio, .int .i64 1, .int .i64 0, .slice none 0 0] 31)) rfl _ n xss.flatten rfl (SliceAt.same SA.out (SameT.trans SameT.alloc SameT.alloc)) ln OC.out (by unfold maxLen; omega) (by omega) (by first | (simp; done) | (simp; omega)) ?_; intro g1 d1 v1 own1 gr1; have OW0 := Lib.hid own1; simp only [Nat.zero_add, List.nil_append] at own1; have OW1 := Lib.hid own1; have GR1 := Lib.hid gr1; have BV1 := Lib.hid (show Below w2.drew.heap.size w2.drew v1 from (((Below.refl w2.drew.heap.size w2.drew).alloc (Nat.le_refl _) (.cells #[] 31)).alloc (by first | (simp; done) | (simp; omega)) (.cells #[qs r.id, .int .i64 r.prog, .int .i64 r.kind, .int .i64 r.node, .int .i64 r.prio, .int .i64 1, .int .i64 0, .slice none 0 0] 31)).trans (Below.of_grown gr1 ((empty_rec w2.drew).alloc (.cells #[qs r.id, .int .i64 r.prog, .int .i64 r.kind, .int .i64 r.node, .int .i64 r.prio, .int .i64 1, .int .i64 0, .slice none 0 0] 31)) (by first | (simp; done) | (simp; omega)))); obtain ⟨t0, t1, t2, t3, t4, t5, t6, t7⟩ := cells8 (lies_below (w := w2.drew) (lies_below H0.out B2.out.drew HZ.out) BV1.out (Nat.lt_of_lt_of_le HZ.out B2.out.size)); clear own1 gr1) | (refine step_append_sl rfl (.tmp 36) (.tmp 37) 22 rfl (w2.drew.heap.size + 1) 31 _ 8 88 Tryd.underlying22 info_rec rfl (by decide) _ _ _ (empty_rec1 w2.drew (.cells #[qs r.id, .int .i64 r.prog, .int .i64 r.kind, .int .i64 r.node, .int .i64 r.prio, .int .i64 1, .int .i64 0, .slice none 0 0] 31)) rfl _ n xss.flatten rfl (SliceAt.same SA.out (SameT.trans SameT.alloc SameT.alloc)) ln OC.out (by unfold maxLen; omega) (by omega) (by first | (simp; done) | (simp; omega)) ?_; intro g1 d1 v1 own1 gr1; have OW0 := Lib.hid own1; simp only [Nat.zero_add, List.nil_append] at own1; have OW1 := Lib.hid own1; have GR1 := Lib.hid gr1; have BV1 := Lib.hid (show Below w2.drew.heap.size w2.drew v1 from (((Below.refl w2.drew.heap.size w2.drew).alloc (Nat.le_refl _) (.cells #[qs r.id, .int .i64 r.prog, .int .i64 r.kind, .int .i64 r.node, .int .i64 r.prio, .int .i64 1, .int .i64 0, .slice none 0 0] 31)).alloc (by first | (simp; done) | (simp; omega)) (.cells #[] 31)).trans ((Below.of_grown gr1 (empty_rec1 w2.drew (.cells #[qs r.id, .int .i64 r.prog, .int .i64 r.kind, .int .i64 r.node, .int .i64 r.prio, .int .i64 1, .int .i64 0, .slice none 0 0] 31)) (by first | (simp; done) | (simp; omega))).mono (Nat.le_succ _))); obtain ⟨t0, t1, t2, t3, t4, t5, t6, t7⟩ := cells8 (lies_below (w := w2.drew) (lies_below H0.out B2.out.drew HZ.out) BV1.out (Nat.lt_of_lt_of_le HZ.out B2.out.size)); clear own1 gr1) | (refine step_append_sl rfl (.tmp 38) (.tmp 40) 22 rfl w2.drew.heap.size 31 _ 8 88 Tryd.underlying22 info_rec rfl (by decide) _ _ _ (OW1.out.alloc (.cells #[qs r.id, .int .i64 r.prog, .int .i64 r.kind, .int .i64 r.node, .int .i64 r.prio, .int .i64 1, .int .i64 0, .slice none 0 0] 31)) rfl _ 1 [qs r.id, .int .i64 r.prog, .int .i64 r.kind, .int .i64 r.node, .int .i64 r.prio, .int .i64 1, .int .i64 0, .slice none 0 0] rfl (SliceAt.new (w := v1) (T := 31) (sz := 8) [qs r.id, .int .i64 r.prog, .int .i64 r.kind, .int .i64 r.node, .int .i64 r.prio, .int .i64 1, .int .i64 0, .slice none 0 0] 1 rfl (by decide)) rfl rfl (by unfold maxLen; omega) (by omega) (Nat.le_trans BV1.out.size (by first | (simp; done) | (simp; omega))) ?_; intro g2 d2 v2 own2 gr2; have OW2 := Lib.hid own2; have BV2 := Lib.hid (show Below w2.drew.heap.size w2.drew v2 from (BV1.out.alloc BV1.out.size (.cells #[qs r.id, .int .i64 r.prog, .int .i64 r.kind, .int .i64 r.node, .int .i64 r.prio, .int .i64 1, .int .i64 0, .slice none 0 0] 31)).trans (Below.of_grown gr2 (OW1.out.alloc (.cells #[qs r.id, .int .i64 r.prog, .int .i64 r.kind, .int .i64 r.node, .int .i64 r.prio, .int .i64 1, .int .i64 0, .slice none 0 0] 31)) (Nat.le_trans BV1.out.size (by first | (simp; done) | (simp; omega))))); obtain ⟨p0, p1, p2, p3, p4, p5, p6, p7⟩ := cells8 (lies_below (w := w2.drew) (lies_below H0.out B2.out.drew HZ.out) BV2.out (Nat.lt_of_lt_of_le HZ.out B2.out.size)); clear own2 gr2) | (refine step_append_sl rfl (.tmp 38) (.tmp 40) 22 rfl w2.drew.heap.size 31 _ 8 88 Tryd.underlying22 info_rec rfl (by decide) _ _ _ OW0.out rfl _ 1 [qs r.id, .int .i64 r.prog, .int .i64 r.kind, .int .i64 r.node, .int .i64 r.prio, .int .i64 1, .int .i64 0, .slice none 0 0] rfl ((new_rec1 w2.drew (.cells #[] 31) [qs r.id, .int .i64 r.prog, .int .i64 r.kind, .int .i64 r.node, .int .i64 r.prio, .int .i64 1, .int .i64 0, .slice none 0 0] rfl).offB GR1.out (by show some w2.heap.size ≠ some (w2.heap.size + 1); simp)) rfl rfl (by unfold maxLen; omega) (by omega) BV1.out.size ?_; intro g2 d2 v2 own2 gr2; have OW2 := Lib.hid own2; have BV2 := Lib.hid (show Below w2.drew.heap.size w2.drew v2 from BV1.out.trans (Below.of_grown gr2 OW0.out BV1.out.size)); obtain ⟨p0, p1, p2, p3, p4, p5, p6, p7⟩ := cells8 (lies_below (w := w2.drew) (lies_below H0.out B2.out.drew HZ.out) BV2.out (Nat.lt_of_lt_of_le HZ.out B2.out.size)); clear own2 gr2) | (refine step_append_sl rfl (.tmp 38) (.tmp 40) 22 rfl (w2.drew.heap.size + 1) 31 _ 8 88 Tryd.underlying22 info_rec rfl (by decide) _ _ _ OW0.out rfl _ 1 [qs r.id, .int .i64 r.prog, .int .i64 r.kind, .int .i64 r.node, .int .i64 r.prio, .int .i64 1, .int .i64 0, .slice none 0 0] rfl ((SliceAt.same (SliceAt.new (w := w2.drew) (T := 31) (sz := 8) [qs r.id, .int .i64 r.prog, .int .i64 r.kind, .int .i64 r.node, .int .i64 r.prio, .int .i64 1, .int .i64 0, .slice none 0 0] 1 rfl (by decide)) SameT.alloc).offB GR1.out (by show some (w2.heap.size + 1) ≠ some w2.heap.size; simp)) rfl rfl (by unfold maxLen; omega) (by omega) (Nat.le_trans (by first | (simp; done) | (simp; omega)) GR1.out.size) ?_; intro g2 d2 v2 own2 gr2; have OW2 := Lib.hid own2; have BV2 := Lib.hid (show Below w2.drew.heap.size w2.drew v2 from BV1.out.trans ((Below.of_grown gr2 OW0.out (Nat.le_trans (by first | (simp; done) | (simp; omega)) GR1.out.size)).mono (Nat.le_succ _))); obtain ⟨p0, p1, p2, p3, p4, p5, p6, p7⟩ := cells8 (lies_below (w := w2.drew) (lies_below H0.out B2.out.drew HZ.out) BV2.out (Nat.lt_of_lt_of_le HZ.out B2.out.size)); clear own2 gr2)))
  all_goals
    go_wp2
    go_ret2
    exact ⟨_, rfl, RecsAt.push (SliceAt.of_owns (by have h := OW2.out; (try simp only [Nat.zero_add] at h); exact h)) (AL.out.mono fun _ _ hx => RecCells.keep (SameT.below (w := w2.drew) BV2.out) hx) ⟨_, rfl, WordsAt.nil⟩, BF.out.drew.trans (BV2.out.mono BF.out.size)⟩
end Go.Proofs.YtlchgbfpoaipgaaDoor
