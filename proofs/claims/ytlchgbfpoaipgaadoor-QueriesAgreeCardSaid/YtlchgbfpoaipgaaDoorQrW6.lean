/- Walks: queries.Submit. Printed by wip/gen_qrw6.py. -/
import Derived.Test.YtlchgbfpoaipgaaDoorQrW5
import Derived.Test.YtlchgbfpoaipgaaDoorSlR
import Derived.Deep.RegionHeld3
import Derived.Deep.RegionWith
set_option linter.unusedVariables false
set_option linter.unusedSimpArgs false
set_option linter.unusedSectionVars false
namespace Go.Proofs.YtlchgbfpoaipgaaDoor
open Go.RowKit
variable [Base]

/-- What a function that changes a table answers. -/
def TabQ (res : Res) (w : World) (e : Ending) (w' : World) : Prop := ∃ v, e = .returned (.tuple #[v, .int .i64 res.2]) ∧ RecsAt w' v res.1 ∧ Below w.heap.size w w'
theorem cells8 {w : World} {b : Nat} {t : TypeId} {c0 c1 c2 c3 c4 c5 c6 c7 : Value} (h : w.heap[b]? = some (.cells #[c0, c1, c2, c3, c4, c5, c6, c7] t (0, 0))) :
    w.cell? ⟨b, 0, none⟩ = some c0 ∧ w.cell? ⟨b, 1, none⟩ = some c1 ∧ w.cell? ⟨b, 2, none⟩ = some c2 ∧ w.cell? ⟨b, 3, none⟩ = some c3 ∧ w.cell? ⟨b, 4, none⟩ = some c4 ∧ w.cell? ⟨b, 5, none⟩ = some c5 ∧ w.cell? ⟨b, 6, none⟩ = some c6 ∧ w.cell? ⟨b, 7, none⟩ = some c7 := by
  have k := (lies_cells h).1
  exact ⟨k 0, k 1, k 2, k 3, k 4, k 5, k 6, k 7⟩
theorem tvalid_eq {B : Nat} {l : List QRec} {b : Bool} (hb : tabB l = b) (v : Value) (w : World) (KW : KwIn B w) (hB : B ≤ w.heap.size) (h : RecsAt w v l) : Calls Tryd.prog 22 #[v] w (BoolQ b w) := hb ▸ tvalid_any l v w KW hB h
theorem tabB_len {l : List QRec} (h : tabB l = true) : l.length ≤ 64 := by
  unfold tabB at h
  simp at h
  exact h.1
/-- The cells of a table's rows. -/
theorem RecsAt.rows {w : World} {v : Value} {l : List QRec} (h : RecsAt w v l) : ∃ xss, SliceAt w 31 8 v xss.flatten ∧ All2 (RecCells w) xss l ∧ xss.flatten.length = l.length * 8 ∧ xss.flatten.all Value.oneCell' = true := by
  obtain ⟨xss, h1, h2⟩ := h
  refine ⟨xss, h1, h2, ?_, ?_⟩
  · rw [flatten_len 8 xss (h2.eachR fun x f ⟨v, e, _⟩ => by rw [e]; rfl), h2.length]
  · rw [List.all_eq_true]
    intro x hx
    obtain ⟨y, hy, hxy⟩ := List.mem_flatten.1 hx
    exact h2.eachR (p := fun y => ∀ x ∈ y, x.oneCell' = true) (fun y r hyr x hx => by
      obtain ⟨u, rfl, hw⟩ := hyr
      obtain ⟨ua, uc, rfl, -⟩ := hw.cell
      simp only [List.mem_cons, List.not_mem_nil, or_false] at hx
      rcases hx with rfl | rfl | rfl | rfl | rfl | rfl | rfl | rfl <;> rfl) y hy x hxy
theorem RecsAt.push {w : World} {v : Value} {l : List QRec} {r : QRec} {xss : List (List Value)} {cs : List Value} (hs : SliceAt w 31 8 v (xss.flatten ++ cs)) (ha : All2 (RecCells w) xss l) (hc : RecCells w cs r) : RecsAt w v (l ++ [r]) :=
  ⟨xss ++ [cs], by simpa using hs, ha.append ⟨hc, trivial⟩⟩
set_option maxHeartbeats 1000000 in
theorem submit_any {B : Nat} (l : List QRec) (r : QRec) (most : Int) (v u : Value) (w : World) (KW : KwIn B w) (hB : B ≤ w.heap.size) (h : RecsAt w v l) (hu : WordsAt w u r.value.words) :
    Calls Tryd.prog 7 #[v, recV r u, .int .i64 most] w (TabQ (submitQ l r most) w) := by
  obtain ⟨a, c, rfl, hn, -, -, hc⟩ := h.cell
  have HK := Lib.hid KW
  obtain ⟨n, hl⟩ : ∃ n, l.length = n := ⟨_, rfl⟩
  rw [hl] at hn h ⊢
  have HL := Lib.hid hl
  have HR := Lib.hid h
  obtain ⟨u0, u1, rfl, -, -⟩ := hu.cell
  obtain ⟨un, hun⟩ : ∃ n, r.value.words.length = n := ⟨_, rfl⟩
  rw [hun]
  unfold maxLen at hn
  obtain ⟨W, hW⟩ : ∃ W, w.alloc (.cells #[qs r.id, .int .i64 r.prog, .int .i64 r.kind, .int .i64 r.node, .int .i64 r.prio, .int .i64 1, .int .i64 0, .slice none 0 0] 31) = W := ⟨_, rfl⟩
  have B0 : Below w.heap.size w W := by rw [← hW]; exact (Below.refl _ _).alloc (Nat.le_refl _) _
  have HB0 : W.heap[w.heap.size]? = some (.cells #[qs r.id, .int .i64 r.prog, .int .i64 r.kind, .int .i64 r.node, .int .i64 r.prio, .int .i64 1, .int .i64 0, .slice none 0 0] 31 (0, 0)) := by rw [← hW]; exact heap_alloc_new _ _
  have hzz := lt_heap HB0
  obtain ⟨x0, x1, x2, x3, x4, x5, x6, x7⟩ := cells8 HB0
  have HZ := Lib.hid hzz
  have H0 := Lib.hid HB0
  have BB := Lib.hid B0
  have HW := Lib.hid hW
  clear hc h hl KW hW HB0 B0 hzz hun hu
  rcases Bool.eq_false_or_eq_true (tabB l) with ht | ht
  rotate_left
  · have hr : submitQ l r most = ([], 1) := by unfold submitQ; simp [ht]
    rw [hr]
    clear hr
    go_enter Tryd.func7, Tryd.ntmps7
    go_wp2_with fail
    rw [show w.alloc (.cells #[qs r.id, .int .i64 r.prog, .int .i64 r.kind, .int .i64 r.node, .int .i64 r.prio, .int .i64 1, .int .i64 0, .slice none 0 0] 31) = W from HW.out]
    go_wp2_with first | (go_at_call 22; refine (tvalid_eq (B := B) ht _ _ (HK.out.keep fun q hq => BB.out.block q (by omega)) (Nat.le_trans hB BB.out.size) (HR.out.below BB.out)).mono ?_; rintro e w1 ⟨rfl, b1⟩; have B1 := Lib.hid b1; obtain ⟨y0, y1, y2, y3, y4, y5, y6, y7⟩ := cells8 (lies_below H0.out B1.out HZ.out); clear b1 x0 x1 x2 x3 x4 x5 x6 x7)
    go_ret2
    exact ⟨_, rfl, RecsAt.nil, BB.out.trans (B1.out.mono BB.out.size)⟩
  rcases Bool.eq_false_or_eq_true (recB (fresh r)) with hb | hb
  rotate_left
  · have hr : submitQ l r most = ([], 1) := by unfold submitQ; simp [hb]
    rw [hr]
    clear hr
    go_enter Tryd.func7, Tryd.ntmps7
    go_wp2_with fail
    rw [show w.alloc (.cells #[qs r.id, .int .i64 r.prog, .int .i64 r.kind, .int .i64 r.node, .int .i64 r.prio, .int .i64 1, .int .i64 0, .slice none 0 0] 31) = W from HW.out]
    go_wp2_with first | (go_at_call 22; refine (tvalid_eq (B := B) ht _ _ (HK.out.keep fun q hq => BB.out.block q (by omega)) (Nat.le_trans hB BB.out.size) (HR.out.below BB.out)).mono ?_; rintro e w1 ⟨rfl, b1⟩; have B1 := Lib.hid b1; obtain ⟨y0, y1, y2, y3, y4, y5, y6, y7⟩ := cells8 (lies_below H0.out B1.out HZ.out); clear b1 x0 x1 x2 x3 x4 x5 x6 x7) | (go_at_call 24; refine (rvalid_eq (B := B) (r := fresh r) hb (.slice none 0 0) _ (HK.out.keep fun q hq => (BB.out.trans (B1.out.mono BB.out.size)).block q (by omega)) (Nat.le_trans hB (BB.out.trans (B1.out.mono BB.out.size)).size) WordsAt.nil).mono ?_; rintro e w2 ⟨rfl, b2⟩; have B2 := Lib.hid (B1.out.trans (b2.mono B1.out.size)); obtain ⟨z0, z1, z2, z3, z4, z5, z6, z7⟩ := cells8 (lies_below H0.out B2.out HZ.out); clear b2 y0 y1 y2 y3 y4 y5 y6 y7)
    go_ret2
    exact ⟨_, rfl, RecsAt.nil, BB.out.trans (B2.out.mono BB.out.size)⟩
  by_cases hf : 0 ≤ findQ l r.id
  · have hr : submitQ l r most = ([], 6) := by unfold submitQ; simp [ht, hb, hf]
    rw [hr]
    clear hr
    go_enter Tryd.func7, Tryd.ntmps7
    go_wp2_with fail
    rw [show w.alloc (.cells #[qs r.id, .int .i64 r.prog, .int .i64 r.kind, .int .i64 r.node, .int .i64 r.prio, .int .i64 1, .int .i64 0, .slice none 0 0] 31) = W from HW.out]
    go_wp2_with first | (go_at_call 22; refine (tvalid_eq (B := B) ht _ _ (HK.out.keep fun q hq => BB.out.block q (by omega)) (Nat.le_trans hB BB.out.size) (HR.out.below BB.out)).mono ?_; rintro e w1 ⟨rfl, b1⟩; have B1 := Lib.hid b1; obtain ⟨y0, y1, y2, y3, y4, y5, y6, y7⟩ := cells8 (lies_below H0.out B1.out HZ.out); clear b1 x0 x1 x2 x3 x4 x5 x6 x7) | (go_at_call 24; refine (rvalid_eq (B := B) (r := fresh r) hb (.slice none 0 0) _ (HK.out.keep fun q hq => (BB.out.trans (B1.out.mono BB.out.size)).block q (by omega)) (Nat.le_trans hB (BB.out.trans (B1.out.mono BB.out.size)).size) WordsAt.nil).mono ?_; rintro e w2 ⟨rfl, b2⟩; have B2 := Lib.hid (B1.out.trans (b2.mono B1.out.size)); obtain ⟨z0, z1, z2, z3, z4, z5, z6, z7⟩ := cells8 (lies_below H0.out B2.out HZ.out); clear b2 y0 y1 y2 y3 y4 y5 y6 y7) | (go_at_call 25; refine (find_any l r.id _ _ (HR.out.below (BB.out.trans (B2.out.mono BB.out.size)))).mono ?_; rintro e w3 ⟨rfl, b3⟩; have B3 := Lib.hid (B2.out.trans (b3.mono B2.out.size)); obtain ⟨v0, v1, v2, v3, v4, v5, v6, v7⟩ := cells8 (lies_below H0.out B3.out HZ.out); clear b3 z0 z1 z2 z3 z4 z5 z6 z7)
    go_ret2
    exact ⟨_, rfl, RecsAt.nil, BB.out.trans (B3.out.mono BB.out.size)⟩
  have h64 : n ≤ 64 := by have := tabB_len ht; have := HL.out; omega
  by_cases hm : most ≤ (pend l : Int)
  · have hr : submitQ l r most = ([], 7) := by unfold submitQ; simp [ht, hb, hf, hm]
    rw [hr]
    clear hr
    go_enter Tryd.func7, Tryd.ntmps7
    go_wp2_with fail
    rw [show w.alloc (.cells #[qs r.id, .int .i64 r.prog, .int .i64 r.kind, .int .i64 r.node, .int .i64 r.prio, .int .i64 1, .int .i64 0, .slice none 0 0] 31) = W from HW.out]
    go_wp2_with first | (go_at_call 22; refine (tvalid_eq (B := B) ht _ _ (HK.out.keep fun q hq => BB.out.block q (by omega)) (Nat.le_trans hB BB.out.size) (HR.out.below BB.out)).mono ?_; rintro e w1 ⟨rfl, b1⟩; have B1 := Lib.hid b1; obtain ⟨y0, y1, y2, y3, y4, y5, y6, y7⟩ := cells8 (lies_below H0.out B1.out HZ.out); clear b1 x0 x1 x2 x3 x4 x5 x6 x7) | (go_at_call 24; refine (rvalid_eq (B := B) (r := fresh r) hb (.slice none 0 0) _ (HK.out.keep fun q hq => (BB.out.trans (B1.out.mono BB.out.size)).block q (by omega)) (Nat.le_trans hB (BB.out.trans (B1.out.mono BB.out.size)).size) WordsAt.nil).mono ?_; rintro e w2 ⟨rfl, b2⟩; have B2 := Lib.hid (B1.out.trans (b2.mono B1.out.size)); obtain ⟨z0, z1, z2, z3, z4, z5, z6, z7⟩ := cells8 (lies_below H0.out B2.out HZ.out); clear b2 y0 y1 y2 y3 y4 y5 y6 y7) | (go_at_call 25; refine (find_any l r.id _ _ (HR.out.below (BB.out.trans (B2.out.mono BB.out.size)))).mono ?_; rintro e w3 ⟨rfl, b3⟩; have B3 := Lib.hid (B2.out.trans (b3.mono B2.out.size)); obtain ⟨v0, v1, v2, v3, v4, v5, v6, v7⟩ := cells8 (lies_below H0.out B3.out HZ.out); clear b3 z0 z1 z2 z3 z4 z5 z6 z7) | (go_at_call 10; refine (pending_any l _ _ (HR.out.below (BB.out.trans (B3.out.mono BB.out.size)))).mono ?_; rintro e w4 ⟨rfl, b4⟩; have B4 := Lib.hid (B3.out.trans (b4.mono B3.out.size)); obtain ⟨s0, s1, s2, s3, s4, s5, s6, s7⟩ := cells8 (lies_below H0.out B4.out HZ.out); clear b4 v0 v1 v2 v3 v4 v5 v6 v7)
    go_ret2
    exact ⟨_, rfl, RecsAt.nil, BB.out.trans (B4.out.mono BB.out.size)⟩
  by_cases hq : n = 64
  · have hr : submitQ l r most = ([], 7) := by unfold submitQ; simp [ht, hb, hf, hm, HL.out, hq]
    have hqq : ((n : Int) == 64) = true := by simp [hq]
    rw [hr]
    clear hr hq
    go_enter Tryd.func7, Tryd.ntmps7
    go_wp2_with fail
    rw [show w.alloc (.cells #[qs r.id, .int .i64 r.prog, .int .i64 r.kind, .int .i64 r.node, .int .i64 r.prio, .int .i64 1, .int .i64 0, .slice none 0 0] 31) = W from HW.out]
    go_wp2_with first | (go_at_call 22; refine (tvalid_eq (B := B) ht _ _ (HK.out.keep fun q hq => BB.out.block q (by omega)) (Nat.le_trans hB BB.out.size) (HR.out.below BB.out)).mono ?_; rintro e w1 ⟨rfl, b1⟩; have B1 := Lib.hid b1; obtain ⟨y0, y1, y2, y3, y4, y5, y6, y7⟩ := cells8 (lies_below H0.out B1.out HZ.out); clear b1 x0 x1 x2 x3 x4 x5 x6 x7) | (go_at_call 24; refine (rvalid_eq (B := B) (r := fresh r) hb (.slice none 0 0) _ (HK.out.keep fun q hq => (BB.out.trans (B1.out.mono BB.out.size)).block q (by omega)) (Nat.le_trans hB (BB.out.trans (B1.out.mono BB.out.size)).size) WordsAt.nil).mono ?_; rintro e w2 ⟨rfl, b2⟩; have B2 := Lib.hid (B1.out.trans (b2.mono B1.out.size)); obtain ⟨z0, z1, z2, z3, z4, z5, z6, z7⟩ := cells8 (lies_below H0.out B2.out HZ.out); clear b2 y0 y1 y2 y3 y4 y5 y6 y7) | (go_at_call 25; refine (find_any l r.id _ _ (HR.out.below (BB.out.trans (B2.out.mono BB.out.size)))).mono ?_; rintro e w3 ⟨rfl, b3⟩; have B3 := Lib.hid (B2.out.trans (b3.mono B2.out.size)); obtain ⟨v0, v1, v2, v3, v4, v5, v6, v7⟩ := cells8 (lies_below H0.out B3.out HZ.out); clear b3 z0 z1 z2 z3 z4 z5 z6 z7) | (go_at_call 10; refine (pending_any l _ _ (HR.out.below (BB.out.trans (B3.out.mono BB.out.size)))).mono ?_; rintro e w4 ⟨rfl, b4⟩; have B4 := Lib.hid (B3.out.trans (b4.mono B3.out.size)); obtain ⟨s0, s1, s2, s3, s4, s5, s6, s7⟩ := cells8 (lies_below H0.out B4.out HZ.out); clear b4 v0 v1 v2 v3 v4 v5 v6 v7)
    go_ret2
    exact ⟨_, rfl, RecsAt.nil, BB.out.trans (B4.out.mono BB.out.size)⟩
  have hr : submitQ l r most = (l ++ [fresh r], 0) := by unfold submitQ; simp [ht, hb, hf, hm, HL.out, show ¬ 64 ≤ n by omega]
  have hqq : ((n : Int) == 64) = false := by rw [beq_eq_false_iff_ne]; omega
  rw [hr]
  clear hr hq
  go_enter Tryd.func7, Tryd.ntmps7
  go_wp2_with fail
  rw [show w.alloc (.cells #[qs r.id, .int .i64 r.prog, .int .i64 r.kind, .int .i64 r.node, .int .i64 r.prio, .int .i64 1, .int .i64 0, .slice none 0 0] 31) = W from HW.out]
  go_wp2_with first | (go_at_call 22; refine (tvalid_eq (B := B) ht _ _ (HK.out.keep fun q hq => BB.out.block q (by omega)) (Nat.le_trans hB BB.out.size) (HR.out.below BB.out)).mono ?_; rintro e w1 ⟨rfl, b1⟩; have B1 := Lib.hid b1; obtain ⟨y0, y1, y2, y3, y4, y5, y6, y7⟩ := cells8 (lies_below H0.out B1.out HZ.out); clear b1 x0 x1 x2 x3 x4 x5 x6 x7) | (go_at_call 24; refine (rvalid_eq (B := B) (r := fresh r) hb (.slice none 0 0) _ (HK.out.keep fun q hq => (BB.out.trans (B1.out.mono BB.out.size)).block q (by omega)) (Nat.le_trans hB (BB.out.trans (B1.out.mono BB.out.size)).size) WordsAt.nil).mono ?_; rintro e w2 ⟨rfl, b2⟩; have B2 := Lib.hid (B1.out.trans (b2.mono B1.out.size)); obtain ⟨z0, z1, z2, z3, z4, z5, z6, z7⟩ := cells8 (lies_below H0.out B2.out HZ.out); clear b2 y0 y1 y2 y3 y4 y5 y6 y7) | (go_at_call 25; refine (find_any l r.id _ _ (HR.out.below (BB.out.trans (B2.out.mono BB.out.size)))).mono ?_; rintro e w3 ⟨rfl, b3⟩; have B3 := Lib.hid (B2.out.trans (b3.mono B2.out.size)); obtain ⟨v0, v1, v2, v3, v4, v5, v6, v7⟩ := cells8 (lies_below H0.out B3.out HZ.out); clear b3 z0 z1 z2 z3 z4 z5 z6 z7) | (go_at_call 10; refine (pending_any l _ _ (HR.out.below (BB.out.trans (B3.out.mono BB.out.size)))).mono ?_; rintro e w4 ⟨rfl, b4⟩; have B4 := Lib.hid (B3.out.trans (b4.mono B3.out.size)); obtain ⟨s0, s1, s2, s3, s4, s5, s6, s7⟩ := cells8 (lies_below H0.out B4.out HZ.out); clear b4 v0 v1 v2 v3 v4 v5 v6 v7)
  obtain ⟨xss, sa, al, ln, oc⟩ := RecsAt.rows (HR.out.below (BB.out.trans (B4.out.mono BB.out.size)))
  have SA := Lib.hid sa
  have AL := Lib.hid al
  have LN := Lib.hid ln
  have OC := Lib.hid oc
  rw [HL.out] at ln
  have BF := Lib.hid (BB.out.trans (B4.out.mono BB.out.size))
  clear sa al oc
  have CF := Lib.hid (rfl : ([qs r.id, .int .i64 r.prog, .int .i64 r.kind, .int .i64 r.node, .int .i64 r.prio, .int .i64 1, .int .i64 0, .slice none 0 0] : List Value).length = 1 * 8)
  have BA := Lib.hid (show Below w4.drew.heap.size w4.drew (w4.drew.alloc (.cells #[qs r.id, .int .i64 r.prog, .int .i64 r.kind, .int .i64 r.node, .int .i64 r.prio, .int .i64 1, .int .i64 0, .slice none 0 0] 31)) from (Below.refl _ _).alloc (Nat.le_refl _) _)
  go_region_held3 (fun w' => w'.cell? ⟨w.heap.size, 0, none⟩ = some (qs r.id) ∧ w'.cell? ⟨w.heap.size, 1, none⟩ = some (.int .i64 r.prog) ∧ w'.cell? ⟨w.heap.size, 2, none⟩ = some (.int .i64 r.kind) ∧ w'.cell? ⟨w.heap.size, 3, none⟩ = some (.int .i64 r.node) ∧ w'.cell? ⟨w.heap.size, 4, none⟩ = some (.int .i64 r.prio) ∧ w'.cell? ⟨w.heap.size, 5, none⟩ = some (.int .i64 1) ∧ w'.cell? ⟨w.heap.size, 6, none⟩ = some (.int .i64 0) ∧ w'.cell? ⟨w.heap.size, 7, none⟩ = some (.slice none 0 0)) (go_keep) ((first | (go_at_call 26; first | (refine (clone_rec _ n xss.flatten w4.drew SA.out ln OC.out (by omega)).mono ?_; rintro e v1 ⟨g, d, rfl, own, b1⟩; have OW := Lib.hid own; have BV := Lib.hid b1; obtain ⟨t0, t1, t2, t3, t4, t5, t6, t7⟩ := cells8 (lies_below (w := w4.drew) (lies_below H0.out B4.out.drew HZ.out) BV.out (Nat.lt_of_lt_of_le HZ.out B4.out.size)); clear own b1) | (refine (clone_rec _ n xss.flatten (w4.drew.alloc (.cells #[qs r.id, .int .i64 r.prog, .int .i64 r.kind, .int .i64 r.node, .int .i64 r.prio, .int .i64 1, .int .i64 0, .slice none 0 0] 31)) (SliceAt.same SA.out SameT.alloc) ln OC.out (by omega)).mono ?_; rintro e v1 ⟨g, d, rfl, own, b1⟩; have OW := Lib.hid own; have BV := Lib.hid b1; obtain ⟨t0, t1, t2, t3, t4, t5, t6, t7⟩ := cells8 (lies_below (w := w4.drew) (lies_below H0.out B4.out.drew HZ.out) (BA.out.trans (BV.out.mono BA.out.size)) (Nat.lt_of_lt_of_le HZ.out B4.out.size)); clear own b1)) | (refine step_append_sl rfl (.tmp 34) (.tmp 36) 22 rfl w4.drew.heap.size 31 _ 8 88 Tryd.underlying22 info_rec rfl (by decide) _ n xss.flatten (OW.out.alloc _) rfl _ 1 [qs r.id, .int .i64 r.prog, .int .i64 r.kind, .int .i64 r.node, .int .i64 r.prio, .int .i64 1, .int .i64 0, .slice none 0 0] rfl (SliceAt.new _ 1 rfl (by decide)) rfl rfl (by unfold maxLen; omega) (by omega) (Nat.le_trans BV.out.size (by simp)) ?_; intro g2 c2 v2 own2 gr2; have OW2 := Lib.hid own2; have BV2 := Lib.hid ((BV.out.alloc BV.out.size (.cells #[qs r.id, .int .i64 r.prog, .int .i64 r.kind, .int .i64 r.node, .int .i64 r.prio, .int .i64 1, .int .i64 0, .slice none 0 0] 31)).trans (Below.of_grown gr2 (OW.out.alloc _) (Nat.le_trans BV.out.size (by simp)))); obtain ⟨p0, p1, p2, p3, p4, p5, p6, p7⟩ := cells8 (lies_below (w := w4.drew) (lies_below H0.out B4.out.drew HZ.out) BV2.out (Nat.lt_of_lt_of_le HZ.out B4.out.size)); clear own2 gr2) | (refine step_append_sl rfl (.tmp 34) (.tmp 36) 22 rfl (w4.drew.alloc (.cells #[qs r.id, .int .i64 r.prog, .int .i64 r.kind, .int .i64 r.node, .int .i64 r.prio, .int .i64 1, .int .i64 0, .slice none 0 0] 31)).heap.size 31 _ 8 88 Tryd.underlying22 info_rec rfl (by decide) _ n xss.flatten OW.out rfl _ 1 [qs r.id, .int .i64 r.prog, .int .i64 r.kind, .int .i64 r.node, .int .i64 r.prio, .int .i64 1, .int .i64 0, .slice none 0 0] rfl (SliceAt.same (SliceAt.new (w := w4.drew) [qs r.id, .int .i64 r.prog, .int .i64 r.kind, .int .i64 r.node, .int .i64 r.prio, .int .i64 1, .int .i64 0, .slice none 0 0] 1 rfl (by decide)) (SameT.below BV.out)) rfl rfl (by unfold maxLen; omega) (by omega) BV.out.size ?_; intro g2 c2 v2 own2 gr2; have OW2 := Lib.hid own2; have BV2 := Lib.hid (BA.out.trans ((BV.out.trans (Below.of_grown gr2 OW.out BV.out.size)).mono BA.out.size)); obtain ⟨p0, p1, p2, p3, p4, p5, p6, p7⟩ := cells8 (lies_below (w := w4.drew) (lies_below H0.out B4.out.drew HZ.out) BV2.out (Nat.lt_of_lt_of_le HZ.out B4.out.size)); clear own2 gr2)))
  all_goals
    go_wp2
    go_ret2
    exact ⟨_, rfl, RecsAt.push (SliceAt.of_owns OW2.out) (AL.out.mono fun _ _ hx => RecCells.keep (SameT.below BV2.out) hx) ⟨_, rfl, WordsAt.nil⟩, BF.out.drew.trans (BV2.out.mono BF.out.size)⟩
end Go.Proofs.YtlchgbfpoaipgaaDoor
