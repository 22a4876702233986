/- Walks of package slices at records. Printed by wip/gen_slc.py. -/
import Derived.Test.YtlchgbfpoaipgaaDoorRows
import Derived.Test.YtlchgbfpoaipgaaDoorSlc
import Derived.Test.YtlchgbfpoaipgaaDoorBlk
import Derived.WalkKit
import Derived.WalkSpells
import Derived.WalkLawsBesides
import Derived.Lib.SliceRun
set_option linter.unusedVariables false
set_option linter.unusedSimpArgs false
set_option linter.unusedSectionVars false
namespace Go.Proofs.YtlchgbfpoaipgaaDoor
open Go.RowKit
variable [Base]

theorem info_rec : (Tryd.prog.info? 31).map (fun i => (i.zero, i.size, i.bytes)) = some (some (Value.agg #[.string ⟨#[]⟩, .int .i64 0, .int .i64 0, .int .i64 0, .int .i64 0, .int .i64 0, .int .i64 0, .slice none 0 0]), 8, 88) := by kernel_rfl
def Ownrec (w : World) (n : Nat) (xs : List Value) (e : Ending) (w' : World) : Prop :=
  ∃ a c, e = .returned (.slice a n c) ∧ w'.ownsRow w.heap.size 31 8 (.slice a n c) n xs ∧ Below w.heap.size w w'
theorem grown_rec {w : World} {n cap : Nat} (h1 : n ≤ cap) (h2 : cap ≤ maxLen) : (w.drew.alloc (.cells (Builtin.zeroCells ((Value.agg #[.string ⟨#[]⟩, .int .i64 0, .int .i64 0, .int .i64 0, .int .i64 0, .int .i64 0, .int .i64 0, .slice none 0 0]) : Value).cells n ++ Builtin.zeroCells ((Value.agg #[.string ⟨#[]⟩, .int .i64 0, .int .i64 0, .int .i64 0, .int .i64 0, .int .i64 0, .int .i64 0, .slice none 0 0]) : Value).cells (cap - n)) 31)).ownsRow w.heap.size 31 8 (.slice (some ⟨w.heap.size, 0, none⟩) 0 cap) 0 [] := by
  refine ⟨rfl, .inr ⟨w.heap.size, cap, _, rfl, Nat.le_refl _, heap_alloc_new w.drew _, Nat.zero_le _, h2, ?_, rfl⟩⟩
  rw [Array.size_append, size_zeroCells, size_zeroCells]
  show n * 8 + (cap - n) * 8 = cap * 8
  rw [← Nat.add_mul]
  congr 1
  omega
set_option maxRecDepth 100000 in
theorem grow_rec (n : Nat) (hn : n ≤ 1000000) (w : World) : Calls Tryd.prog 56 #[.slice none 0 0, .int .i64 n] w (Ownrec w 0 []) := by
  by_cases h0 : n = 0
  · subst h0
    go_enter Tryd.func56, Tryd.ntmps56
    go_wp2
    go_ret
    exact ⟨none, 0, rfl, World.ownsRow_nil _ _ _ _, Below.refl _ _⟩
  · have hpos : 0 < n := by omega
    obtain ⟨cap, h1, h2, hr⟩ := run_grow_nil (P := Tryd.prog) w 22 3 31 (Value.agg #[.string ⟨#[]⟩, .int .i64 0, .int .i64 0, .int .i64 0, .int .i64 0, .int .i64 0, .int .i64 0, .slice none 0 0]) 8 88 Tryd.underlying22 Tryd.underlying3 info_rec (by decide) n hpos (by omega) (by omega)
    obtain ⟨C, hC⟩ : ∃ C, (Builtin.zeroCells ((Value.agg #[.string ⟨#[]⟩, .int .i64 0, .int .i64 0, .int .i64 0, .int .i64 0, .int .i64 0, .int .i64 0, .slice none 0 0]) : Value).cells n ++ Builtin.zeroCells ((Value.agg #[.string ⟨#[]⟩, .int .i64 0, .int .i64 0, .int .i64 0, .int .i64 0, .int .i64 0, .int .i64 0, .slice none 0 0]) : Value).cells (cap - n)) = C := ⟨_, rfl⟩
    rw [hC] at hr
    have HC := Lib.hid hC
    clear h0 hC
    have hn' : (n : Int) > 0 := by omega
    have H1 := Lib.hid h1
    have H2 := Lib.hid h2
    have h3 : n ≤ cap := h1
    unfold maxLen at h2
    clear h1
    go_enter Tryd.func56, Tryd.ntmps56
    go_wp2_with (at_builtin; refine Lib.wpList_append_run _ rfl _ _ _ _ rfl _ _ rfl rfl _ _ (hr _) ?_)
    go_ret
    exact ⟨_, _, rfl, HC.out ▸ grown_rec H1.out H2.out, ((Below.refl _ _).alloc (Nat.le_refl _) _ : Below w.heap.size w (w.alloc _)).drew⟩

set_option maxRecDepth 100000 in
set_option maxHeartbeats 1000000 in
theorem concat_rec {a1 : Option Addr} {n1 c1 : Nat} {xs1 : List Value} {a2 : Option Addr} {n2 c2 : Nat} {xs2 : List Value} (b : Nat) (w : World) (hb : w.heap[b]? = some (.cells #[.slice a1 n1 c1, .slice a2 n2 c2] 22 (0, 0))) (h1 : SliceAt w 31 8 (.slice a1 n1 c1) xs1) (h2 : SliceAt w 31 8 (.slice a2 n2 c2) xs2) (l1 : xs1.length = n1 * 8) (l2 : xs2.length = n2 * 8) (o1 : xs1.all Value.oneCell' = true) (o2 : xs2.all Value.oneCell' = true) (hn : n1 + n2 ≤ 1000000) :
    Calls Tryd.prog 45 #[.slice (some ⟨b, 0, none⟩) 2 2] w (Ownrec w (n1 + n2) (xs1 ++ xs2)) := by
  have H1 := Lib.hid h1
  have L1 := Lib.hid l1
  have O1 := Lib.hid o1
  have H2 := Lib.hid h2
  have L2 := Lib.hid l2
  have O2 := Lib.hid o2
  have HB := Lib.hid hb
  have hlt := lt_heap hb
  have c1_ := (lies_cells hb).1 0
  have c2_ := (lies_cells hb).1 1
  simp at c1_ c2_
  clear hb h1 l1 o1 h2 l2 o2
  have hs : (n1 : Int) + (n2 : Int) = ((n1 + n2 : Nat) : Int) := by simp
  have HS := Lib.hid hs
  clear hs
  go_enter Tryd.func45, Tryd.ntmps45
  go_wp2
  refine wp_loop_rounds 3 ?_
  rw [rounds_succ]
  go_wp2_with fail
  rw [rounds_succ]
  go_wp2_with fail
  rw [rounds_succ]
  go_wp2_with fail
  rw [HS.out]
  refine (grow_rec (n1 + n2) hn w).mono ?_
  rintro e v0 ⟨g0, d0, rfl, own0, b0⟩
  have OW0 := Lib.hid own0
  have B0 := Lib.hid b0
  clear own0 b0
  clear c1_
  clear c2_
  have c1_ := (lies_cells ((B0.out.block b hlt).trans HB.out)).1 0
  have c2_ := (lies_cells ((B0.out.block b hlt).trans HB.out)).1 1
  simp at c1_ c2_
  go_wp2
  refine wp_loop_rounds 3 ?_
  rw [rounds_succ]
  go_wp2_with (at_builtin; refine wpList_append_sl rfl _ _ 22 rfl w.heap.size 31 _ 8 88 Tryd.underlying22 info_rec rfl (by decide) _ _ _ OW0.out rfl _ n1 _ rfl (SliceAt.same H1.out (SameT.below B0.out)) L1.out O1.out (by unfold maxLen; omega) (by omega) (by have := B0.out.size; omega) ?_; intro g1 d1 v1 own1 gr1; simp only [Nat.zero_add, List.nil_append] at own1; have OW1 := Lib.hid own1; have B1 := Lib.hid (B0.out.trans (Below.of_grown gr1 OW0.out (by have := B0.out.size; omega))); clear own1 gr1 c1_ c2_; have c1_ := (lies_cells ((B1.out.block b hlt).trans HB.out)).1 0; have c2_ := (lies_cells ((B1.out.block b hlt).trans HB.out)).1 1; simp at c1_ c2_)
  rw [rounds_succ]
  go_wp2_with (at_builtin; refine wpList_append_sl rfl _ _ 22 rfl w.heap.size 31 _ 8 88 Tryd.underlying22 info_rec rfl (by decide) _ _ _ OW1.out rfl _ n2 _ rfl (SliceAt.same H2.out (SameT.below B1.out)) L2.out O2.out (by unfold maxLen; omega) (by omega) (by have := B1.out.size; omega) ?_; intro g2 d2 v2 own2 gr2; have OW2 := Lib.hid own2; have B2 := Lib.hid (B1.out.trans (Below.of_grown gr2 OW1.out (by have := B1.out.size; omega))); clear own2 gr2 c1_ c2_; have c1_ := (lies_cells ((B2.out.block b hlt).trans HB.out)).1 0; have c2_ := (lies_cells ((B2.out.block b hlt).trans HB.out)).1 1; simp at c1_ c2_)
  rw [rounds_succ]
  go_wp2
  go_ret
  have OK := OW2.out
  simp only [Nat.zero_add, List.nil_append] at OK ⊢
  exact ⟨_, _, rfl, OK, B2.out⟩

theorem empty_rec (w : World) : (w.alloc (.cells #[] 31)).ownsRow w.heap.size 31 8 (.slice (some ⟨w.heap.size, 0, none⟩) 0 0) 0 [] :=
  ⟨rfl, .inr ⟨w.heap.size, 0, #[], rfl, Nat.le_refl _, heap_alloc_new w _, Nat.le_refl _, Nat.zero_le _, rfl, rfl⟩⟩
set_option maxRecDepth 100000 in
set_option maxHeartbeats 1000000 in
theorem clone_rec (v : Value) (n : Nat) (xs : List Value) (w : World) (h : SliceAt w 31 8 v xs) (hl : xs.length = n * 8) (ho : xs.all Value.oneCell' = true) (hn : n ≤ 1000000) :
    Calls Tryd.prog 26 #[v] w (Ownrec w n xs) := by
  have H := Lib.hid h
  have L := Lib.hid hl
  have O := Lib.hid ho
  obtain ⟨m, cap, e1, e2, e3, h4⟩ := h
  have hm : m = n := by omega
  subst hm
  obtain ⟨oa, oc, rfl, hoc, hnil⟩ : ∃ oa oc, v = .slice oa m oc ∧ oc ≤ maxLen ∧ (oa = none → m = 0 ∧ oc = 0) := by
    rcases h4 with ⟨⟨a, rfl⟩, rfl⟩ | ⟨b, off, c, fr, rfl, hb, hc⟩
    · exact ⟨a, 0, rfl, Nat.zero_le _, fun _ => ⟨rfl, rfl⟩⟩
    · exact ⟨_, cap, rfl, e3, fun h => by cases h⟩
  clear h4
  rcases oa with _ | oa
  · obtain ⟨rfl, rfl⟩ := hnil rfl
    have hx : xs = [] := List.length_eq_zero_iff.1 (by omega)
    subst hx
    clear hl ho e1 H L O
    have q := fun (w : World) (a : Option Addr) (n c n' c' : Nat) => Lib.run_eql_slice_nil (P := Tryd.prog) w 22 31 a n c n' c' Tryd.underlying22
    go_enter Tryd.func26, Tryd.ntmps26
    go_wp2
    go_ret
    exact ⟨none, 0, rfl, World.ownsRow_nil _ _ _ _, Below.refl _ _⟩
  · unfold maxLen at e3 hoc
    have OW := Lib.hid (empty_rec w)
    clear hl ho e1 hnil
    have q := fun (w : World) (a : Option Addr) (n c n' c' : Nat) => Lib.run_eql_slice_nil (P := Tryd.prog) w 22 31 a n c n' c' Tryd.underlying22
    go_enter Tryd.func26, Tryd.ntmps26
    go_wp2_with (at_builtin; refine wpList_append_sl rfl _ _ 22 rfl w.heap.size 31 _ 8 88 Tryd.underlying22 info_rec rfl (by decide) _ _ _ OW.out rfl _ m _ rfl (SliceAt.same H.out SameT.alloc) L.out O.out (by unfold maxLen; omega) (by omega) (by simp) ?_; intro g d w1 own1 gr1; simp only [Nat.zero_add, List.nil_append] at own1; have OW1 := Lib.hid own1; have B1 := Lib.hid (((Below.refl w.heap.size w).alloc (Nat.le_refl _) _).trans (Below.of_grown gr1 OW.out (by simp))); clear own1 gr1)
    go_ret
    exact ⟨_, _, by simp, OW1.out, B1.out⟩
end Go.Proofs.YtlchgbfpoaipgaaDoor
