/- Walk of the reference's test on a statement. -/
import Derived.Test.YtahdmekakbagnaaTxtW
import Derived.Deep.Light
namespace Go.Proofs.Ytahdmekakbagnaa
open Go.RowKit

theorem stmtOK_any (s : PStmt) (u t : Value) (w : World) (hu : StrsAt w u s.uses) (ht : StrsAt w t s.targets) :
    Calls Try.prog 35 #[.agg #[.int .i64 s.op, sv s.dfn, u, t]] w (BoolPost (stmtB s) w) := by
  obtain ⟨op, dfn, uses, targets⟩ := s
  obtain ⟨ua, uc, hu1, hu2, _⟩ := StrsAt.cell hu
  obtain ⟨ta, tc, ht1, ht2, _⟩ := StrsAt.cell ht
  simp only at hu1 hu2 ht1 ht2 hu ht
  subst hu1 ht1
  unfold maxLen at hu2 ht2
  obtain ⟨un, hun⟩ : ∃ n, uses.length = n := ⟨_, rfl⟩
  obtain ⟨tn, htn⟩ : ∃ n, targets.length = n := ⟨_, rfl⟩
  rw [hun] at hu hu2
  rw [htn] at ht ht2
  obtain ⟨d, hd⟩ : ∃ d, nameB dfn = d := ⟨_, rfl⟩
  obtain ⟨b1, hb1⟩ : ∃ b, namesB uses 0 4 = b := ⟨_, rfl⟩
  obtain ⟨b2, hb2⟩ : ∃ b, namesB targets 0 2 = b := ⟨_, rfl⟩
  have hS : stmtB ⟨op, dfn, uses, targets⟩ = (b1 && (b2 && opB op d dfn.isEmpty un tn)) := by unfold stmtB; rw [hb1, hb2, hd, hun, htn]
  rw [hS]
  simp only [hun, htn]
  have HU := Lib.hid hu
  have HT := Lib.hid ht
  have hR := Lib.hid (fun w => hd ▸ rname_any ⟨dfn.toArray⟩ w)
  have hN1 := Lib.hid (fun w h => hb1 ▸ namesOK_any uses (.slice ua un uc) 0 4 w h)
  have hN2 := Lib.hid (fun w h => hb2 ▸ namesOK_any targets (.slice ta tn tc) 0 2 w h)
  clear hd hb1 hb2 hS hun htn hu ht
  go_enter Try.func35, Try.ntmps35
  go_wp2_with fail
  refine (hR.out _).mono ?_
  rintro e w1 ⟨rfl, hb1⟩
  have k0 : w1.cell? ⟨w.heap.size, 0, none⟩ = some (.int .i64 op) := (hb1.cell (p := ⟨w.heap.size, 0, none⟩) (by simp)).trans (World.cell?_alloc_new _ _ _ _)
  have k1 : w1.cell? ⟨w.heap.size, 1, none⟩ = some (sv dfn) := (hb1.cell (p := ⟨w.heap.size, 1, none⟩) (by simp)).trans (World.cell?_alloc_new _ _ _ _)
  have k2 : w1.cell? ⟨w.heap.size, 2, none⟩ = some (.slice ua un uc) := (hb1.cell (p := ⟨w.heap.size, 2, none⟩) (by simp)).trans (World.cell?_alloc_new _ _ _ _)
  have k3 : w1.cell? ⟨w.heap.size, 3, none⟩ = some (.slice ta tn tc) := (hb1.cell (p := ⟨w.heap.size, 3, none⟩) (by simp)).trans (World.cell?_alloc_new _ _ _ _)
  have hz := hb1.size
  simp at hz
  have B1 := Lib.hid (((Below.refl w.heap.size w).alloc (Nat.le_refl _) _).trans (hb1.mono (by simp)))
  clear hb1
  go_wp2
  go_quiet (fail)
  have HU2 := Lib.hid (SliceAt.same (SliceAt.same HU.out (SameT.below B1.out)) (SameT.drewN (n := nq)))
  have HT2 := Lib.hid (SliceAt.same (SliceAt.same HT.out (SameT.below B1.out)) (SameT.drewN (n := nq)))
  clear HU HT
  go_wp2_with fail
  refine (hN1.out _ HU2.out).mono ?_
  rintro e w2 ⟨rfl, hb2⟩
  have j0 := (hb2.cell (p := ⟨w.heap.size, 0, none⟩) hz).trans k0
  have j1 := (hb2.cell (p := ⟨w.heap.size, 1, none⟩) hz).trans k1
  have j3 := (hb2.cell (p := ⟨w.heap.size, 3, none⟩) hz).trans k3
  have B2 := Lib.hid ((show Below w.heap.size w (w1.drewN nq) from below_drewN B1.out nq).trans (hb2.mono (show w.heap.size ≤ (w1.drewN nq).heap.size by show _ ≤ w1.heap.size; omega)))
  have HT3 := Lib.hid (SliceAt.same HT2.out (SameT.below hb2))
  have hz2 := hb2.size
  have hz3 : w1.heap.size ≤ w2.heap.size := hz2
  clear k0 k1 k2 k3 HT2 HU2 hb2 hz2
  cases b1
  · go_wp2
    go_ret
    exact ⟨rfl, B2.out⟩
  go_wp2_with fail
  refine (hN2.out _ HT3.out).mono ?_
  rintro e w3 ⟨rfl, hb3⟩
  have k0 := (hb3.cell (p := ⟨w.heap.size, 0, none⟩) (by show w.heap.size < _; omega)).trans j0
  have k1 := (hb3.cell (p := ⟨w.heap.size, 1, none⟩) (by show w.heap.size < _; omega)).trans j1
  have B3 := Lib.hid (B2.out.trans (hb3.mono (show w.heap.size ≤ w2.heap.size by omega)))
  clear j0 j1 j3 HT3 hb3 hN1 hN2 hR
  cases b2
  · go_wp2
    go_ret
    exact ⟨rfl, B3.out⟩
  clear hz hz3 B1 B2
  go_wp2
  all_goals
    go_ret
    refine ⟨ret_bool ?_, B3.out⟩
    go_light
    simp_all [opB]
    all_goals (first | done | omega | (rw [Bool.eq_iff_iff]; simp; omega) | (rw [Bool.eq_iff_iff]; simp))
end Go.Proofs.Ytahdmekakbagnaa
