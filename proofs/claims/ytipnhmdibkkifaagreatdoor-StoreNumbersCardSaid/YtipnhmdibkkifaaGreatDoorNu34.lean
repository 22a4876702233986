/- A part of the proof. -/
import Derived.Test.YtipnhmdibkkifaaGreatDoorNu32
import Derived.Test.YtipnhmdibkkifaaGreatDoorNu33
set_option linter.unusedVariables false
set_option linter.unusedSimpArgs false
set_option linter.unusedVariables false
set_option linter.unusedSimpArgs false
set_option linter.unusedSectionVars false
namespace Go.Proofs.YtipnhmdibkkifaaGreatDoor
open Go.RowKit
variable [Base]
abbrev stPT : Str := [102, 117, 110, 99, 32, 109, 10, 98, 108, 111, 99, 107, 32, 98, 10, 114, 101, 116, 117, 114, 110, 10, 101, 110, 100, 10]
theorem stP_text : printT stP = stPT := by kernel_rfl
theorem funcs_belowC {w w' : World} {v : Value} {p : List PFunc} (h : FuncsAt w v p) (b : Below w.heap.size w w') : FuncsAt w' v p := h.keep (SameT.below b) (SameT.below b) (SameT.below b) (SameT.below b)
theorem stP_edges {N : List PNode} (hN : N.length = 3) {nv sv' pv : Value} {w : World} (hN' : NodesAt w nv N) (hS : RowsAt intEl w sv' [[1], [2], []]) (hP : RowsAt intEl w pv [[], [0], [1]]) :
    Calls Tryz.prog 28 #[.agg #[nv, sv', pv]] w (IntQ 2 w) := by
  refine gedges_any hN' hS hP 3 hN rfl rfl (by decide) (by decide) (by decide) (by decide) (by decide) (by decide) ?_
  intro a l ha j b hb
  match a, ha with
  | 0, ha =>
    obtain rfl : [1] = l := by simpa using ha
    match j, hb with
    | 0, hb =>
      obtain rfl : 1 = b := by simpa using hb
      exact ⟨1, [0], rfl, by decide, rfl, by decide⟩
  | 1, ha =>
    obtain rfl : [2] = l := by simpa using ha
    match j, hb with
    | 0, hb =>
      obtain rfl : 2 = b := by simpa using hb
      exact ⟨2, [1], rfl, by decide, rfl, by decide⟩
  | 2, ha =>
    obtain rfl : [] = l := by simpa using ha
    simp at hb
theorem cells7C {b : Nat} {w : World} {v0 v1 v2 v3 v4 v5 v6 : Value} {t : TypeId} (h : w.heap[b]? = some (.cells #[v0, v1, v2, v3, v4, v5, v6] t (0, 0))) :
    w.cell? ⟨b, 0, none⟩ = some v0 ∧ w.cell? ⟨b, 1, none⟩ = some v1 ∧ w.cell? ⟨b, 2, none⟩ = some v2 ∧ w.cell? ⟨b, 3, none⟩ = some v3 ∧ w.cell? ⟨b, 4, none⟩ = some v4 ∧ w.cell? ⟨b, 5, none⟩ = some v5 ∧ w.cell? ⟨b, 6, none⟩ = some v6 := by
  simp [World.cell?, h]
theorem cells1C {b : Nat} {w : World} {v0 : Value} {t : TypeId} (h : w.heap[b]? = some (.cells #[v0] t (0, 0))) : w.cell? ⟨b, 0, none⟩ = some v0 := by
  simp [World.cell?, h]
set_option maxRecDepth 100000 in
set_option maxHeartbeats 8000000 in
theorem scheck_any {B : Nat} {w : World} (kw : KwIn B w) (hB : B ≤ w.heap.size) (v : Value) (h : FuncsAt w v stP) :
    Calls Tryz.prog 15 #[.agg #[iv 2, iv 3, iv 4, iv 20, iv 30, iv 3, iv 2], .agg #[v]] w (IntQ 0 w) := by
  obtain ⟨a, c, rfl, -, -⟩ := h.cell
  have hlen : stP.length = 1 := rfl
  rw [hlen] at h ⊢
  obtain ⟨z, hz⟩ : ∃ b, w.heap.size = b := ⟨_, rfl⟩
  have HZ := Lib.hid hz
  have KC := Lib.hid (fun (x : World) (b : Below z w x) => check_any (kw.keep fun k hk => b.block k (by omega)) (by have := b.size; omega) stP (.slice a 1 c) (funcs_belowC h (hz ▸ b)) stP_fit)
  have KB := Lib.hid (fun (x : World) (b : Below z w x) => build_any (kw.keep fun k hk => b.block k (by omega)) (by have := b.size; omega) stP (.slice a 1 c) (funcs_belowC h (hz ▸ b)) stP_fit)
  have KP := Lib.hid (fun (x : World) (b : Below z w x) => pprint_any (kw.keep fun k hk => b.block k (by omega)) (by have := b.size; omega) stP stP_valid stP_fit (.slice a 1 c) (funcs_belowC h (hz ▸ b)))
  rw [stP_check] at KC
  rw [stP_text] at KP
  obtain ⟨W0, hW0⟩ : ∃ W, w.alloc (.cells #[iv 2, iv 3, iv 4, iv 20, iv 30, iv 3, iv 2] 28) = W := ⟨_, rfl⟩
  obtain ⟨W, hW⟩ : ∃ W, W0.alloc (.cells #[.slice a 1 c] 48) = W := ⟨_, rfl⟩
  have hz0 : W0.heap.size = z + 1 := by rw [← hW0, ← hz]; simp
  have BW0 : Below z w W0 := by rw [← hW0, ← hz]; exact (Below.refl _ _).alloc (Nat.le_refl _) _
  have B01 : Below (z + 1) W0 W := by rw [← hW, ← hz0]; exact (Below.refl _ _).alloc (Nat.le_refl _) _
  have BW := Lib.hid (show Below z w W from BW0.trans (B01.mono (by omega)))
  have HC0 : W0.heap[z]? = some (.cells #[iv 2, iv 3, iv 4, iv 20, iv 30, iv 3, iv 2] 28 (0, 0)) := by rw [← hW0, ← hz]; exact heap_alloc_new _ _
  have HC := Lib.hid (lies_below HC0 B01 (Nat.lt_succ_self _))
  have HP := Lib.hid (show W.heap[z + 1]? = some (.cells #[.slice a 1 c] 48 (0, 0)) by rw [← hW, ← hz0]; exact heap_alloc_new _ _)
  have HW0 := Lib.hid hW0
  have HWW := Lib.hid hW
  have HWZ := Lib.hid (show W.heap.size = z + 2 by rw [← hW]; simp [hz0])
  clear h hlen hz0 BW0 B01 HC0 hW0 hW kw
  go_enter Tryz.func15, Tryz.ntmps15
  have x0 := cells1C HP.out
  go_upto_region 1 with (fail)
  rw [show w.alloc (.cells #[iv 2, iv 3, iv 4, iv 20, iv 30, iv 3, iv 2] 28) = W0 from HW0.out]
  rw [show W0.alloc (.cells #[.slice a 1 c] 48) = W from HWW.out]
  try rw [hz]
  go_wp2_with fail
  refine (KC.out W BW.out).mono ?_
  rintro e w1 ⟨n0, n1, n2, n3, rfl, b1⟩
  have B1 := Lib.hid (BW.out.trans (b1.mono (by have := HZ.out; have := BW.out.size; omega)))
  have HP1 := Lib.hid (lies_below HP.out b1 (lt_heap HP.out))
  have HC1 := Lib.hid (lies_below HC.out b1 (lt_heap HC.out))
  clear b1 x0
  obtain ⟨U, hU⟩ : ∃ U, w1.alloc (.cells #[iv n0, iv n1, iv n2, iv n3] 80) = U := ⟨_, rfl⟩
  have BU := Lib.hid (show Below w1.heap.size w1 U by rw [← hU]; exact (Below.refl _ _).alloc (Nat.le_refl _) _)
  have B1U := Lib.hid (B1.out.trans (BU.out.mono (by have := HZ.out; have := B1.out.size; omega)))
  have HPU := Lib.hid (lies_below HP1.out BU.out (lt_heap HP1.out))
  have HCU := Lib.hid (lies_below HC1.out BU.out (lt_heap HC1.out))
  have HUU := Lib.hid hU
  clear hU
  go_upto_region 2 with (fail)
  rw [show w1.alloc (.cells #[iv n0, iv n1, iv n2, iv n3] 80) = U from HUU.out]
  have x0 := cells1C HPU.out
  go_wp2_with fail
  refine (KB.out U B1U.out).mono ?_
  rintro e w2 ⟨nv, sv', pv, rfl, hnv, hsv, hpv, b2⟩
  have B2 := Lib.hid (B1U.out.trans (b2.mono (by have := HZ.out; have := B1U.out.size; omega)))
  have HP2 := Lib.hid (lies_below HPU.out b2 (lt_heap HPU.out))
  have HC2 := Lib.hid (lies_below HCU.out b2 (lt_heap HCU.out))
  rw [stP_succs] at hsv
  rw [stP_preds] at hpv
  have HNV := Lib.hid hnv
  have HSV := Lib.hid hsv
  have HPV := Lib.hid hpv
  obtain ⟨na, nc, rfl, -⟩ := hnv.cell
  obtain ⟨sa, sc, rfl, -⟩ := hsv.cell
  obtain ⟨pa, pc, rfl, -⟩ := hpv.cell
  have hn3 := stP_nodes
  rw [hn3] at HNV
  rw [hn3]
  clear b2 x0 hnv hsv hpv hn3
  rw [stP_check]
  obtain ⟨V, hV⟩ : ∃ V, w2.alloc (.cells #[.slice na 3 nc, .slice sa 3 sc, .slice pa 3 pc] 85) = V := ⟨_, rfl⟩
  obtain ⟨gb, hgb⟩ : ∃ b, w2.heap.size = b := ⟨_, rfl⟩
  have BV := Lib.hid (show Below w2.heap.size w2 V by rw [← hV]; exact (Below.refl _ _).alloc (Nat.le_refl _) _)
  have B2V := Lib.hid (B2.out.trans (BV.out.mono (by have := HZ.out; have := B2.out.size; omega)))
  have HG := Lib.hid (show V.heap[gb]? = some (.cells #[.slice na 3 nc, .slice sa 3 sc, .slice pa 3 pc] 85 (0, 0)) by rw [← hV, ← hgb]; exact heap_alloc_new _ _)
  have HPV2 := Lib.hid (lies_below HP2.out BV.out (lt_heap HP2.out))
  have HCV := Lib.hid (lies_below HC2.out BV.out (lt_heap HC2.out))
  have KE := Lib.hid (fun (x : World) (b : Below V.heap.size V x) => stP_edges (by rfl) (HNV.out.below (BV.out.trans (b.mono BV.out.size))) (HSV.out.below (BV.out.trans (b.mono BV.out.size))) (HPV.out.below (BV.out.trans (b.mono BV.out.size))))
  have HSS := Lib.hid (show ∀ w', Below V.heap.size V w' → (w'.cell? ⟨gb, 0, none⟩ = some (.slice na 3 nc) ∧ w'.cell? ⟨gb, 1, none⟩ = some (.slice sa 3 sc) ∧ w'.cell? ⟨gb, 2, none⟩ = some (.slice pa 3 pc) ∧ w'.cell? ⟨z, 3, none⟩ = some (iv 20) ∧ w'.cell? ⟨z, 4, none⟩ = some (iv 30) ∧ w'.cell? ⟨z + 1, 0, none⟩ = some (.slice a 1 c)) from fun w' h => by
    obtain ⟨g0, g1, g2⟩ := cells3G (lies_below HG.out h (lt_heap HG.out))
    obtain ⟨c0, c1, c2, c3, c4, c5, c6⟩ := cells7C (lies_below HCV.out h (lt_heap HCV.out))
    exact ⟨g0, g1, g2, c3, c4, cells1C (lies_below HPV2.out h (lt_heap HPV2.out))⟩)
  have HVV := Lib.hid hV
  clear hV
  go_upto_region 5 with (fail)
  rw [show w2.alloc (.cells #[.slice na 3 nc, .slice sa 3 sc, .slice pa 3 pc] 85) = V from HVV.out]
  try rw [hgb]
  refine wp_region_D (S := fun w' => w'.cell? ⟨gb, 0, none⟩ = some (.slice na 3 nc) ∧ w'.cell? ⟨gb, 1, none⟩ = some (.slice sa 3 sc) ∧ w'.cell? ⟨gb, 2, none⟩ = some (.slice pa 3 pc) ∧ w'.cell? ⟨z, 3, none⟩ = some (iv 20) ∧ w'.cell? ⟨z, 4, none⟩ = some (iv 30) ∧ w'.cell? ⟨z + 1, 0, none⟩ = some (.slice a 1 c)) (st := 19) (by kernel_rfl) ?_
  have hS0 : (fun w' : World => w'.cell? ⟨gb, 0, none⟩ = some (.slice na 3 nc) ∧ w'.cell? ⟨gb, 1, none⟩ = some (.slice sa 3 sc) ∧ w'.cell? ⟨gb, 2, none⟩ = some (.slice pa 3 pc) ∧ w'.cell? ⟨z, 3, none⟩ = some (iv 20) ∧ w'.cell? ⟨z, 4, none⟩ = some (iv 30) ∧ w'.cell? ⟨z + 1, 0, none⟩ = some (.slice a 1 c)) (V.drewN 1) := (HSS.out (V.drewN 1) (below_drewQ (Below.refl _ _) 1))
  refine wpAnyT_pureN 0 (some 22) ?v1 rfl (by kernel_rfl) (by kernel_rfl) (by kernel_rfl) rfl (fun _ _ _ h => h) hS0 (by kernel_rfl) rfl ?run1 ?rest1
  case run1 => intro w hS; obtain ⟨s0, s1, s2, s3, s4, s5⟩ := hS; go_simp; rfl
  refine wpAnyT_pureN 1 (some 23) ?v2 rfl (by kernel_rfl) (by kernel_rfl) (by kernel_rfl) rfl (fun _ _ _ h => h) hS0 (by kernel_rfl) rfl ?run2 ?rest2
  case run2 => intro w hS; obtain ⟨s0, s1, s2, s3, s4, s5⟩ := hS; go_simp; rfl
  refine wpAnyT_pureN 2 (some 24) ?v3 rfl (by kernel_rfl) (by kernel_rfl) (by kernel_rfl) rfl (fun _ _ _ h => h) hS0 (by kernel_rfl) rfl ?run3 ?rest3
  case run3 => intro w hS; obtain ⟨s0, s1, s2, s3, s4, s5⟩ := hS; go_simp; rfl
  refine wpAnyT_pureN 3 (some 25) ?v4 rfl (by kernel_rfl) (by kernel_rfl) (by kernel_rfl) rfl (fun _ _ _ h => h) hS0 (by kernel_rfl) rfl ?run4 ?rest4
  case run4 => intro w hS; obtain ⟨s0, s1, s2, s3, s4, s5⟩ := hS; go_simp; rfl
  refine wpAnyT_pureN 4 (some 26) ?v5 rfl (by kernel_rfl) (by kernel_rfl) (by kernel_rfl) rfl (fun _ _ _ h => h) hS0 (by kernel_rfl) rfl ?run5 ?rest5
  case run5 => intro w hS; obtain ⟨s0, s1, s2, s3, s4, s5⟩ := hS; go_simp; rfl
  refine wpAnyT_pureN 5 (some 27) ?v6 rfl (by kernel_rfl) (by kernel_rfl) (by kernel_rfl) rfl (fun _ _ _ h => h) hS0 (by kernel_rfl) rfl ?run6 ?rest6
  case run6 => intro w hS; obtain ⟨s0, s1, s2, s3, s4, s5⟩ := hS; go_simp; rfl
  refine wpAnyT_pureN 6 (some 28) ?v7 rfl (by kernel_rfl) (by kernel_rfl) (by kernel_rfl) rfl (fun _ _ _ h => h) hS0 (by kernel_rfl) rfl ?run7 ?rest7
  case run7 => intro w hS; obtain ⟨s0, s1, s2, s3, s4, s5⟩ := hS; go_simp; rfl
  refine wpAnyT_pureN 7 (some 29) ?v8 rfl (by kernel_rfl) (by kernel_rfl) (by kernel_rfl) rfl (fun _ _ _ h => h) hS0 (by kernel_rfl) rfl ?run8 ?rest8
  case run8 => intro w hS; obtain ⟨s0, s1, s2, s3, s4, s5⟩ := hS; go_simp; rfl
  refine wpAnyT_pureN 9 (some 31) ?v9 rfl (by kernel_rfl) (by kernel_rfl) (by kernel_rfl) rfl (fun _ _ _ h => h) hS0 (by kernel_rfl) rfl ?run9 ?rest9
  case run9 => intro w hS; obtain ⟨s0, s1, s2, s3, s4, s5⟩ := hS; go_simp; rfl
  refine wpAnyT_pureN 10 (some 32) ?v10 rfl (by kernel_rfl) (by kernel_rfl) (by kernel_rfl) rfl (fun _ _ _ h => h) hS0 (by kernel_rfl) rfl ?run10 ?rest10
  case run10 => intro w hS; obtain ⟨s0, s1, s2, s3, s4, s5⟩ := hS; go_simp; rfl
  refine wpAnyT_call 8 (some 30) 28 #[.agg #[.slice na 3 nc, .slice sa 3 sc, .slice pa 3 pc]] rfl (by kernel_rfl) (by kernel_rfl) (by kernel_rfl) rfl ?_
  refine (KE.out (V.drewN 1) (below_drewQ (Below.refl _ _) 1)).mono ?_
  rintro e m1 ⟨rfl, b1⟩
  have BB1 := Lib.hid ((below_drewQ (Below.refl _ _) 1).trans b1 : Below V.heap.size V m1)
  clear hS0 b1
  have hS0 := HSS.out _ BB1.out
  refine ⟨_, rfl, fun _ => hS0, ?_⟩
  refine wpAnyT_pureN 11 (some 33) ?v11 rfl (by kernel_rfl) (by kernel_rfl) (by kernel_rfl) rfl (fun _ _ _ h => h) hS0 (by kernel_rfl) rfl ?run11 ?rest11
  case run11 => intro w hS; obtain ⟨s0, s1, s2, s3, s4, s5⟩ := hS; go_simp; rfl
  refine wpAnyT_pureN 12 (some 34) ?v12 rfl (by kernel_rfl) (by kernel_rfl) (by kernel_rfl) rfl (fun _ _ _ h => h) hS0 (by kernel_rfl) rfl ?run12 ?rest12
  case run12 => intro w hS; obtain ⟨s0, s1, s2, s3, s4, s5⟩ := hS; go_simp; rfl
  refine wpAnyT_pureN 13 (some 35) ?v13 rfl (by kernel_rfl) (by kernel_rfl) (by kernel_rfl) rfl (fun _ _ _ h => h) hS0 (by kernel_rfl) rfl ?run13 ?rest13
  case run13 => intro w hS; obtain ⟨s0, s1, s2, s3, s4, s5⟩ := hS; go_simp; rfl
  refine wpAnyT_pureN 14 (some 36) ?v14 rfl (by kernel_rfl) (by kernel_rfl) (by kernel_rfl) rfl (fun _ _ _ h => h) hS0 (by kernel_rfl) rfl ?run14 ?rest14
  case run14 => intro w hS; obtain ⟨s0, s1, s2, s3, s4, s5⟩ := hS; go_simp; rfl
  refine wpAnyT_call 15 (some 37) 29 #[.agg #[.slice a 1 c]] rfl (by kernel_rfl) (by kernel_rfl) (by kernel_rfl) rfl ?_
  refine (KP.out m1 (HZ.out ▸ B2V.out.trans (BB1.out.mono (by have := HZ.out; have := B2V.out.size; omega)))).mono ?_
  rintro e m2 ⟨rfl, b2⟩
  have BB2 := Lib.hid (BB1.out.trans (b2.mono BB1.out.size))
  clear hS0 b2
  have hS0 := HSS.out _ BB2.out
  refine ⟨_, rfl, fun _ => hS0, ?_⟩
  refine wpAnyT_pureN 16 (some 38) ?v15 rfl (by kernel_rfl) (by kernel_rfl) (by kernel_rfl) rfl (fun _ _ _ h => h) hS0 (by kernel_rfl) rfl ?run15 ?rest15
  case run15 => intro w hS; obtain ⟨s0, s1, s2, s3, s4, s5⟩ := hS; go_simp; rfl
  refine wpAnyT_pureN 17 (some 39) ?v16 rfl (by kernel_rfl) (by kernel_rfl) (by kernel_rfl) rfl (fun _ _ _ h => h) hS0 (by kernel_rfl) rfl ?run16 ?rest16
  case run16 => intro w hS; obtain ⟨s0, s1, s2, s3, s4, s5⟩ := hS; go_simp; rfl
  refine wpAnyT_pureN 18 (some 40) ?v17 rfl (by kernel_rfl) (by kernel_rfl) (by kernel_rfl) rfl (fun _ _ _ h => h) hS0 (by kernel_rfl) rfl ?run17 ?rest17
  case run17 => intro w hS; obtain ⟨s0, s1, s2, s3, s4, s5⟩ := hS; go_simp; rfl
  refine wpAnyT_done (by kernel_rfl) ?_ _
  generalize hA : Act.put _ _ _ = A0
  simp only [put_mk, put_no, List.setIfInBounds_toArray, List.set_cons_succ, List.set_cons_zero] at hA
  subst hA
  go_wp2
  go_ret
  exact ⟨rfl, by rw [HZ.out]; exact B2V.out.trans (BB2.out.mono (by have := HZ.out; have := B2V.out.size; omega))⟩
end Go.Proofs.YtipnhmdibkkifaaGreatDoor
