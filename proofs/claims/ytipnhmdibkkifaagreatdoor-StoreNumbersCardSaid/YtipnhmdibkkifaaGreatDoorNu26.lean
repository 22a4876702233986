/- A part of the proof. -/
import Derived.Test.YtipnhmdibkkifaaGreatDoorNu25
import Derived.Test.YtipnhmdibkkifaaGreatDoorNu07
set_option linter.unusedVariables false
set_option linter.unusedSimpArgs false
set_option linter.unusedVariables false
set_option linter.unusedSimpArgs false
set_option linter.unusedSectionVars false
namespace Go.Proofs.YtipnhmdibkkifaaGreatDoor
open Go.RowKit
variable [Base]
theorem StL.grown {B bp R : Nat} {T : List Tok} {w0 w w' : World} {s : PS} {x0 x1 x2 x3 : Value} (h : StL B bp R T w0 s w x0 x1 x2 x3) {v : Value} {n : Nat} {xs : List Value} (hg : w.grownBy w' v.ownBlock) (ho : w.ownsRow (R + 2) 9 1 v n xs) : StL B bp R T w0 s w' x0 x1 x2 x3 := by
  have hz := lt_heap h.loc
  have hbel := Below.of_grown hg ho (by omega)
  have hlt := h.lt
  have hsz := h.size
  exact ⟨h.p.grown hg ho (by decide) (by omega) (by omega), h.but.belowB hbel (by omega), h.size, h.lt, (hbel.block R (by omega)).trans h.res, (hbel.block (R + 1) (by omega)).trans h.loc⟩
theorem one_strs {w : World} {g : Nat} {x : Str} (h : w.heap[g]? = some (.cells #[sv x] 9 (0, 0))) : StrsAt w (.slice (some ⟨g, 0, none⟩) 1 1) [x] :=
  SliceAt.of_owns (own_one h (Nat.le_refl g))
set_option maxHeartbeats 1000000 in
theorem stmt_target3 {B bp : Nat} {T : List Tok} {s : PS} {w : World} (h : PSt B bp T s w) (hT : T.length ≤ 1000000) (hN : isN T s = false) (hS : startsB T s = true) (hop : opOf (s.next T).text = 3) :
    Calls Tryz.prog 66 #[.pointer (some ⟨bp, 0, none⟩)] w (StPost B bp T s w) := by
  have hlt := h.lt
  have H := Lib.hid h
  have L0 := Lib.hid (stl_start h)
  clear h
  go_enter Tryz.func66, Tryz.ntmps66
  have HN := Lib.hid hN
  have HS := Lib.hid hS
  have HOP := Lib.hid hop
  have HK := Lib.hid (starts_in hS hN)
  clear hN hS hop
  go_wp2_with fail
  refine (isName_any L0.out.p).mono ?_
  rintro e v1 ⟨rfl, hc, hb⟩
  have L1 := Lib.hid (L0.out.call hc hb)
  clear hc hb
  rw [HN.out]
  go_wp2_with fail
  refine (starts_any L1.out.p).mono ?_
  rintro e v2 ⟨rfl, hc, hb⟩
  have L2 := Lib.hid (L1.out.call hc hb)
  clear hc hb
  rw [HS.out]
  go_wp2_with fail
  refine (take_any L2.out.p hT true (fun _ => HK.out)).mono ?_
  rintro e v3 ⟨rfl, hc, hb⟩
  have L3 := Lib.hid (L2.out.call hc hb)
  clear hc hb
  have e1 : takeM true s = s.step := rfl
  rw [e1] at L3
  clear e1
  obtain ⟨s1, hs1⟩ : ∃ x, s.step = x := ⟨_, rfl⟩
  rw [hs1] at L3
  have HS1 := Lib.hid hs1
  clear hs1
  have e2 : textM T true s = (s.next T).text := rfl
  rw [e2]
  clear e2
  have ⟨⟨k0, k1, k2, k3⟩, kf⟩ := L3.out.cells
  go_wp2_with fail
  refine (operation_any _ _).mono ?_
  rintro e w' ⟨rfl, rfl⟩
  rw [HOP.out]
  have L4 := Lib.hid (L3.out.set0 (.int .i64 3))
  go_wp2_with fail
  clear k0 k1 k2 k3 kf
  have ⟨⟨k0, k1, k2, k3⟩, kf⟩ := L4.out.cells
  refine wp_region_D (S := fun w' => w'.cell? ⟨w.heap.size + 1, 3, none⟩ = some (.slice none 0 0)) (st := 7) (by kernel_rfl) ?_
  refine wpAnyT_pure 0 ?z1 rfl (by kernel_rfl) (by kernel_rfl) (by kernel_rfl) (by kernel_rfl) (fun _ _ _ h => h) k3 rfl ?rz1 ?sz1
  case rz1 => intro w hS; go_simp; rfl
  case sz1 =>
  refine wpAnyT_pure 1 ?z2 rfl (by kernel_rfl) (by kernel_rfl) (by kernel_rfl) (by kernel_rfl) (fun _ _ _ h => h) k3 rfl ?rz2 ?sz2
  case rz2 => intro w hS; go_simp; rfl
  case sz2 =>
  refine wpAnyT_pure 2 ?z3 rfl (by kernel_rfl) (by kernel_rfl) (by kernel_rfl) (by kernel_rfl) (fun _ _ _ h => h) k3 rfl ?rz3 ?sz3
  case rz3 => intro w hS; go_simp; rfl
  case sz3 =>
  refine wpAnyT_all (rs := [3]) (by kernel_rfl) (by decide) ?_
  intro i hi
  obtain rfl : i = 3 := by simpa using hi
  clear hi
  refine wpOp_of_list rfl ?_
  go_wp2_with fail
  refine (name_any' (L4.out.drewN 1).p hT).mono ?_
  rintro e v5 ⟨rfl, hc, hb⟩
  have L5 := Lib.hid ((L4.out.drewN 1).call hc hb)
  have hzb := hb.size
  clear k0 k1 k2 k3 kf
  clear hc hb
  have ⟨⟨k0, k1, k2, k3⟩, kf⟩ := L5.out.cells
  obtain ⟨nv, hnv⟩ : ∃ x, nameV T s1 = x := ⟨_, rfl⟩
  rw [hnv]
  have Hnv := Lib.hid hnv
  clear hnv
  go_wp2
  refine ⟨fun _ => k3, ?_⟩
  refine wpAnyT_all (rs := [4]) (by kernel_rfl) (by decide) ?_
  intro i hi
  obtain rfl : i = 4 := by simpa using hi
  clear hi
  refine wpOp_of_list rfl ?_
  have k3a := (((Below.refl v5.heap.size v5).alloc (Nat.le_refl _) (.cells #[sv nv] 9)).cell (p := ⟨w.heap.size + 1, 3, none⟩) (lt_heap L5.out.loc)).trans k3
  have hzL := lt_heap L5.out.loc
  go_wp2
  refine ⟨fun _ => k3a, ?_⟩
  refine wpAnyT_all (rs := [5]) (by kernel_rfl) (by decide) ?_
  intro i hi
  obtain rfl : i = 5 := by simpa using hi
  clear hi
  refine wpOp_of_list rfl ?_
  have OWN := Lib.hid (World.ownsRow_nil v5 (w.heap.size + 2) 9 1)
  (refine wpList_pushH [sv nv] rfl _ _ 30 rfl (w.heap.size + 2) 9 _ 1 16 Tryz.underlying30 infoStr rfl (by omega) _ 0 [] OWN.out rfl _ rfl (by simp) rfl rfl (by unfold maxLen; omega) (by omega) (by omega) ?_; intro g cap w6 hown1 hg1 hg2 hg3; have LG := Lib.hid (L5.out.grown hg1 OWN.out); have SO := Lib.hid (SliceAt.of_owns hown1); clear hown1 hg1)
  clear k0 k1 k2 k3 kf
  clear k3a OWN
  have ⟨⟨k0, k1, k2, k3⟩, kf⟩ := LG.out.cells
  go_wp2
  refine ⟨fun _ => k3, ?_⟩
  refine wpAnyT_pure 6 ?z4 rfl (by kernel_rfl) (by kernel_rfl) (by kernel_rfl) (by kernel_rfl) (fun _ _ _ h => h) k3 rfl ?rz4 ?sz4
  case rz4 => intro w hS; go_simp; rfl
  case sz4 =>
  refine wpAnyT_all (rs := [7]) (by kernel_rfl) (by decide) ?_
  intro i hi
  obtain rfl : i = 7 := by simpa using hi
  clear hi
  refine wpOp_of_list rfl ?_
  go_wp2
  refine ⟨fun h => absurd rfl h, ?_⟩
  refine wpAnyT_done (by kernel_rfl) ?_ _
  have L6 := Lib.hid (LG.out.set3 (.slice (some ⟨g, 0, none⟩) 1 cap))
  have TS_0 : Hid (StrsAt (w6.setCell ⟨w.heap.size + 1, 3, none⟩ (.slice (some ⟨g, 0, none⟩) 1 cap)) (.slice (some ⟨g, 0, none⟩) 1 cap) [nv]) := SliceAt.same SO.out (LG.out.sstr 3 _)
  go_wp2_with fail
  refine (end_any L6.out.p hT).mono ?_
  rintro e v7 ⟨rfl, hc, hb⟩
  have L7 := Lib.hid (L6.out.call hc hb)
  have TS_7 := Lib.hid (SliceAt.same TS_0.out (L6.out.str hb))
  clear hc hb
  clear k0 k1 k2 k3 kf
  have hst2 : stmtS T s = endM T (nameM T s1) := by unfold stmtS stmtM; rw [HS.out, HN.out, if_pos rfl]; dsimp only; rw [HOP.out, HS1.out]; simp
  have hval : (stmtM T s).1 = ⟨3, [], [], [nv]⟩ := by unfold stmtM; rw [HN.out]; dsimp only; rw [HOP.out, HS1.out]; simp; exact Hnv.out
  have FIN := Lib.hid hst2
  have VAL := Lib.hid hval
  clear hst2 hval
  have ⟨⟨k0, k1, k2, k3⟩, kf⟩ := L7.out.cells
  have ⟨⟨j0, j1, j2, j3⟩, jf⟩ := L7.out.rescells
  go_wp2
  have G := set4 L7.out.res (.int .i64 3) (.string ⟨#[]⟩) (.slice none 0 0) (.slice (some ⟨g, 0, none⟩) 1 cap)
  have ⟨gc, _⟩ := blk_cells G
  refine bodyPost_ret (v := .agg #[.int .i64 3, .string ⟨#[]⟩, .slice none 0 0, .slice (some ⟨g, 0, none⟩) 1 cap]) ?_ rfl ?_
  · simp [results, Tryz.results66, go_sem, gc]
  · exact stl_end L7.out FIN.out rfl rfl (fun _ h0 => by rw [VAL.out]; exact ⟨rfl, rfl, SliceAt.nil, TS_7.out⟩) _ _ _ _
set_option maxHeartbeats 1000000 in
theorem stmt_target7 {B bp : Nat} {T : List Tok} {s : PS} {w : World} (h : PSt B bp T s w) (hT : T.length ≤ 1000000) (hN : isN T s = false) (hS : startsB T s = true) (hop : opOf (s.next T).text = 7) :
    Calls Tryz.prog 66 #[.pointer (some ⟨bp, 0, none⟩)] w (StPost B bp T s w) := by
  have hlt := h.lt
  have H := Lib.hid h
  have L0 := Lib.hid (stl_start h)
  clear h
  go_enter Tryz.func66, Tryz.ntmps66
  have HN := Lib.hid hN
  have HS := Lib.hid hS
  have HOP := Lib.hid hop
  have HK := Lib.hid (starts_in hS hN)
  clear hN hS hop
  go_wp2_with fail
  refine (isName_any L0.out.p).mono ?_
  rintro e v1 ⟨rfl, hc, hb⟩
  have L1 := Lib.hid (L0.out.call hc hb)
  clear hc hb
  rw [HN.out]
  go_wp2_with fail
  refine (starts_any L1.out.p).mono ?_
  rintro e v2 ⟨rfl, hc, hb⟩
  have L2 := Lib.hid (L1.out.call hc hb)
  clear hc hb
  rw [HS.out]
  go_wp2_with fail
  refine (take_any L2.out.p hT true (fun _ => HK.out)).mono ?_
  rintro e v3 ⟨rfl, hc, hb⟩
  have L3 := Lib.hid (L2.out.call hc hb)
  clear hc hb
  have e1 : takeM true s = s.step := rfl
  rw [e1] at L3
  clear e1
  obtain ⟨s1, hs1⟩ : ∃ x, s.step = x := ⟨_, rfl⟩
  rw [hs1] at L3
  have HS1 := Lib.hid hs1
  clear hs1
  have e2 : textM T true s = (s.next T).text := rfl
  rw [e2]
  clear e2
  have ⟨⟨k0, k1, k2, k3⟩, kf⟩ := L3.out.cells
  go_wp2_with fail
  refine (operation_any _ _).mono ?_
  rintro e w' ⟨rfl, rfl⟩
  rw [HOP.out]
  have L4 := Lib.hid (L3.out.set0 (.int .i64 7))
  go_wp2_with fail
  clear k0 k1 k2 k3 kf
  have ⟨⟨k0, k1, k2, k3⟩, kf⟩ := L4.out.cells
  refine wp_region_D (S := fun w' => w'.cell? ⟨w.heap.size + 1, 3, none⟩ = some (.slice none 0 0)) (st := 7) (by kernel_rfl) ?_
  refine wpAnyT_pure 0 ?z5 rfl (by kernel_rfl) (by kernel_rfl) (by kernel_rfl) (by kernel_rfl) (fun _ _ _ h => h) k3 rfl ?rz5 ?sz5
  case rz5 => intro w hS; go_simp; rfl
  case sz5 =>
  refine wpAnyT_pure 1 ?z6 rfl (by kernel_rfl) (by kernel_rfl) (by kernel_rfl) (by kernel_rfl) (fun _ _ _ h => h) k3 rfl ?rz6 ?sz6
  case rz6 => intro w hS; go_simp; rfl
  case sz6 =>
  refine wpAnyT_pure 2 ?z7 rfl (by kernel_rfl) (by kernel_rfl) (by kernel_rfl) (by kernel_rfl) (fun _ _ _ h => h) k3 rfl ?rz7 ?sz7
  case rz7 => intro w hS; go_simp; rfl
  case sz7 =>
  refine wpAnyT_all (rs := [3]) (by kernel_rfl) (by decide) ?_
  intro i hi
  obtain rfl : i = 3 := by simpa using hi
  clear hi
  refine wpOp_of_list rfl ?_
  go_wp2_with fail
  refine (name_any' (L4.out.drewN 1).p hT).mono ?_
  rintro e v5 ⟨rfl, hc, hb⟩
  have L5 := Lib.hid ((L4.out.drewN 1).call hc hb)
  have hzb := hb.size
  clear k0 k1 k2 k3 kf
  clear hc hb
  have ⟨⟨k0, k1, k2, k3⟩, kf⟩ := L5.out.cells
  obtain ⟨nv, hnv⟩ : ∃ x, nameV T s1 = x := ⟨_, rfl⟩
  rw [hnv]
  have Hnv := Lib.hid hnv
  clear hnv
  go_wp2
  refine ⟨fun _ => k3, ?_⟩
  refine wpAnyT_all (rs := [4]) (by kernel_rfl) (by decide) ?_
  intro i hi
  obtain rfl : i = 4 := by simpa using hi
  clear hi
  refine wpOp_of_list rfl ?_
  have k3a := (((Below.refl v5.heap.size v5).alloc (Nat.le_refl _) (.cells #[sv nv] 9)).cell (p := ⟨w.heap.size + 1, 3, none⟩) (lt_heap L5.out.loc)).trans k3
  have hzL := lt_heap L5.out.loc
  go_wp2
  refine ⟨fun _ => k3a, ?_⟩
  refine wpAnyT_all (rs := [5]) (by kernel_rfl) (by decide) ?_
  intro i hi
  obtain rfl : i = 5 := by simpa using hi
  clear hi
  refine wpOp_of_list rfl ?_
  have OWN := Lib.hid (World.ownsRow_nil v5 (w.heap.size + 2) 9 1)
  (refine wpList_pushH [sv nv] rfl _ _ 30 rfl (w.heap.size + 2) 9 _ 1 16 Tryz.underlying30 infoStr rfl (by omega) _ 0 [] OWN.out rfl _ rfl (by simp) rfl rfl (by unfold maxLen; omega) (by omega) (by omega) ?_; intro g cap w6 hown1 hg1 hg2 hg3; have LG := Lib.hid (L5.out.grown hg1 OWN.out); have SO := Lib.hid (SliceAt.of_owns hown1); clear hown1 hg1)
  clear k0 k1 k2 k3 kf
  clear k3a OWN
  have ⟨⟨k0, k1, k2, k3⟩, kf⟩ := LG.out.cells
  go_wp2
  refine ⟨fun _ => k3, ?_⟩
  refine wpAnyT_pure 6 ?z8 rfl (by kernel_rfl) (by kernel_rfl) (by kernel_rfl) (by kernel_rfl) (fun _ _ _ h => h) k3 rfl ?rz8 ?sz8
  case rz8 => intro w hS; go_simp; rfl
  case sz8 =>
  refine wpAnyT_all (rs := [7]) (by kernel_rfl) (by decide) ?_
  intro i hi
  obtain rfl : i = 7 := by simpa using hi
  clear hi
  refine wpOp_of_list rfl ?_
  go_wp2
  refine ⟨fun h => absurd rfl h, ?_⟩
  refine wpAnyT_done (by kernel_rfl) ?_ _
  have L6 := Lib.hid (LG.out.set3 (.slice (some ⟨g, 0, none⟩) 1 cap))
  have TS_0 : Hid (StrsAt (w6.setCell ⟨w.heap.size + 1, 3, none⟩ (.slice (some ⟨g, 0, none⟩) 1 cap)) (.slice (some ⟨g, 0, none⟩) 1 cap) [nv]) := SliceAt.same SO.out (LG.out.sstr 3 _)
  go_wp2_with fail
  refine (end_any L6.out.p hT).mono ?_
  rintro e v7 ⟨rfl, hc, hb⟩
  have L7 := Lib.hid (L6.out.call hc hb)
  have TS_7 := Lib.hid (SliceAt.same TS_0.out (L6.out.str hb))
  clear hc hb
  clear k0 k1 k2 k3 kf
  have hst2 : stmtS T s = endM T (nameM T s1) := by unfold stmtS stmtM; rw [HS.out, HN.out, if_pos rfl]; dsimp only; rw [HOP.out, HS1.out]; simp
  have hval : (stmtM T s).1 = ⟨7, [], [], [nv]⟩ := by unfold stmtM; rw [HN.out]; dsimp only; rw [HOP.out, HS1.out]; simp; exact Hnv.out
  have FIN := Lib.hid hst2
  have VAL := Lib.hid hval
  clear hst2 hval
  have ⟨⟨k0, k1, k2, k3⟩, kf⟩ := L7.out.cells
  have ⟨⟨j0, j1, j2, j3⟩, jf⟩ := L7.out.rescells
  go_wp2
  have G := set4 L7.out.res (.int .i64 7) (.string ⟨#[]⟩) (.slice none 0 0) (.slice (some ⟨g, 0, none⟩) 1 cap)
  have ⟨gc, _⟩ := blk_cells G
  refine bodyPost_ret (v := .agg #[.int .i64 7, .string ⟨#[]⟩, .slice none 0 0, .slice (some ⟨g, 0, none⟩) 1 cap]) ?_ rfl ?_
  · simp [results, Tryz.results66, go_sem, gc]
  · exact stl_end L7.out FIN.out rfl rfl (fun _ h0 => by rw [VAL.out]; exact ⟨rfl, rfl, SliceAt.nil, TS_7.out⟩) _ _ _ _
set_option maxHeartbeats 1000000 in
theorem stmt_branch {B bp : Nat} {T : List Tok} {s : PS} {w : World} (h : PSt B bp T s w) (hT : T.length ≤ 1000000) (hN : isN T s = false) (hS : startsB T s = true) (hop : opOf (s.next T).text = 8) :
    Calls Tryz.prog 66 #[.pointer (some ⟨bp, 0, none⟩)] w (StPost B bp T s w) := by
  have hlt := h.lt
  have H := Lib.hid h
  have L0 := Lib.hid (stl_start h)
  clear h
  go_enter Tryz.func66, Tryz.ntmps66
  have HN := Lib.hid hN
  have HS := Lib.hid hS
  have HOP := Lib.hid hop
  have HK := Lib.hid (starts_in hS hN)
  clear hN hS hop
  go_wp2_with fail
  refine (isName_any L0.out.p).mono ?_
  rintro e v1 ⟨rfl, hc, hb⟩
  have L1 := Lib.hid (L0.out.call hc hb)
  clear hc hb
  rw [HN.out]
  go_wp2_with fail
  refine (starts_any L1.out.p).mono ?_
  rintro e v2 ⟨rfl, hc, hb⟩
  have L2 := Lib.hid (L1.out.call hc hb)
  clear hc hb
  rw [HS.out]
  go_wp2_with fail
  refine (take_any L2.out.p hT true (fun _ => HK.out)).mono ?_
  rintro e v3 ⟨rfl, hc, hb⟩
  have L3 := Lib.hid (L2.out.call hc hb)
  clear hc hb
  have e1 : takeM true s = s.step := rfl
  rw [e1] at L3
  clear e1
  obtain ⟨s1, hs1⟩ : ∃ x, s.step = x := ⟨_, rfl⟩
  rw [hs1] at L3
  have HS1 := Lib.hid hs1
  clear hs1
  have e2 : textM T true s = (s.next T).text := rfl
  rw [e2]
  clear e2
  have ⟨⟨k0, k1, k2, k3⟩, kf⟩ := L3.out.cells
  go_wp2_with fail
  refine (operation_any _ _).mono ?_
  rintro e w' ⟨rfl, rfl⟩
  rw [HOP.out]
  have L4 := Lib.hid (L3.out.set0 (.int .i64 8))
  go_wp2_with fail
  refine (name_any' L4.out.p hT).mono ?_
  rintro e v5 ⟨rfl, hc, hb⟩
  have L5 := Lib.hid (L4.out.call hc hb)
  have hzz5 := hb.size
  clear hc hb
  clear k0 k1 k2 k3 kf
  obtain ⟨na, hnv⟩ : ∃ x, nameV T s1 = x := ⟨_, rfl⟩
  rw [hnv]
  have Hna := Lib.hid hnv
  clear hnv
  have LAna := Lib.hid (L5.out.alloc (.cells #[sv na] 9))
  have hlona := lt_heap L5.out.loc
  have ⟨⟨k0, k1, k2, k3⟩, kf⟩ := LAna.out.cells
  have L6 := Lib.hid (L5.out.set2 (.slice (some ⟨v5.heap.size, 0, none⟩) 1 1))
  have L7 := Lib.hid (L6.out.alloc (.cells #[sv na] 9))
  have Bna : Hid (((v5.setCell ⟨w.heap.size + 1, 2, none⟩ (.slice (some ⟨v5.heap.size, 0, none⟩) 1 1)).alloc (.cells #[sv na] 9)).heap[v5.heap.size]? = some (.cells #[sv na] 9 (0, 0))) := by have h := heap_alloc_new (v5.setCell ⟨w.heap.size + 1, 2, none⟩ (.slice (some ⟨v5.heap.size, 0, none⟩) 1 1)) (.cells #[sv na] 9); rw [World.size_setCell] at h; exact h
  have hsm : v5.heap.size + 1 ≤ ((v5.setCell ⟨w.heap.size + 1, 2, none⟩ (.slice (some ⟨v5.heap.size, 0, none⟩) 1 1)).alloc (.cells #[sv na] 9)).heap.size := by simp
  go_wp2_with fail
  refine (name_any' L7.out.p hT).mono ?_
  rintro e v8 ⟨rfl, hc, hb⟩
  have L8 := Lib.hid (L7.out.call hc hb)
  have hzz8 := hb.size
  have Bna' := Lib.hid (hb.blk Bna.out (by omega))
  clear Bna
  have Bna := Lib.hid Bna'.out
  clear Bna'
  clear hc hb
  clear k0 k1 k2 k3 kf
  obtain ⟨nb, hnv⟩ : ∃ x, nameV T (nameM T s1) = x := ⟨_, rfl⟩
  rw [hnv]
  have Hnb := Lib.hid hnv
  clear hnv
  have LAnb := Lib.hid (L8.out.alloc (.cells #[sv nb] 9))
  have hlonb := lt_heap L8.out.loc
  have ⟨⟨k0, k1, k2, k3⟩, kf⟩ := LAnb.out.cells
  have L9 := Lib.hid (L8.out.set3 (.slice (some ⟨v8.heap.size, 0, none⟩) 1 1))
  have L10 := Lib.hid (L9.out.alloc (.cells #[sv nb] 9))
  have Bnb : Hid (((v8.setCell ⟨w.heap.size + 1, 3, none⟩ (.slice (some ⟨v8.heap.size, 0, none⟩) 1 1)).alloc (.cells #[sv nb] 9)).heap[v8.heap.size]? = some (.cells #[sv nb] 9 (0, 0))) := by have h := heap_alloc_new (v8.setCell ⟨w.heap.size + 1, 3, none⟩ (.slice (some ⟨v8.heap.size, 0, none⟩) 1 1)) (.cells #[sv nb] 9); rw [World.size_setCell] at h; exact h
  have hltBnanb : v5.heap.size < v8.heap.size := by have := hzz8; omega
  have Bna' := Lib.hid (alloc_blk (.cells #[sv nb] 9) ((Below.heap_setCell v8 ⟨w.heap.size + 1, 3, none⟩ (.slice (some ⟨v8.heap.size, 0, none⟩) 1 1) v5.heap.size (by show v5.heap.size ≠ w.heap.size + 1; omega)).trans Bna.out))
  clear Bna
  have Bna := Lib.hid Bna'.out
  clear Bna'
  have hsm2 : v8.heap.size + 1 ≤ ((v8.setCell ⟨w.heap.size + 1, 3, none⟩ (.slice (some ⟨v8.heap.size, 0, none⟩) 1 1)).alloc (.cells #[sv nb] 9)).heap.size := by simp
  go_wp2_with fail
  clear k0 k1 k2 k3 kf
  have ⟨⟨k0, k1, k2, k3⟩, kf⟩ := L10.out.cells
  refine wp_region_D (S := fun w' => w'.cell? ⟨w.heap.size + 1, 3, none⟩ = some (.slice (some ⟨v8.heap.size, 0, none⟩) 1 1)) (st := 7) (by kernel_rfl) ?_
  refine wpAnyT_pure 0 ?z9 rfl (by kernel_rfl) (by kernel_rfl) (by kernel_rfl) (by kernel_rfl) (fun _ _ _ h => h) k3 rfl ?rz9 ?sz9
  case rz9 => intro w hS; go_simp; rfl
  case sz9 =>
  refine wpAnyT_pure 1 ?z10 rfl (by kernel_rfl) (by kernel_rfl) (by kernel_rfl) (by kernel_rfl) (fun _ _ _ h => h) k3 rfl ?rz10 ?sz10
  case rz10 => intro w hS; go_simp; rfl
  case sz10 =>
  refine wpAnyT_pure 2 ?z11 rfl (by kernel_rfl) (by kernel_rfl) (by kernel_rfl) (by kernel_rfl) (fun _ _ _ h => h) k3 rfl ?rz11 ?sz11
  case rz11 => intro w hS; go_simp; rfl
  case sz11 =>
  refine wpAnyT_all (rs := [3]) (by kernel_rfl) (by decide) ?_
  intro i hi
  obtain rfl : i = 3 := by simpa using hi
  clear hi
  refine wpOp_of_list rfl ?_
  go_wp2_with fail
  refine (name_any' (L10.out.drewN 1).p hT).mono ?_
  rintro e v11 ⟨rfl, hc, hb⟩
  have L11 := Lib.hid ((L10.out.drewN 1).call hc hb)
  have Bna' := Lib.hid ((But.undrew hb).blk Bna.out (by omega))
  clear Bna
  have Bna := Lib.hid Bna'.out
  clear Bna'
  have Bnb' := Lib.hid ((But.undrew hb).blk Bnb.out (by omega))
  clear Bnb
  have Bnb := Lib.hid Bnb'.out
  clear Bnb'
  have hzb := hb.size
  clear k0 k1 k2 k3 kf
  clear hc hb
  have ⟨⟨k0, k1, k2, k3⟩, kf⟩ := L11.out.cells
  obtain ⟨nc, hnv⟩ : ∃ x, nameV T (nameM T (nameM T s1)) = x := ⟨_, rfl⟩
  rw [hnv]
  have Hnc := Lib.hid hnv
  clear hnv
  go_wp2
  refine ⟨fun _ => k3, ?_⟩
  refine wpAnyT_all (rs := [4]) (by kernel_rfl) (by decide) ?_
  intro i hi
  obtain rfl : i = 4 := by simpa using hi
  clear hi
  refine wpOp_of_list rfl ?_
  have k3a := (((Below.refl v11.heap.size v11).alloc (Nat.le_refl _) (.cells #[sv nc] 9)).cell (p := ⟨w.heap.size + 1, 3, none⟩) (lt_heap L11.out.loc)).trans k3
  have hzL := lt_heap L11.out.loc
  go_wp2
  refine ⟨fun _ => k3a, ?_⟩
  refine wpAnyT_all (rs := [5]) (by kernel_rfl) (by decide) ?_
  intro i hi
  obtain rfl : i = 5 := by simpa using hi
  clear hi
  refine wpOp_of_list rfl ?_
  have OWN := Lib.hid ((own_one Bnb.out (by omega) : World.ownsRow v11 (w.heap.size + 2) 9 1 (.slice (some ⟨v8.heap.size, 0, none⟩) 1 1) 1 [sv nb]))
  (refine wpList_pushH [sv nc] rfl _ _ 30 rfl (w.heap.size + 2) 9 _ 1 16 Tryz.underlying30 infoStr rfl (by omega) _ 1 [sv nb] OWN.out rfl _ rfl (by simp) rfl rfl (by unfold maxLen; omega) (by omega) (by omega) ?_; intro g cap w6 hown1 hg1 hg2 hg3; have LG := Lib.hid (L11.out.grown hg1 OWN.out); have Bna' := Lib.hid ((hg1.block v5.heap.size (lt_heap Bna.out) (by show some v5.heap.size ≠ some v8.heap.size; intro h; injection h with h; omega)).trans Bna.out); have SO := Lib.hid (SliceAt.of_owns hown1); clear hown1 hg1)
  clear Bna
  have Bna := Lib.hid Bna'.out
  clear Bna'
  clear Bnb
  clear k0 k1 k2 k3 kf
  clear k3a OWN
  have ⟨⟨k0, k1, k2, k3⟩, kf⟩ := LG.out.cells
  go_wp2
  refine ⟨fun _ => k3, ?_⟩
  refine wpAnyT_pure 6 ?z12 rfl (by kernel_rfl) (by kernel_rfl) (by kernel_rfl) (by kernel_rfl) (fun _ _ _ h => h) k3 rfl ?rz12 ?sz12
  case rz12 => intro w hS; go_simp; rfl
  case sz12 =>
  refine wpAnyT_all (rs := [7]) (by kernel_rfl) (by decide) ?_
  intro i hi
  obtain rfl : i = 7 := by simpa using hi
  clear hi
  refine wpOp_of_list rfl ?_
  go_wp2
  refine ⟨fun h => absurd rfl h, ?_⟩
  refine wpAnyT_done (by kernel_rfl) ?_ _
  have L12 := Lib.hid (LG.out.set3 (.slice (some ⟨g, 0, none⟩) 2 cap))
  have TS_0 : Hid (StrsAt (w6.setCell ⟨w.heap.size + 1, 3, none⟩ (.slice (some ⟨g, 0, none⟩) 2 cap)) (.slice (some ⟨g, 0, none⟩) 2 cap) [nb, nc]) := SliceAt.same SO.out (LG.out.sstr 3 _)
  have Bna' := Lib.hid ((Below.heap_setCell w6 ⟨w.heap.size + 1, 3, none⟩ (.slice (some ⟨g, 0, none⟩) 2 cap) v5.heap.size (by show v5.heap.size ≠ w.heap.size + 1; omega)).trans Bna.out)
  clear Bna
  have Bna := Lib.hid Bna'.out
  clear Bna'
  go_wp2_with fail
  refine (end_any L12.out.p hT).mono ?_
  rintro e v13 ⟨rfl, hc, hb⟩
  have L13 := Lib.hid (L12.out.call hc hb)
  have TS_13 := Lib.hid (SliceAt.same TS_0.out (L12.out.str hb))
  have Bna' := Lib.hid (hb.blk Bna.out (by omega))
  clear Bna
  have Bna := Lib.hid Bna'.out
  clear Bna'
  clear hc hb
  clear k0 k1 k2 k3 kf
  have hst2 : stmtS T s = endM T (nameM T (nameM T (nameM T s1))) := by unfold stmtS stmtM; rw [HS.out, HN.out, if_pos rfl]; dsimp only; rw [HOP.out, HS1.out]; simp
  have hval : (stmtM T s).1 = ⟨8, [], [na], [nb, nc]⟩ := by unfold stmtM; rw [HN.out]; dsimp only; rw [HOP.out, HS1.out]; simp; exact ⟨Hna.out, Hnb.out, Hnc.out⟩
  have FIN := Lib.hid hst2
  have VAL := Lib.hid hval
  clear hst2 hval
  have ⟨⟨k0, k1, k2, k3⟩, kf⟩ := L13.out.cells
  have ⟨⟨j0, j1, j2, j3⟩, jf⟩ := L13.out.rescells
  go_wp2
  have G := set4 L13.out.res (.int .i64 8) (.string ⟨#[]⟩) (.slice (some ⟨v5.heap.size, 0, none⟩) 1 1) (.slice (some ⟨g, 0, none⟩) 2 cap)
  have ⟨gc, _⟩ := blk_cells G
  refine bodyPost_ret (v := .agg #[.int .i64 8, .string ⟨#[]⟩, .slice (some ⟨v5.heap.size, 0, none⟩) 1 1, .slice (some ⟨g, 0, none⟩) 2 cap]) ?_ rfl ?_
  · simp [results, Tryz.results66, go_sem, gc]
  · exact stl_end L13.out FIN.out rfl rfl (fun _ h0 => by rw [VAL.out]; exact ⟨rfl, rfl, one_strs Bna.out, TS_13.out⟩) _ _ _ _
end Go.Proofs.YtipnhmdibkkifaaGreatDoor
