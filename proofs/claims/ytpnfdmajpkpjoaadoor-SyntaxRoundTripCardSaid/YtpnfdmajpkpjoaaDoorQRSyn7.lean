/- The reference's parser: the other statements. Printed by wip/gen_rsyn7.py. -/
import Derived.Test.YtpnfdmajpkpjoaaDoorQRSyn6
import Derived.Test.YtpnfdmajpkpjoaaDoorQSyn6
set_option linter.unusedVariables false
set_option linter.unusedSimpArgs false
namespace Go.Proofs.YtpnfdmajpkpjoaaDoor.R
open Go.RowKit

theorem StL.grown {B bp R : Nat} {T : List Tok} {w0 w w' : World} {s : PS} {x0 x1 x2 x3 : Value} (h : StL B bp R T w0 s w x0 x1 x2 x3) {v : Value} {n : Nat} {xs : List Value} (hg : w.grownBy w' v.ownBlock) (ho : w.ownsRow (R + 2) 9 1 v n xs) : StL B bp R T w0 s w' x0 x1 x2 x3 := by
  have hz := lt_heap h.loc
  have hbel := Below.of_grown hg ho (by omega)
  have hlt := h.lt
  have hsz := h.size
  exact ⟨h.p.grown hg ho (by decide) (by omega) (by omega), h.but.belowB hbel (by omega), h.size, h.lt, (hbel.block R (by omega)).trans h.res, (hbel.block (R + 1) (by omega)).trans h.loc⟩

theorem not_kind2 {T : List Tok} {s : PS} (h : isK T 2 s = false) : endM T (namesM T 4 [] (takeM (isK T 2 s) s)).2 = s.fail 4 ∧ (s.fail 4).err ≠ 0 := by
  have he := fail_errs s (e := 4) (by decide)
  rw [h]
  have e1 : takeM false s = s.fail 4 := rfl
  rw [e1, namesM_no (isN_err he)]
  unfold endM
  rw [isK_err he (by decide), take_err he]
  exact ⟨rfl, he⟩

set_option maxHeartbeats 1000000 in
theorem rstmt_name {B bp : Nat} {T : List Tok} {s : PS} {w : World} (h : PSt B bp T s w) (hT : T.length ≤ 1000000) (hN : isN T s = true) :
    Calls Tryd.prog 82 #[.pointer (some ⟨bp, 0, none⟩)] w (StPost B bp T s w) := by
  have hlt := h.lt
  have H := Lib.hid h
  have hT' := Lib.hid hT
  have L0 := Lib.hid (stl_start h)
  clear h
  go_enter Tryd.func82, Tryd.ntmps82
  have HN := Lib.hid hN
  have hst : startsB T s = true := by unfold startsB; rw [hN]; rfl
  have HS := Lib.hid hst
  clear hN hst
  go_wp2_with fail
  refine (isName_any L0.out.p).mono ?_
  rintro e v1 ⟨rfl, hc, hb⟩
  have L1 := Lib.hid (L0.out.call hc hb)
  clear hc hb
  rw [HN.out]
  go_wp2_with fail
  refine (name_any L1.out.p hT'.out).mono ?_
  rintro e v2 ⟨rfl, hc, hb⟩
  have L2 := Lib.hid (L1.out.call hc hb)
  clear hc hb
  have ⟨⟨k0, k1, k2, k3⟩, kf⟩ := L2.out.cells
  have e1 : nameM T s = s.step := by unfold nameM; rw [HN.out]; rfl
  rw [e1] at L2
  clear e1
  obtain ⟨nv, hnv⟩ : ∃ x, nameV T s = x := ⟨_, rfl⟩
  rw [hnv]
  have HNV := Lib.hid hnv
  clear hnv
  obtain ⟨s1, hs1⟩ : ∃ x, s.step = x := ⟨_, rfl⟩
  rw [hs1] at L2
  have HS1 := Lib.hid hs1
  clear hs1
  have L3 := Lib.hid (L2.out.set0 (.int .i64 1))
  have L4 := Lib.hid (L3.out.set1 (sv nv))
  go_wp2_with fail
  refine (isKind_any L4.out.p 2 (by decide)).mono ?_
  rintro e v5 ⟨rfl, hc, hb⟩
  have L5 := Lib.hid (L4.out.call hc hb)
  clear hc hb
  clear k0 k1 k2 k3 kf
  cases hk : isK T 2 s1
  · have HK := Lib.hid hk
    have hnk := not_kind2 hk
    clear hk
    go_wp2_with fail
    refine (fail_any L5.out.p 4 (by decide)).mono ?_
    rintro e v6 ⟨rfl, hc, hb⟩
    have L6 := Lib.hid (L5.out.call hc hb)
    clear hc hb
    have hst2 : stmtS T s = s1.fail 4 := by unfold stmtS stmtM; rw [HS.out, HN.out, if_pos rfl, if_pos rfl]; dsimp only; rw [HS1.out]; exact hnk.1
    have FIN := Lib.hid hst2
    have NK := Lib.hid hnk.2
    clear hst2 hnk
    have ⟨⟨k0, k1, k2, k3⟩, kf⟩ := L6.out.cells
    have ⟨⟨j0, j1, j2, j3⟩, jf⟩ := L6.out.rescells
    go_wp2
    have G := set4 L6.out.res (.int .i64 1) (sv nv) (.slice none 0 0) (.slice none 0 0)
    have ⟨gc, _⟩ := blk_cells G
    refine bodyPost_ret (v := .agg #[.int .i64 1, sv nv, .slice none 0 0, .slice none 0 0]) ?_ rfl ?_
    · simp [results, Tryd.results82, go_sem, gc]
    · exact stl_end L6.out FIN.out rfl rfl (fun _ h0 => absurd h0 NK.out) _ _ _ _
  · have HK := Lib.hid hk
    have hle := Lib.hid (in_lt (isK_kind (by decide) hk))
    have hin := hle.out
    clear hk
    obtain ⟨pa, pc, hpb, _⟩ := L5.out.p.blk
    have p1 := (blk_cells hpb).1 1
    have pf := (blk_cells hpb).2 1
    simp at p1
    clear hpb
    have L6 := Lib.hid (L5.out.next hle.out)
    go_wp2_with fail
    refine (names_any L6.out.p hT'.out).mono ?_
    rintro e v7 ⟨ua, un, uc, rfl, hc, hb, ul, hul, hun, hu1, hu2⟩
    have L7 := Lib.hid (L6.out.call hc hb)
    have U : Hid ((namesM T 4 [] s1.step).2.err = 0 → StrsAt v7 (.slice ua un uc) (namesM T 4 [] s1.step).1) := fun h0 => by rw [← hu2 h0]; exact hu1
    clear hul hun hu1 hu2 p1 pf
    clear hc hb
    have ⟨⟨k0, k1, k2, k3⟩, kf⟩ := L7.out.cells
    obtain ⟨r, hr⟩ : ∃ x, namesM T 4 [] s1.step = x := ⟨_, rfl⟩
    rw [hr] at L7 U
    have HR := Lib.hid hr
    clear hr
    have L8 := Lib.hid (L7.out.set2 (.slice ua un uc))
    have U2 := Lib.hid (fun h0 => SliceAt.same (U.out h0) (L7.out.sstr 2 (.slice ua un uc)))
    go_wp2_with fail
    refine (end_any L8.out.p hT'.out).mono ?_
    rintro e v9 ⟨rfl, hc, hb⟩
    have L9 := Lib.hid (L8.out.call hc hb)
    have U3 := Lib.hid (fun h0 => SliceAt.same (U2.out h0) (L8.out.str hb))
    clear hc hb
    clear k0 k1 k2 k3 kf
    have hs2 : takeM (isK T 2 s1) s1 = s1.step := by rw [HK.out]; rfl
    have hst2 : stmtS T s = endM T r.2 := by unfold stmtS stmtM; rw [HS.out, HN.out, if_pos rfl, if_pos rfl]; dsimp only; rw [HS1.out, hs2, HR.out]
    have hval : (stmtM T s).1 = ⟨1, nv, r.1, []⟩ := by unfold stmtM; rw [HN.out, if_pos rfl]; dsimp only; rw [HS1.out, hs2, HR.out, HNV.out]
    have FIN := Lib.hid hst2
    have VAL := Lib.hid hval
    clear hst2 hval hs2
    have ⟨⟨k0, k1, k2, k3⟩, kf⟩ := L9.out.cells
    have ⟨⟨j0, j1, j2, j3⟩, jf⟩ := L9.out.rescells
    go_wp2
    have G := set4 L9.out.res (.int .i64 1) (sv nv) (.slice ua un uc) (.slice none 0 0)
    have ⟨gc, _⟩ := blk_cells G
    refine bodyPost_ret (v := .agg #[.int .i64 1, sv nv, .slice ua un uc, .slice none 0 0]) ?_ rfl ?_
    · simp [results, Tryd.results82, go_sem, gc]
    · exact stl_end L9.out FIN.out rfl rfl (fun _ h0 => by rw [VAL.out]; exact ⟨rfl, rfl, U3.out (end_err h0), SliceAt.nil⟩) _ _ _ _

set_option maxHeartbeats 1000000 in
theorem rstmt_branch {B bp : Nat} {T : List Tok} {s : PS} {w : World} (h : PSt B bp T s w) (hT : T.length ≤ 1000000) (hN : isN T s = false) (hS : startsB T s = true) (hop : opOf (s.next T).text = 8) :
    Calls Tryd.prog 82 #[.pointer (some ⟨bp, 0, none⟩)] w (StPost B bp T s w) := by
  have hlt := h.lt
  have H := Lib.hid h
  have hT' := Lib.hid hT
  have L0 := Lib.hid (stl_start h)
  clear h
  go_enter Tryd.func82, Tryd.ntmps82
  have HN := Lib.hid hN
  have HS := Lib.hid hS
  have HOP := Lib.hid hop
  obtain ⟨_, tk, htk, hen⟩ := next_in (starts_in hS hN)
  have hyx : tk.text = [98, 114, 97, 110, 99, 104] := by rw [← hen]; exact (op_text _).2.2.2.2.2.2.1 hop
  clear hN hS hop hen
  go_wp2_with fail
  refine (isName_any L0.out.p).mono ?_
  rintro e v1 ⟨rfl, hc, hb⟩
  have L1 := Lib.hid (L0.out.call hc hb)
  clear hc hb
  rw [HN.out]
  obtain ⟨tb, off, tc, p0, p1, pf, pt, hin⟩ := L1.out.p.tok htk
  rw [hyx] at pt
  have hle := Lib.hid (show s.at_ + 1 ≤ T.length from hin)
  obtain ⟨tn, htn⟩ : ∃ x, T.length = x := ⟨_, rfl⟩
  rw [htn] at p0 hin hT
  have hin2 : (s.at_ : Int) < (tn : Int) := by omega
  clear htn hyx htk
  go_wp2
  go_quiet (fail)
  have L2 := Lib.hid ((L1.out.drewN nq).next hle.out)
  obtain ⟨s1, hs1⟩ : ∃ x, s.step = x := ⟨_, rfl⟩
  rw [hs1] at L2
  have HS1 := Lib.hid hs1
  clear hs1
  go_wp2_with fail
  refine (name_any L2.out.p hT'.out).mono ?_
  rintro e v3 ⟨rfl, hc, hb⟩
  have L3 := Lib.hid (L2.out.call hc hb)
  have hzz3 := hb.size
  clear p0 p1 pf pt
  clear hc hb
  obtain ⟨na, hnv⟩ : ∃ x, nameV T s1 = x := ⟨_, rfl⟩
  rw [hnv]
  have Hna := Lib.hid hnv
  clear hnv
  have LAna := Lib.hid (L3.out.alloc (.cells #[sv na] 9))
  have Bna : Hid ((v3.alloc (.cells #[sv na] 9)).heap[v3.heap.size]? = some (.cells #[sv na] 9 (0, 0))) := heap_alloc_new _ _
  have hlona := lt_heap L3.out.loc
  have ⟨⟨k0, k1, k2, k3⟩, kf⟩ := LAna.out.cells
  have L4 := Lib.hid (LAna.out.set0 (.int .i64 8))
  have Bna' := Lib.hid ((Below.heap_setCell (v3.alloc (.cells #[sv na] 9)) ⟨w.heap.size + 1, 0, none⟩ (.int .i64 8) v3.heap.size (by show v3.heap.size ≠ w.heap.size + 1; omega)).trans Bna.out)
  clear Bna
  have Bna := Lib.hid Bna'.out
  clear Bna'
  have L5 := Lib.hid (L4.out.set2 (.slice (some ⟨v3.heap.size, 0, none⟩) 1 1))
  have Bna' := Lib.hid ((Below.heap_setCell ((v3.alloc (.cells #[sv na] 9)).setCell ⟨w.heap.size + 1, 0, none⟩ (.int .i64 8)) ⟨w.heap.size + 1, 2, none⟩ (.slice (some ⟨v3.heap.size, 0, none⟩) 1 1) v3.heap.size (by show v3.heap.size ≠ w.heap.size + 1; omega)).trans Bna.out)
  clear Bna
  have Bna := Lib.hid Bna'.out
  clear Bna'
  have hsna : v3.heap.size + 1 ≤ (((v3.alloc (.cells #[sv na] 9)).setCell ⟨w.heap.size + 1, 0, none⟩ (.int .i64 8)).setCell ⟨w.heap.size + 1, 2, none⟩ (.slice (some ⟨v3.heap.size, 0, none⟩) 1 1)).heap.size := by simp
  have Hlona := Lib.hid hlona
  have Hsna := Lib.hid hsna
  clear hlona hsna
  go_wp2_with fail
  refine (name_any L5.out.p hT'.out).mono ?_
  rintro e v6 ⟨rfl, hc, hb⟩
  have L6 := Lib.hid (L5.out.call hc hb)
  have hlona := Hlona.out
  have hsna := Hsna.out
  have hzz6 := hb.size
  have Bna' := Lib.hid (hb.blk Bna.out (by omega))
  clear Bna
  have Bna := Lib.hid Bna'.out
  clear Bna'
  clear hc hb
  clear k0 k1 k2 k3 kf
  obtain ⟨nb, hnv⟩ : ∃ x, nameV T (nameM T s1) = x := ⟨_, rfl⟩
  rw [hnv]
  have Hnb := Lib.hid hnv
  clear hnv
  have LAnb := Lib.hid (L6.out.alloc (.cells #[sv nb] 9))
  have Bnb : Hid ((v6.alloc (.cells #[sv nb] 9)).heap[v6.heap.size]? = some (.cells #[sv nb] 9 (0, 0))) := heap_alloc_new _ _
  have hltBnanb : v3.heap.size < v6.heap.size := by have := hzz6; omega
  have Bna' := Lib.hid (alloc_blk (.cells #[sv nb] 9) Bna.out)
  clear Bna
  have Bna := Lib.hid Bna'.out
  clear Bna'
  have hlonb := lt_heap L6.out.loc
  have ⟨⟨k0, k1, k2, k3⟩, kf⟩ := LAnb.out.cells
  have L7 := Lib.hid (LAnb.out.set3 (.slice (some ⟨v6.heap.size, 0, none⟩) 1 1))
  have Bna' := Lib.hid ((Below.heap_setCell (v6.alloc (.cells #[sv nb] 9)) ⟨w.heap.size + 1, 3, none⟩ (.slice (some ⟨v6.heap.size, 0, none⟩) 1 1) v3.heap.size (by show v3.heap.size ≠ w.heap.size + 1; omega)).trans Bna.out)
  clear Bna
  have Bna := Lib.hid Bna'.out
  clear Bna'
  have Bnb' := Lib.hid ((Below.heap_setCell (v6.alloc (.cells #[sv nb] 9)) ⟨w.heap.size + 1, 3, none⟩ (.slice (some ⟨v6.heap.size, 0, none⟩) 1 1) v6.heap.size (by show v6.heap.size ≠ w.heap.size + 1; omega)).trans Bnb.out)
  clear Bnb
  have Bnb := Lib.hid Bnb'.out
  clear Bnb'
  have hsnb : v6.heap.size + 1 ≤ ((v6.alloc (.cells #[sv nb] 9)).setCell ⟨w.heap.size + 1, 3, none⟩ (.slice (some ⟨v6.heap.size, 0, none⟩) 1 1)).heap.size := by simp
  have Hlonb := Lib.hid hlonb
  have Hsnb := Lib.hid hsnb
  clear hlonb hsnb
  have HltBnanb := Lib.hid hltBnanb
  clear hltBnanb
  clear hlona hsna
  go_wp2_with fail
  clear k0 k1 k2 k3 kf
  have ⟨⟨k0, k1, k2, k3⟩, kf⟩ := L7.out.cells
  refine wp_region_D (S := fun w' => w'.cell? ⟨w.heap.size + 1, 3, none⟩ = some (.slice (some ⟨v6.heap.size, 0, none⟩) 1 1)) (st := 7) (by kernel_rfl) ?_
  refine wpAnyT_pure 0 ?z1 rfl (by kernel_rfl) (by kernel_rfl) (by kernel_rfl) (by kernel_rfl) (fun _ _ _ h => h) k3 rfl ?rz1 ?sz1
  case rz1 => intro w hS; go_simp; rfl
  case sz1 =>
  refine wpAnyT_pure 1 ?z2 rfl (by kernel_rfl) (by kernel_rfl) (by kernel_rfl) (by kernel_rfl) (fun _ _ _ h => h) k3 rfl ?rz2 ?sz2
  case rz2 => intro w hS; go_simp; rfl
  case sz2 =>
  refine wpAnyT_pure 2 ?z3 rfl (by kernel_rfl) (by kernel_rfl) (by kernel_rfl) (by kernel_rfl) (fun _ _ _ h => h) k3 rfl ?rz3 ?sz3
  case rz3 => intro w hS; go_simp; rfl
  case sz3 =>
  refine wpAnyT_all (rs := [3]) (by kernel_rfl) (by decide) ?_
  intro i hi
  obtain rfl : i = 3 := by simpa using hi
  clear hi
  refine wpOp_of_list rfl ?_
  go_wp2_with fail
  refine (name_any (L7.out.drewN 1).p hT'.out).mono ?_
  rintro e v8 ⟨rfl, hc, hb⟩
  have hlona := Hlona.out
  have hlonb := Hlonb.out
  have hsnb := Hsnb.out
  have hltBnanb := HltBnanb.out
  have L8 := Lib.hid ((L7.out.drewN 1).call hc hb)
  have Bna' := Lib.hid ((But.undrew hb).blk Bna.out (by omega))
  clear Bna
  have Bna := Lib.hid Bna'.out
  clear Bna'
  have Bnb' := Lib.hid ((But.undrew hb).blk Bnb.out (by omega))
  clear Bnb
  have Bnb := Lib.hid Bnb'.out
  clear Bnb'
  have hzb := hb.size
  clear k0 k1 k2 k3 kf
  clear hc hb
  have ⟨⟨k0, k1, k2, k3⟩, kf⟩ := L8.out.cells
  obtain ⟨nc, hnv⟩ : ∃ x, nameV T (nameM T (nameM T s1)) = x := ⟨_, rfl⟩
  rw [hnv]
  have Hnc := Lib.hid hnv
  clear hnv
  go_wp2
  refine ⟨fun _ => k3, ?_⟩
  refine wpAnyT_all (rs := [4]) (by kernel_rfl) (by decide) ?_
  intro i hi
  obtain rfl : i = 4 := by simpa using hi
  clear hi
  refine wpOp_of_list rfl ?_
  have k3a := (((Below.refl v8.heap.size v8).alloc (Nat.le_refl _) (.cells #[sv nc] 9)).cell (p := ⟨w.heap.size + 1, 3, none⟩) (lt_heap L8.out.loc)).trans k3
  have hzL := lt_heap L8.out.loc
  go_wp2
  refine ⟨fun _ => k3a, ?_⟩
  refine wpAnyT_all (rs := [5]) (by kernel_rfl) (by decide) ?_
  intro i hi
  obtain rfl : i = 5 := by simpa using hi
  clear hi
  refine wpOp_of_list rfl ?_
  have OWN := Lib.hid ((own_one Bnb.out (by omega) : World.ownsRow v8 (w.heap.size + 2) 9 1 (.slice (some ⟨v6.heap.size, 0, none⟩) 1 1) 1 [sv nb]))
  (refine wpList_pushH [sv nc] rfl _ _ 39 rfl (w.heap.size + 2) 9 _ 1 16 Tryd.underlying39 infoStr rfl (by omega) _ 1 [sv nb] OWN.out rfl _ rfl (by simp) rfl rfl (by unfold maxLen; omega) (by omega) (by omega) ?_; intro g cap w6 hown1 hg1 hg2 hg3; have LG := Lib.hid (L8.out.grown hg1 OWN.out); have Bna' := Lib.hid ((hg1.block v3.heap.size (lt_heap Bna.out) (by show some v3.heap.size ≠ some v6.heap.size; intro h; injection h with h; omega)).trans Bna.out); have SO := Lib.hid (SliceAt.of_owns hown1); clear hown1 hg1)
  clear Bna
  have Bna := Lib.hid Bna'.out
  clear Bna'
  clear Bnb
  clear k0 k1 k2 k3 kf
  clear k3a OWN
  have ⟨⟨k0, k1, k2, k3⟩, kf⟩ := LG.out.cells
  go_wp2
  refine ⟨fun _ => k3, ?_⟩
  refine wpAnyT_pure 6 ?z4 rfl (by kernel_rfl) (by kernel_rfl) (by kernel_rfl) (by kernel_rfl) (fun _ _ _ h => h) k3 rfl ?rz4 ?sz4
  case rz4 => intro w hS; go_simp; rfl
  case sz4 =>
  refine wpAnyT_all (rs := [7]) (by kernel_rfl) (by decide) ?_
  intro i hi
  obtain rfl : i = 7 := by simpa using hi
  clear hi
  refine wpOp_of_list rfl ?_
  go_wp2
  refine ⟨fun h => absurd rfl h, ?_⟩
  refine wpAnyT_done (by kernel_rfl) ?_ _
  have L9 := Lib.hid (LG.out.set3 (.slice (some ⟨g, 0, none⟩) 2 cap))
  have TS_0 : Hid (StrsAt (w6.setCell ⟨w.heap.size + 1, 3, none⟩ (.slice (some ⟨g, 0, none⟩) 2 cap)) (.slice (some ⟨g, 0, none⟩) 2 cap) [nb, nc]) := SliceAt.same SO.out (LG.out.sstr 3 _)
  have Bna' := Lib.hid ((Below.heap_setCell w6 ⟨w.heap.size + 1, 3, none⟩ (.slice (some ⟨g, 0, none⟩) 2 cap) v3.heap.size (by show v3.heap.size ≠ w.heap.size + 1; omega)).trans Bna.out)
  clear Bna
  have Bna := Lib.hid Bna'.out
  clear Bna'
  go_wp2_with fail
  refine (end_any L9.out.p hT'.out).mono ?_
  rintro e v10 ⟨rfl, hc, hb⟩
  have L10 := Lib.hid (L9.out.call hc hb)
  have TS_10 := Lib.hid (SliceAt.same TS_0.out (L9.out.str hb))
  have Bna' := Lib.hid (hb.blk Bna.out (by omega))
  clear Bna
  have Bna := Lib.hid Bna'.out
  clear Bna'
  clear hc hb
  clear k0 k1 k2 k3 kf
  have hst2 : stmtS T s = endM T (nameM T (nameM T (nameM T s1))) := by unfold stmtS stmtM; rw [HS.out, HN.out, if_pos rfl]; dsimp only; rw [HOP.out, HS1.out]; simp
  have hval : (stmtM T s).1 = ⟨8, [], [na], [nb, nc]⟩ := by unfold stmtM; rw [HN.out]; dsimp only; rw [HOP.out, HS1.out]; simp; exact ⟨Hna.out, Hnb.out, Hnc.out⟩
  have FIN := Lib.hid hst2
  have VAL := Lib.hid hval
  clear hst2 hval
  have ⟨⟨k0, k1, k2, k3⟩, kf⟩ := L10.out.cells
  have ⟨⟨j0, j1, j2, j3⟩, jf⟩ := L10.out.rescells
  go_wp2
  have G := set4 L10.out.res (.int .i64 8) (.string ⟨#[]⟩) (.slice (some ⟨v3.heap.size, 0, none⟩) 1 1) (.slice (some ⟨g, 0, none⟩) 2 cap)
  have ⟨gc, _⟩ := blk_cells G
  refine bodyPost_ret (v := .agg #[.int .i64 8, .string ⟨#[]⟩, .slice (some ⟨v3.heap.size, 0, none⟩) 1 1, .slice (some ⟨g, 0, none⟩) 2 cap]) ?_ rfl ?_
  · simp [results, Tryd.results82, go_sem, gc]
  · exact stl_end L10.out FIN.out rfl rfl (fun _ h0 => by rw [VAL.out]; exact ⟨rfl, rfl, one_strs Bna.out, TS_10.out⟩) _ _ _ _
end Go.Proofs.YtpnfdmajpkpjoaaDoor.R

