/- A part of the proof. -/
import Derived.Test.YtipnhmdibkkifaaGreatDoorNu27
set_option linter.unusedVariables false
set_option linter.unusedSimpArgs false
set_option linter.unusedVariables false
set_option linter.unusedSimpArgs false
set_option linter.unusedSectionVars false
namespace Go.Proofs.YtipnhmdibkkifaaGreatDoor
open Go.RowKit
variable [Base]
theorem set2_0 {w : World} {b : Nat} {a0 a1 : Value} {t : TypeId} {fr : Nat × Nat} (h : w.heap[b]? = some (.cells #[a0, a1] t fr)) (x : Value) : (w.setCell ⟨b, 0, none⟩ x).heap[b]? = some (.cells #[x, a1] t fr) := by
  simp [World.setCell, Array.getElem?_modify, h]
theorem set2_1 {w : World} {b : Nat} {a0 a1 : Value} {t : TypeId} {fr : Nat × Nat} (h : w.heap[b]? = some (.cells #[a0, a1] t fr)) (x : Value) : (w.setCell ⟨b, 1, none⟩ x).heap[b]? = some (.cells #[a0, x] t fr) := by
  simp [World.setCell, Array.getElem?_modify, h]
theorem tyAt_setCell {w : World} {b o : Nat} {x : Value} (c : Nat) : tyAt (w.setCell ⟨b, o, none⟩ x) c = tyAt w c := by
  unfold tyAt
  by_cases hbc : b = c
  · subst hbc
    simp only [World.setCell, Array.getElem?_modify, if_true]
    cases w.heap[b]? with
    | none => rfl
    | some o => cases o <;> rfl
  · simp only [World.setCell, Array.getElem?_modify, if_neg hbc]
theorem LpL.store2 {U E : TypeId} {esz B bp R bb : Nat} {zR : Obj} {pre : List Value} {T : List Tok} {w0 w : World} {s : PS} {v : Value} {n : Nat} {xs : List Value} (h : LpL U E esz B bp R bb zR pre T w0 s w v n xs) (hUT : 78 ≠ U) (hR : tyAt w R = some U) (hR0 : w0.heap.size = R) (x0 x1 : Value) :
    PSt B bp T s ((w.setCell ⟨R, 0, none⟩ x0).setCell ⟨R, 1, none⟩ x1) ∧ But bp w0 ((w.setCell ⟨R, 0, none⟩ x0).setCell ⟨R, 1, none⟩ x1) := by
  have hlt := h.lt
  have hpg := h.p.ge
  exact ⟨(h.p.setOther hR hUT h.ne (by omega) _).setOther (by rw [tyAt_setCell]; exact hR) hUT h.ne (by omega) _, (h.but.setCell _ (.inr (by show w0.heap.size ≤ R; omega)) _).setCell _ (.inr (by show w0.heap.size ≤ R; omega)) _⟩
theorem sameTs_set2 {ts : List TypeId} {U : TypeId} {w : World} {R : Nat} (hR : tyAt w R = some U) (hU : U ∉ ts) (x0 x1 : Value) : SameTs ts w ((w.setCell ⟨R, 0, none⟩ x0).setCell ⟨R, 1, none⟩ x1) := fun t hm =>
  (SameT.setCell (U := U) hR (fun e => hU (e ▸ hm))).trans (SameT.setCell (U := U) (by rw [tyAt_setCell]; exact hR) (fun e => hU (e ▸ hm)))
def BlPost (B bp : Nat) (T : List Tok) (s : PS) (w : World) (e : Ending) (w' : World) : Prop :=
  ∃ v, e = .returned (.agg #[sv (headV T kBlock s), v]) ∧ v.oneCell' = true ∧ PSt B bp T (blockM T s).2 w' ∧ But bp w w' ∧ ((blockM T s).2.err = 0 → BlockCells w' [sv (headV T kBlock s), v] (blockM T s).1)
def FnPost (B bp : Nat) (T : List Tok) (s : PS) (w : World) (e : Ending) (w' : World) : Prop :=
  ∃ v, e = .returned (.agg #[sv (headV T kFunc s), v]) ∧ v.oneCell' = true ∧ PSt B bp T (funcM T s).2 w' ∧ But bp w w' ∧ ((funcM T s).2.err = 0 → FuncCells w' [sv (headV T kFunc s), v] (funcM T s).1)
set_option maxHeartbeats 2000000 in
theorem block_any {B bp : Nat} {T : List Tok} {s : PS} {w : World} (h : PSt B bp T s w) (hT : T.length ≤ 1000000) :
    Calls Tryz.prog 41 #[.pointer (some ⟨bp, 0, none⟩)] w (BlPost B bp T s w) := by
  have hlt := h.lt
  have hge := h.ge
  have H := Lib.hid h
  clear h
  go_enter Tryz.func41, Tryz.ntmps41
  have P0 := Lib.hid (H.out.alloc (.cells #[.string ⟨#[]⟩, .slice none 0 0] 99))
  have B0 := Lib.hid ((But.refl bp w).alloc (.cells #[.string ⟨#[]⟩, .slice none 0 0] 99))
  have R0 : Hid ((w.alloc (.cells #[.string ⟨#[]⟩, .slice none 0 0] 99)).heap[w.heap.size]? = some (.cells #[.string ⟨#[]⟩, .slice none 0 0] 99 (0, 0))) := heap_alloc_new _ _
  go_wp2_with fail
  refine (is_any P0.out kBlock).mono ?_
  rintro e v1 ⟨rfl, hp, hb⟩
  have P1 := Lib.hid hp
  have B1 := Lib.hid (B0.out.trans hb)
  have R1 := Lib.hid (hb.blk R0.out (by omega))
  clear hp hb P0 R0
  have TK := Lib.hid (take_any P1.out hT (isW T kBlock s) isW_kind)
  generalize hbw : isW T kBlock s = bw at TK ⊢
  have HBW := Lib.hid hbw
  clear hbw
  go_wp2_with fail
  refine (TK.out).mono ?_
  rintro e v2 ⟨rfl, hp, hb⟩
  have P2 := Lib.hid hp
  have B2 := Lib.hid (B1.out.trans hb)
  have R2 := Lib.hid (hb.blk R1.out (by omega))
  clear hp hb P1 R1
  clear TK
  obtain ⟨s1, hs1⟩ : ∃ x, takeM bw s = x := ⟨_, rfl⟩
  rw [hs1] at P2
  have HS1 := Lib.hid hs1
  clear hs1
  go_wp2_with fail
  refine (name_any' P2.out hT).mono ?_
  rintro e v3 ⟨rfl, hp, hb⟩
  have P3 := Lib.hid hp
  have B3 := Lib.hid (B2.out.trans hb)
  have R3 := Lib.hid (hb.blk R2.out (by omega))
  clear hp hb P2 R2
  obtain ⟨nm, hnm⟩ : ∃ x, nameV T s1 = x := ⟨_, rfl⟩
  rw [hnm]
  have HNM := Lib.hid hnm
  clear hnm
  have hz3 := lt_heap R3.out
  have hz3' := B3.out.size
  have L4 : Hid (LpL 99 118 4 B bp w.heap.size v3.heap.size (.cells #[.string ⟨#[]⟩, .slice none 0 0] 99 (0, 0)) [sv nm] T w (nameM T s1) (v3.alloc (.cells #[sv nm, .slice none 0 0] 99)) (.slice none 0 0) 0 []) := ⟨P3.out.alloc _, B3.out.alloc _, hlt, by omega, by omega, by omega, alloc_blk _ R3.out, heap_alloc_new v3 (.cells #[sv nm, .slice none 0 0] 99), World.ownsRow_nil _ _ _ _⟩
  clear P3 R3 B3
  go_wp2_with fail
  refine (end_any L4.out.p hT).mono ?_
  rintro e v5 ⟨rfl, hp, hb⟩
  have L5 := Lib.hid (L4.out.call hp hb)
  clear hp hb L4
  obtain ⟨bb, hbb⟩ : ∃ x, v3.heap.size = x := ⟨_, rfl⟩
  rw [hbb] at L5 hz3 ⊢
  clear hbb hz3'
  have hs5 : endM T (nameM T s1) = headM T kBlock s := by unfold headM; rw [HBW.out, HS1.out]
  rw [hs5] at L5
  clear hs5
  obtain ⟨s5, hs5⟩ : ∃ x, headM T kBlock s = x := ⟨_, rfl⟩
  rw [hs5] at L5
  have HS5 := Lib.hid hs5
  clear hs5
  obtain ⟨RM, hRM⟩ : ∃ x, loopM (startsB T) (stS T) 32 [] (if (startsB T) s5 = true then s5 else s5.fail 4) = x := ⟨_, rfl⟩
  have HRM := Lib.hid hRM
  clear hRM
  have I0 : Hid (LpIn StmtCells (startsB T) (stS T) 99 118 4 B bp w.heap.size bb 32 (.cells #[.string ⟨#[]⟩, .slice none 0 0] 99 (0, 0)) [sv nm] T RM w 34 v5 (.bool true)) := ⟨s5, .slice none 0 0, 0, [], true, rfl, L5.out, rfl, Hd.start (fun _ h => starts_err h) HRM.out ⟨[], rfl, trivial⟩⟩
  clear L5
  go_wp2
  go_loopg [4] 34 (fun g vb wr => Hid (LpIn StmtCells (startsB T) (stS T) 99 118 4 B bp w.heap.size bb 32 (.cells #[.string ⟨#[]⟩, .slice none 0 0] 99 (0, 0)) [sv nm] T RM w g wr vb))
  case atStart => exact I0
  case round =>
    obtain ⟨s6, v, n, xs, b, rfl, l6, hgn, hd⟩ := hrel.out
    obtain ⟨va, vc, rfl⟩ := own_form l6.own
    have L6 := Lib.hid l6
    have HD := Lib.hid hd
    have hge6 := l6.ge
    have hlth := l6.lth
    have c1 := (blk_cells l6.loc).1 1
    have c0 := (blk_cells l6.loc).1 0
    have cf := (blk_cells l6.loc).2
    clear l6 hd hrel I0
    simp at c0 c1
    cases b
    · obtain ⟨hr2, hok⟩ := HD.out.done
      have HR2 := Lib.hid hr2
      have HOK := Lib.hid hok
      clear hr2 hok HD
      clear c0 c1 cf
      have c1 := (blk_cells L6.out.loc).1 1
      have c0 := (blk_cells L6.out.loc).1 0
      have cf := (blk_cells L6.out.loc).2
      have r0 := (blk_cells L6.out.res).1 0
      have r1 := (blk_cells L6.out.res).1 1
      have rf := (blk_cells L6.out.res).2
      have hrb := L6.out.rb
      simp at c0 c1 r0 r1
      go_wp2
      have G := set2_1 (set2_0 L6.out.res (sv nm)) (.slice va n vc)
      have ⟨gc, _⟩ := blk_cells G
      have ⟨q1, q2⟩ := L6.out.store2 (by decide) (tyAt_of L6.out.res (by have := L6.out.p.kw.bs; have := L6.out.p.ge; have := L6.out.lt; omega)) rfl (sv nm) (.slice va n vc)
      refine bodyPost_ret (v := .agg #[sv nm, .slice va n vc]) ?_ rfl ?_
      · simp [results, Tryz.results41, go_sem, gc]
      have hv : headV T kBlock s = nm := by unfold headV; rw [HBW.out, HS1.out, HNM.out]
      have hM : blockM T s = (⟨nm, RM.1⟩, RM.2) := by
        unfold blockM
        dsimp only
        rw [hv, HS5.out, stmtsM_loop]
        rw [show loopM (startsB T) (stS T) 32 [] (if startsB T s5 = true then s5 else s5.fail 4) = RM from HRM.out]
      unfold BlPost
      rw [hM, hv]
      refine ⟨_, rfl, rfl, by rw [HR2.out]; exact q1, q2, fun h0 => ?_⟩
      have hrow := HOK.out (by rw [← HR2.out]; exact h0)
      have hk := (sameTs_set2 (ts := [9]) (tyAt_of L6.out.res (by have := L6.out.p.kw.bs; have := L6.out.p.ge; have := L6.out.lt; omega)) (by decide) (sv nm) (.slice va n vc))
      obtain ⟨xss, ex, hall⟩ := hrow.mono (sameTs_stmt hk)
      refine ⟨_, rfl, xss, ?_, hall⟩
      rw [← ex]
      exact (SliceAt.of_owns L6.out.own).same (sameTs_set2 (ts := [118]) (tyAt_of L6.out.res (by have := L6.out.p.kw.bs; have := L6.out.p.ge; have := L6.out.lt; omega)) (by decide) _ _ _ (by simp))
    · have hle := HD.out.le (by decide) (fun _ h => starts_err h)
      go_wp2_with fail
      refine (room_any L6.out.p n 32).mono ?_
      rintro e v7 ⟨rfl, hp, hb⟩
      have e1 : (if (n : Int) = 32 then s6.fail 7 else s6) = roomS 32 n s6 := rfl
      rw [e1] at hp
      clear e1
      obtain ⟨sh, hsh⟩ : ∃ x, roomS 32 n s6 = x := ⟨_, rfl⟩
      rw [hsh] at hp
      have HSH := Lib.hid hsh
      have L7 := Lib.hid (L6.out.call hp hb)
      have K7 := Lib.hid (L6.out.same (ts := [9]) (by decide) hb)
      clear hp hb c0 c1 cf hsh
      have c1 := (blk_cells L7.out.loc).1 1
      have cf := (blk_cells L7.out.loc).2
      simp at c1
      go_wp2_with fail
      refine wp_region_D (S := fun w' => w'.cell? ⟨bb, 1, none⟩ = some (.slice va n vc)) (st := 7) (by kernel_rfl) ?_
      refine wpAnyT_pure 0 ?z1 rfl (by kernel_rfl) (by kernel_rfl) (by kernel_rfl) (by kernel_rfl) (fun _ _ _ h => h) c1 rfl ?rz1 ?sz1
      case rz1 => intro w hS; go_simp; rfl
      case sz1 =>
      refine wpAnyT_pure 1 ?z2 rfl (by kernel_rfl) (by kernel_rfl) (by kernel_rfl) (by kernel_rfl) (fun _ _ _ h => h) c1 rfl ?rz2 ?sz2
      case rz2 => intro w hS; go_simp; rfl
      case sz2 =>
      refine wpAnyT_pure 2 ?z3 rfl (by kernel_rfl) (by kernel_rfl) (by kernel_rfl) (by kernel_rfl) (fun _ _ _ h => h) c1 rfl ?rz3 ?sz3
      case rz3 => intro w hS; go_simp; rfl
      case sz3 =>
      refine wpAnyT_all (rs := [3]) (by kernel_rfl) (by decide) ?_
      intro i hi
      obtain rfl : i = 3 := by simpa using hi
      clear hi
      refine wpOp_of_list rfl ?_
      go_wp2_with fail
      refine (pstmt_any (L7.out.drewN 1).p hT).mono ?_
      rintro e v8 ⟨op, d, us, ts, rfl, hu, ht, hp, hb, hc⟩
      have hb := But.undrew hb
      have L8 := Lib.hid (L7.out.call hp hb)
      have K8 := Lib.hid (K7.out.trans (L7.out.same (ts := [9]) (by decide) hb))
      have HC := Lib.hid hc
      have HU := Lib.hid (show List.all [.int .i64 op, sv d, us, ts] Value.oneCell' = true by simp only [List.all_cons, List.all_nil, hu, ht]; rfl)
      clear c1 cf hp hb hc hu ht
      have c1 := (blk_cells L8.out.loc).1 1
      have cf := (blk_cells L8.out.loc).2
      simp at c1
      have hl8 := L8.out.lth
      go_wp2
      refine ⟨fun _ => c1, ?_⟩
      refine wpAnyT_all (rs := [4]) (by kernel_rfl) (by decide) ?_
      intro i hi
      obtain rfl : i = 4 := by simpa using hi
      clear hi
      refine wpOp_of_list rfl ?_
      have c1a := (((Below.refl v8.heap.size v8).alloc (Nat.le_refl _) (.cells #[.int .i64 op, sv d, us, ts] 118)).cell (p := ⟨bb, 1, none⟩) hl8).trans c1
      go_wp2
      refine ⟨fun _ => c1a, ?_⟩
      refine wpAnyT_all (rs := [5]) (by kernel_rfl) (by decide) ?_
      intro i hi
      obtain rfl : i = 5 := by simpa using hi
      clear hi
      refine wpOp_of_list rfl ?_
      refine wpList_pushH [.int .i64 op, sv d, us, ts] rfl _ _ 97 rfl (bb + 1) 118 _ 4 72 Tryz.underlying97 infoStmt rfl (by omega) _ n xs L8.out.own rfl _ rfl (by simp) rfl HU.out (by unfold maxLen; omega) (by omega) (by omega) ?_
      intro g cap w9 hown1 hg1 hg2 hg3
      have c1b := (blk_cells (L8.out.cell1 hg1)).1 1
      have cfb := (blk_cells (L8.out.cell1 hg1)).2
      simp at c1b
      have hl9 := lt_heap (L8.out.cell1 hg1)
      have L9 := Lib.hid (L8.out.push hown1 hg1 (by decide) (by decide) 1 rfl)
      have K9 := Lib.hid (L8.out.pushSame (ts := [9]) (by decide) (by decide) hg1 1 (.slice (some ⟨g, 0, none⟩) (n + 1) cap))
      clear hown1 hg1 c1 cf c1a
      have c1 := c1b
      have cf := cfb
      clear c1b cfb
      go_wp2
      refine ⟨fun _ => c1, ?_⟩
      refine wpAnyT_pure 6 ?z4 rfl (by kernel_rfl) (by kernel_rfl) (by kernel_rfl) (by kernel_rfl) (fun _ _ _ h => h) c1 rfl ?rz4 ?sz4
      case rz4 => intro w hS; go_simp; rfl
      case sz4 =>
      refine wpAnyT_all (rs := [7]) (by kernel_rfl) (by decide) ?_
      intro i hi
      obtain rfl : i = 7 := by simpa using hi
      clear hi
      refine wpOp_of_list rfl ?_
      go_wp2
      refine ⟨fun h => absurd rfl h, ?_⟩
      refine wpAnyT_done (by kernel_rfl) ?_ _
      clear c1 cf
      go_wp2_with fail
      refine (starts_any L9.out.p).mono ?_
      rintro e v10 ⟨rfl, hp, hb⟩
      have L10 := Lib.hid (L9.out.call hp hb)
      have K10 := Lib.hid (L9.out.same (ts := [9]) (by decide) hb)
      clear hp hb
      obtain ⟨tb, htb⟩ : ∃ x, (startsB T) ((stS T) sh).2 = x := ⟨_, rfl⟩
      rw [show (startsB T) (stmtS T sh) = tb from htb]
      have HTB := Lib.hid htb
      clear htb
      go_wp2
      go_roundg (gk - 1)
      case measure => omega
      case rel =>
        refine ⟨_, _, n + 1, _, tb, rfl, L10.out, by omega, .inl ⟨HTB.out.symm, ?_⟩⟩
        have st := HD.out.step (OK' := RowOK StmtCells v10 (xs ++ [.int .i64 op, sv d, us, ts])) (st_no T) (fun _ h => starts_err h) (by decide) (fun acc hok hb hr h5 => ?_)
        · rw [HSH.out] at st; exact st
        · have hsh := HSH.out
          rw [hr] at hsh
          subst hsh
          exact (hok.mono (sameTs_stmt ((K8.out.trans K9.out).trans K10.out))).snoc (sameTs_stmt (K9.out.trans K10.out) _ _ (HC.out hb h5))
theorem take_ok {s : PS} {ok : Bool} (h : (takeM ok s).err = 0) : s.err = 0 := by
  rcases Int.decEq s.err 0 with h1 | h1
  · cases ok
    · unfold takeM at h
      rw [if_neg (by decide), fail_err h1] at h
      exact absurd h h1
    · exact absurd h h1
  · exact h1
theorem tail_ok {T : List Tok} {s : PS} {ok : Bool} (h : (endM T (takeM ok s)).err = 0) : s.err = 0 := take_ok (take_ok (by unfold endM at h; exact h))
set_option maxHeartbeats 2000000 in
theorem function_any {B bp : Nat} {T : List Tok} {s : PS} {w : World} (h : PSt B bp T s w) (hT : T.length ≤ 1000000) :
    Calls Tryz.prog 24 #[.pointer (some ⟨bp, 0, none⟩)] w (FnPost B bp T s w) := by
  have hlt := h.lt
  have hge := h.ge
  have H := Lib.hid h
  clear h
  go_enter Tryz.func24, Tryz.ntmps24
  have P0 := Lib.hid (H.out.alloc (.cells #[.string ⟨#[]⟩, .slice none 0 0] 74))
  have B0 := Lib.hid ((But.refl bp w).alloc (.cells #[.string ⟨#[]⟩, .slice none 0 0] 74))
  have R0 : Hid ((w.alloc (.cells #[.string ⟨#[]⟩, .slice none 0 0] 74)).heap[w.heap.size]? = some (.cells #[.string ⟨#[]⟩, .slice none 0 0] 74 (0, 0))) := heap_alloc_new _ _
  go_wp2_with fail
  refine (is_any P0.out kFunc).mono ?_
  rintro e v1 ⟨rfl, hp, hb⟩
  have P1 := Lib.hid hp
  have B1 := Lib.hid (B0.out.trans hb)
  have R1 := Lib.hid (hb.blk R0.out (by omega))
  clear hp hb P0 R0
  have TK := Lib.hid (take_any P1.out hT (isW T kFunc s) isW_kind)
  generalize hbw : isW T kFunc s = bw at TK ⊢
  have HBW := Lib.hid hbw
  clear hbw
  go_wp2_with fail
  refine (TK.out).mono ?_
  rintro e v2 ⟨rfl, hp, hb⟩
  have P2 := Lib.hid hp
  have B2 := Lib.hid (B1.out.trans hb)
  have R2 := Lib.hid (hb.blk R1.out (by omega))
  clear hp hb P1 R1
  clear TK
  obtain ⟨s1, hs1⟩ : ∃ x, takeM bw s = x := ⟨_, rfl⟩
  rw [hs1] at P2
  have HS1 := Lib.hid hs1
  clear hs1
  go_wp2_with fail
  refine (name_any' P2.out hT).mono ?_
  rintro e v3 ⟨rfl, hp, hb⟩
  have P3 := Lib.hid hp
  have B3 := Lib.hid (B2.out.trans hb)
  have R3 := Lib.hid (hb.blk R2.out (by omega))
  clear hp hb P2 R2
  obtain ⟨nm, hnm⟩ : ∃ x, nameV T s1 = x := ⟨_, rfl⟩
  rw [hnm]
  have HNM := Lib.hid hnm
  clear hnm
  have hz3 := lt_heap R3.out
  have hz3' := B3.out.size
  have L4 : Hid (LpL 74 99 2 B bp w.heap.size v3.heap.size (.cells #[.string ⟨#[]⟩, .slice none 0 0] 74 (0, 0)) [sv nm] T w (nameM T s1) (v3.alloc (.cells #[sv nm, .slice none 0 0] 74)) (.slice none 0 0) 0 []) := ⟨P3.out.alloc _, B3.out.alloc _, hlt, by omega, by omega, by omega, alloc_blk _ R3.out, heap_alloc_new v3 (.cells #[sv nm, .slice none 0 0] 74), World.ownsRow_nil _ _ _ _⟩
  clear P3 R3 B3
  go_wp2_with fail
  refine (end_any L4.out.p hT).mono ?_
  rintro e v5 ⟨rfl, hp, hb⟩
  have L5 := Lib.hid (L4.out.call hp hb)
  clear hp hb L4
  obtain ⟨bb, hbb⟩ : ∃ x, v3.heap.size = x := ⟨_, rfl⟩
  rw [hbb] at L5 hz3 ⊢
  clear hbb hz3'
  have hs5 : endM T (nameM T s1) = headM T kFunc s := by unfold headM; rw [HBW.out, HS1.out]
  rw [hs5] at L5
  clear hs5
  obtain ⟨s5, hs5⟩ : ∃ x, headM T kFunc s = x := ⟨_, rfl⟩
  rw [hs5] at L5
  have HS5 := Lib.hid hs5
  clear hs5
  obtain ⟨RM, hRM⟩ : ∃ x, loopM (isW T kBlock) (blockM T) 16 [] (if (isW T kBlock) s5 = true then s5 else s5.fail 4) = x := ⟨_, rfl⟩
  have HRM := Lib.hid hRM
  clear hRM
  have I0 : Hid (LpIn BlockCells (isW T kBlock) (blockM T) 74 99 2 B bp w.heap.size bb 16 (.cells #[.string ⟨#[]⟩, .slice none 0 0] 74 (0, 0)) [sv nm] T RM w 18 v5 (.bool true)) := ⟨s5, .slice none 0 0, 0, [], true, rfl, L5.out, rfl, Hd.start (fun _ h => isW_err h _) HRM.out ⟨[], rfl, trivial⟩⟩
  clear L5
  go_wp2
  go_loopg [4] 18 (fun g vb wr => Hid (LpIn BlockCells (isW T kBlock) (blockM T) 74 99 2 B bp w.heap.size bb 16 (.cells #[.string ⟨#[]⟩, .slice none 0 0] 74 (0, 0)) [sv nm] T RM w g wr vb))
  case atStart => exact I0
  case round =>
    obtain ⟨s6, v, n, xs, b, rfl, l6, hgn, hd⟩ := hrel.out
    obtain ⟨va, vc, rfl⟩ := own_form l6.own
    have L6 := Lib.hid l6
    have HD := Lib.hid hd
    have hge6 := l6.ge
    have hlth := l6.lth
    have c1 := (blk_cells l6.loc).1 1
    have c0 := (blk_cells l6.loc).1 0
    have cf := (blk_cells l6.loc).2
    clear l6 hd hrel I0
    simp at c0 c1
    cases b
    · obtain ⟨hr2, hok⟩ := HD.out.done
      have HR2 := Lib.hid hr2
      have HOK := Lib.hid hok
      clear hr2 hok HD
      go_wp2_with fail
      refine (is_any L6.out.p kEnd).mono ?_
      rintro e v7 ⟨rfl, hp, hb⟩
      have L7 := Lib.hid (L6.out.call hp hb)
      have K7 := Lib.hid (L6.out.same (ts := [9, 118]) (by decide) hb)
      clear hp hb
      have TK := Lib.hid (take_any L7.out.p hT (isW T kEnd s6) isW_kind)
      generalize hbe : isW T kEnd s6 = be at TK ⊢
      have HBE := Lib.hid hbe
      clear hbe
      go_wp2_with fail
      refine TK.out.mono ?_
      rintro e v8 ⟨rfl, hp, hb⟩
      have L8 := Lib.hid (L7.out.call hp hb)
      have K8 := Lib.hid (K7.out.trans (L7.out.same (ts := [9, 118]) (by decide) hb))
      clear hp hb TK
      go_wp2_with fail
      refine (end_any L8.out.p hT).mono ?_
      rintro e v9 ⟨rfl, hp, hb⟩
      have L9 := Lib.hid (L8.out.call hp hb)
      have K9 := Lib.hid (K8.out.trans (L8.out.same (ts := [9, 118]) (by decide) hb))
      clear hp hb
      clear c0 c1 cf
      have c1 := (blk_cells L9.out.loc).1 1
      have c0 := (blk_cells L9.out.loc).1 0
      have cf := (blk_cells L9.out.loc).2
      have r0 := (blk_cells L9.out.res).1 0
      have r1 := (blk_cells L9.out.res).1 1
      have rf := (blk_cells L9.out.res).2
      have hrb := L9.out.rb
      simp at c0 c1 r0 r1
      go_wp2
      have G := set2_1 (set2_0 L9.out.res (sv nm)) (.slice va n vc)
      have ⟨gc, _⟩ := blk_cells G
      have ⟨q1, q2⟩ := L9.out.store2 (by decide) (tyAt_of L9.out.res (by have := L9.out.p.kw.bs; have := L9.out.p.ge; have := L9.out.lt; omega)) rfl (sv nm) (.slice va n vc)
      refine bodyPost_ret (v := .agg #[sv nm, .slice va n vc]) ?_ rfl ?_
      · simp [results, Tryz.results24, go_sem, gc]
      have hv : headV T kFunc s = nm := by unfold headV; rw [HBW.out, HS1.out, HNM.out]
      have hM : funcM T s = (⟨nm, RM.1⟩, endM T (takeM (isW T kEnd RM.2) RM.2)) := by
        unfold funcM
        dsimp only
        rw [hv, HS5.out, blocksM_loop]
        rw [show loopM (isW T kBlock) (blockM T) 16 [] (if isW T kBlock s5 = true then s5 else s5.fail 4) = RM from HRM.out]
      unfold FnPost
      rw [hM, hv]
      refine ⟨_, rfl, rfl, by rw [HR2.out, HBE.out]; exact q1, q2, fun h0 => ?_⟩
      have hrow := HOK.out (by rw [HR2.out, HBE.out] at h0; exact tail_ok h0)
      have hk := (K9.out.trans <| sameTs_set2 (ts := [9, 118]) (tyAt_of L9.out.res (by have := L9.out.p.kw.bs; have := L9.out.p.ge; have := L9.out.lt; omega)) (by decide) (sv nm) (.slice va n vc))
      obtain ⟨xss, ex, hall⟩ := hrow.mono (sameTs_block hk)
      refine ⟨_, rfl, xss, ?_, hall⟩
      rw [← ex]
      exact (SliceAt.of_owns L9.out.own).same (sameTs_set2 (ts := [99]) (tyAt_of L9.out.res (by have := L9.out.p.kw.bs; have := L9.out.p.ge; have := L9.out.lt; omega)) (by decide) _ _ _ (by simp))
    · have hle := HD.out.le (by decide) (fun _ h => isW_err h _)
      go_wp2_with fail
      refine (room_any L6.out.p n 16).mono ?_
      rintro e v7 ⟨rfl, hp, hb⟩
      have e1 : (if (n : Int) = 16 then s6.fail 7 else s6) = roomS 16 n s6 := rfl
      rw [e1] at hp
      clear e1
      obtain ⟨sh, hsh⟩ : ∃ x, roomS 16 n s6 = x := ⟨_, rfl⟩
      rw [hsh] at hp
      have HSH := Lib.hid hsh
      have L7 := Lib.hid (L6.out.call hp hb)
      have K7 := Lib.hid (L6.out.same (ts := [9, 118]) (by decide) hb)
      clear hp hb c0 c1 cf hsh
      have c1 := (blk_cells L7.out.loc).1 1
      have cf := (blk_cells L7.out.loc).2
      simp at c1
      go_wp2_with fail
      refine wp_region_D (S := fun w' => w'.cell? ⟨bb, 1, none⟩ = some (.slice va n vc)) (st := 7) (by kernel_rfl) ?_
      refine wpAnyT_pure 0 ?z1 rfl (by kernel_rfl) (by kernel_rfl) (by kernel_rfl) (by kernel_rfl) (fun _ _ _ h => h) c1 rfl ?rz1 ?sz1
      case rz1 => intro w hS; go_simp; rfl
      case sz1 =>
      refine wpAnyT_pure 1 ?z2 rfl (by kernel_rfl) (by kernel_rfl) (by kernel_rfl) (by kernel_rfl) (fun _ _ _ h => h) c1 rfl ?rz2 ?sz2
      case rz2 => intro w hS; go_simp; rfl
      case sz2 =>
      refine wpAnyT_pure 2 ?z3 rfl (by kernel_rfl) (by kernel_rfl) (by kernel_rfl) (by kernel_rfl) (fun _ _ _ h => h) c1 rfl ?rz3 ?sz3
      case rz3 => intro w hS; go_simp; rfl
      case sz3 =>
      refine wpAnyT_all (rs := [3]) (by kernel_rfl) (by decide) ?_
      intro i hi
      obtain rfl : i = 3 := by simpa using hi
      clear hi
      refine wpOp_of_list rfl ?_
      go_wp2_with fail
      refine (block_any (L7.out.drewN 1).p hT).mono ?_
      rintro e v8 ⟨bv, rfl, hu, hp, hb, hc⟩
      obtain ⟨bn, hbn⟩ : ∃ x, headV T kBlock sh = x := ⟨_, rfl⟩
      rw [hbn] at hc ⊢
      clear hbn
      have hb := But.undrew hb
      have L8 := Lib.hid (L7.out.call hp hb)
      have K8 := Lib.hid (K7.out.trans (L7.out.same (ts := [9, 118]) (by decide) hb))
      have HC := Lib.hid hc
      have HU := Lib.hid (show List.all [sv bn, bv] Value.oneCell' = true by simp only [List.all_cons, List.all_nil, hu]; rfl)
      clear c1 cf hp hb hc hu
      have c1 := (blk_cells L8.out.loc).1 1
      have cf := (blk_cells L8.out.loc).2
      simp at c1
      have hl8 := L8.out.lth
      go_wp2
      refine ⟨fun _ => c1, ?_⟩
      refine wpAnyT_all (rs := [4]) (by kernel_rfl) (by decide) ?_
      intro i hi
      obtain rfl : i = 4 := by simpa using hi
      clear hi
      refine wpOp_of_list rfl ?_
      have c1a := (((Below.refl v8.heap.size v8).alloc (Nat.le_refl _) (.cells #[sv bn, bv] 99)).cell (p := ⟨bb, 1, none⟩) hl8).trans c1
      go_wp2
      refine ⟨fun _ => c1a, ?_⟩
      refine wpAnyT_all (rs := [5]) (by kernel_rfl) (by decide) ?_
      intro i hi
      obtain rfl : i = 5 := by simpa using hi
      clear hi
      refine wpOp_of_list rfl ?_
      refine wpList_pushH [sv bn, bv] rfl _ _ 72 rfl (bb + 1) 99 _ 2 40 Tryz.underlying72 infoBlock rfl (by omega) _ n xs L8.out.own rfl _ rfl (by simp) rfl HU.out (by unfold maxLen; omega) (by omega) (by omega) ?_
      intro g cap w9 hown1 hg1 hg2 hg3
      have c1b := (blk_cells (L8.out.cell1 hg1)).1 1
      have cfb := (blk_cells (L8.out.cell1 hg1)).2
      simp at c1b
      have hl9 := lt_heap (L8.out.cell1 hg1)
      have L9 := Lib.hid (L8.out.push hown1 hg1 (by decide) (by decide) 1 rfl)
      have K9 := Lib.hid (L8.out.pushSame (ts := [9, 118]) (by decide) (by decide) hg1 1 (.slice (some ⟨g, 0, none⟩) (n + 1) cap))
      clear hown1 hg1 c1 cf c1a
      have c1 := c1b
      have cf := cfb
      clear c1b cfb
      go_wp2
      refine ⟨fun _ => c1, ?_⟩
      refine wpAnyT_pure 6 ?z4 rfl (by kernel_rfl) (by kernel_rfl) (by kernel_rfl) (by kernel_rfl) (fun _ _ _ h => h) c1 rfl ?rz4 ?sz4
      case rz4 => intro w hS; go_simp; rfl
      case sz4 =>
      refine wpAnyT_all (rs := [7]) (by kernel_rfl) (by decide) ?_
      intro i hi
      obtain rfl : i = 7 := by simpa using hi
      clear hi
      refine wpOp_of_list rfl ?_
      go_wp2
      refine ⟨fun h => absurd rfl h, ?_⟩
      refine wpAnyT_done (by kernel_rfl) ?_ _
      clear c1 cf
      go_wp2_with fail
      refine (is_any L9.out.p kBlock).mono ?_
      rintro e v10 ⟨rfl, hp, hb⟩
      have L10 := Lib.hid (L9.out.call hp hb)
      have K10 := Lib.hid (L9.out.same (ts := [9, 118]) (by decide) hb)
      clear hp hb
      obtain ⟨tb, htb⟩ : ∃ x, (isW T kBlock) ((blockM T) sh).2 = x := ⟨_, rfl⟩
      rw [show (isW T kBlock) ((blockM T sh).2) = tb from htb]
      have HTB := Lib.hid htb
      clear htb
      go_wp2
      go_roundg (gk - 1)
      case measure => omega
      case rel =>
        refine ⟨_, _, n + 1, _, tb, rfl, L10.out, by omega, .inl ⟨HTB.out.symm, ?_⟩⟩
        have st := HD.out.step (OK' := RowOK BlockCells v10 (xs ++ [sv bn, bv])) (block_no T) (fun _ h => isW_err h _) (by decide) (fun acc hok hb hr h5 => ?_)
        · rw [HSH.out] at st; exact st
        · have hsh := HSH.out
          rw [hr] at hsh
          subst hsh
          exact (hok.mono (sameTs_block ((K8.out.trans K9.out).trans K10.out))).snoc (sameTs_block (K9.out.trans K10.out) _ _ (HC.out h5))
end Go.Proofs.YtipnhmdibkkifaaGreatDoor
