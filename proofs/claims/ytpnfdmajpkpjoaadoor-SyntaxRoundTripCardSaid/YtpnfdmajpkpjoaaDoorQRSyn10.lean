/- The reference's Parse. Printed by wip/gen_rsyn10.py. -/
import Derived.Test.YtpnfdmajpkpjoaaDoorQRSyn9
import Derived.Test.YtpnfdmajpkpjoaaDoorQSyn8
import Derived.Test.YtpnfdmajpkpjoaaDoorQRScan2
import Derived.BigRegion
import Derived.Deep.CutBlock
set_option linter.unusedVariables false
set_option linter.unusedSimpArgs false
namespace Go.Proofs.YtpnfdmajpkpjoaaDoor.R
open Go.RowKit

theorem rscan_is (s : ByteArray) (w : World) (toks : List Tok) (n : Nat) (line col err : Int) (h : scanned s.data.toList = ⟨toks, line, col, err⟩) (hn : toks.length = n) :
    Calls Tryd.prog 38 #[.string s] w (ScanIs w toks n line col err) := by
  refine (rscan_any s w).mono fun e w' hp => ?_
  have h1 := scanIs_of hp
  rw [h] at h1
  rw [← hn]
  exact h1
theorem parse_bad {w : World} (s : ByteArray) {line col err : Int} {toks : List Tok} (h : scanned s.data.toList = ⟨toks, line, col, err⟩) (he : err ≠ 0) :
    Calls Tryd.prog 20 #[.string s] w (PaPost w ⟨[], line, col, err⟩) := by
  have HS := Lib.hid h
  have hne : (err != 0) = true := by simpa using he
  clear h he
  go_enter Tryd.func20, Tryd.ntmps20
  have ba := Lib.hid ((Below.refl w.heap.size w).alloc (Nat.le_refl _) (.cells #[.slice none 0 0] 34))
  have ha : Hid ((w.alloc (.cells #[.slice none 0 0] 34)).heap[w.heap.size]? = some (.cells #[.slice none 0 0] 34 (0, 0))) := heap_alloc_new _ _
  go_wp2_with fail
  refine (rscan_is s _ toks toks.length line col err HS.out rfl).mono ?_
  rintro e w1 ⟨a, c, rfl, ht, hb⟩
  have hr := Lib.hid (Below.blk hb.out ha.out)
  have hbb := Lib.hid (ba.out.trans (hb.out.mono (by simp)))
  have c0 := (blk_cells hr.out).1 0
  have cf := (blk_cells hr.out).2
  simp at c0
  clear ht hb
  go_wp2
  have ⟨gc, _⟩ := blk_cells (set1_0 hr.out (.slice none 0 0))
  refine bodyPost_ret (v := .tuple #[.agg #[.slice none 0 0], .int .i64 line, .int .i64 col, .int .i64 err]) ?_ rfl ?_
  · simp [results, Tryd.results20, go_sem, gc]
  exact ⟨_, rfl, funcsAt_nil _, hbb.out.setCell (Nat.le_refl _) _⟩

/-- Behind the loop. -/
def PEx (B bp R bb : Nat) (T : List Tok) (RM : List PFunc × PS) (W w : World) : Prop :=
  ∃ v n xs, LpL 34 50 2 B bp R bb (.cells #[.slice none 0 0] 34 (0, 0)) [] T W RM.2 w v n xs ∧ (RM.2.err = 0 → RowOK FuncCells w xs RM.1)
set_option maxRecDepth 100000 in
set_option maxHeartbeats 8000000 in
theorem parse_good {B : Nat} {w : World} (kw : KwIn B w) (hB : B ≤ w.heap.size) (s : ByteArray) {T : List Tok} (h : scanned s.data.toList = ⟨T, 0, 0, 0⟩) :
    Calls Tryd.prog 20 #[.string s] w (PaPost w (parsed s.data.toList)) := by
  have HS := Lib.hid h
  have hT := scanned_length s.data.toList
  rw [h] at hT
  dsimp only at hT
  clear h
  go_enter Tryd.func20, Tryd.ntmps20
  have ba := Lib.hid ((Below.refl w.heap.size w).alloc (Nat.le_refl _) (.cells #[.slice none 0 0] 34))
  have ha : Hid ((w.alloc (.cells #[.slice none 0 0] 34)).heap[w.heap.size]? = some (.cells #[.slice none 0 0] 34 (0, 0))) := heap_alloc_new _ _
  go_wp2_with fail
  refine (rscan_is s _ T T.length 0 0 0 HS.out rfl).mono ?_
  rintro e w1 ⟨ta, tc, rfl, ht, hb⟩
  have hr := Lib.hid (Below.blk hb.out ha.out)
  have hbb := Lib.hid (ba.out.trans (hb.out.mono (by simp)))
  have hrz := lt_heap hr.out
  have O : Hid (PSt B w1.heap.size T ⟨0, 0⟩ (w1.alloc (.cells #[.slice ta T.length tc, .int .i64 0, .int .i64 0] 82))) := ⟨kw.keep (fun k hk => (Below.heap_alloc _ _ k (by omega)).trans (hbb.out.block k (by omega))), by omega, ⟨ta, tc, heap_alloc_new _ _, SliceAt.same ht.out SameT.alloc⟩, Nat.zero_le _, by decide⟩
  have HT0 := Lib.hid (SliceAt.same ht.out (SameT.alloc (o := .cells #[.slice ta T.length tc, .int .i64 0, .int .i64 0] 82)))
  have HTY0 := Lib.hid (tyAt_of (heap_alloc_new w1 (.cells #[.slice ta T.length tc, .int .i64 0, .int .i64 0] 82)))
  clear ht hb ba ha
  obtain ⟨W, hW⟩ : ∃ x, w1.alloc (.cells #[.slice ta T.length tc, .int .i64 0, .int .i64 0] 82) = x := ⟨_, rfl⟩
  have HW := Lib.hid hW
  have hWz : W.heap.size = w1.heap.size + 1 := by rw [← hW]; simp
  have L4 : Hid (LpL 34 50 2 B w1.heap.size w.heap.size W.heap.size (.cells #[.slice none 0 0] 34 (0, 0)) [] T W ⟨0, 0⟩ (W.alloc (.cells #[.slice none 0 0] 34)) (.slice none 0 0) 0 []) := ⟨by rw [← hW]; exact O.out.alloc _, (But.refl _ _).alloc _, by omega, by omega, by omega, Nat.le_refl _, alloc_blk _ (by rw [← hW]; exact alloc_blk _ hr.out), heap_alloc_new W _, World.ownsRow_nil _ _ _ _⟩
  have hWb : Hid (Below w.heap.size w W) := by rw [← hW]; exact hbb.out.alloc (by omega) _
  have HTK : Hid (TokensAt W (.slice ta T.length tc) T) := by rw [← hW]; exact HT0.out
  have HTY : Hid (tyAt W w1.heap.size = some 82) := by rw [← hW]; exact HTY0.out
  clear hW O hr hbb HT0 HTY0
  go_wp2_with fail
  rw [show w1.alloc (.cells #[.slice ta T.length tc, .int .i64 0, .int .i64 0] 82) = W from HW.out]
  obtain ⟨bb, hbb⟩ : ∃ x, W.heap.size = x := ⟨_, rfl⟩
  rw [hbb] at L4 hWz
  rw [show w1.heap.size + 1 = bb from by omega]
  have HBB := Lib.hid hbb
  clear hbb
  obtain ⟨bp, hbp⟩ : ∃ x, w1.heap.size = x := ⟨_, rfl⟩
  rw [hbp] at L4 hWz hrz HTY ⊢
  clear hbp
  have hlt1 : bp < bb := by omega
  have HWS := Lib.hid hWz
  clear hWz
  refine (is_any L4.out.p kFunc).mono ?_
  rintro e v5 ⟨rfl, hp, hb⟩
  have L5 := Lib.hid (L4.out.call hp hb)
  clear hp hb L4
  obtain ⟨s5, hs5⟩ : ∃ x, (if isW T kFunc ⟨0, 0⟩ = true then (⟨0, 0⟩ : PS) else PS.fail ⟨0, 0⟩ 4) = x := ⟨_, rfl⟩
  have HS5 := Lib.hid hs5
  obtain ⟨RM, hRM⟩ : ∃ x, loopM (isW T kFunc) (funcM T) 8 [] s5 = x := ⟨_, rfl⟩
  have HRM := Lib.hid hRM
  clear hRM
  have HPT := Lib.hid (parsed_of HS.out (R := RM) (by rw [HS5.out]; exact HRM.out))
  clear hs5
  go_upto_if 30 with fail
  go_cut [] from 28 to 32 (fun wx => Hid (LpIn FuncCells (isW T kFunc) (funcM T) 34 50 2 B bp w.heap.size bb 8 (.cells #[.slice none 0 0] 34 (0, 0)) [] T RM W 10 wx))
  case first =>
    have hs5 := HS5.out
    clear HS5
    cases hb0 : isW T kFunc ⟨0, 0⟩
    · rw [hb0, if_neg (by decide)] at hs5
      clear hb0
      go_wp2_with fail
      refine (fail_any L5.out.p 4 (by decide)).mono ?_
      rintro e v6 ⟨rfl, hp, hb⟩
      have L6 := Lib.hid (L5.out.call hp hb)
      clear hp hb
      rw [hs5] at L6
      clear hs5
      have I0 : Hid (LpIn FuncCells (isW T kFunc) (funcM T) 34 50 2 B bp w.heap.size bb 8 (.cells #[.slice none 0 0] 34 (0, 0)) [] T RM W 10 v6) := ⟨s5, .slice none 0 0, 0, [], L6.out, rfl, Md.start HRM.out ⟨[], rfl, trivial⟩⟩
      clear L6
      go_wp2
      go_meet
      case rel => exact I0
    · rw [hb0, if_pos rfl] at hs5
      clear hb0
      rw [hs5] at L5
      clear hs5
      have I0 : Hid (LpIn FuncCells (isW T kFunc) (funcM T) 34 50 2 B bp w.heap.size bb 8 (.cells #[.slice none 0 0] 34 (0, 0)) [] T RM W 10 v5) := ⟨s5, .slice none 0 0, 0, [], L5.out, rfl, Md.start HRM.out ⟨[], rfl, trivial⟩⟩
      clear L5
      go_wp2
      go_meet
      case rel => exact I0
  case rest =>
    clear L5 HS5
    go_upto_block 0 with fail
    go_cut [] from 33 to 47 (fun wx => Hid (PEx B bp w.heap.size bb T RM W wx))
    case first =>
      have I0 := hcut
      clear hcut
      go_wp2
      go_loopg [] 10 (fun g wr => Hid (LpIn FuncCells (isW T kFunc) (funcM T) 34 50 2 B bp w.heap.size bb 8 (.cells #[.slice none 0 0] 34 (0, 0)) [] T RM W g wr))
      case atStart => exact I0
      case round =>
        obtain ⟨s6, v, n, xs, l6, hgn, md⟩ := hrel.out
        obtain ⟨va, vc, rfl⟩ := own_form l6.own
        have L6 := Lib.hid l6
        have MD := Lib.hid md
        clear l6 md hrel I0
        go_wp2_with fail
        refine (is_any L6.out.p kFunc).mono ?_
        rintro e v7 ⟨rfl, hp, hb⟩
        have L7 := Lib.hid (L6.out.call hp hb)
        have K7 := Lib.hid (L6.out.same (ts := [9, 67, 53]) (by decide) hb)
        clear hp hb
        cases hbg : (isW T kFunc) s6
        · have HBG := Lib.hid hbg
          clear hbg
          obtain ⟨hr2, hok⟩ := Hd.done (show Hd _ _ RM 8 n s6 _ false from .inl ⟨HBG.out.symm, MD.out⟩)
          have HR2 := Lib.hid hr2
          have HOK := Lib.hid hok
          clear hr2 hok MD
          have EX : Hid (PEx B bp w.heap.size bb T RM W v7) := ⟨_, _, _, by rw [HR2.out]; exact L7.out, fun h0 => (HOK.out (by rw [← HR2.out]; exact h0)).mono (sameTs_func K7.out)⟩
          clear L7 K7 HOK HR2 hT
          go_wp2
          go_meet
          case rel => exact EX
        · have HBG := Lib.hid hbg
          have hle := Md.le (fun _ h => isW_err h _) MD.out hbg
          clear hbg
          have c1 := (blk_cells L7.out.loc).1 0
          have cf := (blk_cells L7.out.loc).2
          have hlth := L7.out.lth
          simp at c1
          by_cases hfull : (n : Int) = 8
          · obtain rfl : n = 8 := by omega
            have ⟨hr2, hne⟩ := Md.full (fun _ h => isW_err h _) MD.out HBG.out
            have HR2 := Lib.hid hr2
            have HNE := Lib.hid hne
            clear hr2 hne hfull MD
            go_wp2_with fail
            refine (fail_any L7.out.p 7 (by decide)).mono ?_
            rintro e v8 ⟨rfl, hp, hb⟩
            have L8 := Lib.hid (L7.out.call hp hb)
            clear hp hb c1 cf
            have EX : Hid (PEx B bp w.heap.size bb T RM W v8) := ⟨_, _, _, by rw [HR2.out]; exact L8.out, fun h0 => absurd (by rw [← HR2.out]; exact h0) HNE.out⟩
            clear L7 K7 L8 HR2 hT
            go_wp2
            go_meet
            case rel => exact EX
          · have hnf : ((n : Int) == 8) = false := by rw [beq_eq_false_iff_ne]; exact hfull
            have hroom : roomS 8 n s6 = s6 := by unfold roomS; exact if_neg (by omega)
            have HRM2 := Lib.hid hroom
            clear hroom
            have hn32 : n < 8 := by omega
            clear hfull
            go_wp2_with fail
            refine wp_region_D (S := fun w' => w'.cell? ⟨bb, 0, none⟩ = some (.slice va n vc)) (st := 7) (by kernel_rfl) ?_
            refine wpAnyT_pure 0 ?z1 rfl (by kernel_rfl) (by kernel_rfl) (by kernel_rfl) (by kernel_rfl) (fun _ _ _ h => h) c1 rfl ?rz1 ?sz1
            case rz1 => intro w hS; go_simp; rfl
            case sz1 =>
            refine wpAnyT_pure 1 ?z2 rfl (by kernel_rfl) (by kernel_rfl) (by kernel_rfl) (by kernel_rfl) (fun _ _ _ h => h) c1 rfl ?rz2 ?sz2
            case rz2 => intro w hS; go_simp; rfl
            case sz2 =>
            refine wpAnyT_pure 2 ?z3 rfl (by kernel_rfl) (by kernel_rfl) (by kernel_rfl) (by kernel_rfl) (fun _ _ _ h => h) c1 rfl ?rz3 ?sz3
            case rz3 => intro w hS; go_simp; rfl
            case sz3 =>
            refine wpAnyT_all (rs := [3]) (by kernel_rfl) (by decide) ?_
            intro i hi
            obtain rfl : i = 3 := by simpa using hi
            clear hi
            refine wpOp_of_list rfl ?_
            go_wp2_with fail
            refine (function_any (L7.out.drewN 1).p hT).mono ?_
            rintro e v8 ⟨bv, rfl, hu, hp, hb, hc⟩
            obtain ⟨bn, hbn⟩ : ∃ x, headV T kFunc s6 = x := ⟨_, rfl⟩
            rw [hbn] at hc ⊢
            clear hbn
            have hb := But.undrew hb
            have L8 := Lib.hid (L7.out.call hp hb)
            have K8 := Lib.hid (K7.out.trans (L7.out.same (ts := [9, 67, 53]) (by decide) hb))
            have HC := Lib.hid hc
            have HU := Lib.hid (show List.all [sv bn, bv] Value.oneCell' = true by simp only [List.all_cons, List.all_nil, hu]; rfl)
            clear c1 cf hp hb hc hu
            have c1 := (blk_cells L8.out.loc).1 0
            have cf := (blk_cells L8.out.loc).2
            simp at c1
            have hl8 := L8.out.lth
            go_wp2
            refine ⟨fun _ => c1, ?_⟩
            refine wpAnyT_all (rs := [4]) (by kernel_rfl) (by decide) ?_
            intro i hi
            obtain rfl : i = 4 := by simpa using hi
            clear hi
            refine wpOp_of_list rfl ?_
            have c1a := (((Below.refl v8.heap.size v8).alloc (Nat.le_refl _) (.cells #[sv bn, bv] 50)).cell (p := ⟨bb, 0, none⟩) hl8).trans c1
            go_wp2
            refine ⟨fun _ => c1a, ?_⟩
            refine wpAnyT_all (rs := [5]) (by kernel_rfl) (by decide) ?_
            intro i hi
            obtain rfl : i = 5 := by simpa using hi
            clear hi
            refine wpOp_of_list rfl ?_
            refine wpList_pushH [sv bn, bv] rfl _ _ 32 rfl (bb + 1) 50 _ 2 40 Tryd.underlying32 infoFunc rfl (by omega) _ n xs L8.out.own rfl _ rfl (by simp) rfl HU.out (by unfold maxLen; omega) (by omega) (by omega) ?_
            intro g cap w9 hown1 hg1 hg2 hg3
            have c1b := (blk_cells (L8.out.cell1 hg1)).1 0
            have cfb := (blk_cells (L8.out.cell1 hg1)).2
            simp at c1b
            have hl9 := lt_heap (L8.out.cell1 hg1)
            have L9 := Lib.hid (L8.out.push hown1 hg1 (by decide) (by decide) 0 rfl)
            have K9 := Lib.hid (L8.out.pushSame (ts := [9, 67, 53]) (by decide) (by decide) hg1 0 (.slice (some ⟨g, 0, none⟩) (n + 1) cap))
            clear hown1 hg1 c1 cf c1a
            have c1 := c1b
            have cf := cfb
            clear c1b cfb
            go_wp2
            refine ⟨fun _ => c1, ?_⟩
            refine wpAnyT_pure 6 ?z4 rfl (by kernel_rfl) (by kernel_rfl) (by kernel_rfl) (by kernel_rfl) (fun _ _ _ h => h) c1 rfl ?rz4 ?sz4
            case rz4 => intro w hS; go_simp; rfl
            case sz4 =>
            refine wpAnyT_all (rs := [7]) (by kernel_rfl) (by decide) ?_
            intro i hi
            obtain rfl : i = 7 := by simpa using hi
            clear hi
            refine wpOp_of_list rfl ?_
            go_wp2
            refine ⟨fun h => absurd rfl h, ?_⟩
            refine wpAnyT_done (by kernel_rfl) ?_ _
            clear c1 cf
            go_wp2
            go_roundg (gk - 1)
            case measure => omega
            case rel =>
              refine ⟨_, _, n + 1, _, L9.out, by omega, ?_⟩
              have st := Hd.step (OK' := RowOK FuncCells (w9.setCell ⟨bb, 0, none⟩ (.slice (some ⟨g, 0, none⟩) (n + 1) cap)) (xs ++ [sv bn, bv])) (func_no T) (fun _ h => isW_err h _) (by decide) (show Hd _ _ RM 8 n s6 _ true from .inl ⟨HBG.out.symm, MD.out⟩) (fun acc hok hb hr h5 => ?_)
              · rw [HRM2.out] at st; exact st
              · exact (hok.mono (sameTs_func (K8.out.trans K9.out))).snoc (sameTs_func K9.out _ _ (HC.out h5))
    case rest =>
      obtain ⟨v, n, xs, l6, hok⟩ := hcut.out
      obtain ⟨va, vc, rfl⟩ := own_form l6.own
      obtain ⟨s6, hr2⟩ : ∃ x, RM.2 = x := ⟨_, rfl⟩
      rw [hr2] at l6 hok
      have HR2 := Lib.hid hr2
      have HOK := Lib.hid hok
      have L6 := Lib.hid l6
      clear l6 hok hr2 hcut
      have hle := L6.out.p.le
      have hTK := Lib.hid (SliceAt.same HTK.out (SameT.but L6.out.but (by rw [HTY.out]; decide)))
      obtain ⟨at6, hat⟩ : ∃ x, s6.at_ = x := ⟨_, rfl⟩
      obtain ⟨er6, her⟩ : ∃ x, s6.err = x := ⟨_, rfl⟩
      obtain ⟨pa_, pc_, hpb, _⟩ := L6.out.p.blk
      have p1 := (blk_cells hpb).1 1
      have p2 := (blk_cells hpb).1 2
      have r0 := (blk_cells L6.out.res).1 0
      have rf := (blk_cells L6.out.res).2
      have hzr_ := lt_heap L6.out.res
      simp at p1 p2 r0
      clear hpb
      rw [hat] at p1 hle
      rw [her] at p2
      have HAT := Lib.hid hat
      have HER := Lib.hid her
      clear hat her
      by_cases h0 : er6 = 0
      · subst h0
        by_cases h1 : at6 < T.length
        · have h1' : (at6 : Int) < (T.length : Int) := by omega
          go_wp2_with fail
          refine (fail_any L6.out.p 4 (by decide)).mono ?_
          rintro e v9 ⟨rfl, hp, hb⟩
          have Lv9 := Lib.hid (L6.out.call hp hb)
          have hTK7 := Lib.hid (SliceAt.same hTK.out (SameT.but hb (by rw [L6.out.p.ty]; decide)))
          clear hTK hp hb p1 p2 r0 rf
          have hTK := Lib.hid hTK7.out
          clear hTK7
          have hs7 : s6.fail 4 = ⟨at6, 4⟩ := by unfold PS.fail; rw [if_pos HER.out, HAT.out]
          rw [hs7] at Lv9
          obtain ⟨pa_, pc_, hpb, _⟩ := Lv9.out.p.blk
          have p1 := (blk_cells hpb).1 1
          have p2 := (blk_cells hpb).1 2
          have r0 := (blk_cells Lv9.out.res).1 0
          have rf := (blk_cells Lv9.out.res).2
          have hzr_ := lt_heap Lv9.out.res
          simp at p1 p2 r0
          clear hpb
          have HS7 := Lib.hid hs7
          clear hs7
          have hlt6 : at6 < T.length := by omega
          have htk : T[at6]? = some T[at6] := List.getElem?_eq_getElem hlt6
          obtain ⟨tk, htk⟩ : ∃ x, T[at6]? = some x := ⟨_, htk⟩
          have HTKN := Lib.hid htk
          obtain ⟨a', c', e1, hml, _, _, hcell⟩ := TokensAt.form hTK.out
          injection e1 with e1 e2 e3
          subst e1 e3
          obtain ⟨tb, off, rfl, htb, htyb, h4⟩ := hcell at6 tk htk
          have t2 : v9.cell? ⟨tb, off + at6 * 4 + 2, none⟩ = some (.int .i64 tk.line) := h4 2 (by omega)
          have t3 : v9.cell? ⟨tb, off + at6 * 4 + 3, none⟩ = some (.int .i64 tk.col) := h4 3 (by omega)
          clear htk h4 hcell e2
          have hneR : tb ≠ w.heap.size := by intro h; rw [h, tyAt_of Lv9.out.res] at htyb; exact absurd htyb (by decide)
          have hRbp : (bp == w.heap.size) = false := by rw [beq_eq_false_iff_ne]; omega
          have hRtb : (tb == w.heap.size) = false := by rw [beq_eq_false_iff_ne]; exact hneR
          have h63 : (at6 : Int) < (T.length : Int) := by omega
          clear htyb hneR
          go_wp2
          go_region
          have HQ : Hid (parsed s.data.toList = ⟨[], tk.line, tk.col, 4⟩) := by unfold Hid; rw [HPT.out, HR2.out, if_pos ⟨HER.out, by rw [HAT.out]; exact h1⟩, HS7.out]; unfold parsedT; rw [if_neg (show ¬ (4 : Int) = 0 by decide)]; dsimp only; rw [HTKN.out]; rfl
          go_wp2
          have ⟨gc, _⟩ := blk_cells (set1_0 Lv9.out.res (.slice none 0 0))
          refine bodyPost_ret (v := .tuple #[.agg #[.slice none 0 0], .int .i64 (tk.line), .int .i64 (tk.col), .int .i64 4]) ?_ rfl ?_
          · simp [results, Tryd.results20, go_sem, gc]
          rw [HQ.out]
          exact ⟨_, rfl, funcsAt_nil _, (exit_post hWb.out Lv9.out.but (by omega) (by have := HBB.out; omega) rfl _).drew⟩
        · have h1' : at6 = T.length := by omega
          subst h1'
          clear h1 hle
          have c0 := (blk_cells L6.out.loc).1 0
          have cf := (blk_cells L6.out.loc).2
          simp at c0
          go_wp2
          have ⟨gc, _⟩ := blk_cells (set1_0 L6.out.res (.slice va n vc))
          refine bodyPost_ret (v := .tuple #[.agg #[.slice va n vc], .int .i64 0, .int .i64 0, .int .i64 0]) ?_ rfl ?_
          · simp [results, Tryd.results20, go_sem, gc]
          rw [HPT.out, HR2.out, if_neg (by rw [HAT.out]; omega)]
          unfold parsedT
          rw [if_pos HER.out]
          have hk := sameTs_set1 (ts := [9, 67, 53, 50]) (tyAt_of L6.out.res) (by decide) (.slice va n vc)
          obtain ⟨xss, ex, hall⟩ := (HOK.out HER.out).mono (sameTs_func (fun t ht => hk t (List.mem_append_left [50] ht)))
          exact ⟨_, rfl, ⟨xss, by rw [← ex]; exact (SliceAt.of_owns L6.out.own).same (hk _ (by simp)), hall⟩, exit_post hWb.out L6.out.but (by omega) (by have := HBB.out; omega) rfl _⟩
      · have hE : (er6 == 0) = false := by rw [beq_eq_false_iff_ne]; exact h0
        by_cases h1 : at6 = T.length
        · subst h1
          clear hle
          go_wp2
          have hRbp : (bp == w.heap.size) = false := by rw [beq_eq_false_iff_ne]; omega
          go_region
          have HQ : Hid (parsed s.data.toList = ⟨[], 0, 0, er6⟩) := by unfold Hid; rw [HPT.out, HR2.out, if_neg (by rw [HER.out]; exact fun h => h0 h.1)]; unfold parsedT; rw [if_neg (by rw [HER.out]; exact h0), HAT.out, HER.out, List.getElem?_eq_none (Nat.le_refl _)]; rfl
          go_wp2
          have ⟨gc, _⟩ := blk_cells (set1_0 L6.out.res (.slice none 0 0))
          refine bodyPost_ret (v := .tuple #[.agg #[.slice none 0 0], .int .i64 (0), .int .i64 (0), .int .i64 er6]) ?_ rfl ?_
          · simp [results, Tryd.results20, go_sem, gc]
          rw [HQ.out]
          exact ⟨_, rfl, funcsAt_nil _, (exit_post hWb.out L6.out.but (by omega) (by have := HBB.out; omega) rfl _).drew⟩
        · have hcl : True := trivial
          have hlt6 : at6 < T.length := by omega
          have htk : T[at6]? = some T[at6] := List.getElem?_eq_getElem hlt6
          obtain ⟨tk, htk⟩ : ∃ x, T[at6]? = some x := ⟨_, htk⟩
          have HTKN := Lib.hid htk
          obtain ⟨a', c', e1, hml, _, _, hcell⟩ := TokensAt.form hTK.out
          injection e1 with e1 e2 e3
          subst e1 e3
          obtain ⟨tb, off, rfl, htb, htyb, h4⟩ := hcell at6 tk htk
          have t2 : wc.cell? ⟨tb, off + at6 * 4 + 2, none⟩ = some (.int .i64 tk.line) := h4 2 (by omega)
          have t3 : wc.cell? ⟨tb, off + at6 * 4 + 3, none⟩ = some (.int .i64 tk.col) := h4 3 (by omega)
          clear htk h4 hcell e2
          have hneR : tb ≠ w.heap.size := by intro h; rw [h, tyAt_of L6.out.res] at htyb; exact absurd htyb (by decide)
          have hRbp : (bp == w.heap.size) = false := by rw [beq_eq_false_iff_ne]; omega
          have hRtb : (tb == w.heap.size) = false := by rw [beq_eq_false_iff_ne]; exact hneR
          have h63 : (at6 : Int) < (T.length : Int) := by omega
          clear htyb hneR
          go_wp2
          go_region
          have HQ : Hid (parsed s.data.toList = ⟨[], tk.line, tk.col, er6⟩) := by unfold Hid; rw [HPT.out, HR2.out, if_neg (by rw [HER.out]; exact fun h => h0 h.1)]; unfold parsedT; rw [if_neg (by rw [HER.out]; exact h0), HAT.out, HER.out, HTKN.out]; rfl
          go_wp2
          have ⟨gc, _⟩ := blk_cells (set1_0 L6.out.res (.slice none 0 0))
          refine bodyPost_ret (v := .tuple #[.agg #[.slice none 0 0], .int .i64 (tk.line), .int .i64 (tk.col), .int .i64 er6]) ?_ rfl ?_
          · simp [results, Tryd.results20, go_sem, gc]
          rw [HQ.out]
          exact ⟨_, rfl, funcsAt_nil _, (exit_post hWb.out L6.out.but (by omega) (by have := HBB.out; omega) rfl _).drew⟩
end Go.Proofs.YtpnfdmajpkpjoaaDoor.R

