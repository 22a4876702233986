/- A part of the proof. -/
import Derived.Test.YtipnhmdibkkifaaGreatDoorNu07
import Derived.Deep.QuietTactic
import Derived.BigQuiet
import Derived.Deep.CutRange
import Derived.Deep.CutBlock
import Derived.Test.YtipnhmdibkkifaaGreatDoorNu01
import Derived.Deep.Light
set_option linter.unusedVariables false
set_option linter.unusedSimpArgs false
set_option linter.unusedVariables false
set_option linter.unusedSimpArgs false
set_option linter.unusedSectionVars false
namespace Go.Proofs.YtipnhmdibkkifaaGreatDoor
open Go.RowKit
variable [Base]
theorem all_sv2 (l : List Str) : (l.map sv).all Value.oneCell' = true := by
  rw [List.all_eq_true]
  intro x hx
  obtain ⟨y, _, rfl⟩ := List.mem_map.1 hx
  rfl
set_option maxRecDepth 100000 in
set_option maxHeartbeats 8000000 in
theorem svalid_any {B : Nat} {w : World} (kw : KwIn B w) (hB : B ≤ w.heap.size) (s : PStmt) (u t : Value) (hu : StrsAt w u s.uses) (ht : StrsAt w t s.targets) (hf : (s.uses.length + s.targets.length + 1) * 16 ≤ 140737488355328) :
    Calls Tryz.prog 69 #[.agg #[iv s.op, sv s.dfn, u, t]] w (BoolQ (stmtB s) w) := by
  obtain ⟨ua, uc, rfl, -, -⟩ := hu.cell
  obtain ⟨ta, tc, rfl, -, -⟩ := ht.cell
  rw [stmtB_eq]
  obtain ⟨op, d, us, ts⟩ := s
  simp only [] at hu ht hf ⊢
  have HP := Lib.hid (show stmtP2 ⟨op, d, us, ts⟩ = (opK op && ((dfnB op || d.isEmpty) && (decide ((us.length : Int) = useN op us.length) && (decide (useN op us.length ≤ 4) && (decide ((ts.length : Int) = tgtN op) && (us ++ ts ++ (if dfnB op then [d] else [])).all nameB))))) from rfl)
  obtain ⟨R, hR⟩ : ∃ r, stmtP2 ⟨op, d, us, ts⟩ = r := ⟨_, rfl⟩
  rw [hR] at HP ⊢
  clear hR
  obtain ⟨n, hn⟩ : ∃ n, us.length = n := ⟨_, rfl⟩
  obtain ⟨m, hm⟩ : ∃ n, ts.length = n := ⟨_, rfl⟩
  rw [hn] at hu hf HP ⊢
  rw [hm] at ht hf HP ⊢
  have HU := Lib.hid hu
  have HT := Lib.hid ht
  have HN := Lib.hid hn
  have HM := Lib.hid hm
  have KK := Lib.hid kw
  have HF := Lib.hid hf
  obtain ⟨W, hW⟩ : ∃ W, w.alloc (.cells #[iv op, sv d, .slice ua n uc, .slice ta m tc] 118) = W := ⟨_, rfl⟩
  have HB0 := Lib.hid (show W.heap[w.heap.size]? = some (.cells #[iv op, sv d, .slice ua n uc, .slice ta m tc] 118 (0, 0)) by rw [← hW]; exact heap_alloc_new _ _)
  have B0 := Lib.hid (show Below w.heap.size w W by rw [← hW]; exact (Below.refl _ _).alloc (Nat.le_refl _) _)
  have HW := Lib.hid hW
  obtain ⟨x0, x1, x2, x3⟩ := cells4s HB0.out
  clear hu ht hn hm kw hf hW
  go_enter Tryz.func69, Tryz.ntmps69
  go_upto_region 1 with (fail)
  rw [show w.alloc (.cells #[iv op, sv d, .slice ua n uc, .slice ta m tc] 118) = W from HW.out]
  go_quiet (fail)
  go_upto_block 0 with fail
  obtain ⟨W1, hW1⟩ : ∃ X, W.drewN nq = X := ⟨_, rfl⟩
  have HB1 := Lib.hid (show W1.heap[w.heap.size]? = some (.cells #[iv op, sv d, .slice ua n uc, .slice ta m tc] 118 (0, 0)) by rw [← hW1]; exact HB0.out)
  have B1 := Lib.hid (show Below w.heap.size w W1 by rw [← hW1]; exact below_drewN B0.out nq)
  rw [hW1]
  clear hW1 x0 x1 x2 x3
  obtain ⟨x0, x1, x2, x3⟩ := cells4s HB1.out
  go_cut [3, 4, 5] from 10 to 36 (fun s3 s4 s5 wx => s3 = iv (if dfnB op then 1 else 0) ∧ s4 = iv (useN op n) ∧ s5 = iv (tgtN op) ∧ opK op = true ∧ W1 = wx)
  case first =>
    have hc : op = 1 ∨ op = 2 ∨ op = 3 ∨ op = 4 ∨ op = 5 ∨ op = 6 ∨ op = 7 ∨ op = 8 ∨ op = 9 ∨ ¬ (1 ≤ op ∧ op ≤ 9) := by omega
    rcases hc with rfl | rfl | rfl | rfl | rfl | rfl | rfl | rfl | rfl | hc
    rotate_left 9
    · have h1 : op ≠ 1 := by omega
      have h2 : op ≠ 2 := by omega
      have h3 : op ≠ 3 := by omega
      have h4 : op ≠ 4 := by omega
      have h5 : op ≠ 5 := by omega
      have h6 : op ≠ 6 := by omega
      have h7 : op ≠ 7 := by omega
      have h8 : op ≠ 8 := by omega
      have h9 : op ≠ 9 := by omega
      have HR := Lib.hid (show R = false by
        rw [HP.out, show opK op = false from by unfold opK; rw [Bool.eq_false_iff]; simp; omega]; rfl)
      clear hc
      go_wp2
      go_ret
      exact ⟨by rw [HR.out]; rfl, B1.out⟩
    all_goals go_wp2
    all_goals
      go_meet
      case rel => exact ⟨rfl, by first | rfl | (unfold useN; simp; try omega), rfl, rfl, rfl⟩
  case rest =>
    obtain ⟨rfl, rfl, rfl, hok, rfl⟩ := hcut
    have HOK := Lib.hid hok
    have hWz : w.heap.size < W1.heap.size := lt_heap HB1.out
    have HUW := Lib.hid (SliceAt.same HU.out (SameT.below B1.out))
    have HTW := Lib.hid (SliceAt.same HT.out (SameT.below B1.out))
    have CL := Lib.hid (fun k => clone_str (.slice ua n uc) n (us.map sv) (W1.drewN k) (SliceAt.same HUW.out SameT.drewN) (by have := HN.out; rw [List.length_map]; omega) (all_sv2 us) (by have := HF.out; omega))
    clear hok
    obtain ⟨D, hD⟩ : ∃ b, dfnB op = b := ⟨_, rfl⟩
    rw [hD] at HP ⊢
    clear hD
    obtain ⟨q, hq⟩ : ∃ q : Int, (if D = true then 1 else 0) = q := ⟨_, rfl⟩
    have HQ := Lib.hid hq
    rw [hq]
    clear hq
    go_upto_region 24 with (fail)
    refine wp_region_D (S := (fun w' => w'.cell? ⟨w.heap.size, 2, none⟩ = some (.slice ua n uc) ∧ w'.cell? ⟨w.heap.size, 3, none⟩ = some (.slice ta m tc))) (st := 6) (by kernel_rfl) ?_
    refine wpAnyT_pure 0 ?z1 rfl (by kernel_rfl) (by kernel_rfl) (by kernel_rfl) (by kernel_rfl) (fun _ _ _ h => h) ⟨x2, x3⟩ rfl ?rz1 ?sz1
    case rz1 => intro w hS; have hS1 := hS.1; have hS2 := hS.2; go_simp; rfl
    case sz1 =>
    refine wpAnyT_pure 1 ?z2 rfl (by kernel_rfl) (by kernel_rfl) (by kernel_rfl) (by kernel_rfl) (fun _ _ _ h => h) ⟨x2, x3⟩ rfl ?rz2 ?sz2
    case rz2 => intro w hS; have hS1 := hS.1; have hS2 := hS.2; go_simp; rfl
    case sz2 =>
    refine wpAnyT_pure 3 ?z3 rfl (by kernel_rfl) (by kernel_rfl) (by kernel_rfl) (by kernel_rfl) (fun _ _ _ h => h) ⟨x2, x3⟩ rfl ?rz3 ?sz3
    case rz3 => intro w hS; have hS1 := hS.1; have hS2 := hS.2; go_simp; rfl
    case sz3 =>
    refine wpAnyT_pure 4 ?z4 rfl (by kernel_rfl) (by kernel_rfl) (by kernel_rfl) (by kernel_rfl) (fun _ _ _ h => h) ⟨x2, x3⟩ rfl ?rz4 ?sz4
    case rz4 => intro w hS; have hS1 := hS.1; have hS2 := hS.2; go_simp; rfl
    case sz4 =>
    refine wpAnyT_all (rs := [2]) (by kernel_rfl) (by decide) ?_
    intro i hi
    obtain rfl : i = 2 := by simpa using hi
    clear hi
    refine wpOp_of_list rfl ?_
    go_wp2_with fail
    refine (CL.out 1).mono ?_
    rintro e w2 ⟨ga, gc, rfl, own2, b2⟩
    have B2 : Hid (Below W1.heap.size W1 w2) := ⟨b2.os, b2.tape, b2.output, b2.size, b2.block⟩
    have OW2 : Hid (w2.ownsRow W1.heap.size 9 1 (.slice ga n gc) n (us.map sv)) := own2
    have HB2 := Lib.hid ((B2.out.block _ hWz).trans HB1.out)
    clear own2 b2 x0 x1 x2 x3 CL
    obtain ⟨x0, x1, x2, x3⟩ := cells4s HB2.out
    go_wp2
    refine ⟨fun _ => ⟨x2, x3⟩, ?_⟩
    refine wpAnyT_all (rs := [5]) (by kernel_rfl) (by decide) ?_
    intro i hi
    obtain rfl : i = 5 := by simpa using hi
    clear hi
    refine wpOp_of_list rfl ?_
    refine wpList_append_sl rfl _ _ 30 rfl W1.heap.size 9 _ 1 16 Tryz.underlying30 info_str rfl (by decide) _ _ _ OW2.out rfl _ m (ts.map sv) rfl (SliceAt.same HTW.out (SameT.below B2.out)) (by have := HM.out; rw [List.length_map]; omega) (all_sv2 ts) (by have := HF.out; unfold maxLen; omega) (by have := HF.out; omega) (by have := B2.out.size; omega) ?_
    intro g d3 w3 own3 gr3
    have OW3 : Hid (w3.ownsRow W1.heap.size 9 1 (.slice g (n + m) d3) (n + m) (us.map sv ++ ts.map sv)) := own3
    have B3 := Lib.hid (Below.of_grown gr3 OW2.out (by have := B2.out.size; omega))
    have HB3 := Lib.hid ((B3.out.block _ hWz).trans HB2.out)
    clear own3 gr3 x0 x1 x2 x3
    obtain ⟨x0, x1, x2, x3⟩ := cells4s HB3.out
    go_wp2
    refine ⟨fun _ => ⟨x2, x3⟩, ?_⟩
    refine wpAnyT_all (rs := [6]) (by kernel_rfl) (by decide) ?_
    intro i hi
    obtain rfl : i = 6 := by simpa using hi
    clear hi
    refine wpOp_of_list rfl ?_
    go_wp2
    refine ⟨fun h => absurd rfl h, ?_⟩
    refine wpAnyT_done (by kernel_rfl) ?_ _
    have BW := Lib.hid (B1.out.trans ((B2.out.trans B3.out).mono (Nat.le_of_lt hWz)))
    have hz3 : W1.heap.size ≤ w3.heap.size := Nat.le_trans B2.out.size B3.out.size
    have HSA := Lib.hid (show StrsAt w3 (.slice g (n + m) d3) (us ++ ts) from by have h2 := SliceAt.of_owns OW3.out; unfold StrsAt; rw [List.map_append]; exact h2)
    obtain ⟨un, hun⟩ : ∃ z, useN op n = z := ⟨_, rfl⟩
    obtain ⟨tn, htn⟩ : ∃ z, tgtN op = z := ⟨_, rfl⟩
    rw [hun, htn, HOK.out] at HP
    rw [hun, htn]
    clear hun htn
    have hq := HQ.out
    cases D with
    | false =>
      obtain rfl : (0 : Int) = q := hq
      clear HQ
      go_wp2_with fail
      · have h0 : d = [] := by assumption
        have h1 : (n : Int) = un := by assumption
        have h2 : un ≤ 4 := by assumption
        have h3 : (m : Int) = tn := by assumption
        have HR := Lib.hid (show R = (us ++ ts).all nameB by rw [HP.out, h0, decide_eq_true h1, decide_eq_true h2, decide_eq_true h3]; simp)
        refine (containsn_any (us ++ ts) _ _ HSA.out (KK.out.at_ (BW.out.mono hB))).mono ?_
        rintro e w5 ⟨rfl, k5, rfl⟩
        rw [← HR.out]
        clear h0 h1 h2 h3 HR
        cases R
        · go_wp2
          go_ret
          exact ⟨rfl, below_drewN BW.out k5⟩
        · go_wp2
          go_ret
          exact ⟨rfl, below_drewN BW.out k5⟩
      · have BW4 := Lib.hid BW.out
        have h3 : ¬ (m : Int) = tn := by assumption
        have HR := Lib.hid (show R = false by rw [HP.out, decide_eq_false h3]; simp)
        go_ret
        exact ⟨by rw [HR.out]; rfl, BW4.out⟩
      · have BW4 := Lib.hid BW.out
        have h3 : 4 < un := by assumption
        have HR := Lib.hid (show R = false by rw [HP.out, decide_eq_false (show ¬ un ≤ 4 by omega)]; simp)
        go_ret
        exact ⟨by rw [HR.out]; rfl, BW4.out⟩
      · have BW4 := Lib.hid BW.out
        have h3 : ¬ (n : Int) = un := by assumption
        have HR := Lib.hid (show R = false by rw [HP.out, decide_eq_false h3]; simp)
        go_ret
        exact ⟨by rw [HR.out]; rfl, BW4.out⟩
      · have BW4 := Lib.hid BW.out
        have h3 : ¬ d = [] := by assumption
        have HR := Lib.hid (show R = false by rw [HP.out, show d.isEmpty = false by cases d; exact absurd rfl h3; rfl]; simp)
        go_ret
        exact ⟨by rw [HR.out]; rfl, BW4.out⟩
    | true =>
      obtain rfl : (1 : Int) = q := hq
      clear HQ
      go_wp2_with (at_builtin; refine wpList_pushH [sv d] rfl _ _ 30 rfl W1.heap.size 9 _ 1 16 Tryz.underlying30 info_str rfl (by decide) _ _ _ OW3.out rfl _ rfl (by simp) rfl rfl (by have := HF.out; unfold maxLen; omega) (by have := HF.out; omega) (by omega) ?_; intro g4 c4 w4 own4 g1 g2 g3; have OW4 := Lib.hid own4; have B4 := Lib.hid (Below.of_grown g1 OW3.out (by omega)); have HB4 := Lib.hid ((B4.out.block _ hWz).trans HB3.out); clear own4 g1 g2 g3 x0 x1 x2 x3; obtain ⟨x0, x1, x2, x3⟩ := cells4s HB4.out)
      · have BW4 := Lib.hid (BW.out.trans (B4.out.mono (Nat.le_of_lt hWz)))
        have h1 : (n : Int) = un := by assumption
        have h2 : un ≤ 4 := by assumption
        have h3 : (m : Int) = tn := by assumption
        have HR := Lib.hid (show R = (us ++ ts ++ [d]).all nameB by rw [HP.out, decide_eq_true h1, decide_eq_true h2, decide_eq_true h3]; simp)
        refine (containsn_any (us ++ ts ++ [d]) _ _ ?_ (KK.out.at_ (BW4.out.mono hB))).mono ?_
        · have h2 := SliceAt.of_owns OW4.out
          unfold StrsAt
          simpa using h2
        rintro e w5 ⟨rfl, k5, rfl⟩
        rw [← HR.out]
        clear h1 h2 h3 HR
        cases R
        · go_wp2
          go_ret
          exact ⟨rfl, below_drewN BW4.out k5⟩
        · go_wp2
          go_ret
          exact ⟨rfl, below_drewN BW4.out k5⟩
      · have BW4 := Lib.hid (BW.out.trans (B4.out.mono (Nat.le_of_lt hWz)))
        have h3 : ¬ (m : Int) = tn := by assumption
        have HR := Lib.hid (show R = false by rw [HP.out, decide_eq_false h3]; simp)
        go_ret
        exact ⟨by rw [HR.out]; rfl, BW4.out⟩
      · have BW4 := Lib.hid (BW.out.trans (B4.out.mono (Nat.le_of_lt hWz)))
        have h3 : 4 < un := by assumption
        have HR := Lib.hid (show R = false by rw [HP.out, decide_eq_false (show ¬ un ≤ 4 by omega)]; simp)
        go_ret
        exact ⟨by rw [HR.out]; rfl, BW4.out⟩
      · have BW4 := Lib.hid (BW.out.trans (B4.out.mono (Nat.le_of_lt hWz)))
        have h3 : ¬ (n : Int) = un := by assumption
        have HR := Lib.hid (show R = false by rw [HP.out, decide_eq_false h3]; simp)
        go_ret
        exact ⟨by rw [HR.out]; rfl, BW4.out⟩
end Go.Proofs.YtipnhmdibkkifaaGreatDoor
set_option linter.unusedVariables false
set_option linter.unusedSimpArgs false
set_option linter.unusedSectionVars false
namespace Go.Proofs.YtipnhmdibkkifaaGreatDoor
open Go.RowKit
variable [Base]
theorem funcB_name {f : PFunc} (h : nameB f.name = false) : funcB f = false := by unfold funcB; rw [h]; rfl
theorem funcB_few (f : PFunc) (h : f.blocks.length < 1) : funcB f = false := by
  unfold funcB; rw [show decide (1 ≤ f.blocks.length) = false from decide_eq_false (by omega)]; simp
theorem funcB_many (f : PFunc) (h : 16 < f.blocks.length) : funcB f = false := by
  unfold funcB; rw [show decide (f.blocks.length ≤ 16) = false from decide_eq_false (by omega)]; simp
theorem funcB_in (f : PFunc) (h : nameB f.name = true) (h1 : 1 ≤ f.blocks.length) (h2 : f.blocks.length ≤ 16) : funcB f = f.blocks.all blockB := by
  unfold funcB; rw [h]; simp [h1, h2]
theorem blockB_name {f : PBlock} (h : nameB f.name = false) : blockB f = false := by unfold blockB; rw [h]; rfl
theorem blockB_few (f : PBlock) (h : f.stmts.length < 1) : blockB f = false := by
  unfold blockB; rw [show decide (1 ≤ f.stmts.length) = false from decide_eq_false (by omega)]; simp
theorem blockB_many (f : PBlock) (h : 32 < f.stmts.length) : blockB f = false := by
  unfold blockB; rw [show decide (f.stmts.length ≤ 32) = false from decide_eq_false (by omega)]; simp
theorem blockB_in (f : PBlock) (h : nameB f.name = true) (h1 : 1 ≤ f.stmts.length) (h2 : f.stmts.length ≤ 32) : blockB f = f.stmts.all stmtB := by
  unfold blockB; rw [h]; simp [h1, h2]
end Go.Proofs.YtipnhmdibkkifaaGreatDoor
set_option linter.unusedVariables false
set_option linter.unusedSimpArgs false
set_option linter.unusedSectionVars false
namespace Go.Proofs.YtipnhmdibkkifaaGreatDoor
open Go.RowKit
variable [Base]
def FitS (s : PStmt) : Prop := (s.uses.length + s.targets.length + 1) * 16 ≤ 140737488355328
theorem notstmt_any {B : Nat} {w : World} (kw : KwIn B w) (hB : B ≤ w.heap.size) (s : PStmt) (u t : Value) (hu : StrsAt w u s.uses) (ht : StrsAt w t s.targets) (hf : FitS s) :
    Calls Tryz.prog 68 #[.agg #[iv s.op, sv s.dfn, u, t]] w (BoolQ (!stmtB s) w) := by
  have B0 := (Below.refl w.heap.size w).alloc (Nat.le_refl _) (.cells #[iv s.op, sv s.dfn, u, t] 118)
  have HB0 := Lib.hid B0
  have K := Lib.hid (svalid_any (kw.keep fun k hk => B0.block k (Nat.lt_of_lt_of_le hk hB)) (Nat.le_trans hB B0.size) s u t (SliceAt.same hu (SameT.below B0)) (SliceAt.same ht (SameT.below B0)) hf)
  clear B0
  obtain ⟨r, hr⟩ : ∃ r, stmtB s = r := ⟨_, rfl⟩
  rw [hr] at K ⊢
  obtain ⟨a1, c1, rfl, -, -⟩ := hu.cell
  obtain ⟨a2, c2, rfl, -, -⟩ := ht.cell
  clear kw hr hu ht
  go_enter Tryz.func68, Tryz.ntmps68
  go_wp2_with fail
  refine K.out.mono ?_
  rintro e w' ⟨rfl, b⟩
  have HB := Lib.hid (HB0.out.trans (b.mono HB0.out.size))
  clear b
  go_wp2
  go_ret
  exact ⟨rfl, HB.out⟩
def FirstS (l : List PStmt) (w : World) (e : Ending) (w' : World) : Prop := ∃ z : Int, e = .returned (iv z) ∧ -1 ≤ z ∧ l.all stmtB = decide (z < 0) ∧ Below w.heap.size w w'
theorem indexs_any {B : Nat} {w : World} (kw : KwIn B w) (hB : B ≤ w.heap.size) (l : List PStmt) (v : Value) (h : StmtsAt w v l) (hf : ∀ s ∈ l, FitS s) :
    Calls Tryz.prog 105 #[v, .func (.func 68) #[] #[]] w (FirstS l w) := by
  obtain ⟨a, c, rfl, hn, hc⟩ := h.cell
  have HC := Lib.hid hc
  have KW := Lib.hid kw
  have HF := Lib.hid hf
  obtain ⟨n, hl⟩ : ∃ n, l.length = n := ⟨_, rfl⟩
  rw [hl] at hn ⊢
  have HL := Lib.hid hl
  clear hc h hl kw hf
  unfold maxLen at hn
  go_enter Tryz.func105, Tryz.ntmps105
  go_wp2
  go_loopw [8] (fun x wr => ∃ k : Nat, k ≤ n ∧ x = .int .i64 k ∧ Hid (Below w.heap.size w wr) ∧ Hid (l.all stmtB = (l.drop k).all stmtB)) (fun x _ => n - (intOf x).toNat)
  case atStart => exact ⟨0, Nat.zero_le _, rfl, by first | exact Below.refl _ _ | exact below_draw (Below.refl _ _) _ | exact (Below.refl _ _).drewN _, by unfold Hid; simp⟩
  case round =>
    obtain ⟨k, hk, rfl, HB, HA⟩ := hrel
    by_cases hlt : k < n
    · obtain ⟨s, hs⟩ : ∃ s, l[k]? = some s := ⟨_, List.getElem?_eq_getElem (show k < l.length by have := HL.out; omega)⟩
      obtain ⟨jb, joff, su, tu, rfl, hjb, g0, g1, g2, g3, hsu, htu⟩ := HC.out k s hs
      have g0 := (HB.out.cell (p := ⟨jb, joff + k * 4, none⟩) hjb).trans g0
      have g1 := (HB.out.cell (p := ⟨jb, joff + k * 4 + 1, none⟩) hjb).trans g1
      have g2 := (HB.out.cell (p := ⟨jb, joff + k * 4 + 2, none⟩) hjb).trans g2
      have g3 := (HB.out.cell (p := ⟨jb, joff + k * 4 + 3, none⟩) hjb).trans g3
      have K := Lib.hid (fun (w2 : World) (b : Below w.heap.size w w2) => notstmt_any (KwIn.keep KW.out fun k hk => b.block k (Nat.lt_of_lt_of_le hk hB)) (Nat.le_trans hB b.size) s su tu (SliceAt.same hsu (SameT.below b)) (SliceAt.same htu (SameT.below b)) (HF.out s (List.mem_of_getElem? hs)))
      have HS := Lib.hid (all_drop' l k s hs stmtB)
      obtain ⟨r, hr⟩ : ∃ r, stmtB s = r := ⟨_, rfl⟩
      rw [hr] at K HS
      clear hs hr hsu htu
      cases r with
      | false =>
        have HG := Lib.hid (show l.all stmtB = false by rw [HA.out, HS.out]; rfl)
        go_wp2_with fail
        refine (K.out _ HB.out).mono ?_
        rintro e w' ⟨rfl, b⟩
        have HB2 := Lib.hid (HB.out.trans (b.mono HB.out.size))
        clear b g0 g1 g2 g3
        go_wp2
        go_ret
        exact ⟨(k : Int), rfl, by omega, by rw [HG.out]; simp, HB2.out⟩
      | true =>
        have HG := Lib.hid (show l.all stmtB = (l.drop (k + 1)).all stmtB by rw [HA.out, HS.out]; rfl)
        go_wp2_with fail
        refine (K.out _ HB.out).mono ?_
        rintro e w' ⟨rfl, b⟩
        have HB2 := Lib.hid (HB.out.trans (b.mono HB.out.size))
        clear b g0 g1 g2 g3
        go_wp2
        go_roundw
        case rel => exact ⟨k + 1, by omega, by go_num, HB2, HG⟩
        case measure => simp [intOf]; omega
    · have HG := Lib.hid (show l.all stmtB = true by rw [HA.out, List.drop_eq_nil_of_le (by rw [HL.out]; omega)]; rfl)
      go_wp2
      go_ret
      exact ⟨-1, rfl, by omega, by rw [HG.out]; rfl, HB.out⟩
theorem containss_any {B : Nat} {w : World} (kw : KwIn B w) (hB : B ≤ w.heap.size) (l : List PStmt) (v : Value) (h : StmtsAt w v l) (hf : ∀ s ∈ l, FitS s) :
    Calls Tryz.prog 67 #[v, .func (.func 68) #[] #[]] w (BoolQ (!l.all stmtB) w) := by
  obtain ⟨a, c, rfl, -, -⟩ := h.cell
  have K := Lib.hid (indexs_any kw hB l _ h hf)
  clear h kw
  go_enter Tryz.func67, Tryz.ntmps67
  go_wp2_with fail
  refine K.out.mono ?_
  rintro e w' ⟨z, rfl, hz, ha, b⟩
  have HA := Lib.hid (show (!l.all stmtB) = decide (0 ≤ z) by rw [ha, Bool.eq_iff_iff]; simp)
  have HB := Lib.hid b
  clear ha b
  go_wp2
  go_ret
  exact ⟨by rw [HA.out]; rfl, HB.out⟩
end Go.Proofs.YtipnhmdibkkifaaGreatDoor
