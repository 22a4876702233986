/- Walks: the program's tests of a valid program. Printed by wip/gen_rtv.py. -/
import Derived.Test.YtpnfdmajpkpjoaaDoorQSlc
import Derived.Test.YtpnfdmajpkpjoaaDoorQHold
import Derived.Deep.QuietTactic
import Derived.BigQuiet
set_option linter.unusedVariables false
set_option linter.unusedSimpArgs false
namespace Go.Proofs.YtpnfdmajpkpjoaaDoor
open Go.RowKit

def FalseN (w : World) (e : Ending) (w' : World) : Prop := e = .returned (.bool false) ∧ ∃ k, w' = w.drewN k
def NoneN (w : World) (e : Ending) (w' : World) : Prop := e = .returned (.int .i64 (-1)) ∧ ∃ k, w' = w.drewN k
theorem valid1_any (s : Str) (hs : nameB s = true) (w : World) (kw : KwAt w) : Calls Tryd.prog 91 #[sv s] w (FalseN w) := by
  have K := Lib.hid (isname_any ⟨s.toArray⟩ w kw)
  have HS := Lib.hid hs
  clear kw hs
  go_enter Tryd.func91, Tryd.ntmps91
  go_wp2_with fail
  refine K.out.mono ?_
  rintro e w' ⟨rfl, k, rfl⟩
  rw [show nameB (ByteArray.mk s.toArray).data.toList = true from HS.out]
  go_wp2
  go_ret
  exact ⟨rfl, k, rfl⟩
theorem KwAt.drewN {w : World} (h : KwAt w) (k : Nat) : KwAt (w.drewN k) := h
theorem index1_any (l : List Str) (hl : ∀ x ∈ l, nameB x = true) (v : Value) (w : World) (h : StrsAt w v l) (kw : KwAt w) :
    Calls Tryd.prog 98 #[v, .func (.func 91) #[] #[]] w (NoneN w) := by
  obtain ⟨a, c, rfl, hn, hc⟩ := h.cell
  have HC := Lib.hid hc
  have HA := Lib.hid hl
  have KW := Lib.hid kw
  obtain ⟨n, hl⟩ : ∃ n, l.length = n := ⟨_, rfl⟩
  rw [hl] at hn ⊢
  have HL := Lib.hid hl
  clear hc h hl kw
  unfold maxLen at hn
  go_enter Tryd.func98, Tryd.ntmps98
  go_wp2
  go_loopw [8] (fun x wr => ∃ k m : Nat, k ≤ n ∧ x = .int .i64 k ∧ wr = w.drewN m) (fun x _ => n - (intOf x).toNat)
  case atStart => exact ⟨0, 0, Nat.zero_le _, rfl, rfl⟩
  case round =>
    obtain ⟨k, m, hk, rfl, rfl⟩ := hrel
    by_cases hlt : k < n
    · obtain ⟨t, ht⟩ : ∃ t, l[k]? = some t := ⟨_, List.getElem?_eq_getElem (show k < l.length by have := HL.out; omega)⟩
      obtain ⟨b1, o1, rfl, _, g1⟩ := HC.out k t ht
      have K := Lib.hid (valid1_any t (HA.out t (List.mem_of_getElem? ht)) (w.drewN m) KW.out)
      clear ht
      go_wp2_with fail
      refine K.out.mono ?_
      rintro e w' ⟨rfl, k2, rfl⟩
      go_wp2
      go_roundw
      case rel => exact ⟨k + 1, _, by omega, by go_num, rfl⟩
      case measure => simp [intOf]; omega
    · go_wp2
      go_ret
      exact ⟨rfl, _, rfl⟩
theorem contains1_any (l : List Str) (hl : ∀ x ∈ l, nameB x = true) (v : Value) (w : World) (h : StrsAt w v l) (kw : KwAt w) :
    Calls Tryd.prog 90 #[v, .func (.func 91) #[] #[]] w (FalseN w) := by
  obtain ⟨a, c, rfl, -, -⟩ := h.cell
  have K := Lib.hid (index1_any l hl _ w h kw)
  clear h kw hl
  go_enter Tryd.func90, Tryd.ntmps90
  go_wp2_with fail
  refine K.out.mono ?_
  rintro e w' ⟨rfl, k, rfl⟩
  go_wp2
  go_ret
  exact ⟨rfl, k, rfl⟩
/-- What the operation asks of the fields. -/
def OpAsks (z : Int) (d : Str) (n m : Nat) : Prop :=
  (z = 1 ∧ nameB d = true ∧ m = 0) ∨ (z = 2 ∧ d = [] ∧ 1 ≤ n ∧ m = 0) ∨ (z = 5 ∧ d = [] ∧ n = 1 ∧ m = 0) ∨ ((z = 3 ∨ z = 7) ∧ d = [] ∧ n = 0 ∧ m = 1) ∨ ((z = 4 ∨ z = 6) ∧ nameB d = true ∧ n = 0 ∧ m = 0) ∨ (z = 8 ∧ d = [] ∧ n = 1 ∧ m = 2) ∨ (z = 9 ∧ d = [] ∧ n = 0 ∧ m = 0)

set_option maxRecDepth 100000 in
set_option maxHeartbeats 2000000 in
theorem valid_op1 {B : Nat} {w : World} (kw : KwIn B w) (hB : B ≤ w.heap.size) (d : Str) (us ts : List Str) (u t : Value) (hu : StrsAt w u us) (ht : StrsAt w t ts) (hlu : us.length ≤ 4) (hlt : ts.length ≤ 2) (hnu : ∀ x ∈ us, nameB x = true) (hnt : ∀ x ∈ ts, nameB x = true) (hc : nameB d = true ∧ ts.length = 0) :
    Calls Tryd.prog 75 #[.agg #[.int .i64 1, sv d, u, t]] w (BoolPost true w) := by
  obtain ⟨ua, uc, rfl, -, -⟩ := hu.cell
  obtain ⟨ta, tc, rfl, -, -⟩ := ht.cell
  obtain ⟨n, hn⟩ : ∃ n, us.length = n := ⟨_, rfl⟩
  obtain ⟨m, hm⟩ : ∃ n, ts.length = n := ⟨_, rfl⟩
  rw [hn] at hu hlu ⊢
  try rw [hn] at hc
  rw [hm] at ht hc hlt ⊢
  have HU := Lib.hid hu
  have HT := Lib.hid ht
  have HN := Lib.hid hn
  have HM := Lib.hid hm
  have KK := Lib.hid kw
  have HNU := Lib.hid hnu
  have HNT := Lib.hid hnt
  have b0 := heap_alloc_new w (.cells #[.int .i64 1, sv d, .slice ua n uc, .slice ta m tc] 67)
  have HB0 := Lib.hid b0
  have B0 := Lib.hid ((Below.refl w.heap.size w).alloc (Nat.le_refl _) (.cells #[.int .i64 1, sv d, .slice ua n uc, .slice ta m tc] 67))
  clear hu ht hn hm kw hnu hnt b0
  obtain ⟨hd, rfl⟩ := hc
  have HD := Lib.hid hd
  clear hd
  have CL := Lib.hid (fun k => clone_str (.slice ua n uc) n (us.map sv) ((w.alloc (.cells #[.int .i64 1, sv d, .slice ua n uc, .slice ta 0 tc] 67)).drewN k) (SliceAt.same HU.out SameT.alloc) (by have := HN.out; rw [List.length_map]; omega) (all_sv us) (by omega))
  obtain ⟨W, hW⟩ : ∃ W, w.alloc (.cells #[.int .i64 1, sv d, .slice ua n uc, .slice ta 0 tc] 67) = W := ⟨_, rfl⟩
  have HW := Lib.hid hW
  rw [hW] at CL HB0 B0
  clear hW
  have x0 := (blk_cells HB0.out).1 0
  have x1 := (blk_cells HB0.out).1 1
  have x2 := (blk_cells HB0.out).1 2
  have x3 := (blk_cells HB0.out).1 3
  simp at x0 x1 x2 x3
  go_enter Tryd.func75, Tryd.ntmps75
  go_wp2_with fail
  rw [show w.alloc (.cells #[.int .i64 1, sv d, .slice ua n uc, .slice ta 0 tc] 67) = W from HW.out]
  clear HW
  go_quiet (fail)
  go_wp2
  have hWz : w.heap.size < W.heap.size := lt_heap HB0.out
  have HUW := Lib.hid (SliceAt.same HU.out (SameT.below B0.out))
  have HTW := Lib.hid (SliceAt.same HT.out (SameT.below B0.out))
  refine wp_region_D (S := (fun w' => w'.cell? ⟨w.heap.size, 2, none⟩ = some (.slice ua n uc) ∧ w'.cell? ⟨w.heap.size, 3, none⟩ = some (.slice ta 0 tc))) (st := 6) (by kernel_rfl) ?_
  refine wpAnyT_pure 0 ?z1 rfl (by kernel_rfl) (by kernel_rfl) (by kernel_rfl) (by kernel_rfl) (fun _ _ _ h => h) ⟨x2, x3⟩ rfl ?rz1 ?sz1
  case rz1 => intro w hS; have hS1 := hS.1; have hS2 := hS.2; go_simp; rfl
  case sz1 =>
  refine wpAnyT_pure 1 ?z2 rfl (by kernel_rfl) (by kernel_rfl) (by kernel_rfl) (by kernel_rfl) (fun _ _ _ h => h) ⟨x2, x3⟩ rfl ?rz2 ?sz2
  case rz2 => intro w hS; have hS1 := hS.1; have hS2 := hS.2; go_simp; rfl
  case sz2 =>
  refine wpAnyT_pure 3 ?z3 rfl (by kernel_rfl) (by kernel_rfl) (by kernel_rfl) (by kernel_rfl) (fun _ _ _ h => h) ⟨x2, x3⟩ rfl ?rz3 ?sz3
  case rz3 => intro w hS; have hS1 := hS.1; have hS2 := hS.2; go_simp; rfl
  case sz3 =>
  refine wpAnyT_pure 4 ?z4 rfl (by kernel_rfl) (by kernel_rfl) (by kernel_rfl) (by kernel_rfl) (fun _ _ _ h => h) ⟨x2, x3⟩ rfl ?rz4 ?sz4
  case rz4 => intro w hS; have hS1 := hS.1; have hS2 := hS.2; go_simp; rfl
  case sz4 =>
  refine wpAnyT_all (rs := [2]) (by kernel_rfl) (by decide) ?_
  intro i hi
  obtain rfl : i = 2 := by simpa using hi
  clear hi
  refine wpOp_of_list rfl ?_
  go_wp2_with fail
  refine (CL.out (nq + 1)).mono ?_
  rintro e w2 ⟨ga, gc, rfl, own2, b2⟩
  have B2 : Hid (Below W.heap.size W w2) := ⟨b2.os, b2.tape, b2.output, b2.size, b2.block⟩
  have OW2 : Hid (w2.ownsRow W.heap.size 9 1 (.slice ga n gc) n (us.map sv)) := own2
  have HB2 := Lib.hid ((B2.out.block _ hWz).trans HB0.out)
  clear own2 b2 x0 x1 x2 x3 CL
  have x0 := (blk_cells HB2.out).1 0
  have x1 := (blk_cells HB2.out).1 1
  have x2 := (blk_cells HB2.out).1 2
  have x3 := (blk_cells HB2.out).1 3
  simp at x0 x1 x2 x3
  go_wp2
  refine ⟨fun _ => ⟨x2, x3⟩, ?_⟩
  refine wpAnyT_all (rs := [5]) (by kernel_rfl) (by decide) ?_
  intro i hi
  obtain rfl : i = 5 := by simpa using hi
  clear hi
  refine wpOp_of_list rfl ?_
  refine wpList_append_sl rfl _ _ 39 rfl W.heap.size 9 _ 1 16 Tryd.underlying39 info_str rfl (by decide) _ _ _ OW2.out rfl _ 0 (ts.map sv) rfl (SliceAt.same HTW.out (SameT.below B2.out)) (by have := HM.out; rw [List.length_map]; omega) (all_sv ts) (by unfold maxLen; omega) (by omega) (by have := B2.out.size; omega) ?_
  intro g d3 w3 own3 gr3
  have OW3 : Hid (w3.ownsRow W.heap.size 9 1 (.slice g (n + 0) d3) (n + 0) (us.map sv ++ ts.map sv)) := own3
  have B3 := Lib.hid (Below.of_grown gr3 OW2.out (by have := B2.out.size; omega))
  have HB3 := Lib.hid ((B3.out.block _ hWz).trans HB2.out)
  clear own3 gr3 x0 x1 x2 x3
  have x0 := (blk_cells HB3.out).1 0
  have x1 := (blk_cells HB3.out).1 1
  have x2 := (blk_cells HB3.out).1 2
  have x3 := (blk_cells HB3.out).1 3
  simp at x0 x1 x2 x3
  go_wp2
  refine ⟨fun _ => ⟨x2, x3⟩, ?_⟩
  refine wpAnyT_all (rs := [6]) (by kernel_rfl) (by decide) ?_
  intro i hi
  obtain rfl : i = 6 := by simpa using hi
  clear hi
  refine wpOp_of_list rfl ?_
  go_wp2
  refine ⟨fun h => absurd rfl h, ?_⟩
  refine wpAnyT_done (by kernel_rfl) ?_ _
  have BW := Lib.hid (B0.out.trans ((B2.out.trans B3.out).mono (Nat.le_of_lt hWz)))
  have hz3 : W.heap.size ≤ w3.heap.size := Nat.le_trans B2.out.size B3.out.size
  go_wp2_with (at_builtin; refine wpList_pushH [sv d] rfl _ _ 39 rfl W.heap.size 9 _ 1 16 Tryd.underlying39 info_str rfl (by decide) _ _ _ OW3.out rfl _ rfl (by simp) rfl rfl (by unfold maxLen; omega) (by omega) (by omega) ?_; intro g4 c4 w4 own4 g1 g2 g3; have OW4 := Lib.hid own4; have B4 := Lib.hid (Below.of_grown g1 OW3.out (by omega)); have HB4 := Lib.hid ((B4.out.block _ hWz).trans HB3.out); clear own4 g1 g2 g3 x0 x1 x2 x3; have x0 := (blk_cells HB4.out).1 0; have x1 := (blk_cells HB4.out).1 1; have x2 := (blk_cells HB4.out).1 2; have x3 := (blk_cells HB4.out).1 3; simp at x0 x1 x2 x3)
  have BW4 := Lib.hid (BW.out.trans (B4.out.mono (Nat.le_of_lt hWz)))
  refine (contains1_any (us ++ ts ++ [d]) ?_ _ _ ?_ (KK.out.at_ (BW4.out.mono hB))).mono ?_
  · intro x hx
    rcases List.mem_append.1 hx with hx | hx
    · rcases List.mem_append.1 hx with hx | hx
      · exact HNU.out x hx
      · exact HNT.out x hx
    · simp at hx; rw [hx]; exact HD.out
  · have h2 := SliceAt.of_owns OW4.out
    unfold StrsAt
    simpa using h2
  rintro e w5 ⟨rfl, k5, rfl⟩
  go_wp2
  go_ret
  exact ⟨rfl, below_drewN BW4.out k5⟩

set_option maxRecDepth 100000 in
set_option maxHeartbeats 2000000 in
theorem valid_op2 {B : Nat} {w : World} (kw : KwIn B w) (hB : B ≤ w.heap.size) (d : Str) (us ts : List Str) (u t : Value) (hu : StrsAt w u us) (ht : StrsAt w t ts) (hlu : us.length ≤ 4) (hlt : ts.length ≤ 2) (hnu : ∀ x ∈ us, nameB x = true) (hnt : ∀ x ∈ ts, nameB x = true) (hc : d = [] ∧ 1 ≤ us.length ∧ ts.length = 0) :
    Calls Tryd.prog 75 #[.agg #[.int .i64 2, sv d, u, t]] w (BoolPost true w) := by
  obtain ⟨ua, uc, rfl, -, -⟩ := hu.cell
  obtain ⟨ta, tc, rfl, -, -⟩ := ht.cell
  obtain ⟨n, hn⟩ : ∃ n, us.length = n := ⟨_, rfl⟩
  obtain ⟨m, hm⟩ : ∃ n, ts.length = n := ⟨_, rfl⟩
  rw [hn] at hu hlu ⊢
  try rw [hn] at hc
  rw [hm] at ht hc hlt ⊢
  have HU := Lib.hid hu
  have HT := Lib.hid ht
  have HN := Lib.hid hn
  have HM := Lib.hid hm
  have KK := Lib.hid kw
  have HNU := Lib.hid hnu
  have HNT := Lib.hid hnt
  have b0 := heap_alloc_new w (.cells #[.int .i64 2, sv d, .slice ua n uc, .slice ta m tc] 67)
  have HB0 := Lib.hid b0
  have B0 := Lib.hid ((Below.refl w.heap.size w).alloc (Nat.le_refl _) (.cells #[.int .i64 2, sv d, .slice ua n uc, .slice ta m tc] 67))
  clear hu ht hn hm kw hnu hnt b0
  obtain ⟨rfl, h1, rfl⟩ := hc
  have hx : ((1 : Int) ≤ (n : Int)) := by omega
  have CL := Lib.hid (fun k => clone_str (.slice ua n uc) n (us.map sv) ((w.alloc (.cells #[.int .i64 2, sv [], .slice ua n uc, .slice ta 0 tc] 67)).drewN k) (SliceAt.same HU.out SameT.alloc) (by have := HN.out; rw [List.length_map]; omega) (all_sv us) (by omega))
  obtain ⟨W, hW⟩ : ∃ W, w.alloc (.cells #[.int .i64 2, sv [], .slice ua n uc, .slice ta 0 tc] 67) = W := ⟨_, rfl⟩
  have HW := Lib.hid hW
  rw [hW] at CL HB0 B0
  clear hW
  have x0 := (blk_cells HB0.out).1 0
  have x1 := (blk_cells HB0.out).1 1
  have x2 := (blk_cells HB0.out).1 2
  have x3 := (blk_cells HB0.out).1 3
  simp at x0 x1 x2 x3
  go_enter Tryd.func75, Tryd.ntmps75
  go_wp2_with fail
  rw [show w.alloc (.cells #[.int .i64 2, sv [], .slice ua n uc, .slice ta 0 tc] 67) = W from HW.out]
  clear HW
  go_quiet (fail)
  go_wp2
  have hWz : w.heap.size < W.heap.size := lt_heap HB0.out
  have HUW := Lib.hid (SliceAt.same HU.out (SameT.below B0.out))
  have HTW := Lib.hid (SliceAt.same HT.out (SameT.below B0.out))
  refine wp_region_D (S := (fun w' => w'.cell? ⟨w.heap.size, 2, none⟩ = some (.slice ua n uc) ∧ w'.cell? ⟨w.heap.size, 3, none⟩ = some (.slice ta 0 tc))) (st := 6) (by kernel_rfl) ?_
  refine wpAnyT_pure 0 ?z5 rfl (by kernel_rfl) (by kernel_rfl) (by kernel_rfl) (by kernel_rfl) (fun _ _ _ h => h) ⟨x2, x3⟩ rfl ?rz5 ?sz5
  case rz5 => intro w hS; have hS1 := hS.1; have hS2 := hS.2; go_simp; rfl
  case sz5 =>
  refine wpAnyT_pure 1 ?z6 rfl (by kernel_rfl) (by kernel_rfl) (by kernel_rfl) (by kernel_rfl) (fun _ _ _ h => h) ⟨x2, x3⟩ rfl ?rz6 ?sz6
  case rz6 => intro w hS; have hS1 := hS.1; have hS2 := hS.2; go_simp; rfl
  case sz6 =>
  refine wpAnyT_pure 3 ?z7 rfl (by kernel_rfl) (by kernel_rfl) (by kernel_rfl) (by kernel_rfl) (fun _ _ _ h => h) ⟨x2, x3⟩ rfl ?rz7 ?sz7
  case rz7 => intro w hS; have hS1 := hS.1; have hS2 := hS.2; go_simp; rfl
  case sz7 =>
  refine wpAnyT_pure 4 ?z8 rfl (by kernel_rfl) (by kernel_rfl) (by kernel_rfl) (by kernel_rfl) (fun _ _ _ h => h) ⟨x2, x3⟩ rfl ?rz8 ?sz8
  case rz8 => intro w hS; have hS1 := hS.1; have hS2 := hS.2; go_simp; rfl
  case sz8 =>
  refine wpAnyT_all (rs := [2]) (by kernel_rfl) (by decide) ?_
  intro i hi
  obtain rfl : i = 2 := by simpa using hi
  clear hi
  refine wpOp_of_list rfl ?_
  go_wp2_with fail
  refine (CL.out (nq + 1)).mono ?_
  rintro e w2 ⟨ga, gc, rfl, own2, b2⟩
  have B2 : Hid (Below W.heap.size W w2) := ⟨b2.os, b2.tape, b2.output, b2.size, b2.block⟩
  have OW2 : Hid (w2.ownsRow W.heap.size 9 1 (.slice ga n gc) n (us.map sv)) := own2
  have HB2 := Lib.hid ((B2.out.block _ hWz).trans HB0.out)
  clear own2 b2 x0 x1 x2 x3 CL
  have x0 := (blk_cells HB2.out).1 0
  have x1 := (blk_cells HB2.out).1 1
  have x2 := (blk_cells HB2.out).1 2
  have x3 := (blk_cells HB2.out).1 3
  simp at x0 x1 x2 x3
  go_wp2
  refine ⟨fun _ => ⟨x2, x3⟩, ?_⟩
  refine wpAnyT_all (rs := [5]) (by kernel_rfl) (by decide) ?_
  intro i hi
  obtain rfl : i = 5 := by simpa using hi
  clear hi
  refine wpOp_of_list rfl ?_
  refine wpList_append_sl rfl _ _ 39 rfl W.heap.size 9 _ 1 16 Tryd.underlying39 info_str rfl (by decide) _ _ _ OW2.out rfl _ 0 (ts.map sv) rfl (SliceAt.same HTW.out (SameT.below B2.out)) (by have := HM.out; rw [List.length_map]; omega) (all_sv ts) (by unfold maxLen; omega) (by omega) (by have := B2.out.size; omega) ?_
  intro g d3 w3 own3 gr3
  have OW3 : Hid (w3.ownsRow W.heap.size 9 1 (.slice g (n + 0) d3) (n + 0) (us.map sv ++ ts.map sv)) := own3
  have B3 := Lib.hid (Below.of_grown gr3 OW2.out (by have := B2.out.size; omega))
  have HB3 := Lib.hid ((B3.out.block _ hWz).trans HB2.out)
  clear own3 gr3 x0 x1 x2 x3
  have x0 := (blk_cells HB3.out).1 0
  have x1 := (blk_cells HB3.out).1 1
  have x2 := (blk_cells HB3.out).1 2
  have x3 := (blk_cells HB3.out).1 3
  simp at x0 x1 x2 x3
  go_wp2
  refine ⟨fun _ => ⟨x2, x3⟩, ?_⟩
  refine wpAnyT_all (rs := [6]) (by kernel_rfl) (by decide) ?_
  intro i hi
  obtain rfl : i = 6 := by simpa using hi
  clear hi
  refine wpOp_of_list rfl ?_
  go_wp2
  refine ⟨fun h => absurd rfl h, ?_⟩
  refine wpAnyT_done (by kernel_rfl) ?_ _
  have BW := Lib.hid (B0.out.trans ((B2.out.trans B3.out).mono (Nat.le_of_lt hWz)))
  go_wp2_with fail
  refine (contains1_any (us ++ ts) ?_ _ _ ?_ (KK.out.at_ (BW.out.mono hB))).mono ?_
  · intro x hx
    rcases List.mem_append.1 hx with hx | hx
    · exact HNU.out x hx
    · exact HNT.out x hx
  · have h2 := SliceAt.of_owns OW3.out
    unfold StrsAt
    simpa using h2
  rintro e w5 ⟨rfl, k5, rfl⟩
  go_wp2
  go_ret
  exact ⟨rfl, below_drewN BW.out k5⟩

set_option maxRecDepth 100000 in
set_option maxHeartbeats 2000000 in
theorem valid_op3 {B : Nat} {w : World} (kw : KwIn B w) (hB : B ≤ w.heap.size) (d : Str) (us ts : List Str) (u t : Value) (hu : StrsAt w u us) (ht : StrsAt w t ts) (hlu : us.length ≤ 4) (hlt : ts.length ≤ 2) (hnu : ∀ x ∈ us, nameB x = true) (hnt : ∀ x ∈ ts, nameB x = true) (hc : d = [] ∧ us.length = 0 ∧ ts.length = 1) :
    Calls Tryd.prog 75 #[.agg #[.int .i64 3, sv d, u, t]] w (BoolPost true w) := by
  obtain ⟨ua, uc, rfl, -, -⟩ := hu.cell
  obtain ⟨ta, tc, rfl, -, -⟩ := ht.cell
  obtain ⟨n, hn⟩ : ∃ n, us.length = n := ⟨_, rfl⟩
  obtain ⟨m, hm⟩ : ∃ n, ts.length = n := ⟨_, rfl⟩
  rw [hn] at hu hlu ⊢
  try rw [hn] at hc
  rw [hm] at ht hc hlt ⊢
  have HU := Lib.hid hu
  have HT := Lib.hid ht
  have HN := Lib.hid hn
  have HM := Lib.hid hm
  have KK := Lib.hid kw
  have HNU := Lib.hid hnu
  have HNT := Lib.hid hnt
  have b0 := heap_alloc_new w (.cells #[.int .i64 3, sv d, .slice ua n uc, .slice ta m tc] 67)
  have HB0 := Lib.hid b0
  have B0 := Lib.hid ((Below.refl w.heap.size w).alloc (Nat.le_refl _) (.cells #[.int .i64 3, sv d, .slice ua n uc, .slice ta m tc] 67))
  clear hu ht hn hm kw hnu hnt b0
  obtain ⟨rfl, rfl, rfl⟩ := hc
  have CL := Lib.hid (fun k => clone_str (.slice ua 0 uc) 0 (us.map sv) ((w.alloc (.cells #[.int .i64 3, sv [], .slice ua 0 uc, .slice ta 1 tc] 67)).drewN k) (SliceAt.same HU.out SameT.alloc) (by have := HN.out; rw [List.length_map]; omega) (all_sv us) (by omega))
  obtain ⟨W, hW⟩ : ∃ W, w.alloc (.cells #[.int .i64 3, sv [], .slice ua 0 uc, .slice ta 1 tc] 67) = W := ⟨_, rfl⟩
  have HW := Lib.hid hW
  rw [hW] at CL HB0 B0
  clear hW
  have x0 := (blk_cells HB0.out).1 0
  have x1 := (blk_cells HB0.out).1 1
  have x2 := (blk_cells HB0.out).1 2
  have x3 := (blk_cells HB0.out).1 3
  simp at x0 x1 x2 x3
  go_enter Tryd.func75, Tryd.ntmps75
  go_wp2_with fail
  rw [show w.alloc (.cells #[.int .i64 3, sv [], .slice ua 0 uc, .slice ta 1 tc] 67) = W from HW.out]
  clear HW
  go_quiet (fail)
  go_wp2
  have hWz : w.heap.size < W.heap.size := lt_heap HB0.out
  have HUW := Lib.hid (SliceAt.same HU.out (SameT.below B0.out))
  have HTW := Lib.hid (SliceAt.same HT.out (SameT.below B0.out))
  refine wp_region_D (S := (fun w' => w'.cell? ⟨w.heap.size, 2, none⟩ = some (.slice ua 0 uc) ∧ w'.cell? ⟨w.heap.size, 3, none⟩ = some (.slice ta 1 tc))) (st := 6) (by kernel_rfl) ?_
  refine wpAnyT_pure 0 ?z9 rfl (by kernel_rfl) (by kernel_rfl) (by kernel_rfl) (by kernel_rfl) (fun _ _ _ h => h) ⟨x2, x3⟩ rfl ?rz9 ?sz9
  case rz9 => intro w hS; have hS1 := hS.1; have hS2 := hS.2; go_simp; rfl
  case sz9 =>
  refine wpAnyT_pure 1 ?z10 rfl (by kernel_rfl) (by kernel_rfl) (by kernel_rfl) (by kernel_rfl) (fun _ _ _ h => h) ⟨x2, x3⟩ rfl ?rz10 ?sz10
  case rz10 => intro w hS; have hS1 := hS.1; have hS2 := hS.2; go_simp; rfl
  case sz10 =>
  refine wpAnyT_pure 3 ?z11 rfl (by kernel_rfl) (by kernel_rfl) (by kernel_rfl) (by kernel_rfl) (fun _ _ _ h => h) ⟨x2, x3⟩ rfl ?rz11 ?sz11
  case rz11 => intro w hS; have hS1 := hS.1; have hS2 := hS.2; go_simp; rfl
  case sz11 =>
  refine wpAnyT_pure 4 ?z12 rfl (by kernel_rfl) (by kernel_rfl) (by kernel_rfl) (by kernel_rfl) (fun _ _ _ h => h) ⟨x2, x3⟩ rfl ?rz12 ?sz12
  case rz12 => intro w hS; have hS1 := hS.1; have hS2 := hS.2; go_simp; rfl
  case sz12 =>
  refine wpAnyT_all (rs := [2]) (by kernel_rfl) (by decide) ?_
  intro i hi
  obtain rfl : i = 2 := by simpa using hi
  clear hi
  refine wpOp_of_list rfl ?_
  go_wp2_with fail
  refine (CL.out (nq + 1)).mono ?_
  rintro e w2 ⟨ga, gc, rfl, own2, b2⟩
  have B2 : Hid (Below W.heap.size W w2) := ⟨b2.os, b2.tape, b2.output, b2.size, b2.block⟩
  have OW2 : Hid (w2.ownsRow W.heap.size 9 1 (.slice ga 0 gc) 0 (us.map sv)) := own2
  have HB2 := Lib.hid ((B2.out.block _ hWz).trans HB0.out)
  clear own2 b2 x0 x1 x2 x3 CL
  have x0 := (blk_cells HB2.out).1 0
  have x1 := (blk_cells HB2.out).1 1
  have x2 := (blk_cells HB2.out).1 2
  have x3 := (blk_cells HB2.out).1 3
  simp at x0 x1 x2 x3
  go_wp2
  refine ⟨fun _ => ⟨x2, x3⟩, ?_⟩
  refine wpAnyT_all (rs := [5]) (by kernel_rfl) (by decide) ?_
  intro i hi
  obtain rfl : i = 5 := by simpa using hi
  clear hi
  refine wpOp_of_list rfl ?_
  refine wpList_append_sl rfl _ _ 39 rfl W.heap.size 9 _ 1 16 Tryd.underlying39 info_str rfl (by decide) _ _ _ OW2.out rfl _ 1 (ts.map sv) rfl (SliceAt.same HTW.out (SameT.below B2.out)) (by have := HM.out; rw [List.length_map]; omega) (all_sv ts) (by unfold maxLen; omega) (by omega) (by have := B2.out.size; omega) ?_
  intro g d3 w3 own3 gr3
  have OW3 : Hid (w3.ownsRow W.heap.size 9 1 (.slice g (0 + 1) d3) (0 + 1) (us.map sv ++ ts.map sv)) := own3
  have B3 := Lib.hid (Below.of_grown gr3 OW2.out (by have := B2.out.size; omega))
  have HB3 := Lib.hid ((B3.out.block _ hWz).trans HB2.out)
  clear own3 gr3 x0 x1 x2 x3
  have x0 := (blk_cells HB3.out).1 0
  have x1 := (blk_cells HB3.out).1 1
  have x2 := (blk_cells HB3.out).1 2
  have x3 := (blk_cells HB3.out).1 3
  simp at x0 x1 x2 x3
  go_wp2
  refine ⟨fun _ => ⟨x2, x3⟩, ?_⟩
  refine wpAnyT_all (rs := [6]) (by kernel_rfl) (by decide) ?_
  intro i hi
  obtain rfl : i = 6 := by simpa using hi
  clear hi
  refine wpOp_of_list rfl ?_
  go_wp2
  refine ⟨fun h => absurd rfl h, ?_⟩
  refine wpAnyT_done (by kernel_rfl) ?_ _
  have BW := Lib.hid (B0.out.trans ((B2.out.trans B3.out).mono (Nat.le_of_lt hWz)))
  go_wp2_with fail
  refine (contains1_any (us ++ ts) ?_ _ _ ?_ (KK.out.at_ (BW.out.mono hB))).mono ?_
  · intro x hx
    rcases List.mem_append.1 hx with hx | hx
    · exact HNU.out x hx
    · exact HNT.out x hx
  · have h2 := SliceAt.of_owns OW3.out
    unfold StrsAt
    simpa using h2
  rintro e w5 ⟨rfl, k5, rfl⟩
  go_wp2
  go_ret
  exact ⟨rfl, below_drewN BW.out k5⟩

set_option maxRecDepth 100000 in
set_option maxHeartbeats 2000000 in
theorem valid_op4 {B : Nat} {w : World} (kw : KwIn B w) (hB : B ≤ w.heap.size) (d : Str) (us ts : List Str) (u t : Value) (hu : StrsAt w u us) (ht : StrsAt w t ts) (hlu : us.length ≤ 4) (hlt : ts.length ≤ 2) (hnu : ∀ x ∈ us, nameB x = true) (hnt : ∀ x ∈ ts, nameB x = true) (hc : nameB d = true ∧ us.length = 0 ∧ ts.length = 0) :
    Calls Tryd.prog 75 #[.agg #[.int .i64 4, sv d, u, t]] w (BoolPost true w) := by
  obtain ⟨ua, uc, rfl, -, -⟩ := hu.cell
  obtain ⟨ta, tc, rfl, -, -⟩ := ht.cell
  obtain ⟨n, hn⟩ : ∃ n, us.length = n := ⟨_, rfl⟩
  obtain ⟨m, hm⟩ : ∃ n, ts.length = n := ⟨_, rfl⟩
  rw [hn] at hu hlu ⊢
  try rw [hn] at hc
  rw [hm] at ht hc hlt ⊢
  have HU := Lib.hid hu
  have HT := Lib.hid ht
  have HN := Lib.hid hn
  have HM := Lib.hid hm
  have KK := Lib.hid kw
  have HNU := Lib.hid hnu
  have HNT := Lib.hid hnt
  have b0 := heap_alloc_new w (.cells #[.int .i64 4, sv d, .slice ua n uc, .slice ta m tc] 67)
  have HB0 := Lib.hid b0
  have B0 := Lib.hid ((Below.refl w.heap.size w).alloc (Nat.le_refl _) (.cells #[.int .i64 4, sv d, .slice ua n uc, .slice ta m tc] 67))
  clear hu ht hn hm kw hnu hnt b0
  obtain ⟨hd, rfl, rfl⟩ := hc
  have HD := Lib.hid hd
  clear hd
  have CL := Lib.hid (fun k => clone_str (.slice ua 0 uc) 0 (us.map sv) ((w.alloc (.cells #[.int .i64 4, sv d, .slice ua 0 uc, .slice ta 0 tc] 67)).drewN k) (SliceAt.same HU.out SameT.alloc) (by have := HN.out; rw [List.length_map]; omega) (all_sv us) (by omega))
  obtain ⟨W, hW⟩ : ∃ W, w.alloc (.cells #[.int .i64 4, sv d, .slice ua 0 uc, .slice ta 0 tc] 67) = W := ⟨_, rfl⟩
  have HW := Lib.hid hW
  rw [hW] at CL HB0 B0
  clear hW
  have x0 := (blk_cells HB0.out).1 0
  have x1 := (blk_cells HB0.out).1 1
  have x2 := (blk_cells HB0.out).1 2
  have x3 := (blk_cells HB0.out).1 3
  simp at x0 x1 x2 x3
  go_enter Tryd.func75, Tryd.ntmps75
  go_wp2_with fail
  rw [show w.alloc (.cells #[.int .i64 4, sv d, .slice ua 0 uc, .slice ta 0 tc] 67) = W from HW.out]
  clear HW
  go_quiet (fail)
  go_wp2
  have hWz : w.heap.size < W.heap.size := lt_heap HB0.out
  have HUW := Lib.hid (SliceAt.same HU.out (SameT.below B0.out))
  have HTW := Lib.hid (SliceAt.same HT.out (SameT.below B0.out))
  refine wp_region_D (S := (fun w' => w'.cell? ⟨w.heap.size, 2, none⟩ = some (.slice ua 0 uc) ∧ w'.cell? ⟨w.heap.size, 3, none⟩ = some (.slice ta 0 tc))) (st := 6) (by kernel_rfl) ?_
  refine wpAnyT_pure 0 ?z13 rfl (by kernel_rfl) (by kernel_rfl) (by kernel_rfl) (by kernel_rfl) (fun _ _ _ h => h) ⟨x2, x3⟩ rfl ?rz13 ?sz13
  case rz13 => intro w hS; have hS1 := hS.1; have hS2 := hS.2; go_simp; rfl
  case sz13 =>
  refine wpAnyT_pure 1 ?z14 rfl (by kernel_rfl) (by kernel_rfl) (by kernel_rfl) (by kernel_rfl) (fun _ _ _ h => h) ⟨x2, x3⟩ rfl ?rz14 ?sz14
  case rz14 => intro w hS; have hS1 := hS.1; have hS2 := hS.2; go_simp; rfl
  case sz14 =>
  refine wpAnyT_pure 3 ?z15 rfl (by kernel_rfl) (by kernel_rfl) (by kernel_rfl) (by kernel_rfl) (fun _ _ _ h => h) ⟨x2, x3⟩ rfl ?rz15 ?sz15
  case rz15 => intro w hS; have hS1 := hS.1; have hS2 := hS.2; go_simp; rfl
  case sz15 =>
  refine wpAnyT_pure 4 ?z16 rfl (by kernel_rfl) (by kernel_rfl) (by kernel_rfl) (by kernel_rfl) (fun _ _ _ h => h) ⟨x2, x3⟩ rfl ?rz16 ?sz16
  case rz16 => intro w hS; have hS1 := hS.1; have hS2 := hS.2; go_simp; rfl
  case sz16 =>
  refine wpAnyT_all (rs := [2]) (by kernel_rfl) (by decide) ?_
  intro i hi
  obtain rfl : i = 2 := by simpa using hi
  clear hi
  refine wpOp_of_list rfl ?_
  go_wp2_with fail
  refine (CL.out (nq + 1)).mono ?_
  rintro e w2 ⟨ga, gc, rfl, own2, b2⟩
  have B2 : Hid (Below W.heap.size W w2) := ⟨b2.os, b2.tape, b2.output, b2.size, b2.block⟩
  have OW2 : Hid (w2.ownsRow W.heap.size 9 1 (.slice ga 0 gc) 0 (us.map sv)) := own2
  have HB2 := Lib.hid ((B2.out.block _ hWz).trans HB0.out)
  clear own2 b2 x0 x1 x2 x3 CL
  have x0 := (blk_cells HB2.out).1 0
  have x1 := (blk_cells HB2.out).1 1
  have x2 := (blk_cells HB2.out).1 2
  have x3 := (blk_cells HB2.out).1 3
  simp at x0 x1 x2 x3
  go_wp2
  refine ⟨fun _ => ⟨x2, x3⟩, ?_⟩
  refine wpAnyT_all (rs := [5]) (by kernel_rfl) (by decide) ?_
  intro i hi
  obtain rfl : i = 5 := by simpa using hi
  clear hi
  refine wpOp_of_list rfl ?_
  refine wpList_append_sl rfl _ _ 39 rfl W.heap.size 9 _ 1 16 Tryd.underlying39 info_str rfl (by decide) _ _ _ OW2.out rfl _ 0 (ts.map sv) rfl (SliceAt.same HTW.out (SameT.below B2.out)) (by have := HM.out; rw [List.length_map]; omega) (all_sv ts) (by unfold maxLen; omega) (by omega) (by have := B2.out.size; omega) ?_
  intro g d3 w3 own3 gr3
  have OW3 : Hid (w3.ownsRow W.heap.size 9 1 (.slice g (0 + 0) d3) (0 + 0) (us.map sv ++ ts.map sv)) := own3
  have B3 := Lib.hid (Below.of_grown gr3 OW2.out (by have := B2.out.size; omega))
  have HB3 := Lib.hid ((B3.out.block _ hWz).trans HB2.out)
  clear own3 gr3 x0 x1 x2 x3
  have x0 := (blk_cells HB3.out).1 0
  have x1 := (blk_cells HB3.out).1 1
  have x2 := (blk_cells HB3.out).1 2
  have x3 := (blk_cells HB3.out).1 3
  simp at x0 x1 x2 x3
  go_wp2
  refine ⟨fun _ => ⟨x2, x3⟩, ?_⟩
  refine wpAnyT_all (rs := [6]) (by kernel_rfl) (by decide) ?_
  intro i hi
  obtain rfl : i = 6 := by simpa using hi
  clear hi
  refine wpOp_of_list rfl ?_
  go_wp2
  refine ⟨fun h => absurd rfl h, ?_⟩
  refine wpAnyT_done (by kernel_rfl) ?_ _
  have BW := Lib.hid (B0.out.trans ((B2.out.trans B3.out).mono (Nat.le_of_lt hWz)))
  have hz3 : W.heap.size ≤ w3.heap.size := Nat.le_trans B2.out.size B3.out.size
  go_wp2_with (at_builtin; refine wpList_pushH [sv d] rfl _ _ 39 rfl W.heap.size 9 _ 1 16 Tryd.underlying39 info_str rfl (by decide) _ _ _ OW3.out rfl _ rfl (by simp) rfl rfl (by unfold maxLen; omega) (by omega) (by omega) ?_; intro g4 c4 w4 own4 g1 g2 g3; have OW4 := Lib.hid own4; have B4 := Lib.hid (Below.of_grown g1 OW3.out (by omega)); have HB4 := Lib.hid ((B4.out.block _ hWz).trans HB3.out); clear own4 g1 g2 g3 x0 x1 x2 x3; have x0 := (blk_cells HB4.out).1 0; have x1 := (blk_cells HB4.out).1 1; have x2 := (blk_cells HB4.out).1 2; have x3 := (blk_cells HB4.out).1 3; simp at x0 x1 x2 x3)
  have BW4 := Lib.hid (BW.out.trans (B4.out.mono (Nat.le_of_lt hWz)))
  refine (contains1_any (us ++ ts ++ [d]) ?_ _ _ ?_ (KK.out.at_ (BW4.out.mono hB))).mono ?_
  · intro x hx
    rcases List.mem_append.1 hx with hx | hx
    · rcases List.mem_append.1 hx with hx | hx
      · exact HNU.out x hx
      · exact HNT.out x hx
    · simp at hx; rw [hx]; exact HD.out
  · have h2 := SliceAt.of_owns OW4.out
    unfold StrsAt
    simpa using h2
  rintro e w5 ⟨rfl, k5, rfl⟩
  go_wp2
  go_ret
  exact ⟨rfl, below_drewN BW4.out k5⟩

set_option maxRecDepth 100000 in
set_option maxHeartbeats 2000000 in
theorem valid_op5 {B : Nat} {w : World} (kw : KwIn B w) (hB : B ≤ w.heap.size) (d : Str) (us ts : List Str) (u t : Value) (hu : StrsAt w u us) (ht : StrsAt w t ts) (hlu : us.length ≤ 4) (hlt : ts.length ≤ 2) (hnu : ∀ x ∈ us, nameB x = true) (hnt : ∀ x ∈ ts, nameB x = true) (hc : d = [] ∧ us.length = 1 ∧ ts.length = 0) :
    Calls Tryd.prog 75 #[.agg #[.int .i64 5, sv d, u, t]] w (BoolPost true w) := by
  obtain ⟨ua, uc, rfl, -, -⟩ := hu.cell
  obtain ⟨ta, tc, rfl, -, -⟩ := ht.cell
  obtain ⟨n, hn⟩ : ∃ n, us.length = n := ⟨_, rfl⟩
  obtain ⟨m, hm⟩ : ∃ n, ts.length = n := ⟨_, rfl⟩
  rw [hn] at hu hlu ⊢
  try rw [hn] at hc
  rw [hm] at ht hc hlt ⊢
  have HU := Lib.hid hu
  have HT := Lib.hid ht
  have HN := Lib.hid hn
  have HM := Lib.hid hm
  have KK := Lib.hid kw
  have HNU := Lib.hid hnu
  have HNT := Lib.hid hnt
  have b0 := heap_alloc_new w (.cells #[.int .i64 5, sv d, .slice ua n uc, .slice ta m tc] 67)
  have HB0 := Lib.hid b0
  have B0 := Lib.hid ((Below.refl w.heap.size w).alloc (Nat.le_refl _) (.cells #[.int .i64 5, sv d, .slice ua n uc, .slice ta m tc] 67))
  clear hu ht hn hm kw hnu hnt b0
  obtain ⟨rfl, rfl, rfl⟩ := hc
  have CL := Lib.hid (fun k => clone_str (.slice ua 1 uc) 1 (us.map sv) ((w.alloc (.cells #[.int .i64 5, sv [], .slice ua 1 uc, .slice ta 0 tc] 67)).drewN k) (SliceAt.same HU.out SameT.alloc) (by have := HN.out; rw [List.length_map]; omega) (all_sv us) (by omega))
  obtain ⟨W, hW⟩ : ∃ W, w.alloc (.cells #[.int .i64 5, sv [], .slice ua 1 uc, .slice ta 0 tc] 67) = W := ⟨_, rfl⟩
  have HW := Lib.hid hW
  rw [hW] at CL HB0 B0
  clear hW
  have x0 := (blk_cells HB0.out).1 0
  have x1 := (blk_cells HB0.out).1 1
  have x2 := (blk_cells HB0.out).1 2
  have x3 := (blk_cells HB0.out).1 3
  simp at x0 x1 x2 x3
  go_enter Tryd.func75, Tryd.ntmps75
  go_wp2_with fail
  rw [show w.alloc (.cells #[.int .i64 5, sv [], .slice ua 1 uc, .slice ta 0 tc] 67) = W from HW.out]
  clear HW
  go_quiet (fail)
  go_wp2
  have hWz : w.heap.size < W.heap.size := lt_heap HB0.out
  have HUW := Lib.hid (SliceAt.same HU.out (SameT.below B0.out))
  have HTW := Lib.hid (SliceAt.same HT.out (SameT.below B0.out))
  refine wp_region_D (S := (fun w' => w'.cell? ⟨w.heap.size, 2, none⟩ = some (.slice ua 1 uc) ∧ w'.cell? ⟨w.heap.size, 3, none⟩ = some (.slice ta 0 tc))) (st := 6) (by kernel_rfl) ?_
  refine wpAnyT_pure 0 ?z17 rfl (by kernel_rfl) (by kernel_rfl) (by kernel_rfl) (by kernel_rfl) (fun _ _ _ h => h) ⟨x2, x3⟩ rfl ?rz17 ?sz17
  case rz17 => intro w hS; have hS1 := hS.1; have hS2 := hS.2; go_simp; rfl
  case sz17 =>
  refine wpAnyT_pure 1 ?z18 rfl (by kernel_rfl) (by kernel_rfl) (by kernel_rfl) (by kernel_rfl) (fun _ _ _ h => h) ⟨x2, x3⟩ rfl ?rz18 ?sz18
  case rz18 => intro w hS; have hS1 := hS.1; have hS2 := hS.2; go_simp; rfl
  case sz18 =>
  refine wpAnyT_pure 3 ?z19 rfl (by kernel_rfl) (by kernel_rfl) (by kernel_rfl) (by kernel_rfl) (fun _ _ _ h => h) ⟨x2, x3⟩ rfl ?rz19 ?sz19
  case rz19 => intro w hS; have hS1 := hS.1; have hS2 := hS.2; go_simp; rfl
  case sz19 =>
  refine wpAnyT_pure 4 ?z20 rfl (by kernel_rfl) (by kernel_rfl) (by kernel_rfl) (by kernel_rfl) (fun _ _ _ h => h) ⟨x2, x3⟩ rfl ?rz20 ?sz20
  case rz20 => intro w hS; have hS1 := hS.1; have hS2 := hS.2; go_simp; rfl
  case sz20 =>
  refine wpAnyT_all (rs := [2]) (by kernel_rfl) (by decide) ?_
  intro i hi
  obtain rfl : i = 2 := by simpa using hi
  clear hi
  refine wpOp_of_list rfl ?_
  go_wp2_with fail
  refine (CL.out (nq + 1)).mono ?_
  rintro e w2 ⟨ga, gc, rfl, own2, b2⟩
  have B2 : Hid (Below W.heap.size W w2) := ⟨b2.os, b2.tape, b2.output, b2.size, b2.block⟩
  have OW2 : Hid (w2.ownsRow W.heap.size 9 1 (.slice ga 1 gc) 1 (us.map sv)) := own2
  have HB2 := Lib.hid ((B2.out.block _ hWz).trans HB0.out)
  clear own2 b2 x0 x1 x2 x3 CL
  have x0 := (blk_cells HB2.out).1 0
  have x1 := (blk_cells HB2.out).1 1
  have x2 := (blk_cells HB2.out).1 2
  have x3 := (blk_cells HB2.out).1 3
  simp at x0 x1 x2 x3
  go_wp2
  refine ⟨fun _ => ⟨x2, x3⟩, ?_⟩
  refine wpAnyT_all (rs := [5]) (by kernel_rfl) (by decide) ?_
  intro i hi
  obtain rfl : i = 5 := by simpa using hi
  clear hi
  refine wpOp_of_list rfl ?_
  refine wpList_append_sl rfl _ _ 39 rfl W.heap.size 9 _ 1 16 Tryd.underlying39 info_str rfl (by decide) _ _ _ OW2.out rfl _ 0 (ts.map sv) rfl (SliceAt.same HTW.out (SameT.below B2.out)) (by have := HM.out; rw [List.length_map]; omega) (all_sv ts) (by unfold maxLen; omega) (by omega) (by have := B2.out.size; omega) ?_
  intro g d3 w3 own3 gr3
  have OW3 : Hid (w3.ownsRow W.heap.size 9 1 (.slice g (1 + 0) d3) (1 + 0) (us.map sv ++ ts.map sv)) := own3
  have B3 := Lib.hid (Below.of_grown gr3 OW2.out (by have := B2.out.size; omega))
  have HB3 := Lib.hid ((B3.out.block _ hWz).trans HB2.out)
  clear own3 gr3 x0 x1 x2 x3
  have x0 := (blk_cells HB3.out).1 0
  have x1 := (blk_cells HB3.out).1 1
  have x2 := (blk_cells HB3.out).1 2
  have x3 := (blk_cells HB3.out).1 3
  simp at x0 x1 x2 x3
  go_wp2
  refine ⟨fun _ => ⟨x2, x3⟩, ?_⟩
  refine wpAnyT_all (rs := [6]) (by kernel_rfl) (by decide) ?_
  intro i hi
  obtain rfl : i = 6 := by simpa using hi
  clear hi
  refine wpOp_of_list rfl ?_
  go_wp2
  refine ⟨fun h => absurd rfl h, ?_⟩
  refine wpAnyT_done (by kernel_rfl) ?_ _
  have BW := Lib.hid (B0.out.trans ((B2.out.trans B3.out).mono (Nat.le_of_lt hWz)))
  go_wp2_with fail
  refine (contains1_any (us ++ ts) ?_ _ _ ?_ (KK.out.at_ (BW.out.mono hB))).mono ?_
  · intro x hx
    rcases List.mem_append.1 hx with hx | hx
    · exact HNU.out x hx
    · exact HNT.out x hx
  · have h2 := SliceAt.of_owns OW3.out
    unfold StrsAt
    simpa using h2
  rintro e w5 ⟨rfl, k5, rfl⟩
  go_wp2
  go_ret
  exact ⟨rfl, below_drewN BW.out k5⟩

set_option maxRecDepth 100000 in
set_option maxHeartbeats 2000000 in
theorem valid_op6 {B : Nat} {w : World} (kw : KwIn B w) (hB : B ≤ w.heap.size) (d : Str) (us ts : List Str) (u t : Value) (hu : StrsAt w u us) (ht : StrsAt w t ts) (hlu : us.length ≤ 4) (hlt : ts.length ≤ 2) (hnu : ∀ x ∈ us, nameB x = true) (hnt : ∀ x ∈ ts, nameB x = true) (hc : nameB d = true ∧ us.length = 0 ∧ ts.length = 0) :
    Calls Tryd.prog 75 #[.agg #[.int .i64 6, sv d, u, t]] w (BoolPost true w) := by
  obtain ⟨ua, uc, rfl, -, -⟩ := hu.cell
  obtain ⟨ta, tc, rfl, -, -⟩ := ht.cell
  obtain ⟨n, hn⟩ : ∃ n, us.length = n := ⟨_, rfl⟩
  obtain ⟨m, hm⟩ : ∃ n, ts.length = n := ⟨_, rfl⟩
  rw [hn] at hu hlu ⊢
  try rw [hn] at hc
  rw [hm] at ht hc hlt ⊢
  have HU := Lib.hid hu
  have HT := Lib.hid ht
  have HN := Lib.hid hn
  have HM := Lib.hid hm
  have KK := Lib.hid kw
  have HNU := Lib.hid hnu
  have HNT := Lib.hid hnt
  have b0 := heap_alloc_new w (.cells #[.int .i64 6, sv d, .slice ua n uc, .slice ta m tc] 67)
  have HB0 := Lib.hid b0
  have B0 := Lib.hid ((Below.refl w.heap.size w).alloc (Nat.le_refl _) (.cells #[.int .i64 6, sv d, .slice ua n uc, .slice ta m tc] 67))
  clear hu ht hn hm kw hnu hnt b0
  obtain ⟨hd, rfl, rfl⟩ := hc
  have HD := Lib.hid hd
  clear hd
  have CL := Lib.hid (fun k => clone_str (.slice ua 0 uc) 0 (us.map sv) ((w.alloc (.cells #[.int .i64 6, sv d, .slice ua 0 uc, .slice ta 0 tc] 67)).drewN k) (SliceAt.same HU.out SameT.alloc) (by have := HN.out; rw [List.length_map]; omega) (all_sv us) (by omega))
  obtain ⟨W, hW⟩ : ∃ W, w.alloc (.cells #[.int .i64 6, sv d, .slice ua 0 uc, .slice ta 0 tc] 67) = W := ⟨_, rfl⟩
  have HW := Lib.hid hW
  rw [hW] at CL HB0 B0
  clear hW
  have x0 := (blk_cells HB0.out).1 0
  have x1 := (blk_cells HB0.out).1 1
  have x2 := (blk_cells HB0.out).1 2
  have x3 := (blk_cells HB0.out).1 3
  simp at x0 x1 x2 x3
  go_enter Tryd.func75, Tryd.ntmps75
  go_wp2_with fail
  rw [show w.alloc (.cells #[.int .i64 6, sv d, .slice ua 0 uc, .slice ta 0 tc] 67) = W from HW.out]
  clear HW
  go_quiet (fail)
  go_wp2
  have hWz : w.heap.size < W.heap.size := lt_heap HB0.out
  have HUW := Lib.hid (SliceAt.same HU.out (SameT.below B0.out))
  have HTW := Lib.hid (SliceAt.same HT.out (SameT.below B0.out))
  refine wp_region_D (S := (fun w' => w'.cell? ⟨w.heap.size, 2, none⟩ = some (.slice ua 0 uc) ∧ w'.cell? ⟨w.heap.size, 3, none⟩ = some (.slice ta 0 tc))) (st := 6) (by kernel_rfl) ?_
  refine wpAnyT_pure 0 ?z21 rfl (by kernel_rfl) (by kernel_rfl) (by kernel_rfl) (by kernel_rfl) (fun _ _ _ h => h) ⟨x2, x3⟩ rfl ?rz21 ?sz21
  case rz21 => intro w hS; have hS1 := hS.1; have hS2 := hS.2; go_simp; rfl
  case sz21 =>
  refine wpAnyT_pure 1 ?z22 rfl (by kernel_rfl) (by kernel_rfl) (by kernel_rfl) (by kernel_rfl) (fun _ _ _ h => h) ⟨x2, x3⟩ rfl ?rz22 ?sz22
  case rz22 => intro w hS; have hS1 := hS.1; have hS2 := hS.2; go_simp; rfl
  case sz22 =>
  refine wpAnyT_pure 3 ?z23 rfl (by kernel_rfl) (by kernel_rfl) (by kernel_rfl) (by kernel_rfl) (fun _ _ _ h => h) ⟨x2, x3⟩ rfl ?rz23 ?sz23
  case rz23 => intro w hS; have hS1 := hS.1; have hS2 := hS.2; go_simp; rfl
  case sz23 =>
  refine wpAnyT_pure 4 ?z24 rfl (by kernel_rfl) (by kernel_rfl) (by kernel_rfl) (by kernel_rfl) (fun _ _ _ h => h) ⟨x2, x3⟩ rfl ?rz24 ?sz24
  case rz24 => intro w hS; have hS1 := hS.1; have hS2 := hS.2; go_simp; rfl
  case sz24 =>
  refine wpAnyT_all (rs := [2]) (by kernel_rfl) (by decide) ?_
  intro i hi
  obtain rfl : i = 2 := by simpa using hi
  clear hi
  refine wpOp_of_list rfl ?_
  go_wp2_with fail
  refine (CL.out (nq + 1)).mono ?_
  rintro e w2 ⟨ga, gc, rfl, own2, b2⟩
  have B2 : Hid (Below W.heap.size W w2) := ⟨b2.os, b2.tape, b2.output, b2.size, b2.block⟩
  have OW2 : Hid (w2.ownsRow W.heap.size 9 1 (.slice ga 0 gc) 0 (us.map sv)) := own2
  have HB2 := Lib.hid ((B2.out.block _ hWz).trans HB0.out)
  clear own2 b2 x0 x1 x2 x3 CL
  have x0 := (blk_cells HB2.out).1 0
  have x1 := (blk_cells HB2.out).1 1
  have x2 := (blk_cells HB2.out).1 2
  have x3 := (blk_cells HB2.out).1 3
  simp at x0 x1 x2 x3
  go_wp2
  refine ⟨fun _ => ⟨x2, x3⟩, ?_⟩
  refine wpAnyT_all (rs := [5]) (by kernel_rfl) (by decide) ?_
  intro i hi
  obtain rfl : i = 5 := by simpa using hi
  clear hi
  refine wpOp_of_list rfl ?_
  refine wpList_append_sl rfl _ _ 39 rfl W.heap.size 9 _ 1 16 Tryd.underlying39 info_str rfl (by decide) _ _ _ OW2.out rfl _ 0 (ts.map sv) rfl (SliceAt.same HTW.out (SameT.below B2.out)) (by have := HM.out; rw [List.length_map]; omega) (all_sv ts) (by unfold maxLen; omega) (by omega) (by have := B2.out.size; omega) ?_
  intro g d3 w3 own3 gr3
  have OW3 : Hid (w3.ownsRow W.heap.size 9 1 (.slice g (0 + 0) d3) (0 + 0) (us.map sv ++ ts.map sv)) := own3
  have B3 := Lib.hid (Below.of_grown gr3 OW2.out (by have := B2.out.size; omega))
  have HB3 := Lib.hid ((B3.out.block _ hWz).trans HB2.out)
  clear own3 gr3 x0 x1 x2 x3
  have x0 := (blk_cells HB3.out).1 0
  have x1 := (blk_cells HB3.out).1 1
  have x2 := (blk_cells HB3.out).1 2
  have x3 := (blk_cells HB3.out).1 3
  simp at x0 x1 x2 x3
  go_wp2
  refine ⟨fun _ => ⟨x2, x3⟩, ?_⟩
  refine wpAnyT_all (rs := [6]) (by kernel_rfl) (by decide) ?_
  intro i hi
  obtain rfl : i = 6 := by simpa using hi
  clear hi
  refine wpOp_of_list rfl ?_
  go_wp2
  refine ⟨fun h => absurd rfl h, ?_⟩
  refine wpAnyT_done (by kernel_rfl) ?_ _
  have BW := Lib.hid (B0.out.trans ((B2.out.trans B3.out).mono (Nat.le_of_lt hWz)))
  have hz3 : W.heap.size ≤ w3.heap.size := Nat.le_trans B2.out.size B3.out.size
  go_wp2_with (at_builtin; refine wpList_pushH [sv d] rfl _ _ 39 rfl W.heap.size 9 _ 1 16 Tryd.underlying39 info_str rfl (by decide) _ _ _ OW3.out rfl _ rfl (by simp) rfl rfl (by unfold maxLen; omega) (by omega) (by omega) ?_; intro g4 c4 w4 own4 g1 g2 g3; have OW4 := Lib.hid own4; have B4 := Lib.hid (Below.of_grown g1 OW3.out (by omega)); have HB4 := Lib.hid ((B4.out.block _ hWz).trans HB3.out); clear own4 g1 g2 g3 x0 x1 x2 x3; have x0 := (blk_cells HB4.out).1 0; have x1 := (blk_cells HB4.out).1 1; have x2 := (blk_cells HB4.out).1 2; have x3 := (blk_cells HB4.out).1 3; simp at x0 x1 x2 x3)
  have BW4 := Lib.hid (BW.out.trans (B4.out.mono (Nat.le_of_lt hWz)))
  refine (contains1_any (us ++ ts ++ [d]) ?_ _ _ ?_ (KK.out.at_ (BW4.out.mono hB))).mono ?_
  · intro x hx
    rcases List.mem_append.1 hx with hx | hx
    · rcases List.mem_append.1 hx with hx | hx
      · exact HNU.out x hx
      · exact HNT.out x hx
    · simp at hx; rw [hx]; exact HD.out
  · have h2 := SliceAt.of_owns OW4.out
    unfold StrsAt
    simpa using h2
  rintro e w5 ⟨rfl, k5, rfl⟩
  go_wp2
  go_ret
  exact ⟨rfl, below_drewN BW4.out k5⟩

set_option maxRecDepth 100000 in
set_option maxHeartbeats 2000000 in
theorem valid_op7 {B : Nat} {w : World} (kw : KwIn B w) (hB : B ≤ w.heap.size) (d : Str) (us ts : List Str) (u t : Value) (hu : StrsAt w u us) (ht : StrsAt w t ts) (hlu : us.length ≤ 4) (hlt : ts.length ≤ 2) (hnu : ∀ x ∈ us, nameB x = true) (hnt : ∀ x ∈ ts, nameB x = true) (hc : d = [] ∧ us.length = 0 ∧ ts.length = 1) :
    Calls Tryd.prog 75 #[.agg #[.int .i64 7, sv d, u, t]] w (BoolPost true w) := by
  obtain ⟨ua, uc, rfl, -, -⟩ := hu.cell
  obtain ⟨ta, tc, rfl, -, -⟩ := ht.cell
  obtain ⟨n, hn⟩ : ∃ n, us.length = n := ⟨_, rfl⟩
  obtain ⟨m, hm⟩ : ∃ n, ts.length = n := ⟨_, rfl⟩
  rw [hn] at hu hlu ⊢
  try rw [hn] at hc
  rw [hm] at ht hc hlt ⊢
  have HU := Lib.hid hu
  have HT := Lib.hid ht
  have HN := Lib.hid hn
  have HM := Lib.hid hm
  have KK := Lib.hid kw
  have HNU := Lib.hid hnu
  have HNT := Lib.hid hnt
  have b0 := heap_alloc_new w (.cells #[.int .i64 7, sv d, .slice ua n uc, .slice ta m tc] 67)
  have HB0 := Lib.hid b0
  have B0 := Lib.hid ((Below.refl w.heap.size w).alloc (Nat.le_refl _) (.cells #[.int .i64 7, sv d, .slice ua n uc, .slice ta m tc] 67))
  clear hu ht hn hm kw hnu hnt b0
  obtain ⟨rfl, rfl, rfl⟩ := hc
  have CL := Lib.hid (fun k => clone_str (.slice ua 0 uc) 0 (us.map sv) ((w.alloc (.cells #[.int .i64 7, sv [], .slice ua 0 uc, .slice ta 1 tc] 67)).drewN k) (SliceAt.same HU.out SameT.alloc) (by have := HN.out; rw [List.length_map]; omega) (all_sv us) (by omega))
  obtain ⟨W, hW⟩ : ∃ W, w.alloc (.cells #[.int .i64 7, sv [], .slice ua 0 uc, .slice ta 1 tc] 67) = W := ⟨_, rfl⟩
  have HW := Lib.hid hW
  rw [hW] at CL HB0 B0
  clear hW
  have x0 := (blk_cells HB0.out).1 0
  have x1 := (blk_cells HB0.out).1 1
  have x2 := (blk_cells HB0.out).1 2
  have x3 := (blk_cells HB0.out).1 3
  simp at x0 x1 x2 x3
  go_enter Tryd.func75, Tryd.ntmps75
  go_wp2_with fail
  rw [show w.alloc (.cells #[.int .i64 7, sv [], .slice ua 0 uc, .slice ta 1 tc] 67) = W from HW.out]
  clear HW
  go_quiet (fail)
  go_wp2
  have hWz : w.heap.size < W.heap.size := lt_heap HB0.out
  have HUW := Lib.hid (SliceAt.same HU.out (SameT.below B0.out))
  have HTW := Lib.hid (SliceAt.same HT.out (SameT.below B0.out))
  refine wp_region_D (S := (fun w' => w'.cell? ⟨w.heap.size, 2, none⟩ = some (.slice ua 0 uc) ∧ w'.cell? ⟨w.heap.size, 3, none⟩ = some (.slice ta 1 tc))) (st := 6) (by kernel_rfl) ?_
  refine wpAnyT_pure 0 ?z25 rfl (by kernel_rfl) (by kernel_rfl) (by kernel_rfl) (by kernel_rfl) (fun _ _ _ h => h) ⟨x2, x3⟩ rfl ?rz25 ?sz25
  case rz25 => intro w hS; have hS1 := hS.1; have hS2 := hS.2; go_simp; rfl
  case sz25 =>
  refine wpAnyT_pure 1 ?z26 rfl (by kernel_rfl) (by kernel_rfl) (by kernel_rfl) (by kernel_rfl) (fun _ _ _ h => h) ⟨x2, x3⟩ rfl ?rz26 ?sz26
  case rz26 => intro w hS; have hS1 := hS.1; have hS2 := hS.2; go_simp; rfl
  case sz26 =>
  refine wpAnyT_pure 3 ?z27 rfl (by kernel_rfl) (by kernel_rfl) (by kernel_rfl) (by kernel_rfl) (fun _ _ _ h => h) ⟨x2, x3⟩ rfl ?rz27 ?sz27
  case rz27 => intro w hS; have hS1 := hS.1; have hS2 := hS.2; go_simp; rfl
  case sz27 =>
  refine wpAnyT_pure 4 ?z28 rfl (by kernel_rfl) (by kernel_rfl) (by kernel_rfl) (by kernel_rfl) (fun _ _ _ h => h) ⟨x2, x3⟩ rfl ?rz28 ?sz28
  case rz28 => intro w hS; have hS1 := hS.1; have hS2 := hS.2; go_simp; rfl
  case sz28 =>
  refine wpAnyT_all (rs := [2]) (by kernel_rfl) (by decide) ?_
  intro i hi
  obtain rfl : i = 2 := by simpa using hi
  clear hi
  refine wpOp_of_list rfl ?_
  go_wp2_with fail
  refine (CL.out (nq + 1)).mono ?_
  rintro e w2 ⟨ga, gc, rfl, own2, b2⟩
  have B2 : Hid (Below W.heap.size W w2) := ⟨b2.os, b2.tape, b2.output, b2.size, b2.block⟩
  have OW2 : Hid (w2.ownsRow W.heap.size 9 1 (.slice ga 0 gc) 0 (us.map sv)) := own2
  have HB2 := Lib.hid ((B2.out.block _ hWz).trans HB0.out)
  clear own2 b2 x0 x1 x2 x3 CL
  have x0 := (blk_cells HB2.out).1 0
  have x1 := (blk_cells HB2.out).1 1
  have x2 := (blk_cells HB2.out).1 2
  have x3 := (blk_cells HB2.out).1 3
  simp at x0 x1 x2 x3
  go_wp2
  refine ⟨fun _ => ⟨x2, x3⟩, ?_⟩
  refine wpAnyT_all (rs := [5]) (by kernel_rfl) (by decide) ?_
  intro i hi
  obtain rfl : i = 5 := by simpa using hi
  clear hi
  refine wpOp_of_list rfl ?_
  refine wpList_append_sl rfl _ _ 39 rfl W.heap.size 9 _ 1 16 Tryd.underlying39 info_str rfl (by decide) _ _ _ OW2.out rfl _ 1 (ts.map sv) rfl (SliceAt.same HTW.out (SameT.below B2.out)) (by have := HM.out; rw [List.length_map]; omega) (all_sv ts) (by unfold maxLen; omega) (by omega) (by have := B2.out.size; omega) ?_
  intro g d3 w3 own3 gr3
  have OW3 : Hid (w3.ownsRow W.heap.size 9 1 (.slice g (0 + 1) d3) (0 + 1) (us.map sv ++ ts.map sv)) := own3
  have B3 := Lib.hid (Below.of_grown gr3 OW2.out (by have := B2.out.size; omega))
  have HB3 := Lib.hid ((B3.out.block _ hWz).trans HB2.out)
  clear own3 gr3 x0 x1 x2 x3
  have x0 := (blk_cells HB3.out).1 0
  have x1 := (blk_cells HB3.out).1 1
  have x2 := (blk_cells HB3.out).1 2
  have x3 := (blk_cells HB3.out).1 3
  simp at x0 x1 x2 x3
  go_wp2
  refine ⟨fun _ => ⟨x2, x3⟩, ?_⟩
  refine wpAnyT_all (rs := [6]) (by kernel_rfl) (by decide) ?_
  intro i hi
  obtain rfl : i = 6 := by simpa using hi
  clear hi
  refine wpOp_of_list rfl ?_
  go_wp2
  refine ⟨fun h => absurd rfl h, ?_⟩
  refine wpAnyT_done (by kernel_rfl) ?_ _
  have BW := Lib.hid (B0.out.trans ((B2.out.trans B3.out).mono (Nat.le_of_lt hWz)))
  go_wp2_with fail
  refine (contains1_any (us ++ ts) ?_ _ _ ?_ (KK.out.at_ (BW.out.mono hB))).mono ?_
  · intro x hx
    rcases List.mem_append.1 hx with hx | hx
    · exact HNU.out x hx
    · exact HNT.out x hx
  · have h2 := SliceAt.of_owns OW3.out
    unfold StrsAt
    simpa using h2
  rintro e w5 ⟨rfl, k5, rfl⟩
  go_wp2
  go_ret
  exact ⟨rfl, below_drewN BW.out k5⟩

set_option maxRecDepth 100000 in
set_option maxHeartbeats 2000000 in
theorem valid_op8 {B : Nat} {w : World} (kw : KwIn B w) (hB : B ≤ w.heap.size) (d : Str) (us ts : List Str) (u t : Value) (hu : StrsAt w u us) (ht : StrsAt w t ts) (hlu : us.length ≤ 4) (hlt : ts.length ≤ 2) (hnu : ∀ x ∈ us, nameB x = true) (hnt : ∀ x ∈ ts, nameB x = true) (hc : d = [] ∧ us.length = 1 ∧ ts.length = 2) :
    Calls Tryd.prog 75 #[.agg #[.int .i64 8, sv d, u, t]] w (BoolPost true w) := by
  obtain ⟨ua, uc, rfl, -, -⟩ := hu.cell
  obtain ⟨ta, tc, rfl, -, -⟩ := ht.cell
  obtain ⟨n, hn⟩ : ∃ n, us.length = n := ⟨_, rfl⟩
  obtain ⟨m, hm⟩ : ∃ n, ts.length = n := ⟨_, rfl⟩
  rw [hn] at hu hlu ⊢
  try rw [hn] at hc
  rw [hm] at ht hc hlt ⊢
  have HU := Lib.hid hu
  have HT := Lib.hid ht
  have HN := Lib.hid hn
  have HM := Lib.hid hm
  have KK := Lib.hid kw
  have HNU := Lib.hid hnu
  have HNT := Lib.hid hnt
  have b0 := heap_alloc_new w (.cells #[.int .i64 8, sv d, .slice ua n uc, .slice ta m tc] 67)
  have HB0 := Lib.hid b0
  have B0 := Lib.hid ((Below.refl w.heap.size w).alloc (Nat.le_refl _) (.cells #[.int .i64 8, sv d, .slice ua n uc, .slice ta m tc] 67))
  clear hu ht hn hm kw hnu hnt b0
  obtain ⟨rfl, rfl, rfl⟩ := hc
  have CL := Lib.hid (fun k => clone_str (.slice ua 1 uc) 1 (us.map sv) ((w.alloc (.cells #[.int .i64 8, sv [], .slice ua 1 uc, .slice ta 2 tc] 67)).drewN k) (SliceAt.same HU.out SameT.alloc) (by have := HN.out; rw [List.length_map]; omega) (all_sv us) (by omega))
  obtain ⟨W, hW⟩ : ∃ W, w.alloc (.cells #[.int .i64 8, sv [], .slice ua 1 uc, .slice ta 2 tc] 67) = W := ⟨_, rfl⟩
  have HW := Lib.hid hW
  rw [hW] at CL HB0 B0
  clear hW
  have x0 := (blk_cells HB0.out).1 0
  have x1 := (blk_cells HB0.out).1 1
  have x2 := (blk_cells HB0.out).1 2
  have x3 := (blk_cells HB0.out).1 3
  simp at x0 x1 x2 x3
  go_enter Tryd.func75, Tryd.ntmps75
  go_wp2_with fail
  rw [show w.alloc (.cells #[.int .i64 8, sv [], .slice ua 1 uc, .slice ta 2 tc] 67) = W from HW.out]
  clear HW
  go_quiet (fail)
  go_wp2
  have hWz : w.heap.size < W.heap.size := lt_heap HB0.out
  have HUW := Lib.hid (SliceAt.same HU.out (SameT.below B0.out))
  have HTW := Lib.hid (SliceAt.same HT.out (SameT.below B0.out))
  refine wp_region_D (S := (fun w' => w'.cell? ⟨w.heap.size, 2, none⟩ = some (.slice ua 1 uc) ∧ w'.cell? ⟨w.heap.size, 3, none⟩ = some (.slice ta 2 tc))) (st := 6) (by kernel_rfl) ?_
  refine wpAnyT_pure 0 ?z29 rfl (by kernel_rfl) (by kernel_rfl) (by kernel_rfl) (by kernel_rfl) (fun _ _ _ h => h) ⟨x2, x3⟩ rfl ?rz29 ?sz29
  case rz29 => intro w hS; have hS1 := hS.1; have hS2 := hS.2; go_simp; rfl
  case sz29 =>
  refine wpAnyT_pure 1 ?z30 rfl (by kernel_rfl) (by kernel_rfl) (by kernel_rfl) (by kernel_rfl) (fun _ _ _ h => h) ⟨x2, x3⟩ rfl ?rz30 ?sz30
  case rz30 => intro w hS; have hS1 := hS.1; have hS2 := hS.2; go_simp; rfl
  case sz30 =>
  refine wpAnyT_pure 3 ?z31 rfl (by kernel_rfl) (by kernel_rfl) (by kernel_rfl) (by kernel_rfl) (fun _ _ _ h => h) ⟨x2, x3⟩ rfl ?rz31 ?sz31
  case rz31 => intro w hS; have hS1 := hS.1; have hS2 := hS.2; go_simp; rfl
  case sz31 =>
  refine wpAnyT_pure 4 ?z32 rfl (by kernel_rfl) (by kernel_rfl) (by kernel_rfl) (by kernel_rfl) (fun _ _ _ h => h) ⟨x2, x3⟩ rfl ?rz32 ?sz32
  case rz32 => intro w hS; have hS1 := hS.1; have hS2 := hS.2; go_simp; rfl
  case sz32 =>
  refine wpAnyT_all (rs := [2]) (by kernel_rfl) (by decide) ?_
  intro i hi
  obtain rfl : i = 2 := by simpa using hi
  clear hi
  refine wpOp_of_list rfl ?_
  go_wp2_with fail
  refine (CL.out (nq + 1)).mono ?_
  rintro e w2 ⟨ga, gc, rfl, own2, b2⟩
  have B2 : Hid (Below W.heap.size W w2) := ⟨b2.os, b2.tape, b2.output, b2.size, b2.block⟩
  have OW2 : Hid (w2.ownsRow W.heap.size 9 1 (.slice ga 1 gc) 1 (us.map sv)) := own2
  have HB2 := Lib.hid ((B2.out.block _ hWz).trans HB0.out)
  clear own2 b2 x0 x1 x2 x3 CL
  have x0 := (blk_cells HB2.out).1 0
  have x1 := (blk_cells HB2.out).1 1
  have x2 := (blk_cells HB2.out).1 2
  have x3 := (blk_cells HB2.out).1 3
  simp at x0 x1 x2 x3
  go_wp2
  refine ⟨fun _ => ⟨x2, x3⟩, ?_⟩
  refine wpAnyT_all (rs := [5]) (by kernel_rfl) (by decide) ?_
  intro i hi
  obtain rfl : i = 5 := by simpa using hi
  clear hi
  refine wpOp_of_list rfl ?_
  refine wpList_append_sl rfl _ _ 39 rfl W.heap.size 9 _ 1 16 Tryd.underlying39 info_str rfl (by decide) _ _ _ OW2.out rfl _ 2 (ts.map sv) rfl (SliceAt.same HTW.out (SameT.below B2.out)) (by have := HM.out; rw [List.length_map]; omega) (all_sv ts) (by unfold maxLen; omega) (by omega) (by have := B2.out.size; omega) ?_
  intro g d3 w3 own3 gr3
  have OW3 : Hid (w3.ownsRow W.heap.size 9 1 (.slice g (1 + 2) d3) (1 + 2) (us.map sv ++ ts.map sv)) := own3
  have B3 := Lib.hid (Below.of_grown gr3 OW2.out (by have := B2.out.size; omega))
  have HB3 := Lib.hid ((B3.out.block _ hWz).trans HB2.out)
  clear own3 gr3 x0 x1 x2 x3
  have x0 := (blk_cells HB3.out).1 0
  have x1 := (blk_cells HB3.out).1 1
  have x2 := (blk_cells HB3.out).1 2
  have x3 := (blk_cells HB3.out).1 3
  simp at x0 x1 x2 x3
  go_wp2
  refine ⟨fun _ => ⟨x2, x3⟩, ?_⟩
  refine wpAnyT_all (rs := [6]) (by kernel_rfl) (by decide) ?_
  intro i hi
  obtain rfl : i = 6 := by simpa using hi
  clear hi
  refine wpOp_of_list rfl ?_
  go_wp2
  refine ⟨fun h => absurd rfl h, ?_⟩
  refine wpAnyT_done (by kernel_rfl) ?_ _
  have BW := Lib.hid (B0.out.trans ((B2.out.trans B3.out).mono (Nat.le_of_lt hWz)))
  go_wp2_with fail
  refine (contains1_any (us ++ ts) ?_ _ _ ?_ (KK.out.at_ (BW.out.mono hB))).mono ?_
  · intro x hx
    rcases List.mem_append.1 hx with hx | hx
    · exact HNU.out x hx
    · exact HNT.out x hx
  · have h2 := SliceAt.of_owns OW3.out
    unfold StrsAt
    simpa using h2
  rintro e w5 ⟨rfl, k5, rfl⟩
  go_wp2
  go_ret
  exact ⟨rfl, below_drewN BW.out k5⟩

set_option maxRecDepth 100000 in
set_option maxHeartbeats 2000000 in
theorem valid_op9 {B : Nat} {w : World} (kw : KwIn B w) (hB : B ≤ w.heap.size) (d : Str) (us ts : List Str) (u t : Value) (hu : StrsAt w u us) (ht : StrsAt w t ts) (hlu : us.length ≤ 4) (hlt : ts.length ≤ 2) (hnu : ∀ x ∈ us, nameB x = true) (hnt : ∀ x ∈ ts, nameB x = true) (hc : d = [] ∧ us.length = 0 ∧ ts.length = 0) :
    Calls Tryd.prog 75 #[.agg #[.int .i64 9, sv d, u, t]] w (BoolPost true w) := by
  obtain ⟨ua, uc, rfl, -, -⟩ := hu.cell
  obtain ⟨ta, tc, rfl, -, -⟩ := ht.cell
  obtain ⟨n, hn⟩ : ∃ n, us.length = n := ⟨_, rfl⟩
  obtain ⟨m, hm⟩ : ∃ n, ts.length = n := ⟨_, rfl⟩
  rw [hn] at hu hlu ⊢
  try rw [hn] at hc
  rw [hm] at ht hc hlt ⊢
  have HU := Lib.hid hu
  have HT := Lib.hid ht
  have HN := Lib.hid hn
  have HM := Lib.hid hm
  have KK := Lib.hid kw
  have HNU := Lib.hid hnu
  have HNT := Lib.hid hnt
  have b0 := heap_alloc_new w (.cells #[.int .i64 9, sv d, .slice ua n uc, .slice ta m tc] 67)
  have HB0 := Lib.hid b0
  have B0 := Lib.hid ((Below.refl w.heap.size w).alloc (Nat.le_refl _) (.cells #[.int .i64 9, sv d, .slice ua n uc, .slice ta m tc] 67))
  clear hu ht hn hm kw hnu hnt b0
  obtain ⟨rfl, rfl, rfl⟩ := hc
  have CL := Lib.hid (fun k => clone_str (.slice ua 0 uc) 0 (us.map sv) ((w.alloc (.cells #[.int .i64 9, sv [], .slice ua 0 uc, .slice ta 0 tc] 67)).drewN k) (SliceAt.same HU.out SameT.alloc) (by have := HN.out; rw [List.length_map]; omega) (all_sv us) (by omega))
  obtain ⟨W, hW⟩ : ∃ W, w.alloc (.cells #[.int .i64 9, sv [], .slice ua 0 uc, .slice ta 0 tc] 67) = W := ⟨_, rfl⟩
  have HW := Lib.hid hW
  rw [hW] at CL HB0 B0
  clear hW
  have x0 := (blk_cells HB0.out).1 0
  have x1 := (blk_cells HB0.out).1 1
  have x2 := (blk_cells HB0.out).1 2
  have x3 := (blk_cells HB0.out).1 3
  simp at x0 x1 x2 x3
  go_enter Tryd.func75, Tryd.ntmps75
  go_wp2_with fail
  rw [show w.alloc (.cells #[.int .i64 9, sv [], .slice ua 0 uc, .slice ta 0 tc] 67) = W from HW.out]
  clear HW
  go_quiet (fail)
  go_wp2
  have hWz : w.heap.size < W.heap.size := lt_heap HB0.out
  have HUW := Lib.hid (SliceAt.same HU.out (SameT.below B0.out))
  have HTW := Lib.hid (SliceAt.same HT.out (SameT.below B0.out))
  refine wp_region_D (S := (fun w' => w'.cell? ⟨w.heap.size, 2, none⟩ = some (.slice ua 0 uc) ∧ w'.cell? ⟨w.heap.size, 3, none⟩ = some (.slice ta 0 tc))) (st := 6) (by kernel_rfl) ?_
  refine wpAnyT_pure 0 ?z33 rfl (by kernel_rfl) (by kernel_rfl) (by kernel_rfl) (by kernel_rfl) (fun _ _ _ h => h) ⟨x2, x3⟩ rfl ?rz33 ?sz33
  case rz33 => intro w hS; have hS1 := hS.1; have hS2 := hS.2; go_simp; rfl
  case sz33 =>
  refine wpAnyT_pure 1 ?z34 rfl (by kernel_rfl) (by kernel_rfl) (by kernel_rfl) (by kernel_rfl) (fun _ _ _ h => h) ⟨x2, x3⟩ rfl ?rz34 ?sz34
  case rz34 => intro w hS; have hS1 := hS.1; have hS2 := hS.2; go_simp; rfl
  case sz34 =>
  refine wpAnyT_pure 3 ?z35 rfl (by kernel_rfl) (by kernel_rfl) (by kernel_rfl) (by kernel_rfl) (fun _ _ _ h => h) ⟨x2, x3⟩ rfl ?rz35 ?sz35
  case rz35 => intro w hS; have hS1 := hS.1; have hS2 := hS.2; go_simp; rfl
  case sz35 =>
  refine wpAnyT_pure 4 ?z36 rfl (by kernel_rfl) (by kernel_rfl) (by kernel_rfl) (by kernel_rfl) (fun _ _ _ h => h) ⟨x2, x3⟩ rfl ?rz36 ?sz36
  case rz36 => intro w hS; have hS1 := hS.1; have hS2 := hS.2; go_simp; rfl
  case sz36 =>
  refine wpAnyT_all (rs := [2]) (by kernel_rfl) (by decide) ?_
  intro i hi
  obtain rfl : i = 2 := by simpa using hi
  clear hi
  refine wpOp_of_list rfl ?_
  go_wp2_with fail
  refine (CL.out (nq + 1)).mono ?_
  rintro e w2 ⟨ga, gc, rfl, own2, b2⟩
  have B2 : Hid (Below W.heap.size W w2) := ⟨b2.os, b2.tape, b2.output, b2.size, b2.block⟩
  have OW2 : Hid (w2.ownsRow W.heap.size 9 1 (.slice ga 0 gc) 0 (us.map sv)) := own2
  have HB2 := Lib.hid ((B2.out.block _ hWz).trans HB0.out)
  clear own2 b2 x0 x1 x2 x3 CL
  have x0 := (blk_cells HB2.out).1 0
  have x1 := (blk_cells HB2.out).1 1
  have x2 := (blk_cells HB2.out).1 2
  have x3 := (blk_cells HB2.out).1 3
  simp at x0 x1 x2 x3
  go_wp2
  refine ⟨fun _ => ⟨x2, x3⟩, ?_⟩
  refine wpAnyT_all (rs := [5]) (by kernel_rfl) (by decide) ?_
  intro i hi
  obtain rfl : i = 5 := by simpa using hi
  clear hi
  refine wpOp_of_list rfl ?_
  refine wpList_append_sl rfl _ _ 39 rfl W.heap.size 9 _ 1 16 Tryd.underlying39 info_str rfl (by decide) _ _ _ OW2.out rfl _ 0 (ts.map sv) rfl (SliceAt.same HTW.out (SameT.below B2.out)) (by have := HM.out; rw [List.length_map]; omega) (all_sv ts) (by unfold maxLen; omega) (by omega) (by have := B2.out.size; omega) ?_
  intro g d3 w3 own3 gr3
  have OW3 : Hid (w3.ownsRow W.heap.size 9 1 (.slice g (0 + 0) d3) (0 + 0) (us.map sv ++ ts.map sv)) := own3
  have B3 := Lib.hid (Below.of_grown gr3 OW2.out (by have := B2.out.size; omega))
  have HB3 := Lib.hid ((B3.out.block _ hWz).trans HB2.out)
  clear own3 gr3 x0 x1 x2 x3
  have x0 := (blk_cells HB3.out).1 0
  have x1 := (blk_cells HB3.out).1 1
  have x2 := (blk_cells HB3.out).1 2
  have x3 := (blk_cells HB3.out).1 3
  simp at x0 x1 x2 x3
  go_wp2
  refine ⟨fun _ => ⟨x2, x3⟩, ?_⟩
  refine wpAnyT_all (rs := [6]) (by kernel_rfl) (by decide) ?_
  intro i hi
  obtain rfl : i = 6 := by simpa using hi
  clear hi
  refine wpOp_of_list rfl ?_
  go_wp2
  refine ⟨fun h => absurd rfl h, ?_⟩
  refine wpAnyT_done (by kernel_rfl) ?_ _
  have BW := Lib.hid (B0.out.trans ((B2.out.trans B3.out).mono (Nat.le_of_lt hWz)))
  go_wp2_with fail
  refine (contains1_any (us ++ ts) ?_ _ _ ?_ (KK.out.at_ (BW.out.mono hB))).mono ?_
  · intro x hx
    rcases List.mem_append.1 hx with hx | hx
    · exact HNU.out x hx
    · exact HNT.out x hx
  · have h2 := SliceAt.of_owns OW3.out
    unfold StrsAt
    simpa using h2
  rintro e w5 ⟨rfl, k5, rfl⟩
  go_wp2
  go_ret
  exact ⟨rfl, below_drewN BW.out k5⟩

theorem pvalid_any {B : Nat} {w : World} (kw : KwIn B w) (hB : B ≤ w.heap.size) {s : PStmt} (hs : stmtB s = true) (u t : Value) (hu : StrsAt w u s.uses) (ht : StrsAt w t s.targets) :
    Calls Tryd.prog 75 #[.agg #[.int .i64 s.op, sv s.dfn, u, t]] w (BoolPost true w) := by
  obtain ⟨hnu, hnt, ho⟩ := stmtB_fields hs
  have hl : s.uses.length ≤ 4 ∧ s.targets.length ≤ 2 := by
    unfold stmtB namesB at hs
    simp only [Bool.and_eq_true, decide_eq_true_eq] at hs
    omega
  obtain ⟨op, d, us, ts⟩ := s
  simp only at hnu hnt ho hl hu ht ⊢
  have hc : op = 1 ∨ op = 2 ∨ op = 3 ∨ op = 4 ∨ op = 5 ∨ op = 6 ∨ op = 7 ∨ op = 8 ∨ op = 9 := by
    unfold opB at ho
    by_cases h1 : op = 1; · omega
    by_cases h2 : op = 2; · omega
    by_cases h3 : op = 3; · omega
    by_cases h4 : op = 4; · omega
    by_cases h5 : op = 5; · omega
    by_cases h6 : op = 6; · omega
    by_cases h7 : op = 7; · omega
    by_cases h8 : op = 8; · omega
    by_cases h9 : op = 9; · omega
    rw [if_neg h1, if_neg h2, if_neg h5, if_neg (by omega), if_neg (by omega), if_neg h8, if_neg h9] at ho
    cases ho
  rcases hc with rfl | rfl | rfl | rfl | rfl | rfl | rfl | rfl | rfl
  · exact valid_op1 kw hB d us ts u t hu ht hl.1 hl.2 hnu hnt (by simpa [opB] using ho)
  · have h2 : d.isEmpty = true ∧ 1 ≤ us.length ∧ ts.length = 0 := by simpa [opB, Nat.succ_le_iff] using ho
    exact valid_op2 kw hB d us ts u t hu ht hl.1 hl.2 hnu hnt ⟨isEmpty_nil h2.1, h2.2⟩
  · have h2 : d.isEmpty = true ∧ us.length = 0 ∧ ts.length = 1 := by simpa [opB] using ho
    exact valid_op3 kw hB d us ts u t hu ht hl.1 hl.2 hnu hnt ⟨isEmpty_nil h2.1, h2.2⟩
  · have h2 : nameB d = true ∧ us.length = 0 ∧ ts.length = 0 := by simpa [opB] using ho
    exact valid_op4 kw hB d us ts u t hu ht hl.1 hl.2 hnu hnt h2
  · have h2 : d.isEmpty = true ∧ us.length = 1 ∧ ts.length = 0 := by simpa [opB] using ho
    exact valid_op5 kw hB d us ts u t hu ht hl.1 hl.2 hnu hnt ⟨isEmpty_nil h2.1, h2.2⟩
  · have h2 : nameB d = true ∧ us.length = 0 ∧ ts.length = 0 := by simpa [opB] using ho
    exact valid_op6 kw hB d us ts u t hu ht hl.1 hl.2 hnu hnt h2
  · have h2 : d.isEmpty = true ∧ us.length = 0 ∧ ts.length = 1 := by simpa [opB] using ho
    exact valid_op7 kw hB d us ts u t hu ht hl.1 hl.2 hnu hnt ⟨isEmpty_nil h2.1, h2.2⟩
  · have h2 : d.isEmpty = true ∧ us.length = 1 ∧ ts.length = 2 := by simpa [opB] using ho
    exact valid_op8 kw hB d us ts u t hu ht hl.1 hl.2 hnu hnt ⟨isEmpty_nil h2.1, h2.2⟩
  · have h2 : d.isEmpty = true ∧ us.length = 0 ∧ ts.length = 0 := by simpa [opB] using ho
    exact valid_op9 kw hB d us ts u t hu ht hl.1 hl.2 hnu hnt ⟨isEmpty_nil h2.1, h2.2⟩
end Go.Proofs.YtpnfdmajpkpjoaaDoor

