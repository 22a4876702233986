/- Walk of the law on limits. Printed by wip/gen_slim.py. -/
import Derived.Test.YtpnfdmajpkpjoaaDoorQSEq
import Derived.Test.YtpnfdmajpkpjoaaDoorQSLimP
import Derived.Test.YtpnfdmajpkpjoaaDoorQGenV
set_option linter.unusedVariables false
set_option linter.unusedSimpArgs false
namespace Go.Proofs.YtpnfdmajpkpjoaaDoor
open Go.RowKit

def LimPost (line err : Int) (w : World) (e : Ending) (w' : World) : Prop :=
  ∃ a n c col, e = .returned (.tuple #[.agg #[.slice a n c], .int .i64 line, .int .i64 col, .int .i64 err]) ∧ Below w.heap.size w w'
theorem lim_any {B : Nat} {w : World} (kw : KwIn B w) (hB : B ≤ w.heap.size) (s : ByteArray) (l : List UInt8) (hl : s.data.toList = l) {err line : Int} (h : limB l err line = true) :
    Calls Tryd.prog 13 #[.string s] w (LimPost line err w) := by
  refine (parse_any kw hB s).mono ?_
  rintro e w' ⟨v, rfl, hf, hb⟩
  obtain ⟨a, c, rfl, _⟩ := hf.cell
  rw [hl]
  unfold limB at h
  simp only [Bool.and_eq_true, beq_iff_eq] at h
  rw [h.1, h.2]
  exact ⟨a, _, c, _, rfl, hb⟩
theorem rep_succ (k : Nat) (u : List UInt8) : rep k u ++ u = rep (k + 1) u := by
  unfold rep
  rw [show k + 1 = k + 1 from rfl, List.replicate_succ', List.flatten_append]
  simp
theorem app_list' (a b : ByteArray) : (a ++ b).data.toList = a.data.toList ++ b.data.toList := by simp

set_option maxHeartbeats 1000000 in
theorem limits0f {B : Nat} {w : World} (kw : KwIn B w) (hB : B ≤ w.heap.size) (z : Int) (z0 : 0 ≤ z) (z1 : z ≤ 255) (hz : z % 4 = 0) :
    Calls Tryd.prog 4 #[.int .u8 z, .bool false] w (BoolPost true w) := by
  have H := Lib.hid (fun (w' : World) (s : ByteArray) (hb : Below w.heap.size w w') (hs : s.data.toList = rep 8 lFuncs) => lim_any (kw.keep fun k hk => hb.block k (by omega)) (by have := hb.size; omega) s _ hs lim0)
  have HS := Lib.hid (fun (w' : World) (hb : Below w.heap.size w w') => sane_any (kw.keep fun k hk => hb.block k (by omega)) (by have := hb.size; omega))
  have m0 : (z % 4 == 0) = true := by rw [beq_iff_eq]; exact hz
  clear kw hB hz
  go_enter Tryd.func4, Tryd.ntmps4
  go_wp2
  go_loopw [6, 8] (fun x v wr => ∃ (xs : ByteArray) (k : Nat), k ≤ 8 ∧ x = .string xs ∧ v = .int .i64 k ∧ xs.size = 0 + k * 26 ∧ Hid (xs.data.toList = rep k lFuncs) ∧ wr = w) (fun _ v _ => 8 - (intOf v).toNat)
  case atStart => exact ⟨_, 0, by omega, rfl, rfl, rfl, rfl, rfl⟩
  case round =>
    obtain ⟨xs, k, hk, rfl, rfl, hx, hl, rfl⟩ := hrel
    by_cases hlt : k < 8
    · go_wp2
      go_roundw
      case rel => exact ⟨_, k + 1, by omega, rfl, by go_num, by rw [append_size']; show _ + 26 = _; omega, by unfold Hid; rw [app_list', hl.out]; show _ ++ lFuncs = _; simp [← rep_succ], trivial⟩
      case measure => simp [intOf]; omega
    · obtain rfl : k = 8 := by omega
      go_wp2_with fail
      refine (H.out _ xs (Below.refl _ _) hl.out).mono ?_
      rintro e w1 ⟨a, n, c, col, rfl, b1⟩
      have B1 := Lib.hid (b1.alloc b1.size (.cells #[.slice a n c] 34))
      clear b1
      go_wp2_with fail
      refine (HS.out _ B1.out).mono ?_
      rintro e w2 ⟨rfl, b2⟩
      have B2 := Lib.hid (B1.out.trans (b2.mono B1.out.size))
      clear b2
      go_wp2
      go_ret
      exact ⟨rfl, B2.out⟩

set_option maxHeartbeats 1000000 in
theorem limits0t {B : Nat} {w : World} (kw : KwIn B w) (hB : B ≤ w.heap.size) (z : Int) (z0 : 0 ≤ z) (z1 : z ≤ 255) (hz : z % 4 = 0) :
    Calls Tryd.prog 4 #[.int .u8 z, .bool true] w (BoolPost true w) := by
  have H := Lib.hid (fun (w' : World) (s : ByteArray) (hb : Below w.heap.size w w') (hs : s.data.toList = rep 9 lFuncs) => lim_any (kw.keep fun k hk => hb.block k (by omega)) (by have := hb.size; omega) s _ hs lim0')
  have HS := Lib.hid (fun (w' : World) (hb : Below w.heap.size w w') => sane_any (kw.keep fun k hk => hb.block k (by omega)) (by have := hb.size; omega))
  have m0 : (z % 4 == 0) = true := by rw [beq_iff_eq]; exact hz
  clear kw hB hz
  go_enter Tryd.func4, Tryd.ntmps4
  go_wp2
  go_loopw [6, 8] (fun x v wr => ∃ (xs : ByteArray) (k : Nat), k ≤ 9 ∧ x = .string xs ∧ v = .int .i64 k ∧ xs.size = 0 + k * 26 ∧ Hid (xs.data.toList = rep k lFuncs) ∧ wr = w) (fun _ v _ => 9 - (intOf v).toNat)
  case atStart => exact ⟨_, 0, by omega, rfl, rfl, rfl, rfl, rfl⟩
  case round =>
    obtain ⟨xs, k, hk, rfl, rfl, hx, hl, rfl⟩ := hrel
    by_cases hlt : k < 9
    · go_wp2
      go_roundw
      case rel => exact ⟨_, k + 1, by omega, rfl, by go_num, by rw [append_size']; show _ + 26 = _; omega, by unfold Hid; rw [app_list', hl.out]; show _ ++ lFuncs = _; simp [← rep_succ], trivial⟩
      case measure => simp [intOf]; omega
    · obtain rfl : k = 9 := by omega
      go_wp2_with fail
      refine (H.out _ xs (Below.refl _ _) hl.out).mono ?_
      rintro e w1 ⟨a, n, c, col, rfl, b1⟩
      have B1 := Lib.hid (b1.alloc b1.size (.cells #[.slice a n c] 34))
      clear b1
      go_wp2_with fail
      refine (HS.out _ B1.out).mono ?_
      rintro e w2 ⟨rfl, b2⟩
      have B2 := Lib.hid (B1.out.trans (b2.mono B1.out.size))
      clear b2
      go_wp2
      go_ret
      exact ⟨rfl, B2.out⟩

set_option maxHeartbeats 1000000 in
theorem limits1f {B : Nat} {w : World} (kw : KwIn B w) (hB : B ≤ w.heap.size) (z : Int) (z0 : 0 ≤ z) (z1 : z ≤ 255) (hz : z % 4 = 1) :
    Calls Tryd.prog 4 #[.int .u8 z, .bool false] w (BoolPost true w) := by
  have H := Lib.hid (fun (w' : World) (s : ByteArray) (hb : Below w.heap.size w w') (hs : s.data.toList = lFunc ++ rep 16 lBlock ++ lEnd) => lim_any (kw.keep fun k hk => hb.block k (by omega)) (by have := hb.size; omega) s _ hs lim1)
  have HS := Lib.hid (fun (w' : World) (hb : Below w.heap.size w w') => sane_any (kw.keep fun k hk => hb.block k (by omega)) (by have := hb.size; omega))
  have m0 : (z % 4 == 0) = false := by rw [beq_eq_false_iff_ne, hz]; decide
  have m1 : (z % 4 == 1) = true := by rw [beq_iff_eq]; exact hz
  clear kw hB hz
  go_enter Tryd.func4, Tryd.ntmps4
  go_wp2
  go_loopw [6, 9] (fun x v wr => ∃ (xs : ByteArray) (k : Nat), k ≤ 16 ∧ x = .string xs ∧ v = .int .i64 k ∧ xs.size = 7 + k * 15 ∧ Hid (xs.data.toList = lFunc ++ rep k lBlock) ∧ wr = w) (fun _ v _ => 16 - (intOf v).toNat)
  case atStart => exact ⟨_, 0, by omega, rfl, rfl, rfl, rfl, rfl⟩
  case round =>
    obtain ⟨xs, k, hk, rfl, rfl, hx, hl, rfl⟩ := hrel
    by_cases hlt : k < 16
    · go_wp2
      go_roundw
      case rel => exact ⟨_, k + 1, by omega, rfl, by go_num, by rw [append_size']; show _ + 15 = _; omega, by unfold Hid; rw [app_list', hl.out]; show _ ++ lBlock = _; simp [← rep_succ], trivial⟩
      case measure => simp [intOf]; omega
    · obtain rfl : k = 16 := by omega
      have h2 : Hid ((xs ++ ⟨lEnd.toArray⟩).data.toList = lFunc ++ rep 16 lBlock ++ lEnd) := by unfold Hid; rw [app_list', hl.out]
      go_wp2_with fail
      refine (H.out _ _ (Below.refl _ _) h2.out).mono ?_
      rintro e w1 ⟨a, n, c, col, rfl, b1⟩
      have B1 := Lib.hid (b1.alloc b1.size (.cells #[.slice a n c] 34))
      clear b1
      go_wp2_with fail
      refine (HS.out _ B1.out).mono ?_
      rintro e w2 ⟨rfl, b2⟩
      have B2 := Lib.hid (B1.out.trans (b2.mono B1.out.size))
      clear b2
      go_wp2
      go_ret
      exact ⟨rfl, B2.out⟩

set_option maxHeartbeats 1000000 in
theorem limits1t {B : Nat} {w : World} (kw : KwIn B w) (hB : B ≤ w.heap.size) (z : Int) (z0 : 0 ≤ z) (z1 : z ≤ 255) (hz : z % 4 = 1) :
    Calls Tryd.prog 4 #[.int .u8 z, .bool true] w (BoolPost true w) := by
  have H := Lib.hid (fun (w' : World) (s : ByteArray) (hb : Below w.heap.size w w') (hs : s.data.toList = lFunc ++ rep 17 lBlock ++ lEnd) => lim_any (kw.keep fun k hk => hb.block k (by omega)) (by have := hb.size; omega) s _ hs lim1')
  have HS := Lib.hid (fun (w' : World) (hb : Below w.heap.size w w') => sane_any (kw.keep fun k hk => hb.block k (by omega)) (by have := hb.size; omega))
  have m0 : (z % 4 == 0) = false := by rw [beq_eq_false_iff_ne, hz]; decide
  have m1 : (z % 4 == 1) = true := by rw [beq_iff_eq]; exact hz
  clear kw hB hz
  go_enter Tryd.func4, Tryd.ntmps4
  go_wp2
  go_loopw [6, 9] (fun x v wr => ∃ (xs : ByteArray) (k : Nat), k ≤ 17 ∧ x = .string xs ∧ v = .int .i64 k ∧ xs.size = 7 + k * 15 ∧ Hid (xs.data.toList = lFunc ++ rep k lBlock) ∧ wr = w) (fun _ v _ => 17 - (intOf v).toNat)
  case atStart => exact ⟨_, 0, by omega, rfl, rfl, rfl, rfl, rfl⟩
  case round =>
    obtain ⟨xs, k, hk, rfl, rfl, hx, hl, rfl⟩ := hrel
    by_cases hlt : k < 17
    · go_wp2
      go_roundw
      case rel => exact ⟨_, k + 1, by omega, rfl, by go_num, by rw [append_size']; show _ + 15 = _; omega, by unfold Hid; rw [app_list', hl.out]; show _ ++ lBlock = _; simp [← rep_succ], trivial⟩
      case measure => simp [intOf]; omega
    · obtain rfl : k = 17 := by omega
      have h2 : Hid ((xs ++ ⟨lEnd.toArray⟩).data.toList = lFunc ++ rep 17 lBlock ++ lEnd) := by unfold Hid; rw [app_list', hl.out]
      go_wp2_with fail
      refine (H.out _ _ (Below.refl _ _) h2.out).mono ?_
      rintro e w1 ⟨a, n, c, col, rfl, b1⟩
      have B1 := Lib.hid (b1.alloc b1.size (.cells #[.slice a n c] 34))
      clear b1
      go_wp2_with fail
      refine (HS.out _ B1.out).mono ?_
      rintro e w2 ⟨rfl, b2⟩
      have B2 := Lib.hid (B1.out.trans (b2.mono B1.out.size))
      clear b2
      go_wp2
      go_ret
      exact ⟨rfl, B2.out⟩

set_option maxHeartbeats 1000000 in
theorem limits2f {B : Nat} {w : World} (kw : KwIn B w) (hB : B ≤ w.heap.size) (z : Int) (z0 : 0 ≤ z) (z1 : z ≤ 255) (hz : z % 4 = 2) :
    Calls Tryd.prog 4 #[.int .u8 z, .bool false] w (BoolPost true w) := by
  have H := Lib.hid (fun (w' : World) (s : ByteArray) (hb : Below w.heap.size w w') (hs : s.data.toList = lHead ++ rep 32 lRet ++ lEnd) => lim_any (kw.keep fun k hk => hb.block k (by omega)) (by have := hb.size; omega) s _ hs lim2)
  have HS := Lib.hid (fun (w' : World) (hb : Below w.heap.size w w') => sane_any (kw.keep fun k hk => hb.block k (by omega)) (by have := hb.size; omega))
  have m0 : (z % 4 == 0) = false := by rw [beq_eq_false_iff_ne, hz]; decide
  have m1 : (z % 4 == 1) = false := by rw [beq_eq_false_iff_ne, hz]; decide
  have m2 : (z % 4 == 2) = true := by rw [beq_iff_eq]; exact hz
  clear kw hB hz
  go_enter Tryd.func4, Tryd.ntmps4
  go_wp2
  go_loopw [6, 10] (fun x v wr => ∃ (xs : ByteArray) (k : Nat), k ≤ 32 ∧ x = .string xs ∧ v = .int .i64 k ∧ xs.size = 15 + k * 7 ∧ Hid (xs.data.toList = lHead ++ rep k lRet) ∧ wr = w) (fun _ v _ => 32 - (intOf v).toNat)
  case atStart => exact ⟨_, 0, by omega, rfl, rfl, rfl, rfl, rfl⟩
  case round =>
    obtain ⟨xs, k, hk, rfl, rfl, hx, hl, rfl⟩ := hrel
    by_cases hlt : k < 32
    · go_wp2
      go_roundw
      case rel => exact ⟨_, k + 1, by omega, rfl, by go_num, by rw [append_size']; show _ + 7 = _; omega, by unfold Hid; rw [app_list', hl.out]; show _ ++ lRet = _; simp [← rep_succ], trivial⟩
      case measure => simp [intOf]; omega
    · obtain rfl : k = 32 := by omega
      have h2 : Hid ((xs ++ ⟨lEnd.toArray⟩).data.toList = lHead ++ rep 32 lRet ++ lEnd) := by unfold Hid; rw [app_list', hl.out]
      go_wp2_with fail
      refine (H.out _ _ (Below.refl _ _) h2.out).mono ?_
      rintro e w1 ⟨a, n, c, col, rfl, b1⟩
      have B1 := Lib.hid (b1.alloc b1.size (.cells #[.slice a n c] 34))
      clear b1
      go_wp2_with fail
      refine (HS.out _ B1.out).mono ?_
      rintro e w2 ⟨rfl, b2⟩
      have B2 := Lib.hid (B1.out.trans (b2.mono B1.out.size))
      clear b2
      go_wp2
      go_ret
      exact ⟨rfl, B2.out⟩

set_option maxHeartbeats 1000000 in
theorem limits2t {B : Nat} {w : World} (kw : KwIn B w) (hB : B ≤ w.heap.size) (z : Int) (z0 : 0 ≤ z) (z1 : z ≤ 255) (hz : z % 4 = 2) :
    Calls Tryd.prog 4 #[.int .u8 z, .bool true] w (BoolPost true w) := by
  have H := Lib.hid (fun (w' : World) (s : ByteArray) (hb : Below w.heap.size w w') (hs : s.data.toList = lHead ++ rep 33 lRet ++ lEnd) => lim_any (kw.keep fun k hk => hb.block k (by omega)) (by have := hb.size; omega) s _ hs lim2')
  have HS := Lib.hid (fun (w' : World) (hb : Below w.heap.size w w') => sane_any (kw.keep fun k hk => hb.block k (by omega)) (by have := hb.size; omega))
  have m0 : (z % 4 == 0) = false := by rw [beq_eq_false_iff_ne, hz]; decide
  have m1 : (z % 4 == 1) = false := by rw [beq_eq_false_iff_ne, hz]; decide
  have m2 : (z % 4 == 2) = true := by rw [beq_iff_eq]; exact hz
  clear kw hB hz
  go_enter Tryd.func4, Tryd.ntmps4
  go_wp2
  go_loopw [6, 10] (fun x v wr => ∃ (xs : ByteArray) (k : Nat), k ≤ 33 ∧ x = .string xs ∧ v = .int .i64 k ∧ xs.size = 15 + k * 7 ∧ Hid (xs.data.toList = lHead ++ rep k lRet) ∧ wr = w) (fun _ v _ => 33 - (intOf v).toNat)
  case atStart => exact ⟨_, 0, by omega, rfl, rfl, rfl, rfl, rfl⟩
  case round =>
    obtain ⟨xs, k, hk, rfl, rfl, hx, hl, rfl⟩ := hrel
    by_cases hlt : k < 33
    · go_wp2
      go_roundw
      case rel => exact ⟨_, k + 1, by omega, rfl, by go_num, by rw [append_size']; show _ + 7 = _; omega, by unfold Hid; rw [app_list', hl.out]; show _ ++ lRet = _; simp [← rep_succ], trivial⟩
      case measure => simp [intOf]; omega
    · obtain rfl : k = 33 := by omega
      have h2 : Hid ((xs ++ ⟨lEnd.toArray⟩).data.toList = lHead ++ rep 33 lRet ++ lEnd) := by unfold Hid; rw [app_list', hl.out]
      go_wp2_with fail
      refine (H.out _ _ (Below.refl _ _) h2.out).mono ?_
      rintro e w1 ⟨a, n, c, col, rfl, b1⟩
      have B1 := Lib.hid (b1.alloc b1.size (.cells #[.slice a n c] 34))
      clear b1
      go_wp2_with fail
      refine (HS.out _ B1.out).mono ?_
      rintro e w2 ⟨rfl, b2⟩
      have B2 := Lib.hid (B1.out.trans (b2.mono B1.out.size))
      clear b2
      go_wp2
      go_ret
      exact ⟨rfl, B2.out⟩

set_option maxHeartbeats 1000000 in
theorem limits3f {B : Nat} {w : World} (kw : KwIn B w) (hB : B ≤ w.heap.size) (z : Int) (z0 : 0 ≤ z) (z1 : z ≤ 255) (hz : z % 4 = 3) :
    Calls Tryd.prog 4 #[.int .u8 z, .bool false] w (BoolPost true w) := by
  have H := Lib.hid (fun (w' : World) (s : ByteArray) (hb : Below w.heap.size w w') (hs : s.data.toList = lUse ++ rep 4 lX ++ lEnd2) => lim_any (kw.keep fun k hk => hb.block k (by omega)) (by have := hb.size; omega) s _ hs lim3)
  have HS := Lib.hid (fun (w' : World) (hb : Below w.heap.size w w') => sane_any (kw.keep fun k hk => hb.block k (by omega)) (by have := hb.size; omega))
  have m0 : (z % 4 == 0) = false := by rw [beq_eq_false_iff_ne, hz]; decide
  have m1 : (z % 4 == 1) = false := by rw [beq_eq_false_iff_ne, hz]; decide
  have m2 : (z % 4 == 2) = false := by rw [beq_eq_false_iff_ne, hz]; decide
  have m3 : (z % 4 == 3) = true := by rw [beq_iff_eq]; exact hz
  clear kw hB hz
  go_enter Tryd.func4, Tryd.ntmps4
  go_wp2
  go_loopw [6, 11] (fun x v wr => ∃ (xs : ByteArray) (k : Nat), k ≤ 4 ∧ x = .string xs ∧ v = .int .i64 k ∧ xs.size = 18 + k * 2 ∧ Hid (xs.data.toList = lUse ++ rep k lX) ∧ wr = w) (fun _ v _ => 4 - (intOf v).toNat)
  case atStart => exact ⟨_, 0, by omega, rfl, rfl, rfl, rfl, rfl⟩
  case round =>
    obtain ⟨xs, k, hk, rfl, rfl, hx, hl, rfl⟩ := hrel
    by_cases hlt : k < 4
    · go_wp2
      go_roundw
      case rel => exact ⟨_, k + 1, by omega, rfl, by go_num, by rw [append_size']; show _ + 2 = _; omega, by unfold Hid; rw [app_list', hl.out]; show _ ++ lX = _; simp [← rep_succ], trivial⟩
      case measure => simp [intOf]; omega
    · obtain rfl : k = 4 := by omega
      have h2 : Hid ((xs ++ ⟨lEnd2.toArray⟩).data.toList = lUse ++ rep 4 lX ++ lEnd2) := by unfold Hid; rw [app_list', hl.out]
      go_wp2_with fail
      refine (H.out _ _ (Below.refl _ _) h2.out).mono ?_
      rintro e w1 ⟨a, n, c, col, rfl, b1⟩
      have B1 := Lib.hid (b1.alloc b1.size (.cells #[.slice a n c] 34))
      clear b1
      go_wp2_with fail
      refine (HS.out _ B1.out).mono ?_
      rintro e w2 ⟨rfl, b2⟩
      have B2 := Lib.hid (B1.out.trans (b2.mono B1.out.size))
      clear b2
      go_wp2
      go_ret
      exact ⟨rfl, B2.out⟩

set_option maxHeartbeats 1000000 in
theorem limits3t {B : Nat} {w : World} (kw : KwIn B w) (hB : B ≤ w.heap.size) (z : Int) (z0 : 0 ≤ z) (z1 : z ≤ 255) (hz : z % 4 = 3) :
    Calls Tryd.prog 4 #[.int .u8 z, .bool true] w (BoolPost true w) := by
  have H := Lib.hid (fun (w' : World) (s : ByteArray) (hb : Below w.heap.size w w') (hs : s.data.toList = lUse ++ rep 5 lX ++ lEnd2) => lim_any (kw.keep fun k hk => hb.block k (by omega)) (by have := hb.size; omega) s _ hs lim3')
  have HS := Lib.hid (fun (w' : World) (hb : Below w.heap.size w w') => sane_any (kw.keep fun k hk => hb.block k (by omega)) (by have := hb.size; omega))
  have m0 : (z % 4 == 0) = false := by rw [beq_eq_false_iff_ne, hz]; decide
  have m1 : (z % 4 == 1) = false := by rw [beq_eq_false_iff_ne, hz]; decide
  have m2 : (z % 4 == 2) = false := by rw [beq_eq_false_iff_ne, hz]; decide
  have m3 : (z % 4 == 3) = true := by rw [beq_iff_eq]; exact hz
  clear kw hB hz
  go_enter Tryd.func4, Tryd.ntmps4
  go_wp2
  go_loopw [6, 11] (fun x v wr => ∃ (xs : ByteArray) (k : Nat), k ≤ 5 ∧ x = .string xs ∧ v = .int .i64 k ∧ xs.size = 18 + k * 2 ∧ Hid (xs.data.toList = lUse ++ rep k lX) ∧ wr = w) (fun _ v _ => 5 - (intOf v).toNat)
  case atStart => exact ⟨_, 0, by omega, rfl, rfl, rfl, rfl, rfl⟩
  case round =>
    obtain ⟨xs, k, hk, rfl, rfl, hx, hl, rfl⟩ := hrel
    by_cases hlt : k < 5
    · go_wp2
      go_roundw
      case rel => exact ⟨_, k + 1, by omega, rfl, by go_num, by rw [append_size']; show _ + 2 = _; omega, by unfold Hid; rw [app_list', hl.out]; show _ ++ lX = _; simp [← rep_succ], trivial⟩
      case measure => simp [intOf]; omega
    · obtain rfl : k = 5 := by omega
      have h2 : Hid ((xs ++ ⟨lEnd2.toArray⟩).data.toList = lUse ++ rep 5 lX ++ lEnd2) := by unfold Hid; rw [app_list', hl.out]
      go_wp2_with fail
      refine (H.out _ _ (Below.refl _ _) h2.out).mono ?_
      rintro e w1 ⟨a, n, c, col, rfl, b1⟩
      have B1 := Lib.hid (b1.alloc b1.size (.cells #[.slice a n c] 34))
      clear b1
      go_wp2_with fail
      refine (HS.out _ B1.out).mono ?_
      rintro e w2 ⟨rfl, b2⟩
      have B2 := Lib.hid (B1.out.trans (b2.mono B1.out.size))
      clear b2
      go_wp2
      go_ret
      exact ⟨rfl, B2.out⟩

theorem limits_any {B : Nat} {w : World} (kw : KwIn B w) (hB : B ≤ w.heap.size) (z : Int) (z0 : 0 ≤ z) (z1 : z ≤ 255) (m : Bool) :
    Calls Tryd.prog 4 #[.int .u8 z, .bool m] w (BoolPost true w) := by
  have hc : z % 4 = 0 ∨ z % 4 = 1 ∨ z % 4 = 2 ∨ z % 4 = 3 := by omega
  cases m
  · rcases hc with h | h | h | h
    · exact limits0f kw hB z z0 z1 h
    · exact limits1f kw hB z z0 z1 h
    · exact limits2f kw hB z z0 z1 h
    · exact limits3f kw hB z z0 z1 h
  · rcases hc with h | h | h | h
    · exact limits0t kw hB z z0 z1 h
    · exact limits1t kw hB z z0 z1 h
    · exact limits2t kw hB z z0 z1 h
    · exact limits3t kw hB z z0 z1 h
end Go.Proofs.YtpnfdmajpkpjoaaDoor

