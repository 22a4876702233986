/- The walk of the law on limits. -/
import Derived.Test.YtahdmekakbagnaaLimP
import Derived.Test.YtahdmekakbagnaaSane
namespace Go.Proofs.Ytahdmekakbagnaa
open Go.RowKit

theorem size_len (s : ByteArray) : s.size = s.data.toList.length := by simp

def strLen : Value → Nat | .string s => s.size | _ => 0
theorem append_size (a b : ByteArray) : (a ++ b).size = a.size + b.size := by simp
theorem append_list (a b : ByteArray) : (a ++ b).data.toList = a.data.toList ++ b.data.toList := by simp

set_option maxRecDepth 100000 in
set_option maxHeartbeats 1000000 in
theorem limits_any (n : Int) (hn : -128 ≤ n ∧ n ≤ 127) (w : World) : Calls Try.prog 4 #[.int .i8 n] w fun e w' => e = .returned (.bool true) ∧ Below w.heap.size w w' := by
  obtain ⟨d, hd⟩ : ∃ d, wrap64 (n.tmod 3) = d := ⟨_, rfl⟩
  have hd1 : -2 ≤ d ∧ d ≤ 2 := by
    have h1 : -3 < n.tmod 3 ∧ n.tmod 3 < 3 := by
      rcases Int.le_total 0 n with h | h
      · rw [Int.tmod_eq_emod_of_nonneg h]; omega
      · have h2 := Int.neg_tmod (-n) 3
        rw [Int.neg_neg, Int.tmod_eq_emod_of_nonneg (show 0 ≤ -n by omega)] at h2
        omega
    rw [IntWalk.wrap64_in _ (by omega)] at hd
    omega
  obtain ⟨hd2, hd3⟩ := hd1
  go_enter Try.func4, Try.ntmps4
  go_wp2
  go_loop [4] (fun v => ∃ s : ByteArray, v = .string s ∧ Hid (s.data.toList = List.replicate s.size 32) ∧ (s.size : Int) ≤ 4096 + d) (fun v => 4100 - strLen v)
  case atStart => exact ⟨_, rfl, rfl, by show (0 : Int) ≤ _; omega⟩
  case round =>
    obtain ⟨s, rfl, hs, hl⟩ := hrel
    by_cases hlt : (s.size : Int) < 4096 + d
    · go_wp2
      go_round
      case rel => exact ⟨_, rfl, by unfold Hid; rw [append_list, append_size, hs.out]; show _ ++ _ = List.replicate (s.size + 1) 32; rw [List.replicate_succ'], by rw [append_size]; show ((s.size + 1 : Nat) : Int) ≤ _; omega⟩
      case measure => show 4100 - (s ++ _).size < 4100 - s.size; rw [append_size]; show 4100 - (s.size + 1) < _; omega
    · go_wp2
      go_loop [5] (fun v => ∃ t : ByteArray, v = .string t ∧ Hid (t.data.toList = List.replicate t.size 110) ∧ (t.size : Int) ≤ 16 + d) (fun v => 4100 - strLen v)
      case atStart => exact ⟨_, rfl, rfl, by show (0 : Int) ≤ _; omega⟩
      case round =>
        obtain ⟨t, rfl, ht, hm⟩ := hrel
        by_cases hlt2 : (t.size : Int) < 16 + d
        · go_wp2
          go_round
          case rel => exact ⟨_, rfl, by unfold Hid; rw [append_list, append_size, ht.out]; show _ ++ _ = List.replicate (t.size + 1) 110; rw [List.replicate_succ'], by rw [append_size]; show ((t.size + 1 : Nat) : Int) ≤ _; omega⟩
          case measure => show 4100 - (t ++ _).size < 4100 - t.size; rw [append_size]; show 4100 - (t.size + 1) < _; omega
        · have e1 : (s.size : Int) = 4096 + d := by omega
          have e2 : (t.size : Int) = 16 + d := by omega
          have E1 := Lib.hid e1
          have E2 := Lib.hid e2
          clear e1 e2
          have hlist : ((⟨#[10, 32]⟩ : ByteArray) ++ t).data.toList = 10 :: 32 :: List.replicate t.size 110 := by rw [append_list, ht.out]; rfl
          have HLi := Lib.hid hlist
          clear hlist
          by_cases hpos : 0 < d
          · have q1 : scanned s.data.toList = ⟨[], 0, 0, 7⟩ := by rw [hs.out, limit_spaces, if_pos (by have := E1.out; omega)]
            have q2 : scanned ((⟨#[10, 32]⟩ : ByteArray) ++ t).data.toList = ⟨[], 2, 2, 7⟩ := by
              rw [HLi.out, limit_word _ (by have := E2.out; omega) (by have := E2.out; omega), if_pos (by have := E2.out; omega)]
            have S1 := Lib.hid (fun w => scan_is s w [] 0 0 0 7 q1 rfl)
            have S2 := Lib.hid (fun w => scan_is _ w [] 0 2 2 7 q2 rfl)
            clear q1 q2
            go_wp2_with fail
            refine (S1.out _).mono ?_
            rintro e w1 ⟨a1, c1, rfl, t1, b1⟩
            go_wp2_with fail
            refine (S2.out _).mono ?_
            rintro e w2 ⟨a2, c2, rfl, t2, b2⟩
            go_wp2_with fail
            refine (sane_any _).mono ?_
            rintro e w3 ⟨rfl, hb3⟩
            have B1 := b1.out
            have B2 := b2.out
            have hb := Lib.hid ((B1.trans (B2.mono B1.size)).trans (hb3.mono (Nat.le_trans B1.size B2.size)))
            clear B1 B2 hb3 t1 t2 b1 b2
            go_wp2
            go_ret
            exact ⟨rfl, hb.out⟩
          · have q1 : scanned s.data.toList = ⟨[], 0, 0, 0⟩ := by rw [hs.out, limit_spaces, if_neg (by have := E1.out; omega)]
            have q2 : scanned ((⟨#[10, 32]⟩ : ByteArray) ++ t).data.toList = ⟨[⟨1, List.replicate t.size 110, 2, 2⟩, ⟨3, [], 2, 2 + (t.size : Int)⟩], 0, 0, 0⟩ := by
              rw [HLi.out, limit_word _ (by have := E2.out; omega) (by have := E2.out; omega), if_neg (by have := E2.out; omega)]
            have S1 := Lib.hid (fun w => scan_is s w [] 0 0 0 0 q1 rfl)
            have S2 := Lib.hid (fun w => scan_is _ w _ 2 0 0 0 q2 rfl)
            clear q1 q2
            go_wp2_with fail
            refine (S1.out _).mono ?_
            rintro e w1 ⟨a1, c1, rfl, t1, b1⟩
            go_wp2_with fail
            refine (S2.out _).mono ?_
            rintro e w2 ⟨a2, c2, rfl, t2, b2⟩
            go_wp2_with fail
            refine (sane_any _).mono ?_
            rintro e w3 ⟨rfl, hb3⟩
            have B1 := b1.out
            have B2 := b2.out
            have hb := Lib.hid ((B1.trans (B2.mono B1.size)).trans (hb3.mono (Nat.le_trans B1.size B2.size)))
            clear B1 B2 hb3 t1 t2 b1 b2
            go_wp2
            go_ret
            exact ⟨rfl, hb.out⟩
end Go.Proofs.Ytahdmekakbagnaa
