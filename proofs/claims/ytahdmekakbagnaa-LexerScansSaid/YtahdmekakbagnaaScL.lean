/- The walk of the law on scans. -/
import Derived.Test.YtahdmekakbagnaaBytes
import Derived.Test.YtahdmekakbagnaaMid
import Derived.Lib.ConvBytes
import Derived.Laws.BytesArg
namespace Go.Proofs.Ytahdmekakbagnaa
open Go.RowKit

theorem getD_nat (l : List UInt8) (j : Nat) : (((l.getD j 0).toNat : Nat) : Int) = (l.map fun b : UInt8 => (b.toNat : Int)).getD j 0 := by
  simp only [List.getD, List.getElem?_map]
  cases l[j]? <;> rfl
/-- '[]byte(p)'. -/
theorem conv_bytes (p : ByteArray) (w : World) : ∃ w4 cap, (convert 9 28 (.string p)).run Try.prog w = .ok (.slice (some ⟨w.heap.size, 0, none⟩) p.size cap) w4 ∧ Below w.heap.size w w4 ∧
    ∀ j, j < p.size → w4.cell? ⟨w.heap.size, j, none⟩ = some (u8v ((p.data.toList.map fun b : UInt8 => (b.toNat : Int)).getD j 0)) := by
  refine ⟨_, _, Lib.run_convert_string_bytes w 9 28 5 p Try.underlying9 Try.underlying28 Try.underlying5, ?_, fun j hj => ?_⟩
  · exact ⟨rfl, rfl, rfl, by rw [Lib.bytesWorld_size]; omega, fun k hk => Lib.bytesWorld_at_old w 5 p k hk⟩
  · rw [Lib.bytesWorld_cell w 5 p j hj, ← getD_nat]
    rfl

set_option maxHeartbeats 1000000 in
theorem scansLaw_any (s : ByteArray) (w0 : World) (a : Option Addr) (n c : Nat) (hn : n ≤ maxLen)
    (h : ∀ j : Nat, j < n → ∃ b off z, a = some ⟨b, off, none⟩ ∧ b < w0.heap.size ∧ w0.cell? ⟨b, off + j, none⟩ = some (.int .i64 z)) :
    Calls Try.prog 3 #[.slice a n c, .string s] w0 (BoolPost true w0) := by
  have H := Lib.hid h
  clear h
  go_enter Try.func3, Try.ntmps3
  go_wp2_with fail
  refine (new_any rfl a n c hn H.out).mono ?_
  rintro e w1 ⟨rfl, ht, hb⟩
  have M : Hid (Mid w0 w1) := ⟨ht, hb⟩
  clear ht hb
  go_wp2
  go_loopw [6] (fun v wr => ∃ k : Nat, k ≤ 6 ∧ v = .int .i64 k ∧ Hid (Mid w0 wr)) (fun v _ => 6 - (intOf v).toNat)
  case atStart => exact ⟨0, by omega, rfl, M⟩
  case round =>
    obtain ⟨k, hk, rfl, M⟩ := hrel
    by_cases hlt : k < 6
    · go_wp2_with fail
      refine (pieces_any M.out.tape).mono ?_
      rintro e w2 ⟨x, rfl, _, t2, b2⟩
      have M2 := Lib.hid (M.out.next t2 b2)
      clear t2 b2 M
      go_wp2_with fail
      refine (scans_any x _).mono ?_
      rintro e w3 ⟨rfl, hb3⟩
      have M3 := Lib.hid (M2.out.trans hb3)
      clear hb3 M2
      go_wp2
      go_roundw
      case rel => exact ⟨k + 1, by omega, by go_num, M3⟩
      case measure => simp [intOf]; omega
    · go_wp2_with fail
      refine (source_any M.out.tape).mono ?_
      rintro e w2 ⟨p, rfl, hp1, hp2, t2, b2⟩
      have M2 := Lib.hid (M.out.next t2 b2)
      clear t2 b2 M
      go_wp2_with fail
      refine (scans_any p _).mono ?_
      rintro e w3 ⟨rfl, hb3⟩
      have M3 := Lib.hid (M2.out.trans hb3)
      clear hb3 M2
      obtain ⟨w4, cap, hrun, hb4, hc4⟩ := conv_bytes p w3
      have M4 := Lib.hid (M3.out.trans hb4)
      have B := Lib.hid (bytes_any M4.out.tape w3.heap.size p.size cap _ (by simp) hp1 hp2 hc4)
      clear hb4 hc4 M3
      go_wp2_with fail
      refine B.out.mono ?_
      rintro e w5 ⟨b, m, cap2, zs, rfl, hz, hc5, t5, b5⟩
      have M5 := Lib.hid (M4.out.next t5 b5)
      have hrun2 := run_convert_bytes_arg (P := Try.prog) w5 28 5 Try.underlying28 Try.underlying5 b 0 m cap2 zs hz (fun j hj => by rw [Nat.zero_add]; exact hc5 j hj) 9 Try.underlying9
      clear hc5 t5 b5 M4 B hrun hz
      go_wp2_with fail
      refine (scans_any _ _).mono ?_
      rintro e w6 ⟨rfl, hb6⟩
      have M6 := Lib.hid (M5.out.trans hb6)
      clear hb6 M5 hrun2
      go_wp2_with fail
      refine (scans_any s _).mono ?_
      rintro e w7 ⟨rfl, hb7⟩
      have M7 := Lib.hid (M6.out.trans hb7)
      clear hb7 M6
      go_wp2_with fail
      refine (sane_any _).mono ?_
      rintro e w8 ⟨rfl, hb8⟩
      have M8 := Lib.hid (M7.out.trans hb8)
      clear hb8 M7
      go_wp2
      go_ret
      exact ⟨rfl, M8.out.below⟩
end Go.Proofs.Ytahdmekakbagnaa
