/- The walk of the law on parses. -/
import Derived.Test.YtpnfdmajpkpjoaaDoorQGenV
import Derived.Test.YtpnfdmajpkpjoaaDoorQSEq
import Derived.Test.YtpnfdmajpkpjoaaDoorQBytes
import Derived.Lib.ConvBytes
import Derived.Laws.BytesArg
set_option linter.unusedVariables false
set_option linter.unusedSimpArgs false
namespace Go.Proofs.YtpnfdmajpkpjoaaDoor
open Go.RowKit

theorem Mid.parses {w0 w : World} (h : Mid w0 w) (kw : KwIn w0.heap.size w0) (s : ByteArray) : Calls Tryd.prog 8 #[.string s] w (BoolPost true w) :=
  parses_any (kw.keep fun k hk => h.below.block k hk) h.below.size s
theorem Mid.sane {w0 w : World} (h : Mid w0 w) (kw : KwIn w0.heap.size w0) : Calls Tryd.prog 12 #[] w (BoolPost true w) :=
  sane_any (kw.keep fun k hk => h.below.block k hk) h.below.size

set_option maxHeartbeats 1000000 in
theorem parsesLaw_any (s : ByteArray) (w0 : World) (a : Option Addr) (n c : Nat) (hn : n ≤ maxLen)
    (h : ∀ j : Nat, j < n → ∃ b off z, a = some ⟨b, off, none⟩ ∧ b < w0.heap.size ∧ w0.cell? ⟨b, off + j, none⟩ = some (.int .i64 z)) (KW : KwIn w0.heap.size w0) :
    Calls Tryd.prog 3 #[.slice a n c, .string s] w0 (BoolPost true w0) := by
  have H := Lib.hid h
  have K := Lib.hid KW
  clear h KW
  go_enter Tryd.func3, Tryd.ntmps3
  go_wp2_with fail
  refine (new_any rfl a n c hn H.out).mono ?_
  rintro e w1 ⟨rfl, ht, hb⟩
  have M : Hid (Mid w0 w1) := ⟨ht, hb⟩
  clear ht hb
  go_wp2
  go_loopw [6] (fun v wr => ∃ k : Nat, k ≤ 6 ∧ v = .int .i64 k ∧ Hid (Mid w0 wr)) (fun v _ => 6 - (intOf v).toNat)
  case atStart => exact ⟨0, by omega, rfl, M⟩
  case round =>
    obtain ⟨k, hk, rfl, M⟩ := hrel
    by_cases hlt : k < 6
    · go_wp2_with fail
      refine (pieces_any M.out.tape).mono ?_
      rintro e w2 ⟨x, rfl, _, t2, b2⟩
      have M2 := Lib.hid (M.out.next t2 b2)
      clear t2 b2 M
      go_wp2_with fail
      refine (M2.out.parses K.out x).mono ?_
      rintro e w3 ⟨rfl, hb3⟩
      have M3 := Lib.hid (M2.out.trans hb3)
      clear hb3 M2
      go_wp2
      go_roundw
      case rel => exact ⟨k + 1, by omega, by go_num, M3⟩
      case measure => simp [intOf]; omega
    · go_wp2_with fail
      refine (source_any M.out.tape).mono ?_
      rintro e w2 ⟨p, rfl, hp1, hp2, t2, b2⟩
      have M2 := Lib.hid (M.out.next t2 b2)
      clear t2 b2 M
      go_wp2_with fail
      refine (M2.out.parses K.out p).mono ?_
      rintro e w3 ⟨rfl, hb3⟩
      have M3 := Lib.hid (M2.out.trans hb3)
      clear hb3 M2
      obtain ⟨w4, cap, hrun, hb4, hc4⟩ := conv_bytes p w3
      have M4 := Lib.hid (M3.out.trans hb4)
      have B := Lib.hid (bytes_any M4.out.tape w3.heap.size p.size cap _ (by simp) hp1 hp2 hc4)
      clear hb4 hc4 M3
      go_wp2_with fail
      refine B.out.mono ?_
      rintro e w5 ⟨b, m, cap2, zs, rfl, hz, hc5, t5, b5⟩
      have M5 := Lib.hid (M4.out.next t5 b5)
      have hrun2 := run_convert_bytes_arg (P := Tryd.prog) w5 28 5 Tryd.underlying28 Tryd.underlying5 b 0 m cap2 zs hz (fun j hj => by rw [Nat.zero_add]; exact hc5 j hj) 9 Tryd.underlying9
      clear hc5 t5 b5 M4 B hrun hz
      go_wp2_with fail
      refine (M5.out.parses K.out _).mono ?_
      rintro e w6 ⟨rfl, hb6⟩
      have M6 := Lib.hid (M5.out.trans hb6)
      clear hb6 M5 hrun2
      go_wp2_with fail
      refine (M6.out.parses K.out s).mono ?_
      rintro e w7 ⟨rfl, hb7⟩
      have M7 := Lib.hid (M6.out.trans hb7)
      clear hb7 M6
      go_wp2_with fail
      refine (M7.out.sane K.out).mono ?_
      rintro e w8 ⟨rfl, hb8⟩
      have M8 := Lib.hid (M7.out.trans hb8)
      clear hb8 M7
      go_wp2
      go_ret
      exact ⟨rfl, M8.out.below⟩
end Go.Proofs.YtpnfdmajpkpjoaaDoor

