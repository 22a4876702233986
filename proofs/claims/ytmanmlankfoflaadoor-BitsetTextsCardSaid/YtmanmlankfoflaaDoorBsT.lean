/- Walks: bits.TrailingZeros64, bits.OnesCount64. -/
import Derived.Test.YtmanmlankfoflaaDoorBsW2
import Derived.Test.YtmanmlankfoflaaDoorPopP
import Derived.Shelf.Spec.TrailingZeros
import Derived.Lib.LaidTab
set_option linter.unusedVariables false
set_option linter.unusedSimpArgs false
set_option linter.unusedSectionVars false
namespace Go.Proofs.YtmanmlankfoflaaDoor
open Go.RowKit
variable [Base]

theorem tz_core (x k idx : Nat) (w : World) (hx0 : ((x : Int) == 0) = false)
    (key : IntKind.u64.wrap (bits BinOp.and IntKind.u64 (x : Int) (IntKind.u64.wrap (-(x : Int))) * 285870213051353865) / 288230376151711744 = (idx : Int))
    (hi : idx < 64) (hk : k < 64) (hcell : w.cell? ⟨0, idx, none⟩ = some (.int .u8 k)) :
    Calls Tryd.prog 73 #[.int .u64 x] w fun e w' => e = .returned (.int .i64 k) ∧ w = w' := by
  go_enter Tryd.func73, Tryd.ntmps73
  go_wp2_with (simp only [key])
  go_ret
  exact ⟨rfl, rfl⟩
theorem tz_any (x : Nat) (hx0 : x ≠ 0) (hx : x < 18446744073709551616) (w : World) (hT : TabAt 0 Lib.deBruijn64tab w) :
    Calls Tryd.prog 73 #[.int .u64 x] w fun e w' => e = .returned (.int .i64 (Lib.ctz 64 x : Nat)) ∧ w = w' := by
  obtain ⟨hlow, hk⟩ := Lib.lowest_bit 64 x hx0 hx
  obtain ⟨hi, htab⟩ := Lib.deBruijn64_at _ hk
  have hcell := hT _ hi
  rw [htab] at hcell
  exact tz_core x _ _ w (by simp; omega) (tz64_key x _ hx hx0 hlow) hi hk hcell
theorem bits_and_i64_127 (c : Nat) (hc : c < 9223372036854775808) : bits .and .i64 (c : Int) 127 = ((c % 128 : Nat) : Int) := by
  have h1 : (BitVec.ofInt 64 (c : Int)).toNat = c := by
    rw [BitVec.ofInt_natCast, BitVec.toNat_ofNat]; exact Nat.mod_eq_of_lt (by omega)
  show IntKind.i64.wrap ((BitVec.ofInt 64 (c : Int) &&& BitVec.ofInt 64 (127 : Int)).toNat : Int) = _
  rw [BitVec.toNat_and, h1, show (BitVec.ofInt 64 (127 : Int)).toNat = 2 ^ 7 - 1 from by decide, Nat.and_two_pow_sub_one_eq_mod, IntWalk.i64_in _ (by omega)]
theorem ones1 (x : Nat) (hx : x < 18446744073709551616) : IntKind.u64.wrap (bits BinOp.and IntKind.u64 ((x : Int) / 2) 6148914691236517205 + bits BinOp.and IntKind.u64 (x : Int) 6148914691236517205) = ((A1 8 x : Nat) : Int) := by
  have h1 : (x : Int) / 2 = ((x / 2 : Nat) : Int) := by omega
  have l1 : x / 2 &&& 6148914691236517205 ≤ 6148914691236517205 := Nat.and_le_right
  have l2 : x &&& 6148914691236517205 ≤ 6148914691236517205 := Nat.and_le_right
  rw [h1, show (6148914691236517205 : Int) = ((6148914691236517205 : Nat) : Int) from rfl, bits_and_u64_nat _ _ (by omega) (by omega), bits_and_u64_nat _ _ hx (by omega), IntKind.wrap_u64]
  unfold A1
  rw [show repB 8 85 = 6148914691236517205 from by decide]
  omega
theorem ones2 (x : Nat) (hx : x < 18446744073709551616) : IntKind.u64.wrap (bits BinOp.and IntKind.u64 ((x : Int) / 4) 3689348814741910323 + bits BinOp.and IntKind.u64 (x : Int) 3689348814741910323) = ((A2 8 x : Nat) : Int) := by
  have h1 : (x : Int) / 4 = ((x / 4 : Nat) : Int) := by omega
  have l1 : x / 4 &&& 3689348814741910323 ≤ 3689348814741910323 := Nat.and_le_right
  have l2 : x &&& 3689348814741910323 ≤ 3689348814741910323 := Nat.and_le_right
  rw [h1, show (3689348814741910323 : Int) = ((3689348814741910323 : Nat) : Int) from rfl, bits_and_u64_nat _ _ (by omega) (by omega), bits_and_u64_nat _ _ hx (by omega), IntKind.wrap_u64]
  unfold A2
  rw [show repB 8 51 = 3689348814741910323 from by decide]
  omega
theorem ones3 (x : Nat) (hx : x ≤ 7378697629483820646) : bits BinOp.and IntKind.u64 (IntKind.u64.wrap ((x : Int) / 16 + (x : Int))) 1085102592571150095 = ((A3 8 x : Nat) : Int) := by
  have h1 : IntKind.u64.wrap ((x : Int) / 16 + (x : Int)) = ((x / 16 + x : Nat) : Int) := by rw [IntKind.wrap_u64]; omega
  rw [h1, show (1085102592571150095 : Int) = ((1085102592571150095 : Nat) : Int) from rfl, bits_and_u64_nat _ _ (by omega) (by omega)]
  unfold A3
  rw [show repB 8 15 = 1085102592571150095 from by decide]
theorem A1_lt (x : Nat) : A1 8 x < 18446744073709551616 := by
  have l1 : x / 2 &&& 6148914691236517205 ≤ 6148914691236517205 := Nat.and_le_right
  have l2 : x &&& 6148914691236517205 ≤ 6148914691236517205 := Nat.and_le_right
  unfold A1
  rw [show repB 8 85 = 6148914691236517205 from by decide]
  omega
theorem A2_le (x : Nat) : A2 8 x ≤ 7378697629483820646 := by
  have l1 : x / 4 &&& 3689348814741910323 ≤ 3689348814741910323 := Nat.and_le_right
  have l2 : x &&& 3689348814741910323 ≤ 3689348814741910323 := Nat.and_le_right
  unfold A2
  rw [show repB 8 51 = 3689348814741910323 from by decide]
  omega
theorem A3_le (x : Nat) : A3 8 x ≤ 1085102592571150095 := by
  unfold A3
  rw [show repB 8 15 = 1085102592571150095 from by decide]
  exact Nat.and_le_right
theorem ones4 (x : Nat) (hx : x ≤ 1085102592571150095) : bits BinOp.and IntKind.i64 (wrap64 (IntKind.u64.wrap (IntKind.u64.wrap (IntKind.u64.wrap ((x : Int) + (x : Int) / 256) + IntKind.u64.wrap ((x : Int) + (x : Int) / 256) / 65536) + IntKind.u64.wrap (IntKind.u64.wrap ((x : Int) + (x : Int) / 256) + IntKind.u64.wrap ((x : Int) + (x : Int) / 256) / 65536) / 4294967296))) 127 = ((fold3 x : Nat) : Int) := by
  have h1 : IntKind.u64.wrap ((x : Int) + (x : Int) / 256) = ((x + x / 256 : Nat) : Int) := by rw [IntKind.wrap_u64]; omega
  rw [h1]
  obtain ⟨y, hy⟩ : ∃ y, x + x / 256 = y := ⟨_, rfl⟩
  have yl : y ≤ 1089341274573381300 := by omega
  rw [hy]
  have h2 : IntKind.u64.wrap ((y : Int) + (y : Int) / 65536) = ((y + y / 65536 : Nat) : Int) := by rw [IntKind.wrap_u64]; omega
  rw [h2]
  obtain ⟨z, hz⟩ : ∃ z, y + y / 65536 = z := ⟨_, rfl⟩
  have zl : z ≤ 1089357896609000000 := by omega
  rw [hz]
  have h3 : IntKind.u64.wrap ((z : Int) + (z : Int) / 4294967296) = ((z + z / 4294967296 : Nat) : Int) := by rw [IntKind.wrap_u64]; omega
  rw [h3, IntWalk.wrap64_in _ (by omega), bits_and_i64_127 _ (by omega)]
  unfold fold3
  dsimp only
  rw [hy, hz]
theorem ones_any (x : Nat) (hx : x < 18446744073709551616) (w : World) :
    Calls Tryd.prog 61 #[.int .u64 x] w fun e w' => e = .returned (.int .i64 (pop 64 x : Nat)) ∧ w = w' := by
  go_enter Tryd.func61, Tryd.ntmps61
  go_wp2_with fail
  go_ret
  refine ⟨?_, rfl⟩
  simp only [Array.getD_eq_getD_getElem?, List.getElem?_toArray, List.getElem?_cons_zero, List.getElem?_cons_succ, Option.getD_some]
  rw [ones1 x hx, ones2 _ (A1_lt x), ones3 _ (A2_le _), ones4 _ (A3_le _), ones_eq x hx]
end Go.Proofs.YtmanmlankfoflaaDoor
