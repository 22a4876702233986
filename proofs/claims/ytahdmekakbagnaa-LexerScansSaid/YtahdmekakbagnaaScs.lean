/- Walks: drawn pieces; the comparison of the two scanners holds. -/
import Derived.Test.YtahdmekakbagnaaSrc
namespace Go.Proofs.Ytahdmekakbagnaa
open Go.RowKit

theorem append_size' (a b : ByteArray) : (a ++ b).size = a.size + b.size := by simp
theorem sameB_refl : ∀ l : List Tok, sameB false l l = true
  | [] => rfl
  | t :: l => by simp [sameB, teq, sameB_refl l]

theorem scans_any (s : ByteArray) (w : World) : Calls Try.prog 7 #[.string s] w (BoolPost true w) := by
  obtain ⟨R, hR⟩ : ∃ R, scanned s.data.toList = R := ⟨_, rfl⟩
  have S1 := Lib.hid (fun w => (hR ▸ scan_any s w : Calls Try.prog 12 #[.string s] w (ScanPost w R)).mono fun e w' h => scanIs_of h)
  have S2 := Lib.hid (fun w => (hR ▸ rscan_any s w : Calls Try.prog 17 #[.string s] w (ScanPost w R)).mono fun e w' h => scanIs_of h)
  clear hR
  go_enter Try.func7, Try.ntmps7
  go_wp2_with fail
  refine (S1.out _).mono ?_
  rintro e w1 ⟨a1, c1, rfl, t1, b1⟩
  go_wp2_with fail
  refine (S2.out _).mono ?_
  rintro e w2 ⟨a2, c2, rfl, t2, b2⟩
  go_wp2_with fail
  refine (same_any R.toks R.toks false _ _ _ (t1.out.same (SameT.below b2.out)) t2.out).mono ?_
  rintro e w' ⟨rfl, k, rfl⟩
  rw [sameB_refl]
  have B := Lib.hid (below_drewN (b1.out.trans (b2.out.mono b1.out.size)) k)
  clear t1 t2 b1 b2
  go_wp2
  go_ret
  exact ⟨rfl, B.out⟩

/-- The pieces of the drawn texts. -/
def pieceBits : Array Value := #[.string ⟨#[120]⟩, .string ⟨#[102, 117, 110, 99]⟩, .string ⟨#[95, 97, 57]⟩, .string ⟨#[61]⟩, .string ⟨#[32]⟩, .string ⟨#[10]⟩, .string ⟨#[59]⟩, .string ⟨#[35]⟩, .string ⟨#[9]⟩, .string ⟨#[55]⟩, .string ⟨#[51, 120]⟩, .string ⟨#[115, 105, 120, 116, 101, 101, 110, 95, 98, 121, 116, 101, 115, 95, 49, 54]⟩, .string ⟨#[115, 101, 118, 101, 110, 116, 101, 101, 110, 95, 98, 121, 116, 101, 115, 49, 55]⟩, .string ⟨#[13]⟩, .string ⟨#[45]⟩, .string ⟨#[114, 101, 116, 117, 114, 110]⟩, .string ⟨#[35, 59, 10]⟩, .string ⟨#[32, 59, 32]⟩, .string ⟨#[255]⟩]
def strSize : Value → Nat
  | .string s => s.size
  | _ => 1000
def shortB (m : Nat) : Value → Bool
  | .string s => decide (s.size ≤ m)
  | _ => false
theorem bits_at (A : Array Value) (n m : Nat) (hA : A.size = n) (h : A.toList.all (shortB m) = true) (q : Nat) (hq : q < n) : ∃ p : ByteArray, A[q]? = some (.string p) ∧ p.size ≤ m := by
  have h1 : q < A.size := by omega
  have h2 := List.all_eq_true.1 h A[q] (by simp)
  rw [Array.getElem?_eq_getElem h1]
  generalize A[q] = v at h2
  cases v <;> simp [shortB] at h2
  exact ⟨_, rfl, h2⟩

theorem pieces_any {B bt : Nat} {w : World} (ht : TapeOk B w bt) :
    Calls Try.prog 8 #[.pointer (some ⟨bt, 0, none⟩)] w (SrcPost B bt w) := by
  have Ht := Lib.hid ht
  clear ht
  go_enter Try.func8, Try.ntmps8
  go_wp2_with fail
  refine (next_any Ht.out 14 (by omega)).mono ?_
  rintro e w1 ⟨r, r0, r1, rfl, ht1, hb1⟩
  have T1 := Lib.hid ht1
  have B1 := Lib.hid hb1
  have r3 : r ≤ 13 := by omega
  clear ht1 hb1 r1
  go_wp2
  go_loopw [3, 4] (fun x v wi => ∃ (xs : ByteArray) (r : Int), x = .string xs ∧ v = .int .i64 r ∧ 0 ≤ r ∧ (xs.size : Int) + 17 * r ≤ 221 ∧ Hid (TapeOk B wi bt) ∧ Hid (But bt w wi)) (fun _ v _ => (intOf v).toNat)
  case atStart => exact ⟨_, _, rfl, rfl, r0, by show (0 : Int) + 17 * r ≤ 221; omega, T1, B1⟩
  case round =>
    obtain ⟨xs, r, rfl, rfl, r0, hx, T, Bb⟩ := hrel
    by_cases hr : 0 < r
    · go_wp2_with fail
      refine (next_any (T.out.alloc _) 19 (by omega)).mono ?_
      rintro e w3 ⟨q, q0, q1, rfl, ht3, hb3⟩
      obtain ⟨qn, rfl⟩ := Int.eq_ofNat_of_zero_le q0
      obtain ⟨p, hp1, hp2⟩ := bits_at pieceBits 19 17 rfl rfl qn (by omega)
      have hne : wr.heap.size ≠ bt := by have := T.out.lt; omega
      have hc := (hb3.cell wr.heap.size qn (by simp) hne).trans ((World.cell?_alloc_new wr pieceBits 9 qn).trans hp1)
      have T3 := Lib.hid ht3
      have B3 := Lib.hid ((Bb.out.alloc _).trans hb3)
      have q2 : qn < 19 := by omega
      clear ht3 hb3 hp1 hne q0 q1
      go_wp2
      go_roundw
      case rel => exact ⟨_, _, rfl, rfl, by omega, by rw [append_size']; omega, T3, B3⟩
      case measure => simp [intOf]; omega
    · obtain rfl : r = 0 := by omega
      go_wp2
      go_ret
      exact ⟨xs, rfl, by omega, T.out, Bb.out⟩
end Go.Proofs.Ytahdmekakbagnaa
