/- The walk of the law on names. -/
import Derived.Test.YtahdmekakbagnaaDoorNameR
import Derived.Test.YtahdmekakbagnaaDoorTape
import Derived.Test.YtahdmekakbagnaaDoorSane
namespace Go.Proofs.YtahdmekakbagnaaDoor
open Go.RowKit

/-- The keywords' variable holds the keywords, in blocks below B. -/
def KwIn (B : Nat) (w : World) : Prop := 0 < B ∧ ∃ b off c, b < B ∧ w.cell? ⟨0, 0, none⟩ = some (.slice (some ⟨b, off, none⟩) 11 c) ∧ RowAt w (some ⟨b, off, none⟩) kws
theorem KwIn.at_ {B : Nat} {w w' : World} (h : KwIn B w) (hb : Below B w w') : KwAt w' := by
  obtain ⟨h0, b, off, c, h1, h2, h3⟩ := h
  refine ⟨some ⟨b, off, none⟩, c, (hb.cell (p := ⟨0, 0, none⟩) (by show 0 < B; omega)).trans h2, fun k s hk => ?_⟩
  obtain ⟨b', off', e, hc⟩ := h3 k s hk
  injection e with e
  injection e with e1 e2
  subst e1 e2
  exact ⟨b, off, rfl, (hb.cell (p := ⟨b, off + k, none⟩) h1).trans hc⟩

/-- What holds between the law's steps. -/
structure Mid (w0 w : World) : Prop where
  tape : TapeOk w0.heap.size w w0.heap.size
  below : Below w0.heap.size w0 w

theorem Mid.trans {w0 w w' : World} (h : Mid w0 w) (hb : Below w.heap.size w w') : Mid w0 w' :=
  ⟨h.tape.below hb, h.below.trans (hb.mono h.below.size)⟩
theorem Mid.drewN {w0 w : World} (h : Mid w0 w) (n : Nat) : Mid w0 (w.drewN n) := ⟨h.tape.drewN n, h.below.trans ⟨rfl, rfl, rfl, Nat.le_refl _, fun _ _ => rfl⟩⟩
theorem Mid.alloc {w0 w : World} (h : Mid w0 w) (o : Obj) : Mid w0 (w.alloc o) := ⟨h.tape.alloc o, h.below.alloc h.below.size o⟩
theorem Mid.next {w0 w w' : World} (h : Mid w0 w) (ht : TapeOk w0.heap.size w' w0.heap.size) (hb : But w0.heap.size w w') : Mid w0 w' :=
  ⟨ht, h.below.trans (hb.toBelow (Nat.le_refl _) h.below.size)⟩

theorem cell_new (w : World) (A : Array Value) (t : TypeId) (o : Nat) : (w.alloc (.cells A t)).cell? ⟨w.heap.size, o, none⟩ = A[o]? := World.cell?_alloc_new _ _ _ _
/-- The pieces of the drawn strings. -/
def nameBits : Array Value := #[.string ⟨#[97]⟩, .string ⟨#[90]⟩, .string ⟨#[95]⟩, .string ⟨#[48]⟩, .string ⟨#[102, 117, 110, 99]⟩, .string ⟨#[101, 110, 100]⟩, .string ⟨#[117, 115, 101]⟩, .string ⟨#[99, 97, 108, 108]⟩, .string ⟨#[103, 111, 116, 111]⟩, .string ⟨#[97, 98, 99, 100, 101, 102, 103, 104]⟩, .string ⟨#[45]⟩, .string ⟨#[]⟩]
theorem nameBits_at (q : Nat) (h : q < 12) : ∃ p : ByteArray, nameBits[q]? = some (.string p) ∧ p.size ≤ 8 := by
  match q, h with
  | 0, _ => exact ⟨_, rfl, by decide⟩
  | 1, _ => exact ⟨_, rfl, by decide⟩
  | 2, _ => exact ⟨_, rfl, by decide⟩
  | 3, _ => exact ⟨_, rfl, by decide⟩
  | 4, _ => exact ⟨_, rfl, by decide⟩
  | 5, _ => exact ⟨_, rfl, by decide⟩
  | 6, _ => exact ⟨_, rfl, by decide⟩
  | 7, _ => exact ⟨_, rfl, by decide⟩
  | 8, _ => exact ⟨_, rfl, by decide⟩
  | 9, _ => exact ⟨_, rfl, by decide⟩
  | 10, _ => exact ⟨_, rfl, by decide⟩
  | 11, _ => exact ⟨_, rfl, by decide⟩
  | n + 12, h => omega
theorem kws_none : ∀ l ∈ kws, nameB l = false ∧ nameB (l ++ [95]) = true := by decide
theorem kws_none_at (j : Nat) (l : List UInt8) (h : kws[j]? = some l) : nameB l = false ∧ nameB (l ++ [95]) = true := kws_none l (List.mem_of_getElem? h)
theorem kws_short (j : Nat) (l : List UInt8) (h : kws[j]? = some l) : l.length ≤ 9 := (show ∀ l ∈ kws, l.length ≤ 9 by decide) l (List.mem_of_getElem? h)
theorem app_size (a b : ByteArray) : (a ++ b).size = a.size + b.size := by simp
theorem app_list (a b : ByteArray) : (a ++ b).data.toList = a.data.toList ++ b.data.toList := by simp

set_option maxHeartbeats 1000000 in
theorem names_any (s : ByteArray) (hs : s.size ≤ maxLen) (w0 : World) (a : Option Addr) (n c : Nat) (hn : n ≤ maxLen)
    (h : ∀ j : Nat, j < n → ∃ b off z, a = some ⟨b, off, none⟩ ∧ b < w0.heap.size ∧ w0.cell? ⟨b, off + j, none⟩ = some (.int .i64 z)) (KW : KwIn w0.heap.size w0) :
    Calls Tryd.prog 3 #[.slice a n c, .string s] w0 fun e w' => e = .returned (.bool true) ∧ Below w0.heap.size w0 w' := by
  have H := Lib.hid h
  have K := Lib.hid KW
  clear h KW
  go_enter Tryd.func3, Tryd.ntmps3
  go_wp2_with fail
  refine (new_any rfl a n c hn H.out).mono ?_
  rintro e w1 ⟨rfl, ht, hb⟩
  have M : Hid (Mid w0 w1) := ⟨ht, hb⟩
  clear ht hb
  go_wp2
  go_loopw [6] (fun v wr => ∃ k : Nat, k ≤ 8 ∧ v = .int .i64 k ∧ Hid (Mid w0 wr)) (fun v _ => 8 - (intOf v).toNat)
  case atStart => exact ⟨0, by omega, rfl, M⟩
  case round =>
    obtain ⟨k, hk, rfl, M⟩ := hrel
    by_cases hlt : k < 8
    · go_wp2_with fail
      refine (next_any M.out.tape 4 (by omega)).mono ?_
      rintro e w2 ⟨r, r0, r1, rfl, ht2, hb2⟩
      have M2 := Lib.hid (M.out.next ht2 hb2)
      clear ht2 hb2 M
      have r3 : r ≤ 3 := by omega
      clear r1
      go_wp2
      obtain ⟨wo, rfl⟩ : ∃ wo : World, wo = w2 := ⟨_, rfl⟩
      go_loopw [7, 8] (fun x v wi => ∃ (xs : ByteArray) (r : Int), x = .string xs ∧ v = .int .i64 r ∧ 0 ≤ r ∧ (xs.size : Int) + 8 * r ≤ 24 ∧ Hid (Mid w0 wi)) (fun _ v _ => (intOf v).toNat)
      case atStart => exact ⟨_, _, rfl, rfl, r0, by show (0 : Int) + 8 * r ≤ 24; omega, M2⟩
      case round =>
        obtain ⟨xs, r, rfl, rfl, r0, hx, M⟩ := hrel
        by_cases hr : 0 < r
        · go_wp2_with fail
          refine (next_any (M.out.alloc _).tape 12 (by omega)).mono ?_
          rintro e w3 ⟨q, q0, q1, rfl, ht3, hb3⟩
          obtain ⟨qn, rfl⟩ := Int.eq_ofNat_of_zero_le q0
          obtain ⟨p, hp1, hp2⟩ := nameBits_at qn (by omega)
          have hne : wr.heap.size ≠ w0.heap.size := by have := M.out.tape.lt; omega
          have hc := (hb3.cell wr.heap.size qn (by simp) hne).trans ((cell_new wr nameBits 9 qn).trans hp1)
          have M3 := Lib.hid ((M.out.alloc _).next ht3 hb3)
          have q2 : qn < 12 := by omega
          clear ht3 hb3 M hp1 hne q0 q1
          go_wp2
          go_roundw
          case rel => exact ⟨_, _, rfl, rfl, by omega, by rw [app_size]; omega, M3⟩
          case measure => simp [intOf]; omega
        · obtain rfl : r = 0 := by omega
          have K4 := Lib.hid (K.out.at_ M.out.below)
          go_wp2_with fail
          refine (isname_any xs _ K4.out).mono ?_
          rintro e w4 ⟨rfl, k4, rfl⟩
          go_wp2_with fail
          refine (rname_any xs _).mono ?_
          rintro e w5 ⟨rfl, hb5⟩
          have M5 := Lib.hid ((M.out.drewN k4).trans hb5)
          clear hb5 M
          go_wp2
          go_roundw
          case rel => exact ⟨k + 1, by omega, by go_num, M5⟩
          case measure => simp [intOf]; omega
    · go_wp2_with fail
      refine (keywords_any _).mono ?_
      rintro e w2 ⟨rfl, hw⟩
      have hrow : Hid (RowAt w2 (some ⟨wr.heap.size, 0, none⟩) kws) := by rw [hw]; exact strs_new wr kws 9
      have M2 : Hid (Mid w0 w2) := by rw [hw]; exact M.out.alloc _
      have hge : w0.heap.size < wr.heap.size := M.out.tape.lt
      have hlt2 : wr.heap.size < w2.heap.size := by rw [hw]; simp
      obtain ⟨bk, hbk⟩ : ∃ bk, wr.heap.size = bk := ⟨_, rfl⟩
      rw [hbk] at hrow hge hlt2 ⊢
      clear hw M hbk
      go_wp2
      obtain ⟨wo, rfl⟩ : ∃ wo : World, wo = w2 := ⟨_, rfl⟩
      go_loopw [10] (fun v wi => ∃ j : Nat, j ≤ 11 ∧ v = .int .i64 j ∧ Hid (Mid w0 wi) ∧ Hid (RowAt wi (some ⟨bk, 0, none⟩) kws) ∧ bk < wi.heap.size) (fun v _ => 11 - (intOf v).toNat)
      case atStart => exact ⟨0, by omega, rfl, M2, hrow, hlt2⟩
      case round =>
        obtain ⟨j, hj, rfl, M, hrow, hbk⟩ := hrel
        by_cases hlt : j < 11
        · obtain ⟨t, ht⟩ : ∃ t, kws[j]? = some t := ⟨_, List.getElem?_eq_getElem (show j < kws.length from hlt)⟩
          obtain ⟨b', off', e', hc⟩ := hrow.out j t ht
          injection e' with e'
          injection e' with e1 e2
          subst e1 e2
          rw [Nat.zero_add] at hc
          have hkn := Lib.hid (kws_none_at j t ht)
          have hkl := kws_short j t ht
          clear ht
          have K4 := Lib.hid (K.out.at_ M.out.below)
          go_wp2_with fail
          refine (isname_any _ _ K4.out).mono ?_
          rintro e w4 ⟨rfl, k4, rfl⟩
          rw [hkn.out.1]
          have K5 := Lib.hid (K.out.at_ (M.out.drewN k4).below)
          go_wp2_with fail
          refine (isname_any _ _ K5.out).mono ?_
          rintro e w5 ⟨rfl, k5, rfl⟩
          rw [app_list, show (⟨#[95]⟩ : ByteArray).data.toList = [95] from rfl, hkn.out.2]
          go_wp2
          go_roundw
          case rel => exact ⟨j + 1, by omega, by go_num, M.out.drewN (k4 + k5), hrow.out, hbk⟩
          case measure => simp [intOf]; omega
        · have K4 := Lib.hid (K.out.at_ M.out.below)
          go_wp2_with fail
          refine (isname_any s _ K4.out).mono ?_
          rintro e w4 ⟨rfl, k4, rfl⟩
          go_wp2_with fail
          refine (rname_any s _).mono ?_
          rintro e w5 ⟨rfl, hb5⟩
          have M5 := Lib.hid ((M.out.drewN k4).trans hb5)
          clear hb5 M
          go_wp2_with fail
          refine (sane_any _).mono ?_
          rintro e w6 ⟨rfl, hb6⟩
          have M6 := Lib.hid (M5.out.trans hb6)
          clear hb6 M5
          go_wp2
          go_ret
          exact ⟨rfl, M6.out.below⟩
end Go.Proofs.YtahdmekakbagnaaDoor
