/- The law ScriptParses: the walk. Printed by wip/gen_scl3.py. -/
import Derived.Test.YtgmlnbheceeklaaDoorScL2
import Derived.Test.YtgmlnbheceeklaaDoorBytZ
import Derived.Test.YtgmlnbheceeklaaDoorConG
set_option linter.unusedVariables false
set_option linter.unusedSimpArgs false
set_option linter.unusedSectionVars false
namespace Go.Proofs.YtgmlnbheceeklaaDoor
open Go.RowKit
variable [Base]

theorem bytes_all {B bt : Nat} {w : World} (ht : TapeOk B w bt) (b0 n c : Nat) (zs : List Int) (hlen : zs.length = n) (hn : n ≤ 1000000)
    (hc : ∀ j, j < n → w.cell? ⟨b0, j, none⟩ = some (u8v (zs.getD j 0))) :
    Calls Tryd.prog 16 #[.pointer (some ⟨bt, 0, none⟩), .slice (some ⟨b0, 0, none⟩) n c] w (BytesPost B bt n w) := by
  rcases Nat.eq_zero_or_pos n with h | h
  · subst h
    exact bytes_zero ht b0 c
  · exact bytes_any ht b0 n c zs hlen h hn hc
theorem nums_size (xs : List Int) : (strOfNums xs).size = xs.length := by simp [strOfNums, ByteArray.size]
theorem parses_in {B : Nat} (p : ByteArray) (hp : p.size ≤ 281474976710656) (w : World) (hV : VarsIn B w) (hB : B ≤ w.heap.size) : Calls Tryd.prog 15 #[.string p] w (BoolQ true w) :=
  parses_any p.data.toList (by rw [show p.data.toList.length = p.size by simp]; exact hp) w hV hB
def shortV (m : Nat) : Value → Bool
  | .string s => decide (s.size ≤ m)
  | _ => false
theorem str_at (A : Array Value) (n m : Nat) (hA : A.size = n) (h : A.toList.all (shortV m) = true) (q : Nat) (hq : q < n) : ∃ s : Str, A[q]? = some (qs s) ∧ s.length ≤ m := by
  have h1 : q < A.size := by omega
  have h2 := List.all_eq_true.1 h A[q] (by simp)
  rw [Array.getElem?_eq_getElem h1]
  generalize A[q] = v at h2
  cases v <;> simp [shortV] at h2
  rename_i s
  exact ⟨s.data.toList, rfl, by simpa using h2⟩
theorem eight (k : Nat) (hk : k < 9) : ∃ q : Nat, q < 2 ∧ Int.tdiv (k : Int) 8 = (q : Int) ∧ IntKind.i64.wrap (q : Int) = (q : Int) := ⟨k / 8, by omega, by rw [Int.tdiv_eq_ediv_of_nonneg (by omega)]; omega, IntWalk.i64_in _ (by omega)⟩
set_option maxRecDepth 100000 in
set_option maxHeartbeats 16000000 in
theorem parsesLaw_any (w0 : World) (a : Option Addr) (n c : Nat) (hn : n ≤ maxLen)
    (h : ∀ j : Nat, j < n → ∃ b off z, a = some ⟨b, off, none⟩ ∧ b < w0.heap.size ∧ w0.cell? ⟨b, off + j, none⟩ = some (.int .i64 z)) (KT : VarsIn w0.heap.size w0) (hbs : Base.b ≤ w0.heap.size) (p : ByteArray) (hp : p.size ≤ 281474976710656) :
    Calls Tryd.prog 4 #[.slice a n c, .string p] w0 (BoolQ true w0) := by
  have hud : ∀ b : Bool, (undef = Value.bool b) = False := fun b => by simp [undef]
  have HK := Lib.hid (show ∀ w', Below w0.heap.size w0 w' → VarsIn w0.heap.size w' from fun w' hb => KT.below hb)
  have H := Lib.hid h
  clear h KT
  go_enter Tryd.func4, Tryd.ntmps4
  go_wp2_with fail
  refine (new_any rfl a n c hn H.out hbs).mono ?_
  rintro e w1 ⟨rfl, ht, hb⟩
  have T1 := Lib.hid ht
  have B1 := Lib.hid hb
  clear ht hb
  go_wp2_with fail
  go_loopw [6] (fun y6 wr => ∃ i : Nat, i ≤ 8 ∧ y6 = .int .i64 i ∧ Hid (TapeOk w0.heap.size wr w0.heap.size) ∧ Hid (Below w0.heap.size w0 wr)) (fun y _ => 8 - (intOf y).toNat)
  case atStart => exact ⟨0, by omega, rfl, T1, B1⟩
  case round =>
    clear T1 B1
    obtain ⟨i, hi, rfl, HT, HB⟩ := hrel
    by_cases hlt : i < 8
    · have i2 : (i : Int) < 8 := by omega
      have hsz := HT.out.lt
      go_wp2_with fail
      refine (next_pos (HT.out.alloc _) 11 (by omega) (by omega)).mono ?_
      rintro e w2 ⟨k, k1, rfl, t2, b2⟩
      obtain ⟨s, hs, hsl⟩ := str_at #[qs [108, 111, 97, 100], qs [117, 110, 108, 111, 97, 100], qs [115, 117, 98, 109, 105, 116], qs [99, 97, 110, 99, 101, 108], qs [103, 114, 97, 110, 116], qs [112, 111, 108, 108], qs [102, 111, 114, 103, 101, 116], qs [101, 118, 105, 99, 116], qs [115, 116, 97, 116, 115], qs [], qs [83, 116, 97, 116, 115]] 11 8 rfl rfl k (by omega)
      have hrow := (row_at rfl b2 (by omega) k).trans hs
      have T2 := Lib.hid t2
      have B2 := Lib.hid (HB.out.trans ((((But.refl w0.heap.size wr).alloc _).trans b2).toBelow (Nat.le_refl _) HB.out.size))
      clear t2 b2 hs
      go_wp2_with fail
      refine (next_pos T2.out 7 (by omega) (by omega)).mono ?_
      rintro e w3 ⟨m, m1, rfl, t3, b3⟩
      have T3 := Lib.hid t3
      have B3 := Lib.hid (B2.out.trans (b3.toBelow (Nat.le_refl _) B2.out.size))
      clear t3 b3 hrow hsz T2 B2 HT HB
      go_wp2
      go_loopw [7, 8] (fun x v wi => ∃ (xs : Str) (r : Int), x = qs xs ∧ v = .int .i64 r ∧ 0 ≤ r ∧ (xs.length : Int) + 20 * r ≤ 200 ∧ Hid (TapeOk w0.heap.size wi w0.heap.size) ∧ Hid (Below w0.heap.size w0 wi)) (fun _ v _ => (intOf v).toNat)
      case atStart => exact ⟨s, m, rfl, rfl, by omega, by omega, T3, B3⟩
      case round =>
        clear T3 B3
        obtain ⟨xs, r, rfl, rfl, r0, hx, T, Bb⟩ := hrel
        by_cases hr : 0 < r
        · have hsz := T.out.lt
          have hxs : xs.length ≤ 200 := by omega
          go_wp2_with fail
          have TD := Lib.hid (T.out.drewN 1)
          have BD := Lib.hid (below_drewQ Bb.out 1)
          refine wp_region_D (S := fun _ => True) (st := 14) (by kernel_rfl) ?_
          refine wpAnyT_pure 0 ?v1 rfl (by kernel_rfl) (by kernel_rfl) (by kernel_rfl) (by kernel_rfl) (fun _ _ _ h => h) trivial rfl ?run1 ?rest1
          case run1 => intro w hS; go_simp; rfl
          refine wpAnyT_pure 2 ?v2 rfl (by kernel_rfl) (by kernel_rfl) (by kernel_rfl) (by kernel_rfl) (fun _ _ _ h => h) trivial rfl ?run2 ?rest2
          case run2 => intro w hS; go_simp; rfl
          refine wpAnyT_pure 8 ?v3 rfl (by kernel_rfl) (by kernel_rfl) (by kernel_rfl) (by kernel_rfl) (fun _ _ _ h => h) trivial rfl ?run3 ?rest3
          case run3 => intro w hS; go_simp; rfl
          refine wpAnyT_all (rs := [1, 3, 7]) (by kernel_rfl) (by decide) ?_
          intro ii hi
          have hi2 : ii = 1 ∨ ii = 3 ∨ ii = 7 := by simpa using hi
          clear hi
          rcases hi2 with rfl | rfl | rfl
          · skip
            refine wpOp_of_list rfl ?_
            go_wp2
            refine ⟨fun _ => trivial, ?_⟩
            obtain ⟨Y4, hY4⟩ : ∃ Y, (wr.drewN 1).alloc (.cells #[qs [32], qs [32, 32]] 9) = Y := ⟨_, rfl⟩
            rw [hY4]
            have T5 := Lib.hid (show TapeOk w0.heap.size Y4 w0.heap.size by rw [← hY4]; exact TD.out.alloc _)
            have B6 := Lib.hid (show Below w0.heap.size w0 Y4 by rw [← hY4]; exact BD.out.alloc BD.out.size _)
            have R7 : Hid (∀ j, Y4.cell? ⟨wr.heap.size, j, none⟩ = (#[qs [32], qs [32, 32]] : Array Value)[j]?) := Lib.hid (fun j => by rw [← hY4]; exact World.cell?_alloc_new _ _ _ _)
            have hl8 : wr.heap.size < Y4.heap.size := by rw [← hY4]; simp
            have hb9 : wr.heap.size ≠ w0.heap.size := by have h7 := TD.out.lt; have h8 : w0.heap.size < wr.heap.size := h7; omega
            clear hY4
            refine wpAnyT_all (rs := [3, 7]) (by kernel_rfl) (by decide) ?_
            intro ii hi
            have hi2 : ii = 3 ∨ ii = 7 := by simpa using hi
            clear hi
            rcases hi2 with rfl | rfl
            · skip
              refine wpOp_of_list rfl ?_
              go_wp2_with fail
              refine (next_pos T5.out 9 (by omega) (by omega)).mono ?_
              rintro e u10 ⟨ka, ka1, rfl, t4, b4⟩
              have T11 := Lib.hid t4
              have B12 := Lib.hid (B6.out.trans (b4.toBelow (Nat.le_refl _) B6.out.size))
              obtain ⟨qa, qa1, hqa, hqw⟩ := eight ka (by omega)
              have qa2 : (qa : Int) < 2 := by omega
              obtain ⟨sa, hsa, la⟩ := str_at #[qs [32], qs [32, 32]] 2 2 rfl rfl qa (by omega)
              have R13 : Hid (∀ j, u10.cell? ⟨wr.heap.size, j, none⟩ = (#[qs [32], qs [32, 32]] : Array Value)[j]?) := Lib.hid (fun j => (b4.cell wr.heap.size j hl8 hb9).trans (R7.out j))
              have hl14 : wr.heap.size < u10.heap.size := Nat.lt_of_lt_of_le hl8 b4.size
              clear t4 b4
              go_wp2
              refine ⟨fun _ => trivial, ?_⟩
              have hrow15 := (R13.out qa).trans hsa
              refine wpAnyT_pure 4 ?v16 rfl (by kernel_rfl) (by kernel_rfl) (by kernel_rfl) (by kernel_rfl) (fun _ _ _ h => h) trivial rfl ?run16 ?rest16
              case run16 => intro w hS; go_simp; rfl
              refine wpAnyT_pure 5 ?v17 rfl (by kernel_rfl) (by kernel_rfl) (by kernel_rfl) (by kernel_rfl) (fun _ _ _ h => h) trivial rfl ?run17 ?rest17
              case run17 => intro w hS; go_simp; rfl
              refine wpAnyT_all (rs := [6, 7, 9]) (by kernel_rfl) (by decide) ?_
              intro ii hi
              have hi2 : ii = 6 ∨ ii = 7 ∨ ii = 9 := by simpa using hi
              clear hi
              rcases hi2 with rfl | rfl | rfl
              · skip
                refine wpOp_of_list rfl ?_
                go_wp2
                refine ⟨fun _ => trivial, ?_⟩
                refine wpAnyT_all (rs := [7, 9]) (by kernel_rfl) (by decide) ?_
                intro ii hi
                have hi2 : ii = 7 ∨ ii = 9 := by simpa using hi
                clear hi
                rcases hi2 with rfl | rfl
                · skip
                  refine wpOp_of_list rfl ?_
                  go_wp2
                  refine ⟨fun _ => trivial, ?_⟩
                  obtain ⟨Y18, hY18⟩ : ∃ Y, (u10).alloc (.cells #[qs [97], qs [112], qs [108, 105, 118, 101], qs [117, 110, 105, 110, 105, 116], qs [51], qs [48], qs [49, 50], qs [49, 48, 52, 56, 53, 55, 55], qs [45, 49], qs [114, 101, 97, 99, 104], qs [57, 57, 57, 57, 57, 57, 57, 57, 57, 57, 57], qs []] 9) = Y := ⟨_, rfl⟩
                  rw [hY18]
                  have T19 := Lib.hid (show TapeOk w0.heap.size Y18 w0.heap.size by rw [← hY18]; exact T11.out.alloc _)
                  have B20 := Lib.hid (show Below w0.heap.size w0 Y18 by rw [← hY18]; exact B12.out.alloc B12.out.size _)
                  have R21 : Hid (∀ j, Y18.cell? ⟨u10.heap.size, j, none⟩ = (#[qs [97], qs [112], qs [108, 105, 118, 101], qs [117, 110, 105, 110, 105, 116], qs [51], qs [48], qs [49, 50], qs [49, 48, 52, 56, 53, 55, 55], qs [45, 49], qs [114, 101, 97, 99, 104], qs [57, 57, 57, 57, 57, 57, 57, 57, 57, 57, 57], qs []] : Array Value)[j]?) := Lib.hid (fun j => by rw [← hY18]; exact World.cell?_alloc_new _ _ _ _)
                  have hl22 : u10.heap.size < Y18.heap.size := by rw [← hY18]; simp
                  have hb23 : u10.heap.size ≠ w0.heap.size := by have h7 := T11.out.lt; have h8 : w0.heap.size < u10.heap.size := h7; omega
                  clear hY18
                  refine wpAnyT_all (rs := [9]) (by kernel_rfl) (by decide) ?_
                  intro ii hi
                  obtain rfl : ii = 9 := by simpa using hi
                  clear hi
                  refine wpOp_of_list rfl ?_
                  go_wp2_with fail
                  refine (next_pos T19.out 12 (by omega) (by omega)).mono ?_
                  rintro e u24 ⟨qb, qb1, rfl, t4, b4⟩
                  have T25 := Lib.hid t4
                  have B26 := Lib.hid (B20.out.trans (b4.toBelow (Nat.le_refl _) B20.out.size))
                  obtain ⟨sb, hsb, lb⟩ := str_at #[qs [97], qs [112], qs [108, 105, 118, 101], qs [117, 110, 105, 110, 105, 116], qs [51], qs [48], qs [49, 50], qs [49, 48, 52, 56, 53, 55, 55], qs [45, 49], qs [114, 101, 97, 99, 104], qs [57, 57, 57, 57, 57, 57, 57, 57, 57, 57, 57], qs []] 12 11 rfl rfl qb (by omega)
                  have hs1 : ¬ 9223372036854775807 < sa.length + sb.length := by omega
                  have hs2 : ¬ 9223372036854775807 < xs.length + (sa.length + sb.length) := by omega
                  have R27 : Hid (∀ j, u24.cell? ⟨u10.heap.size, j, none⟩ = (#[qs [97], qs [112], qs [108, 105, 118, 101], qs [117, 110, 105, 110, 105, 116], qs [51], qs [48], qs [49, 50], qs [49, 48, 52, 56, 53, 55, 55], qs [45, 49], qs [114, 101, 97, 99, 104], qs [57, 57, 57, 57, 57, 57, 57, 57, 57, 57, 57], qs []] : Array Value)[j]?) := Lib.hid (fun j => (b4.cell u10.heap.size j hl22 hb23).trans (R21.out j))
                  have hl28 : u10.heap.size < u24.heap.size := Nat.lt_of_lt_of_le hl22 b4.size
                  clear t4 b4
                  go_wp2
                  refine ⟨fun _ => trivial, ?_⟩
                  have hrow29 := (R27.out qb).trans hsb
                  refine wpAnyT_pure 10 ?v30 rfl (by kernel_rfl) (by kernel_rfl) (by kernel_rfl) (by kernel_rfl) (fun _ _ _ h => h) trivial rfl ?run30 ?rest30
                  case run30 => intro w hS; go_simp; rfl
                  refine wpAnyT_all (rs := [11]) (by kernel_rfl) (by decide) ?_
                  intro ii hi
                  obtain rfl : ii = 11 := by simpa using hi
                  clear hi
                  refine wpOp_of_list rfl ?_
                  go_wp2
                  refine ⟨fun _ => trivial, ?_⟩
                  refine wpAnyT_pure 12 ?v31 rfl (by kernel_rfl) (by kernel_rfl) (by kernel_rfl) (by kernel_rfl) (fun _ _ _ h => h) trivial rfl ?run31 ?rest31
                  case run31 => intro w hS; go_simp; rfl
                  refine wpAnyT_pure 13 ?v32 rfl (by kernel_rfl) (by kernel_rfl) (by kernel_rfl) (by kernel_rfl) (fun _ _ _ h => h) trivial rfl ?run32 ?rest32
                  case run32 => intro w hS; go_simp; rfl
                  refine wpAnyT_all (rs := [14]) (by kernel_rfl) (by decide) ?_
                  intro ii hi
                  obtain rfl : ii = 14 := by simpa using hi
                  clear hi
                  refine wpOp_of_list rfl ?_
                  go_wp2
                  refine ⟨fun h => absurd rfl h, ?_⟩
                  refine wpAnyT_done (by kernel_rfl) ?_ _
                  go_wp2
                  go_roundw
                  case rel => exact ⟨xs ++ (sa ++ sb), _, by simp [app_str], rfl, by omega, by simp only [List.length_append]; omega, T25, B26⟩
                  case measure => simp [intOf]; omega
                · skip
                  refine wpOp_of_list rfl ?_
                  go_wp2_with fail
                  refine (next_pos T11.out 12 (by omega) (by omega)).mono ?_
                  rintro e u33 ⟨qb, qb1, rfl, t4, b4⟩
                  have T34 := Lib.hid t4
                  have B35 := Lib.hid (B12.out.trans (b4.toBelow (Nat.le_refl _) B12.out.size))
                  obtain ⟨sb, hsb, lb⟩ := str_at #[qs [97], qs [112], qs [108, 105, 118, 101], qs [117, 110, 105, 110, 105, 116], qs [51], qs [48], qs [49, 50], qs [49, 48, 52, 56, 53, 55, 55], qs [45, 49], qs [114, 101, 97, 99, 104], qs [57, 57, 57, 57, 57, 57, 57, 57, 57, 57, 57], qs []] 12 11 rfl rfl qb (by omega)
                  have hs1 : ¬ 9223372036854775807 < sa.length + sb.length := by omega
                  have hs2 : ¬ 9223372036854775807 < xs.length + (sa.length + sb.length) := by omega
                  clear t4 b4
                  go_wp2
                  refine ⟨fun _ => trivial, ?_⟩
                  refine wpAnyT_all (rs := [7]) (by kernel_rfl) (by decide) ?_
                  intro ii hi
                  obtain rfl : ii = 7 := by simpa using hi
                  clear hi
                  refine wpOp_of_list rfl ?_
                  go_wp2
                  refine ⟨fun _ => trivial, ?_⟩
                  obtain ⟨Y36, hY36⟩ : ∃ Y, (u33).alloc (.cells #[qs [97], qs [112], qs [108, 105, 118, 101], qs [117, 110, 105, 110, 105, 116], qs [51], qs [48], qs [49, 50], qs [49, 48, 52, 56, 53, 55, 55], qs [45, 49], qs [114, 101, 97, 99, 104], qs [57, 57, 57, 57, 57, 57, 57, 57, 57, 57, 57], qs []] 9) = Y := ⟨_, rfl⟩
                  rw [hY36]
                  have T37 := Lib.hid (show TapeOk w0.heap.size Y36 w0.heap.size by rw [← hY36]; exact T34.out.alloc _)
                  have B38 := Lib.hid (show Below w0.heap.size w0 Y36 by rw [← hY36]; exact B35.out.alloc B35.out.size _)
                  have R39 : Hid (∀ j, Y36.cell? ⟨u33.heap.size, j, none⟩ = (#[qs [97], qs [112], qs [108, 105, 118, 101], qs [117, 110, 105, 110, 105, 116], qs [51], qs [48], qs [49, 50], qs [49, 48, 52, 56, 53, 55, 55], qs [45, 49], qs [114, 101, 97, 99, 104], qs [57, 57, 57, 57, 57, 57, 57, 57, 57, 57, 57], qs []] : Array Value)[j]?) := Lib.hid (fun j => by rw [← hY36]; exact World.cell?_alloc_new _ _ _ _)
                  have hl40 : u33.heap.size < Y36.heap.size := by rw [← hY36]; simp
                  have hb41 : u33.heap.size ≠ w0.heap.size := by have h7 := T34.out.lt; have h8 : w0.heap.size < u33.heap.size := h7; omega
                  clear hY36
                  have hrow42 := (R39.out qb).trans hsb
                  refine wpAnyT_pure 10 ?v43 rfl (by kernel_rfl) (by kernel_rfl) (by kernel_rfl) (by kernel_rfl) (fun _ _ _ h => h) trivial rfl ?run43 ?rest43
                  case run43 => intro w hS; go_simp; rfl
                  refine wpAnyT_all (rs := [11]) (by kernel_rfl) (by decide) ?_
                  intro ii hi
                  obtain rfl : ii = 11 := by simpa using hi
                  clear hi
                  refine wpOp_of_list rfl ?_
                  go_wp2
                  refine ⟨fun _ => trivial, ?_⟩
                  refine wpAnyT_pure 12 ?v44 rfl (by kernel_rfl) (by kernel_rfl) (by kernel_rfl) (by kernel_rfl) (fun _ _ _ h => h) trivial rfl ?run44 ?rest44
                  case run44 => intro w hS; go_simp; rfl
                  refine wpAnyT_pure 13 ?v45 rfl (by kernel_rfl) (by kernel_rfl) (by kernel_rfl) (by kernel_rfl) (fun _ _ _ h => h) trivial rfl ?run45 ?rest45
                  case run45 => intro w hS; go_simp; rfl
                  refine wpAnyT_all (rs := [14]) (by kernel_rfl) (by decide) ?_
                  intro ii hi
                  obtain rfl : ii = 14 := by simpa using hi
                  clear hi
                  refine wpOp_of_list rfl ?_
                  go_wp2
                  refine ⟨fun h => absurd rfl h, ?_⟩
                  refine wpAnyT_done (by kernel_rfl) ?_ _
                  go_wp2
                  go_roundw
                  case rel => exact ⟨xs ++ (sa ++ sb), _, by simp [app_str], rfl, by omega, by simp only [List.length_append]; omega, T37, B38⟩
                  case measure => simp [intOf]; omega
              · skip
                refine wpOp_of_list rfl ?_
                go_wp2
                refine ⟨fun _ => trivial, ?_⟩
                obtain ⟨Y46, hY46⟩ : ∃ Y, (u10).alloc (.cells #[qs [97], qs [112], qs [108, 105, 118, 101], qs [117, 110, 105, 110, 105, 116], qs [51], qs [48], qs [49, 50], qs [49, 48, 52, 56, 53, 55, 55], qs [45, 49], qs [114, 101, 97, 99, 104], qs [57, 57, 57, 57, 57, 57, 57, 57, 57, 57, 57], qs []] 9) = Y := ⟨_, rfl⟩
                rw [hY46]
                have T47 := Lib.hid (show TapeOk w0.heap.size Y46 w0.heap.size by rw [← hY46]; exact T11.out.alloc _)
                have B48 := Lib.hid (show Below w0.heap.size w0 Y46 by rw [← hY46]; exact B12.out.alloc B12.out.size _)
                have R52 : Hid (∀ j, Y46.cell? ⟨wr.heap.size, j, none⟩ = (#[qs [32], qs [32, 32]] : Array Value)[j]?) := Lib.hid (fun j => by rw [← hY46]; exact (((Below.refl (u10).heap.size (u10)).alloc (Nat.le_refl _) _).cell (p := ⟨wr.heap.size, j, none⟩) hl14).trans (R13.out j))
                have hl53 : wr.heap.size < Y46.heap.size := by rw [← hY46]; have h7 : wr.heap.size < (u10).heap.size := hl14; simp at h7 ⊢; omega
                have R49 : Hid (∀ j, Y46.cell? ⟨u10.heap.size, j, none⟩ = (#[qs [97], qs [112], qs [108, 105, 118, 101], qs [117, 110, 105, 110, 105, 116], qs [51], qs [48], qs [49, 50], qs [49, 48, 52, 56, 53, 55, 55], qs [45, 49], qs [114, 101, 97, 99, 104], qs [57, 57, 57, 57, 57, 57, 57, 57, 57, 57, 57], qs []] : Array Value)[j]?) := Lib.hid (fun j => by rw [← hY46]; exact World.cell?_alloc_new _ _ _ _)
                have hl50 : u10.heap.size < Y46.heap.size := by rw [← hY46]; simp
                have hb51 : u10.heap.size ≠ w0.heap.size := by have h7 := T11.out.lt; have h8 : w0.heap.size < u10.heap.size := h7; omega
                clear hY46
                have hrow54 := (R52.out qa).trans hsa
                refine wpAnyT_all (rs := [6, 9]) (by kernel_rfl) (by decide) ?_
                intro ii hi
                have hi2 : ii = 6 ∨ ii = 9 := by simpa using hi
                clear hi
                rcases hi2 with rfl | rfl
                · skip
                  refine wpOp_of_list rfl ?_
                  go_wp2
                  refine ⟨fun _ => trivial, ?_⟩
                  refine wpAnyT_all (rs := [9]) (by kernel_rfl) (by decide) ?_
                  intro ii hi
                  obtain rfl : ii = 9 := by simpa using hi
                  clear hi
                  refine wpOp_of_list rfl ?_
                  go_wp2_with fail
                  refine (next_pos T47.out 12 (by omega) (by omega)).mono ?_
                  rintro e u55 ⟨qb, qb1, rfl, t4, b4⟩
                  have T56 := Lib.hid t4
                  have B57 := Lib.hid (B48.out.trans (b4.toBelow (Nat.le_refl _) B48.out.size))
                  obtain ⟨sb, hsb, lb⟩ := str_at #[qs [97], qs [112], qs [108, 105, 118, 101], qs [117, 110, 105, 110, 105, 116], qs [51], qs [48], qs [49, 50], qs [49, 48, 52, 56, 53, 55, 55], qs [45, 49], qs [114, 101, 97, 99, 104], qs [57, 57, 57, 57, 57, 57, 57, 57, 57, 57, 57], qs []] 12 11 rfl rfl qb (by omega)
                  have hs1 : ¬ 9223372036854775807 < sa.length + sb.length := by omega
                  have hs2 : ¬ 9223372036854775807 < xs.length + (sa.length + sb.length) := by omega
                  have R58 : Hid (∀ j, u55.cell? ⟨u10.heap.size, j, none⟩ = (#[qs [97], qs [112], qs [108, 105, 118, 101], qs [117, 110, 105, 110, 105, 116], qs [51], qs [48], qs [49, 50], qs [49, 48, 52, 56, 53, 55, 55], qs [45, 49], qs [114, 101, 97, 99, 104], qs [57, 57, 57, 57, 57, 57, 57, 57, 57, 57, 57], qs []] : Array Value)[j]?) := Lib.hid (fun j => (b4.cell u10.heap.size j hl50 hb51).trans (R49.out j))
                  have hl59 : u10.heap.size < u55.heap.size := Nat.lt_of_lt_of_le hl50 b4.size
                  clear t4 b4
                  go_wp2
                  refine ⟨fun _ => trivial, ?_⟩
                  have hrow60 := (R58.out qb).trans hsb
                  refine wpAnyT_pure 10 ?v61 rfl (by kernel_rfl) (by kernel_rfl) (by kernel_rfl) (by kernel_rfl) (fun _ _ _ h => h) trivial rfl ?run61 ?rest61
                  case run61 => intro w hS; go_simp; rfl
                  refine wpAnyT_all (rs := [11]) (by kernel_rfl) (by decide) ?_
                  intro ii hi
                  obtain rfl : ii = 11 := by simpa using hi
                  clear hi
                  refine wpOp_of_list rfl ?_
                  go_wp2
                  refine ⟨fun _ => trivial, ?_⟩
                  refine wpAnyT_pure 12 ?v62 rfl (by kernel_rfl) (by kernel_rfl) (by kernel_rfl) (by kernel_rfl) (fun _ _ _ h => h) trivial rfl ?run62 ?rest62
                  case run62 => intro w hS; go_simp; rfl
                  refine wpAnyT_pure 13 ?v63 rfl (by kernel_rfl) (by kernel_rfl) (by kernel_rfl) (by kernel_rfl) (fun _ _ _ h => h) trivial rfl ?run63 ?rest63
                  case run63 => intro w hS; go_simp; rfl
                  refine wpAnyT_all (rs := [14]) (by kernel_rfl) (by decide) ?_
                  intro ii hi
                  obtain rfl : ii = 14 := by simpa using hi
                  clear hi
                  refine wpOp_of_list rfl ?_
                  go_wp2
                  refine ⟨fun h => absurd rfl h, ?_⟩
                  refine wpAnyT_done (by kernel_rfl) ?_ _
                  go_wp2
                  go_roundw
                  case rel => exact ⟨xs ++ (sa ++ sb), _, by simp [app_str], rfl, by omega, by simp only [List.length_append]; omega, T56, B57⟩
                  case measure => simp [intOf]; omega
                · skip
                  refine wpOp_of_list rfl ?_
                  go_wp2_with fail
                  refine (next_pos T47.out 12 (by omega) (by omega)).mono ?_
                  rintro e u64 ⟨qb, qb1, rfl, t4, b4⟩
                  have T65 := Lib.hid t4
                  have B66 := Lib.hid (B48.out.trans (b4.toBelow (Nat.le_refl _) B48.out.size))
                  obtain ⟨sb, hsb, lb⟩ := str_at #[qs [97], qs [112], qs [108, 105, 118, 101], qs [117, 110, 105, 110, 105, 116], qs [51], qs [48], qs [49, 50], qs [49, 48, 52, 56, 53, 55, 55], qs [45, 49], qs [114, 101, 97, 99, 104], qs [57, 57, 57, 57, 57, 57, 57, 57, 57, 57, 57], qs []] 12 11 rfl rfl qb (by omega)
                  have hs1 : ¬ 9223372036854775807 < sa.length + sb.length := by omega
                  have hs2 : ¬ 9223372036854775807 < xs.length + (sa.length + sb.length) := by omega
                  have R67 : Hid (∀ j, u64.cell? ⟨wr.heap.size, j, none⟩ = (#[qs [32], qs [32, 32]] : Array Value)[j]?) := Lib.hid (fun j => (b4.cell wr.heap.size j hl53 hb9).trans (R52.out j))
                  have hl68 : wr.heap.size < u64.heap.size := Nat.lt_of_lt_of_le hl53 b4.size
                  have R69 : Hid (∀ j, u64.cell? ⟨u10.heap.size, j, none⟩ = (#[qs [97], qs [112], qs [108, 105, 118, 101], qs [117, 110, 105, 110, 105, 116], qs [51], qs [48], qs [49, 50], qs [49, 48, 52, 56, 53, 55, 55], qs [45, 49], qs [114, 101, 97, 99, 104], qs [57, 57, 57, 57, 57, 57, 57, 57, 57, 57, 57], qs []] : Array Value)[j]?) := Lib.hid (fun j => (b4.cell u10.heap.size j hl50 hb51).trans (R49.out j))
                  have hl70 : u10.heap.size < u64.heap.size := Nat.lt_of_lt_of_le hl50 b4.size
                  clear t4 b4
                  go_wp2
                  refine ⟨fun _ => trivial, ?_⟩
                  have hrow71 := (R67.out qa).trans hsa
                  have hrow72 := (R69.out qb).trans hsb
                  refine wpAnyT_pure 10 ?v73 rfl (by kernel_rfl) (by kernel_rfl) (by kernel_rfl) (by kernel_rfl) (fun _ _ _ h => h) trivial rfl ?run73 ?rest73
                  case run73 => intro w hS; go_simp; rfl
                  refine wpAnyT_all (rs := [6, 11]) (by kernel_rfl) (by decide) ?_
                  intro ii hi
                  have hi2 : ii = 6 ∨ ii = 11 := by simpa using hi
                  clear hi
                  rcases hi2 with rfl | rfl
                  · skip
                    refine wpOp_of_list rfl ?_
                    go_wp2
                    refine ⟨fun _ => trivial, ?_⟩
                    refine wpAnyT_all (rs := [11]) (by kernel_rfl) (by decide) ?_
                    intro ii hi
                    obtain rfl : ii = 11 := by simpa using hi
                    clear hi
                    refine wpOp_of_list rfl ?_
                    go_wp2
                    refine ⟨fun _ => trivial, ?_⟩
                    refine wpAnyT_pure 12 ?v74 rfl (by kernel_rfl) (by kernel_rfl) (by kernel_rfl) (by kernel_rfl) (fun _ _ _ h => h) trivial rfl ?run74 ?rest74
                    case run74 => intro w hS; go_simp; rfl
                    refine wpAnyT_pure 13 ?v75 rfl (by kernel_rfl) (by kernel_rfl) (by kernel_rfl) (by kernel_rfl) (fun _ _ _ h => h) trivial rfl ?run75 ?rest75
                    case run75 => intro w hS; go_simp; rfl
                    refine wpAnyT_all (rs := [14]) (by kernel_rfl) (by decide) ?_
                    intro ii hi
                    obtain rfl : ii = 14 := by simpa using hi
                    clear hi
                    refine wpOp_of_list rfl ?_
                    go_wp2
                    refine ⟨fun h => absurd rfl h, ?_⟩
                    refine wpAnyT_done (by kernel_rfl) ?_ _
                    go_wp2
                    go_roundw
                    case rel => exact ⟨xs ++ (sa ++ sb), _, by simp [app_str], rfl, by omega, by simp only [List.length_append]; omega, T65, B66⟩
                    case measure => simp [intOf]; omega
                  · skip
                    refine wpOp_of_list rfl ?_
                    go_wp2
                    refine ⟨fun _ => trivial, ?_⟩
                    refine wpAnyT_all (rs := [6]) (by kernel_rfl) (by decide) ?_
                    intro ii hi
                    obtain rfl : ii = 6 := by simpa using hi
                    clear hi
                    refine wpOp_of_list rfl ?_
                    go_wp2
                    refine ⟨fun _ => trivial, ?_⟩
                    refine wpAnyT_pure 12 ?v76 rfl (by kernel_rfl) (by kernel_rfl) (by kernel_rfl) (by kernel_rfl) (fun _ _ _ h => h) trivial rfl ?run76 ?rest76
                    case run76 => intro w hS; go_simp; rfl
                    refine wpAnyT_pure 13 ?v77 rfl (by kernel_rfl) (by kernel_rfl) (by kernel_rfl) (by kernel_rfl) (fun _ _ _ h => h) trivial rfl ?run77 ?rest77
                    case run77 => intro w hS; go_simp; rfl
                    refine wpAnyT_all (rs := [14]) (by kernel_rfl) (by decide) ?_
                    intro ii hi
                    obtain rfl : ii = 14 := by simpa using hi
                    clear hi
                    refine wpOp_of_list rfl ?_
                    go_wp2
                    refine ⟨fun h => absurd rfl h, ?_⟩
                    refine wpAnyT_done (by kernel_rfl) ?_ _
                    go_wp2
                    go_roundw
                    case rel => exact ⟨xs ++ (sa ++ sb), _, by simp [app_str], rfl, by omega, by simp only [List.length_append]; omega, T65, B66⟩
                    case measure => simp [intOf]; omega
              · skip
                refine wpOp_of_list rfl ?_
                go_wp2_with fail
                refine (next_pos T11.out 12 (by omega) (by omega)).mono ?_
                rintro e u78 ⟨qb, qb1, rfl, t4, b4⟩
                have T79 := Lib.hid t4
                have B80 := Lib.hid (B12.out.trans (b4.toBelow (Nat.le_refl _) B12.out.size))
                obtain ⟨sb, hsb, lb⟩ := str_at #[qs [97], qs [112], qs [108, 105, 118, 101], qs [117, 110, 105, 110, 105, 116], qs [51], qs [48], qs [49, 50], qs [49, 48, 52, 56, 53, 55, 55], qs [45, 49], qs [114, 101, 97, 99, 104], qs [57, 57, 57, 57, 57, 57, 57, 57, 57, 57, 57], qs []] 12 11 rfl rfl qb (by omega)
                have hs1 : ¬ 9223372036854775807 < sa.length + sb.length := by omega
                have hs2 : ¬ 9223372036854775807 < xs.length + (sa.length + sb.length) := by omega
                have R81 : Hid (∀ j, u78.cell? ⟨wr.heap.size, j, none⟩ = (#[qs [32], qs [32, 32]] : Array Value)[j]?) := Lib.hid (fun j => (b4.cell wr.heap.size j hl14 hb9).trans (R13.out j))
                have hl82 : wr.heap.size < u78.heap.size := Nat.lt_of_lt_of_le hl14 b4.size
                clear t4 b4
                go_wp2
                refine ⟨fun _ => trivial, ?_⟩
                have hrow83 := (R81.out qa).trans hsa
                refine wpAnyT_all (rs := [6, 7]) (by kernel_rfl) (by decide) ?_
                intro ii hi
                have hi2 : ii = 6 ∨ ii = 7 := by simpa using hi
                clear hi
                rcases hi2 with rfl | rfl
                · skip
                  refine wpOp_of_list rfl ?_
                  go_wp2
                  refine ⟨fun _ => trivial, ?_⟩
                  refine wpAnyT_all (rs := [7]) (by kernel_rfl) (by decide) ?_
                  intro ii hi
                  obtain rfl : ii = 7 := by simpa using hi
                  clear hi
                  refine wpOp_of_list rfl ?_
                  go_wp2
                  refine ⟨fun _ => trivial, ?_⟩
                  obtain ⟨Y84, hY84⟩ : ∃ Y, (u78).alloc (.cells #[qs [97], qs [112], qs [108, 105, 118, 101], qs [117, 110, 105, 110, 105, 116], qs [51], qs [48], qs [49, 50], qs [49, 48, 52, 56, 53, 55, 55], qs [45, 49], qs [114, 101, 97, 99, 104], qs [57, 57, 57, 57, 57, 57, 57, 57, 57, 57, 57], qs []] 9) = Y := ⟨_, rfl⟩
                  rw [hY84]
                  have T85 := Lib.hid (show TapeOk w0.heap.size Y84 w0.heap.size by rw [← hY84]; exact T79.out.alloc _)
                  have B86 := Lib.hid (show Below w0.heap.size w0 Y84 by rw [← hY84]; exact B80.out.alloc B80.out.size _)
                  have R87 : Hid (∀ j, Y84.cell? ⟨u78.heap.size, j, none⟩ = (#[qs [97], qs [112], qs [108, 105, 118, 101], qs [117, 110, 105, 110, 105, 116], qs [51], qs [48], qs [49, 50], qs [49, 48, 52, 56, 53, 55, 55], qs [45, 49], qs [114, 101, 97, 99, 104], qs [57, 57, 57, 57, 57, 57, 57, 57, 57, 57, 57], qs []] : Array Value)[j]?) := Lib.hid (fun j => by rw [← hY84]; exact World.cell?_alloc_new _ _ _ _)
                  have hl88 : u78.heap.size < Y84.heap.size := by rw [← hY84]; simp
                  have hb89 : u78.heap.size ≠ w0.heap.size := by have h7 := T79.out.lt; have h8 : w0.heap.size < u78.heap.size := h7; omega
                  clear hY84
                  have hrow90 := (R87.out qb).trans hsb
                  refine wpAnyT_pure 10 ?v91 rfl (by kernel_rfl) (by kernel_rfl) (by kernel_rfl) (by kernel_rfl) (fun _ _ _ h => h) trivial rfl ?run91 ?rest91
                  case run91 => intro w hS; go_simp; rfl
                  refine wpAnyT_all (rs := [11]) (by kernel_rfl) (by decide) ?_
                  intro ii hi
                  obtain rfl : ii = 11 := by simpa using hi
                  clear hi
                  refine wpOp_of_list rfl ?_
                  go_wp2
                  refine ⟨fun _ => trivial, ?_⟩
                  refine wpAnyT_pure 12 ?v92 rfl (by kernel_rfl) (by kernel_rfl) (by kernel_rfl) (by kernel_rfl) (fun _ _ _ h => h) trivial rfl ?run92 ?rest92
                  case run92 => intro w hS; go_simp; rfl
                  refine wpAnyT_pure 13 ?v93 rfl (by kernel_rfl) (by kernel_rfl) (by kernel_rfl) (by kernel_rfl) (fun _ _ _ h => h) trivial rfl ?run93 ?rest93
                  case run93 => intro w hS; go_simp; rfl
                  refine wpAnyT_all (rs := [14]) (by kernel_rfl) (by decide) ?_
                  intro ii hi
                  obtain rfl : ii = 14 := by simpa using hi
                  clear hi
                  refine wpOp_of_list rfl ?_
                  go_wp2
                  refine ⟨fun h => absurd rfl h, ?_⟩
                  refine wpAnyT_done (by kernel_rfl) ?_ _
                  go_wp2
                  go_roundw
                  case rel => exact ⟨xs ++ (sa ++ sb), _, by simp [app_str], rfl, by omega, by simp only [List.length_append]; omega, T85, B86⟩
                  case measure => simp [intOf]; omega
                · skip
                  refine wpOp_of_list rfl ?_
                  go_wp2
                  refine ⟨fun _ => trivial, ?_⟩
                  obtain ⟨Y94, hY94⟩ : ∃ Y, (u78).alloc (.cells #[qs [97], qs [112], qs [108, 105, 118, 101], qs [117, 110, 105, 110, 105, 116], qs [51], qs [48], qs [49, 50], qs [49, 48, 52, 56, 53, 55, 55], qs [45, 49], qs [114, 101, 97, 99, 104], qs [57, 57, 57, 57, 57, 57, 57, 57, 57, 57, 57], qs []] 9) = Y := ⟨_, rfl⟩
                  rw [hY94]
                  have T95 := Lib.hid (show TapeOk w0.heap.size Y94 w0.heap.size by rw [← hY94]; exact T79.out.alloc _)
                  have B96 := Lib.hid (show Below w0.heap.size w0 Y94 by rw [← hY94]; exact B80.out.alloc B80.out.size _)
                  have R100 : Hid (∀ j, Y94.cell? ⟨wr.heap.size, j, none⟩ = (#[qs [32], qs [32, 32]] : Array Value)[j]?) := Lib.hid (fun j => by rw [← hY94]; exact (((Below.refl (u78).heap.size (u78)).alloc (Nat.le_refl _) _).cell (p := ⟨wr.heap.size, j, none⟩) hl82).trans (R81.out j))
                  have hl101 : wr.heap.size < Y94.heap.size := by rw [← hY94]; have h7 : wr.heap.size < (u78).heap.size := hl82; simp at h7 ⊢; omega
                  have R97 : Hid (∀ j, Y94.cell? ⟨u78.heap.size, j, none⟩ = (#[qs [97], qs [112], qs [108, 105, 118, 101], qs [117, 110, 105, 110, 105, 116], qs [51], qs [48], qs [49, 50], qs [49, 48, 52, 56, 53, 55, 55], qs [45, 49], qs [114, 101, 97, 99, 104], qs [57, 57, 57, 57, 57, 57, 57, 57, 57, 57, 57], qs []] : Array Value)[j]?) := Lib.hid (fun j => by rw [← hY94]; exact World.cell?_alloc_new _ _ _ _)
                  have hl98 : u78.heap.size < Y94.heap.size := by rw [← hY94]; simp
                  have hb99 : u78.heap.size ≠ w0.heap.size := by have h7 := T79.out.lt; have h8 : w0.heap.size < u78.heap.size := h7; omega
                  clear hY94
                  have hrow102 := (R100.out qa).trans hsa
                  have hrow103 := (R97.out qb).trans hsb
                  refine wpAnyT_pure 10 ?v104 rfl (by kernel_rfl) (by kernel_rfl) (by kernel_rfl) (by kernel_rfl) (fun _ _ _ h => h) trivial rfl ?run104 ?rest104
                  case run104 => intro w hS; go_simp; rfl
                  refine wpAnyT_all (rs := [6, 11]) (by kernel_rfl) (by decide) ?_
                  intro ii hi
                  have hi2 : ii = 6 ∨ ii = 11 := by simpa using hi
                  clear hi
                  rcases hi2 with rfl | rfl
                  · skip
                    refine wpOp_of_list rfl ?_
                    go_wp2
                    refine ⟨fun _ => trivial, ?_⟩
                    refine wpAnyT_all (rs := [11]) (by kernel_rfl) (by decide) ?_
                    intro ii hi
                    obtain rfl : ii = 11 := by simpa using hi
                    clear hi
                    refine wpOp_of_list rfl ?_
                    go_wp2
                    refine ⟨fun _ => trivial, ?_⟩
                    refine wpAnyT_pure 12 ?v105 rfl (by kernel_rfl) (by kernel_rfl) (by kernel_rfl) (by kernel_rfl) (fun _ _ _ h => h) trivial rfl ?run105 ?rest105
                    case run105 => intro w hS; go_simp; rfl
                    refine wpAnyT_pure 13 ?v106 rfl (by kernel_rfl) (by kernel_rfl) (by kernel_rfl) (by kernel_rfl) (fun _ _ _ h => h) trivial rfl ?run106 ?rest106
                    case run106 => intro w hS; go_simp; rfl
                    refine wpAnyT_all (rs := [14]) (by kernel_rfl) (by decide) ?_
                    intro ii hi
                    obtain rfl : ii = 14 := by simpa using hi
                    clear hi
                    refine wpOp_of_list rfl ?_
                    go_wp2
                    refine ⟨fun h => absurd rfl h, ?_⟩
                    refine wpAnyT_done (by kernel_rfl) ?_ _
                    go_wp2
                    go_roundw
                    case rel => exact ⟨xs ++ (sa ++ sb), _, by simp [app_str], rfl, by omega, by simp only [List.length_append]; omega, T95, B96⟩
                    case measure => simp [intOf]; omega
                  · skip
                    refine wpOp_of_list rfl ?_
                    go_wp2
                    refine ⟨fun _ => trivial, ?_⟩
                    refine wpAnyT_all (rs := [6]) (by kernel_rfl) (by decide) ?_
                    intro ii hi
                    obtain rfl : ii = 6 := by simpa using hi
                    clear hi
                    refine wpOp_of_list rfl ?_
                    go_wp2
                    refine ⟨fun _ => trivial, ?_⟩
                    refine wpAnyT_pure 12 ?v107 rfl (by kernel_rfl) (by kernel_rfl) (by kernel_rfl) (by kernel_rfl) (fun _ _ _ h => h) trivial rfl ?run107 ?rest107
                    case run107 => intro w hS; go_simp; rfl
                    refine wpAnyT_pure 13 ?v108 rfl (by kernel_rfl) (by kernel_rfl) (by kernel_rfl) (by kernel_rfl) (fun _ _ _ h => h) trivial rfl ?run108 ?rest108
                    case run108 => intro w hS; go_simp; rfl
                    refine wpAnyT_all (rs := [14]) (by kernel_rfl) (by decide) ?_
                    intro ii hi
                    obtain rfl : ii = 14 := by simpa using hi
                    clear hi
                    refine wpOp_of_list rfl ?_
                    go_wp2
                    refine ⟨fun h => absurd rfl h, ?_⟩
                    refine wpAnyT_done (by kernel_rfl) ?_ _
                    go_wp2
                    go_roundw
                    case rel => exact ⟨xs ++ (sa ++ sb), _, by simp [app_str], rfl, by omega, by simp only [List.length_append]; omega, T95, B96⟩
                    case measure => simp [intOf]; omega
            · skip
              refine wpOp_of_list rfl ?_
              go_wp2
              refine ⟨fun _ => trivial, ?_⟩
              obtain ⟨Y109, hY109⟩ : ∃ Y, (Y4).alloc (.cells #[qs [97], qs [112], qs [108, 105, 118, 101], qs [117, 110, 105, 110, 105, 116], qs [51], qs [48], qs [49, 50], qs [49, 48, 52, 56, 53, 55, 55], qs [45, 49], qs [114, 101, 97, 99, 104], qs [57, 57, 57, 57, 57, 57, 57, 57, 57, 57, 57], qs []] 9) = Y := ⟨_, rfl⟩
              rw [hY109]
              have T110 := Lib.hid (show TapeOk w0.heap.size Y109 w0.heap.size by rw [← hY109]; exact T5.out.alloc _)
              have B111 := Lib.hid (show Below w0.heap.size w0 Y109 by rw [← hY109]; exact B6.out.alloc B6.out.size _)
              have R115 : Hid (∀ j, Y109.cell? ⟨wr.heap.size, j, none⟩ = (#[qs [32], qs [32, 32]] : Array Value)[j]?) := Lib.hid (fun j => by rw [← hY109]; exact (((Below.refl (Y4).heap.size (Y4)).alloc (Nat.le_refl _) _).cell (p := ⟨wr.heap.size, j, none⟩) hl8).trans (R7.out j))
              have hl116 : wr.heap.size < Y109.heap.size := by rw [← hY109]; have h7 : wr.heap.size < (Y4).heap.size := hl8; simp at h7 ⊢; omega
              have R112 : Hid (∀ j, Y109.cell? ⟨Y4.heap.size, j, none⟩ = (#[qs [97], qs [112], qs [108, 105, 118, 101], qs [117, 110, 105, 110, 105, 116], qs [51], qs [48], qs [49, 50], qs [49, 48, 52, 56, 53, 55, 55], qs [45, 49], qs [114, 101, 97, 99, 104], qs [57, 57, 57, 57, 57, 57, 57, 57, 57, 57, 57], qs []] : Array Value)[j]?) := Lib.hid (fun j => by rw [← hY109]; exact World.cell?_alloc_new _ _ _ _)
              have hl113 : Y4.heap.size < Y109.heap.size := by rw [← hY109]; simp
              have hb114 : Y4.heap.size ≠ w0.heap.size := by have h7 := T5.out.lt; have h8 : w0.heap.size < Y4.heap.size := h7; omega
              clear hY109
              refine wpAnyT_all (rs := [3]) (by kernel_rfl) (by decide) ?_
              intro ii hi
              obtain rfl : ii = 3 := by simpa using hi
              clear hi
              refine wpOp_of_list rfl ?_
              go_wp2_with fail
              refine (next_pos T110.out 9 (by omega) (by omega)).mono ?_
              rintro e u117 ⟨ka, ka1, rfl, t4, b4⟩
              have T118 := Lib.hid t4
              have B119 := Lib.hid (B111.out.trans (b4.toBelow (Nat.le_refl _) B111.out.size))
              obtain ⟨qa, qa1, hqa, hqw⟩ := eight ka (by omega)
              have qa2 : (qa : Int) < 2 := by omega
              obtain ⟨sa, hsa, la⟩ := str_at #[qs [32], qs [32, 32]] 2 2 rfl rfl qa (by omega)
              have R120 : Hid (∀ j, u117.cell? ⟨wr.heap.size, j, none⟩ = (#[qs [32], qs [32, 32]] : Array Value)[j]?) := Lib.hid (fun j => (b4.cell wr.heap.size j hl116 hb9).trans (R115.out j))
              have hl121 : wr.heap.size < u117.heap.size := Nat.lt_of_lt_of_le hl116 b4.size
              have R122 : Hid (∀ j, u117.cell? ⟨Y4.heap.size, j, none⟩ = (#[qs [97], qs [112], qs [108, 105, 118, 101], qs [117, 110, 105, 110, 105, 116], qs [51], qs [48], qs [49, 50], qs [49, 48, 52, 56, 53, 55, 55], qs [45, 49], qs [114, 101, 97, 99, 104], qs [57, 57, 57, 57, 57, 57, 57, 57, 57, 57, 57], qs []] : Array Value)[j]?) := Lib.hid (fun j => (b4.cell Y4.heap.size j hl113 hb114).trans (R112.out j))
              have hl123 : Y4.heap.size < u117.heap.size := Nat.lt_of_lt_of_le hl113 b4.size
              clear t4 b4
              go_wp2
              refine ⟨fun _ => trivial, ?_⟩
              have hrow124 := (R120.out qa).trans hsa
              refine wpAnyT_pure 4 ?v125 rfl (by kernel_rfl) (by kernel_rfl) (by kernel_rfl) (by kernel_rfl) (fun _ _ _ h => h) trivial rfl ?run125 ?rest125
              case run125 => intro w hS; go_simp; rfl
              refine wpAnyT_pure 5 ?v126 rfl (by kernel_rfl) (by kernel_rfl) (by kernel_rfl) (by kernel_rfl) (fun _ _ _ h => h) trivial rfl ?run126 ?rest126
              case run126 => intro w hS; go_simp; rfl
              refine wpAnyT_all (rs := [6, 9]) (by kernel_rfl) (by decide) ?_
              intro ii hi
              have hi2 : ii = 6 ∨ ii = 9 := by simpa using hi
              clear hi
              rcases hi2 with rfl | rfl
              · skip
                refine wpOp_of_list rfl ?_
                go_wp2
                refine ⟨fun _ => trivial, ?_⟩
                refine wpAnyT_all (rs := [9]) (by kernel_rfl) (by decide) ?_
                intro ii hi
                obtain rfl : ii = 9 := by simpa using hi
                clear hi
                refine wpOp_of_list rfl ?_
                go_wp2_with fail
                refine (next_pos T118.out 12 (by omega) (by omega)).mono ?_
                rintro e u127 ⟨qb, qb1, rfl, t4, b4⟩
                have T128 := Lib.hid t4
                have B129 := Lib.hid (B119.out.trans (b4.toBelow (Nat.le_refl _) B119.out.size))
                obtain ⟨sb, hsb, lb⟩ := str_at #[qs [97], qs [112], qs [108, 105, 118, 101], qs [117, 110, 105, 110, 105, 116], qs [51], qs [48], qs [49, 50], qs [49, 48, 52, 56, 53, 55, 55], qs [45, 49], qs [114, 101, 97, 99, 104], qs [57, 57, 57, 57, 57, 57, 57, 57, 57, 57, 57], qs []] 12 11 rfl rfl qb (by omega)
                have hs1 : ¬ 9223372036854775807 < sa.length + sb.length := by omega
                have hs2 : ¬ 9223372036854775807 < xs.length + (sa.length + sb.length) := by omega
                have R130 : Hid (∀ j, u127.cell? ⟨Y4.heap.size, j, none⟩ = (#[qs [97], qs [112], qs [108, 105, 118, 101], qs [117, 110, 105, 110, 105, 116], qs [51], qs [48], qs [49, 50], qs [49, 48, 52, 56, 53, 55, 55], qs [45, 49], qs [114, 101, 97, 99, 104], qs [57, 57, 57, 57, 57, 57, 57, 57, 57, 57, 57], qs []] : Array Value)[j]?) := Lib.hid (fun j => (b4.cell Y4.heap.size j hl123 hb114).trans (R122.out j))
                have hl131 : Y4.heap.size < u127.heap.size := Nat.lt_of_lt_of_le hl123 b4.size
                clear t4 b4
                go_wp2
                refine ⟨fun _ => trivial, ?_⟩
                have hrow132 := (R130.out qb).trans hsb
                refine wpAnyT_pure 10 ?v133 rfl (by kernel_rfl) (by kernel_rfl) (by kernel_rfl) (by kernel_rfl) (fun _ _ _ h => h) trivial rfl ?run133 ?rest133
                case run133 => intro w hS; go_simp; rfl
                refine wpAnyT_all (rs := [11]) (by kernel_rfl) (by decide) ?_
                intro ii hi
                obtain rfl : ii = 11 := by simpa using hi
                clear hi
                refine wpOp_of_list rfl ?_
                go_wp2
                refine ⟨fun _ => trivial, ?_⟩
                refine wpAnyT_pure 12 ?v134 rfl (by kernel_rfl) (by kernel_rfl) (by kernel_rfl) (by kernel_rfl) (fun _ _ _ h => h) trivial rfl ?run134 ?rest134
                case run134 => intro w hS; go_simp; rfl
                refine wpAnyT_pure 13 ?v135 rfl (by kernel_rfl) (by kernel_rfl) (by kernel_rfl) (by kernel_rfl) (fun _ _ _ h => h) trivial rfl ?run135 ?rest135
                case run135 => intro w hS; go_simp; rfl
                refine wpAnyT_all (rs := [14]) (by kernel_rfl) (by decide) ?_
                intro ii hi
                obtain rfl : ii = 14 := by simpa using hi
                clear hi
                refine wpOp_of_list rfl ?_
                go_wp2
                refine ⟨fun h => absurd rfl h, ?_⟩
                refine wpAnyT_done (by kernel_rfl) ?_ _
                go_wp2
                go_roundw
                case rel => exact ⟨xs ++ (sa ++ sb), _, by simp [app_str], rfl, by omega, by simp only [List.length_append]; omega, T128, B129⟩
                case measure => simp [intOf]; omega
              · skip
                refine wpOp_of_list rfl ?_
                go_wp2_with fail
                refine (next_pos T118.out 12 (by omega) (by omega)).mono ?_
                rintro e u136 ⟨qb, qb1, rfl, t4, b4⟩
                have T137 := Lib.hid t4
                have B138 := Lib.hid (B119.out.trans (b4.toBelow (Nat.le_refl _) B119.out.size))
                obtain ⟨sb, hsb, lb⟩ := str_at #[qs [97], qs [112], qs [108, 105, 118, 101], qs [117, 110, 105, 110, 105, 116], qs [51], qs [48], qs [49, 50], qs [49, 48, 52, 56, 53, 55, 55], qs [45, 49], qs [114, 101, 97, 99, 104], qs [57, 57, 57, 57, 57, 57, 57, 57, 57, 57, 57], qs []] 12 11 rfl rfl qb (by omega)
                have hs1 : ¬ 9223372036854775807 < sa.length + sb.length := by omega
                have hs2 : ¬ 9223372036854775807 < xs.length + (sa.length + sb.length) := by omega
                have R139 : Hid (∀ j, u136.cell? ⟨wr.heap.size, j, none⟩ = (#[qs [32], qs [32, 32]] : Array Value)[j]?) := Lib.hid (fun j => (b4.cell wr.heap.size j hl121 hb9).trans (R120.out j))
                have hl140 : wr.heap.size < u136.heap.size := Nat.lt_of_lt_of_le hl121 b4.size
                have R141 : Hid (∀ j, u136.cell? ⟨Y4.heap.size, j, none⟩ = (#[qs [97], qs [112], qs [108, 105, 118, 101], qs [117, 110, 105, 110, 105, 116], qs [51], qs [48], qs [49, 50], qs [49, 48, 52, 56, 53, 55, 55], qs [45, 49], qs [114, 101, 97, 99, 104], qs [57, 57, 57, 57, 57, 57, 57, 57, 57, 57, 57], qs []] : Array Value)[j]?) := Lib.hid (fun j => (b4.cell Y4.heap.size j hl123 hb114).trans (R122.out j))
                have hl142 : Y4.heap.size < u136.heap.size := Nat.lt_of_lt_of_le hl123 b4.size
                clear t4 b4
                go_wp2
                refine ⟨fun _ => trivial, ?_⟩
                have hrow143 := (R139.out qa).trans hsa
                have hrow144 := (R141.out qb).trans hsb
                refine wpAnyT_pure 10 ?v145 rfl (by kernel_rfl) (by kernel_rfl) (by kernel_rfl) (by kernel_rfl) (fun _ _ _ h => h) trivial rfl ?run145 ?rest145
                case run145 => intro w hS; go_simp; rfl
                refine wpAnyT_all (rs := [6, 11]) (by kernel_rfl) (by decide) ?_
                intro ii hi
                have hi2 : ii = 6 ∨ ii = 11 := by simpa using hi
                clear hi
                rcases hi2 with rfl | rfl
                · skip
                  refine wpOp_of_list rfl ?_
                  go_wp2
                  refine ⟨fun _ => trivial, ?_⟩
                  refine wpAnyT_all (rs := [11]) (by kernel_rfl) (by decide) ?_
                  intro ii hi
                  obtain rfl : ii = 11 := by simpa using hi
                  clear hi
                  refine wpOp_of_list rfl ?_
                  go_wp2
                  refine ⟨fun _ => trivial, ?_⟩
                  refine wpAnyT_pure 12 ?v146 rfl (by kernel_rfl) (by kernel_rfl) (by kernel_rfl) (by kernel_rfl) (fun _ _ _ h => h) trivial rfl ?run146 ?rest146
                  case run146 => intro w hS; go_simp; rfl
                  refine wpAnyT_pure 13 ?v147 rfl (by kernel_rfl) (by kernel_rfl) (by kernel_rfl) (by kernel_rfl) (fun _ _ _ h => h) trivial rfl ?run147 ?rest147
                  case run147 => intro w hS; go_simp; rfl
                  refine wpAnyT_all (rs := [14]) (by kernel_rfl) (by decide) ?_
                  intro ii hi
                  obtain rfl : ii = 14 := by simpa using hi
                  clear hi
                  refine wpOp_of_list rfl ?_
                  go_wp2
                  refine ⟨fun h => absurd rfl h, ?_⟩
                  refine wpAnyT_done (by kernel_rfl) ?_ _
                  go_wp2
                  go_roundw
                  case rel => exact ⟨xs ++ (sa ++ sb), _, by simp [app_str], rfl, by omega, by simp only [List.length_append]; omega, T137, B138⟩
                  case measure => simp [intOf]; omega
                · skip
                  refine wpOp_of_list rfl ?_
                  go_wp2
                  refine ⟨fun _ => trivial, ?_⟩
                  refine wpAnyT_all (rs := [6]) (by kernel_rfl) (by decide) ?_
                  intro ii hi
                  obtain rfl : ii = 6 := by simpa using hi
                  clear hi
                  refine wpOp_of_list rfl ?_
                  go_wp2
                  refine ⟨fun _ => trivial, ?_⟩
                  refine wpAnyT_pure 12 ?v148 rfl (by kernel_rfl) (by kernel_rfl) (by kernel_rfl) (by kernel_rfl) (fun _ _ _ h => h) trivial rfl ?run148 ?rest148
                  case run148 => intro w hS; go_simp; rfl
                  refine wpAnyT_pure 13 ?v149 rfl (by kernel_rfl) (by kernel_rfl) (by kernel_rfl) (by kernel_rfl) (fun _ _ _ h => h) trivial rfl ?run149 ?rest149
                  case run149 => intro w hS; go_simp; rfl
                  refine wpAnyT_all (rs := [14]) (by kernel_rfl) (by decide) ?_
                  intro ii hi
                  obtain rfl : ii = 14 := by simpa using hi
                  clear hi
                  refine wpOp_of_list rfl ?_
                  go_wp2
                  refine ⟨fun h => absurd rfl h, ?_⟩
                  refine wpAnyT_done (by kernel_rfl) ?_ _
                  go_wp2
                  go_roundw
                  case rel => exact ⟨xs ++ (sa ++ sb), _, by simp [app_str], rfl, by omega, by simp only [List.length_append]; omega, T137, B138⟩
                  case measure => simp [intOf]; omega
          · skip
            refine wpOp_of_list rfl ?_
            go_wp2_with fail
            refine (next_pos TD.out 9 (by omega) (by omega)).mono ?_
            rintro e u150 ⟨ka, ka1, rfl, t4, b4⟩
            have T151 := Lib.hid t4
            have B152 := Lib.hid (BD.out.trans (b4.toBelow (Nat.le_refl _) BD.out.size))
            obtain ⟨qa, qa1, hqa, hqw⟩ := eight ka (by omega)
            have qa2 : (qa : Int) < 2 := by omega
            obtain ⟨sa, hsa, la⟩ := str_at #[qs [32], qs [32, 32]] 2 2 rfl rfl qa (by omega)
            clear t4 b4
            go_wp2
            refine ⟨fun _ => trivial, ?_⟩
            refine wpAnyT_pure 4 ?v153 rfl (by kernel_rfl) (by kernel_rfl) (by kernel_rfl) (by kernel_rfl) (fun _ _ _ h => h) trivial rfl ?run153 ?rest153
            case run153 => intro w hS; go_simp; rfl
            refine wpAnyT_all (rs := [1, 7, 9]) (by kernel_rfl) (by decide) ?_
            intro ii hi
            have hi2 : ii = 1 ∨ ii = 7 ∨ ii = 9 := by simpa using hi
            clear hi
            rcases hi2 with rfl | rfl | rfl
            · skip
              refine wpOp_of_list rfl ?_
              go_wp2
              refine ⟨fun _ => trivial, ?_⟩
              obtain ⟨Y154, hY154⟩ : ∃ Y, (u150).alloc (.cells #[qs [32], qs [32, 32]] 9) = Y := ⟨_, rfl⟩
              rw [hY154]
              have T155 := Lib.hid (show TapeOk w0.heap.size Y154 w0.heap.size by rw [← hY154]; exact T151.out.alloc _)
              have B156 := Lib.hid (show Below w0.heap.size w0 Y154 by rw [← hY154]; exact B152.out.alloc B152.out.size _)
              have R157 : Hid (∀ j, Y154.cell? ⟨u150.heap.size, j, none⟩ = (#[qs [32], qs [32, 32]] : Array Value)[j]?) := Lib.hid (fun j => by rw [← hY154]; exact World.cell?_alloc_new _ _ _ _)
              have hl158 : u150.heap.size < Y154.heap.size := by rw [← hY154]; simp
              have hb159 : u150.heap.size ≠ w0.heap.size := by have h7 := T151.out.lt; have h8 : w0.heap.size < u150.heap.size := h7; omega
              clear hY154
              have hrow160 := (R157.out qa).trans hsa
              refine wpAnyT_pure 5 ?v161 rfl (by kernel_rfl) (by kernel_rfl) (by kernel_rfl) (by kernel_rfl) (fun _ _ _ h => h) trivial rfl ?run161 ?rest161
              case run161 => intro w hS; go_simp; rfl
              refine wpAnyT_all (rs := [6, 7, 9]) (by kernel_rfl) (by decide) ?_
              intro ii hi
              have hi2 : ii = 6 ∨ ii = 7 ∨ ii = 9 := by simpa using hi
              clear hi
              rcases hi2 with rfl | rfl | rfl
              · skip
                refine wpOp_of_list rfl ?_
                go_wp2
                refine ⟨fun _ => trivial, ?_⟩
                refine wpAnyT_all (rs := [7, 9]) (by kernel_rfl) (by decide) ?_
                intro ii hi
                have hi2 : ii = 7 ∨ ii = 9 := by simpa using hi
                clear hi
                rcases hi2 with rfl | rfl
                · skip
                  refine wpOp_of_list rfl ?_
                  go_wp2
                  refine ⟨fun _ => trivial, ?_⟩
                  obtain ⟨Y162, hY162⟩ : ∃ Y, (Y154).alloc (.cells #[qs [97], qs [112], qs [108, 105, 118, 101], qs [117, 110, 105, 110, 105, 116], qs [51], qs [48], qs [49, 50], qs [49, 48, 52, 56, 53, 55, 55], qs [45, 49], qs [114, 101, 97, 99, 104], qs [57, 57, 57, 57, 57, 57, 57, 57, 57, 57, 57], qs []] 9) = Y := ⟨_, rfl⟩
                  rw [hY162]
                  have T163 := Lib.hid (show TapeOk w0.heap.size Y162 w0.heap.size by rw [← hY162]; exact T155.out.alloc _)
                  have B164 := Lib.hid (show Below w0.heap.size w0 Y162 by rw [← hY162]; exact B156.out.alloc B156.out.size _)
                  have R165 : Hid (∀ j, Y162.cell? ⟨Y154.heap.size, j, none⟩ = (#[qs [97], qs [112], qs [108, 105, 118, 101], qs [117, 110, 105, 110, 105, 116], qs [51], qs [48], qs [49, 50], qs [49, 48, 52, 56, 53, 55, 55], qs [45, 49], qs [114, 101, 97, 99, 104], qs [57, 57, 57, 57, 57, 57, 57, 57, 57, 57, 57], qs []] : Array Value)[j]?) := Lib.hid (fun j => by rw [← hY162]; exact World.cell?_alloc_new _ _ _ _)
                  have hl166 : Y154.heap.size < Y162.heap.size := by rw [← hY162]; simp
                  have hb167 : Y154.heap.size ≠ w0.heap.size := by have h7 := T155.out.lt; have h8 : w0.heap.size < Y154.heap.size := h7; omega
                  clear hY162
                  refine wpAnyT_all (rs := [9]) (by kernel_rfl) (by decide) ?_
                  intro ii hi
                  obtain rfl : ii = 9 := by simpa using hi
                  clear hi
                  refine wpOp_of_list rfl ?_
                  go_wp2_with fail
                  refine (next_pos T163.out 12 (by omega) (by omega)).mono ?_
                  rintro e u168 ⟨qb, qb1, rfl, t4, b4⟩
                  have T169 := Lib.hid t4
                  have B170 := Lib.hid (B164.out.trans (b4.toBelow (Nat.le_refl _) B164.out.size))
                  obtain ⟨sb, hsb, lb⟩ := str_at #[qs [97], qs [112], qs [108, 105, 118, 101], qs [117, 110, 105, 110, 105, 116], qs [51], qs [48], qs [49, 50], qs [49, 48, 52, 56, 53, 55, 55], qs [45, 49], qs [114, 101, 97, 99, 104], qs [57, 57, 57, 57, 57, 57, 57, 57, 57, 57, 57], qs []] 12 11 rfl rfl qb (by omega)
                  have hs1 : ¬ 9223372036854775807 < sa.length + sb.length := by omega
                  have hs2 : ¬ 9223372036854775807 < xs.length + (sa.length + sb.length) := by omega
                  have R171 : Hid (∀ j, u168.cell? ⟨Y154.heap.size, j, none⟩ = (#[qs [97], qs [112], qs [108, 105, 118, 101], qs [117, 110, 105, 110, 105, 116], qs [51], qs [48], qs [49, 50], qs [49, 48, 52, 56, 53, 55, 55], qs [45, 49], qs [114, 101, 97, 99, 104], qs [57, 57, 57, 57, 57, 57, 57, 57, 57, 57, 57], qs []] : Array Value)[j]?) := Lib.hid (fun j => (b4.cell Y154.heap.size j hl166 hb167).trans (R165.out j))
                  have hl172 : Y154.heap.size < u168.heap.size := Nat.lt_of_lt_of_le hl166 b4.size
                  clear t4 b4
                  go_wp2
                  refine ⟨fun _ => trivial, ?_⟩
                  have hrow173 := (R171.out qb).trans hsb
                  refine wpAnyT_pure 10 ?v174 rfl (by kernel_rfl) (by kernel_rfl) (by kernel_rfl) (by kernel_rfl) (fun _ _ _ h => h) trivial rfl ?run174 ?rest174
                  case run174 => intro w hS; go_simp; rfl
                  refine wpAnyT_all (rs := [11]) (by kernel_rfl) (by decide) ?_
                  intro ii hi
                  obtain rfl : ii = 11 := by simpa using hi
                  clear hi
                  refine wpOp_of_list rfl ?_
                  go_wp2
                  refine ⟨fun _ => trivial, ?_⟩
                  refine wpAnyT_pure 12 ?v175 rfl (by kernel_rfl) (by kernel_rfl) (by kernel_rfl) (by kernel_rfl) (fun _ _ _ h => h) trivial rfl ?run175 ?rest175
                  case run175 => intro w hS; go_simp; rfl
                  refine wpAnyT_pure 13 ?v176 rfl (by kernel_rfl) (by kernel_rfl) (by kernel_rfl) (by kernel_rfl) (fun _ _ _ h => h) trivial rfl ?run176 ?rest176
                  case run176 => intro w hS; go_simp; rfl
                  refine wpAnyT_all (rs := [14]) (by kernel_rfl) (by decide) ?_
                  intro ii hi
                  obtain rfl : ii = 14 := by simpa using hi
                  clear hi
                  refine wpOp_of_list rfl ?_
                  go_wp2
                  refine ⟨fun h => absurd rfl h, ?_⟩
                  refine wpAnyT_done (by kernel_rfl) ?_ _
                  go_wp2
                  go_roundw
                  case rel => exact ⟨xs ++ (sa ++ sb), _, by simp [app_str], rfl, by omega, by simp only [List.length_append]; omega, T169, B170⟩
                  case measure => simp [intOf]; omega
                · skip
                  refine wpOp_of_list rfl ?_
                  go_wp2_with fail
                  refine (next_pos T155.out 12 (by omega) (by omega)).mono ?_
                  rintro e u177 ⟨qb, qb1, rfl, t4, b4⟩
                  have T178 := Lib.hid t4
                  have B179 := Lib.hid (B156.out.trans (b4.toBelow (Nat.le_refl _) B156.out.size))
                  obtain ⟨sb, hsb, lb⟩ := str_at #[qs [97], qs [112], qs [108, 105, 118, 101], qs [117, 110, 105, 110, 105, 116], qs [51], qs [48], qs [49, 50], qs [49, 48, 52, 56, 53, 55, 55], qs [45, 49], qs [114, 101, 97, 99, 104], qs [57, 57, 57, 57, 57, 57, 57, 57, 57, 57, 57], qs []] 12 11 rfl rfl qb (by omega)
                  have hs1 : ¬ 9223372036854775807 < sa.length + sb.length := by omega
                  have hs2 : ¬ 9223372036854775807 < xs.length + (sa.length + sb.length) := by omega
                  clear t4 b4
                  go_wp2
                  refine ⟨fun _ => trivial, ?_⟩
                  refine wpAnyT_all (rs := [7]) (by kernel_rfl) (by decide) ?_
                  intro ii hi
                  obtain rfl : ii = 7 := by simpa using hi
                  clear hi
                  refine wpOp_of_list rfl ?_
                  go_wp2
                  refine ⟨fun _ => trivial, ?_⟩
                  obtain ⟨Y180, hY180⟩ : ∃ Y, (u177).alloc (.cells #[qs [97], qs [112], qs [108, 105, 118, 101], qs [117, 110, 105, 110, 105, 116], qs [51], qs [48], qs [49, 50], qs [49, 48, 52, 56, 53, 55, 55], qs [45, 49], qs [114, 101, 97, 99, 104], qs [57, 57, 57, 57, 57, 57, 57, 57, 57, 57, 57], qs []] 9) = Y := ⟨_, rfl⟩
                  rw [hY180]
                  have T181 := Lib.hid (show TapeOk w0.heap.size Y180 w0.heap.size by rw [← hY180]; exact T178.out.alloc _)
                  have B182 := Lib.hid (show Below w0.heap.size w0 Y180 by rw [← hY180]; exact B179.out.alloc B179.out.size _)
                  have R183 : Hid (∀ j, Y180.cell? ⟨u177.heap.size, j, none⟩ = (#[qs [97], qs [112], qs [108, 105, 118, 101], qs [117, 110, 105, 110, 105, 116], qs [51], qs [48], qs [49, 50], qs [49, 48, 52, 56, 53, 55, 55], qs [45, 49], qs [114, 101, 97, 99, 104], qs [57, 57, 57, 57, 57, 57, 57, 57, 57, 57, 57], qs []] : Array Value)[j]?) := Lib.hid (fun j => by rw [← hY180]; exact World.cell?_alloc_new _ _ _ _)
                  have hl184 : u177.heap.size < Y180.heap.size := by rw [← hY180]; simp
                  have hb185 : u177.heap.size ≠ w0.heap.size := by have h7 := T178.out.lt; have h8 : w0.heap.size < u177.heap.size := h7; omega
                  clear hY180
                  have hrow186 := (R183.out qb).trans hsb
                  refine wpAnyT_pure 10 ?v187 rfl (by kernel_rfl) (by kernel_rfl) (by kernel_rfl) (by kernel_rfl) (fun _ _ _ h => h) trivial rfl ?run187 ?rest187
                  case run187 => intro w hS; go_simp; rfl
                  refine wpAnyT_all (rs := [11]) (by kernel_rfl) (by decide) ?_
                  intro ii hi
                  obtain rfl : ii = 11 := by simpa using hi
                  clear hi
                  refine wpOp_of_list rfl ?_
                  go_wp2
                  refine ⟨fun _ => trivial, ?_⟩
                  refine wpAnyT_pure 12 ?v188 rfl (by kernel_rfl) (by kernel_rfl) (by kernel_rfl) (by kernel_rfl) (fun _ _ _ h => h) trivial rfl ?run188 ?rest188
                  case run188 => intro w hS; go_simp; rfl
                  refine wpAnyT_pure 13 ?v189 rfl (by kernel_rfl) (by kernel_rfl) (by kernel_rfl) (by kernel_rfl) (fun _ _ _ h => h) trivial rfl ?run189 ?rest189
                  case run189 => intro w hS; go_simp; rfl
                  refine wpAnyT_all (rs := [14]) (by kernel_rfl) (by decide) ?_
                  intro ii hi
                  obtain rfl : ii = 14 := by simpa using hi
                  clear hi
                  refine wpOp_of_list rfl ?_
                  go_wp2
                  refine ⟨fun h => absurd rfl h, ?_⟩
                  refine wpAnyT_done (by kernel_rfl) ?_ _
                  go_wp2
                  go_roundw
                  case rel => exact ⟨xs ++ (sa ++ sb), _, by simp [app_str], rfl, by omega, by simp only [List.length_append]; omega, T181, B182⟩
                  case measure => simp [intOf]; omega
              · skip
                refine wpOp_of_list rfl ?_
                go_wp2
                refine ⟨fun _ => trivial, ?_⟩
                obtain ⟨Y190, hY190⟩ : ∃ Y, (Y154).alloc (.cells #[qs [97], qs [112], qs [108, 105, 118, 101], qs [117, 110, 105, 110, 105, 116], qs [51], qs [48], qs [49, 50], qs [49, 48, 52, 56, 53, 55, 55], qs [45, 49], qs [114, 101, 97, 99, 104], qs [57, 57, 57, 57, 57, 57, 57, 57, 57, 57, 57], qs []] 9) = Y := ⟨_, rfl⟩
                rw [hY190]
                have T191 := Lib.hid (show TapeOk w0.heap.size Y190 w0.heap.size by rw [← hY190]; exact T155.out.alloc _)
                have B192 := Lib.hid (show Below w0.heap.size w0 Y190 by rw [← hY190]; exact B156.out.alloc B156.out.size _)
                have R196 : Hid (∀ j, Y190.cell? ⟨u150.heap.size, j, none⟩ = (#[qs [32], qs [32, 32]] : Array Value)[j]?) := Lib.hid (fun j => by rw [← hY190]; exact (((Below.refl (Y154).heap.size (Y154)).alloc (Nat.le_refl _) _).cell (p := ⟨u150.heap.size, j, none⟩) hl158).trans (R157.out j))
                have hl197 : u150.heap.size < Y190.heap.size := by rw [← hY190]; have h7 : u150.heap.size < (Y154).heap.size := hl158; simp at h7 ⊢; omega
                have R193 : Hid (∀ j, Y190.cell? ⟨Y154.heap.size, j, none⟩ = (#[qs [97], qs [112], qs [108, 105, 118, 101], qs [117, 110, 105, 110, 105, 116], qs [51], qs [48], qs [49, 50], qs [49, 48, 52, 56, 53, 55, 55], qs [45, 49], qs [114, 101, 97, 99, 104], qs [57, 57, 57, 57, 57, 57, 57, 57, 57, 57, 57], qs []] : Array Value)[j]?) := Lib.hid (fun j => by rw [← hY190]; exact World.cell?_alloc_new _ _ _ _)
                have hl194 : Y154.heap.size < Y190.heap.size := by rw [← hY190]; simp
                have hb195 : Y154.heap.size ≠ w0.heap.size := by have h7 := T155.out.lt; have h8 : w0.heap.size < Y154.heap.size := h7; omega
                clear hY190
                have hrow198 := (R196.out qa).trans hsa
                refine wpAnyT_all (rs := [6, 9]) (by kernel_rfl) (by decide) ?_
                intro ii hi
                have hi2 : ii = 6 ∨ ii = 9 := by simpa using hi
                clear hi
                rcases hi2 with rfl | rfl
                · skip
                  refine wpOp_of_list rfl ?_
                  go_wp2
                  refine ⟨fun _ => trivial, ?_⟩
                  refine wpAnyT_all (rs := [9]) (by kernel_rfl) (by decide) ?_
                  intro ii hi
                  obtain rfl : ii = 9 := by simpa using hi
                  clear hi
                  refine wpOp_of_list rfl ?_
                  go_wp2_with fail
                  refine (next_pos T191.out 12 (by omega) (by omega)).mono ?_
                  rintro e u199 ⟨qb, qb1, rfl, t4, b4⟩
                  have T200 := Lib.hid t4
                  have B201 := Lib.hid (B192.out.trans (b4.toBelow (Nat.le_refl _) B192.out.size))
                  obtain ⟨sb, hsb, lb⟩ := str_at #[qs [97], qs [112], qs [108, 105, 118, 101], qs [117, 110, 105, 110, 105, 116], qs [51], qs [48], qs [49, 50], qs [49, 48, 52, 56, 53, 55, 55], qs [45, 49], qs [114, 101, 97, 99, 104], qs [57, 57, 57, 57, 57, 57, 57, 57, 57, 57, 57], qs []] 12 11 rfl rfl qb (by omega)
                  have hs1 : ¬ 9223372036854775807 < sa.length + sb.length := by omega
                  have hs2 : ¬ 9223372036854775807 < xs.length + (sa.length + sb.length) := by omega
                  have R202 : Hid (∀ j, u199.cell? ⟨Y154.heap.size, j, none⟩ = (#[qs [97], qs [112], qs [108, 105, 118, 101], qs [117, 110, 105, 110, 105, 116], qs [51], qs [48], qs [49, 50], qs [49, 48, 52, 56, 53, 55, 55], qs [45, 49], qs [114, 101, 97, 99, 104], qs [57, 57, 57, 57, 57, 57, 57, 57, 57, 57, 57], qs []] : Array Value)[j]?) := Lib.hid (fun j => (b4.cell Y154.heap.size j hl194 hb195).trans (R193.out j))
                  have hl203 : Y154.heap.size < u199.heap.size := Nat.lt_of_lt_of_le hl194 b4.size
                  clear t4 b4
                  go_wp2
                  refine ⟨fun _ => trivial, ?_⟩
                  have hrow204 := (R202.out qb).trans hsb
                  refine wpAnyT_pure 10 ?v205 rfl (by kernel_rfl) (by kernel_rfl) (by kernel_rfl) (by kernel_rfl) (fun _ _ _ h => h) trivial rfl ?run205 ?rest205
                  case run205 => intro w hS; go_simp; rfl
                  refine wpAnyT_all (rs := [11]) (by kernel_rfl) (by decide) ?_
                  intro ii hi
                  obtain rfl : ii = 11 := by simpa using hi
                  clear hi
                  refine wpOp_of_list rfl ?_
                  go_wp2
                  refine ⟨fun _ => trivial, ?_⟩
                  refine wpAnyT_pure 12 ?v206 rfl (by kernel_rfl) (by kernel_rfl) (by kernel_rfl) (by kernel_rfl) (fun _ _ _ h => h) trivial rfl ?run206 ?rest206
                  case run206 => intro w hS; go_simp; rfl
                  refine wpAnyT_pure 13 ?v207 rfl (by kernel_rfl) (by kernel_rfl) (by kernel_rfl) (by kernel_rfl) (fun _ _ _ h => h) trivial rfl ?run207 ?rest207
                  case run207 => intro w hS; go_simp; rfl
                  refine wpAnyT_all (rs := [14]) (by kernel_rfl) (by decide) ?_
                  intro ii hi
                  obtain rfl : ii = 14 := by simpa using hi
                  clear hi
                  refine wpOp_of_list rfl ?_
                  go_wp2
                  refine ⟨fun h => absurd rfl h, ?_⟩
                  refine wpAnyT_done (by kernel_rfl) ?_ _
                  go_wp2
                  go_roundw
                  case rel => exact ⟨xs ++ (sa ++ sb), _, by simp [app_str], rfl, by omega, by simp only [List.length_append]; omega, T200, B201⟩
                  case measure => simp [intOf]; omega
                · skip
                  refine wpOp_of_list rfl ?_
                  go_wp2_with fail
                  refine (next_pos T191.out 12 (by omega) (by omega)).mono ?_
                  rintro e u208 ⟨qb, qb1, rfl, t4, b4⟩
                  have T209 := Lib.hid t4
                  have B210 := Lib.hid (B192.out.trans (b4.toBelow (Nat.le_refl _) B192.out.size))
                  obtain ⟨sb, hsb, lb⟩ := str_at #[qs [97], qs [112], qs [108, 105, 118, 101], qs [117, 110, 105, 110, 105, 116], qs [51], qs [48], qs [49, 50], qs [49, 48, 52, 56, 53, 55, 55], qs [45, 49], qs [114, 101, 97, 99, 104], qs [57, 57, 57, 57, 57, 57, 57, 57, 57, 57, 57], qs []] 12 11 rfl rfl qb (by omega)
                  have hs1 : ¬ 9223372036854775807 < sa.length + sb.length := by omega
                  have hs2 : ¬ 9223372036854775807 < xs.length + (sa.length + sb.length) := by omega
                  have R211 : Hid (∀ j, u208.cell? ⟨u150.heap.size, j, none⟩ = (#[qs [32], qs [32, 32]] : Array Value)[j]?) := Lib.hid (fun j => (b4.cell u150.heap.size j hl197 hb159).trans (R196.out j))
                  have hl212 : u150.heap.size < u208.heap.size := Nat.lt_of_lt_of_le hl197 b4.size
                  have R213 : Hid (∀ j, u208.cell? ⟨Y154.heap.size, j, none⟩ = (#[qs [97], qs [112], qs [108, 105, 118, 101], qs [117, 110, 105, 110, 105, 116], qs [51], qs [48], qs [49, 50], qs [49, 48, 52, 56, 53, 55, 55], qs [45, 49], qs [114, 101, 97, 99, 104], qs [57, 57, 57, 57, 57, 57, 57, 57, 57, 57, 57], qs []] : Array Value)[j]?) := Lib.hid (fun j => (b4.cell Y154.heap.size j hl194 hb195).trans (R193.out j))
                  have hl214 : Y154.heap.size < u208.heap.size := Nat.lt_of_lt_of_le hl194 b4.size
                  clear t4 b4
                  go_wp2
                  refine ⟨fun _ => trivial, ?_⟩
                  have hrow215 := (R211.out qa).trans hsa
                  have hrow216 := (R213.out qb).trans hsb
                  refine wpAnyT_pure 10 ?v217 rfl (by kernel_rfl) (by kernel_rfl) (by kernel_rfl) (by kernel_rfl) (fun _ _ _ h => h) trivial rfl ?run217 ?rest217
                  case run217 => intro w hS; go_simp; rfl
                  refine wpAnyT_all (rs := [6, 11]) (by kernel_rfl) (by decide) ?_
                  intro ii hi
                  have hi2 : ii = 6 ∨ ii = 11 := by simpa using hi
                  clear hi
                  rcases hi2 with rfl | rfl
                  · skip
                    refine wpOp_of_list rfl ?_
                    go_wp2
                    refine ⟨fun _ => trivial, ?_⟩
                    refine wpAnyT_all (rs := [11]) (by kernel_rfl) (by decide) ?_
                    intro ii hi
                    obtain rfl : ii = 11 := by simpa using hi
                    clear hi
                    refine wpOp_of_list rfl ?_
                    go_wp2
                    refine ⟨fun _ => trivial, ?_⟩
                    refine wpAnyT_pure 12 ?v218 rfl (by kernel_rfl) (by kernel_rfl) (by kernel_rfl) (by kernel_rfl) (fun _ _ _ h => h) trivial rfl ?run218 ?rest218
                    case run218 => intro w hS; go_simp; rfl
                    refine wpAnyT_pure 13 ?v219 rfl (by kernel_rfl) (by kernel_rfl) (by kernel_rfl) (by kernel_rfl) (fun _ _ _ h => h) trivial rfl ?run219 ?rest219
                    case run219 => intro w hS; go_simp; rfl
                    refine wpAnyT_all (rs := [14]) (by kernel_rfl) (by decide) ?_
                    intro ii hi
                    obtain rfl : ii = 14 := by simpa using hi
                    clear hi
                    refine wpOp_of_list rfl ?_
                    go_wp2
                    refine ⟨fun h => absurd rfl h, ?_⟩
                    refine wpAnyT_done (by kernel_rfl) ?_ _
                    go_wp2
                    go_roundw
                    case rel => exact ⟨xs ++ (sa ++ sb), _, by simp [app_str], rfl, by omega, by simp only [List.length_append]; omega, T209, B210⟩
                    case measure => simp [intOf]; omega
                  · skip
                    refine wpOp_of_list rfl ?_
                    go_wp2
                    refine ⟨fun _ => trivial, ?_⟩
                    refine wpAnyT_all (rs := [6]) (by kernel_rfl) (by decide) ?_
                    intro ii hi
                    obtain rfl : ii = 6 := by simpa using hi
                    clear hi
                    refine wpOp_of_list rfl ?_
                    go_wp2
                    refine ⟨fun _ => trivial, ?_⟩
                    refine wpAnyT_pure 12 ?v220 rfl (by kernel_rfl) (by kernel_rfl) (by kernel_rfl) (by kernel_rfl) (fun _ _ _ h => h) trivial rfl ?run220 ?rest220
                    case run220 => intro w hS; go_simp; rfl
                    refine wpAnyT_pure 13 ?v221 rfl (by kernel_rfl) (by kernel_rfl) (by kernel_rfl) (by kernel_rfl) (fun _ _ _ h => h) trivial rfl ?run221 ?rest221
                    case run221 => intro w hS; go_simp; rfl
                    refine wpAnyT_all (rs := [14]) (by kernel_rfl) (by decide) ?_
                    intro ii hi
                    obtain rfl : ii = 14 := by simpa using hi
                    clear hi
                    refine wpOp_of_list rfl ?_
                    go_wp2
                    refine ⟨fun h => absurd rfl h, ?_⟩
                    refine wpAnyT_done (by kernel_rfl) ?_ _
                    go_wp2
                    go_roundw
                    case rel => exact ⟨xs ++ (sa ++ sb), _, by simp [app_str], rfl, by omega, by simp only [List.length_append]; omega, T209, B210⟩
                    case measure => simp [intOf]; omega
              · skip
                refine wpOp_of_list rfl ?_
                go_wp2_with fail
                refine (next_pos T155.out 12 (by omega) (by omega)).mono ?_
                rintro e u222 ⟨qb, qb1, rfl, t4, b4⟩
                have T223 := Lib.hid t4
                have B224 := Lib.hid (B156.out.trans (b4.toBelow (Nat.le_refl _) B156.out.size))
                obtain ⟨sb, hsb, lb⟩ := str_at #[qs [97], qs [112], qs [108, 105, 118, 101], qs [117, 110, 105, 110, 105, 116], qs [51], qs [48], qs [49, 50], qs [49, 48, 52, 56, 53, 55, 55], qs [45, 49], qs [114, 101, 97, 99, 104], qs [57, 57, 57, 57, 57, 57, 57, 57, 57, 57, 57], qs []] 12 11 rfl rfl qb (by omega)
                have hs1 : ¬ 9223372036854775807 < sa.length + sb.length := by omega
                have hs2 : ¬ 9223372036854775807 < xs.length + (sa.length + sb.length) := by omega
                have R225 : Hid (∀ j, u222.cell? ⟨u150.heap.size, j, none⟩ = (#[qs [32], qs [32, 32]] : Array Value)[j]?) := Lib.hid (fun j => (b4.cell u150.heap.size j hl158 hb159).trans (R157.out j))
                have hl226 : u150.heap.size < u222.heap.size := Nat.lt_of_lt_of_le hl158 b4.size
                clear t4 b4
                go_wp2
                refine ⟨fun _ => trivial, ?_⟩
                have hrow227 := (R225.out qa).trans hsa
                refine wpAnyT_all (rs := [6, 7]) (by kernel_rfl) (by decide) ?_
                intro ii hi
                have hi2 : ii = 6 ∨ ii = 7 := by simpa using hi
                clear hi
                rcases hi2 with rfl | rfl
                · skip
                  refine wpOp_of_list rfl ?_
                  go_wp2
                  refine ⟨fun _ => trivial, ?_⟩
                  refine wpAnyT_all (rs := [7]) (by kernel_rfl) (by decide) ?_
                  intro ii hi
                  obtain rfl : ii = 7 := by simpa using hi
                  clear hi
                  refine wpOp_of_list rfl ?_
                  go_wp2
                  refine ⟨fun _ => trivial, ?_⟩
                  obtain ⟨Y228, hY228⟩ : ∃ Y, (u222).alloc (.cells #[qs [97], qs [112], qs [108, 105, 118, 101], qs [117, 110, 105, 110, 105, 116], qs [51], qs [48], qs [49, 50], qs [49, 48, 52, 56, 53, 55, 55], qs [45, 49], qs [114, 101, 97, 99, 104], qs [57, 57, 57, 57, 57, 57, 57, 57, 57, 57, 57], qs []] 9) = Y := ⟨_, rfl⟩
                  rw [hY228]
                  have T229 := Lib.hid (show TapeOk w0.heap.size Y228 w0.heap.size by rw [← hY228]; exact T223.out.alloc _)
                  have B230 := Lib.hid (show Below w0.heap.size w0 Y228 by rw [← hY228]; exact B224.out.alloc B224.out.size _)
                  have R231 : Hid (∀ j, Y228.cell? ⟨u222.heap.size, j, none⟩ = (#[qs [97], qs [112], qs [108, 105, 118, 101], qs [117, 110, 105, 110, 105, 116], qs [51], qs [48], qs [49, 50], qs [49, 48, 52, 56, 53, 55, 55], qs [45, 49], qs [114, 101, 97, 99, 104], qs [57, 57, 57, 57, 57, 57, 57, 57, 57, 57, 57], qs []] : Array Value)[j]?) := Lib.hid (fun j => by rw [← hY228]; exact World.cell?_alloc_new _ _ _ _)
                  have hl232 : u222.heap.size < Y228.heap.size := by rw [← hY228]; simp
                  have hb233 : u222.heap.size ≠ w0.heap.size := by have h7 := T223.out.lt; have h8 : w0.heap.size < u222.heap.size := h7; omega
                  clear hY228
                  have hrow234 := (R231.out qb).trans hsb
                  refine wpAnyT_pure 10 ?v235 rfl (by kernel_rfl) (by kernel_rfl) (by kernel_rfl) (by kernel_rfl) (fun _ _ _ h => h) trivial rfl ?run235 ?rest235
                  case run235 => intro w hS; go_simp; rfl
                  refine wpAnyT_all (rs := [11]) (by kernel_rfl) (by decide) ?_
                  intro ii hi
                  obtain rfl : ii = 11 := by simpa using hi
                  clear hi
                  refine wpOp_of_list rfl ?_
                  go_wp2
                  refine ⟨fun _ => trivial, ?_⟩
                  refine wpAnyT_pure 12 ?v236 rfl (by kernel_rfl) (by kernel_rfl) (by kernel_rfl) (by kernel_rfl) (fun _ _ _ h => h) trivial rfl ?run236 ?rest236
                  case run236 => intro w hS; go_simp; rfl
                  refine wpAnyT_pure 13 ?v237 rfl (by kernel_rfl) (by kernel_rfl) (by kernel_rfl) (by kernel_rfl) (fun _ _ _ h => h) trivial rfl ?run237 ?rest237
                  case run237 => intro w hS; go_simp; rfl
                  refine wpAnyT_all (rs := [14]) (by kernel_rfl) (by decide) ?_
                  intro ii hi
                  obtain rfl : ii = 14 := by simpa using hi
                  clear hi
                  refine wpOp_of_list rfl ?_
                  go_wp2
                  refine ⟨fun h => absurd rfl h, ?_⟩
                  refine wpAnyT_done (by kernel_rfl) ?_ _
                  go_wp2
                  go_roundw
                  case rel => exact ⟨xs ++ (sa ++ sb), _, by simp [app_str], rfl, by omega, by simp only [List.length_append]; omega, T229, B230⟩
                  case measure => simp [intOf]; omega
                · skip
                  refine wpOp_of_list rfl ?_
                  go_wp2
                  refine ⟨fun _ => trivial, ?_⟩
                  obtain ⟨Y238, hY238⟩ : ∃ Y, (u222).alloc (.cells #[qs [97], qs [112], qs [108, 105, 118, 101], qs [117, 110, 105, 110, 105, 116], qs [51], qs [48], qs [49, 50], qs [49, 48, 52, 56, 53, 55, 55], qs [45, 49], qs [114, 101, 97, 99, 104], qs [57, 57, 57, 57, 57, 57, 57, 57, 57, 57, 57], qs []] 9) = Y := ⟨_, rfl⟩
                  rw [hY238]
                  have T239 := Lib.hid (show TapeOk w0.heap.size Y238 w0.heap.size by rw [← hY238]; exact T223.out.alloc _)
                  have B240 := Lib.hid (show Below w0.heap.size w0 Y238 by rw [← hY238]; exact B224.out.alloc B224.out.size _)
                  have R244 : Hid (∀ j, Y238.cell? ⟨u150.heap.size, j, none⟩ = (#[qs [32], qs [32, 32]] : Array Value)[j]?) := Lib.hid (fun j => by rw [← hY238]; exact (((Below.refl (u222).heap.size (u222)).alloc (Nat.le_refl _) _).cell (p := ⟨u150.heap.size, j, none⟩) hl226).trans (R225.out j))
                  have hl245 : u150.heap.size < Y238.heap.size := by rw [← hY238]; have h7 : u150.heap.size < (u222).heap.size := hl226; simp at h7 ⊢; omega
                  have R241 : Hid (∀ j, Y238.cell? ⟨u222.heap.size, j, none⟩ = (#[qs [97], qs [112], qs [108, 105, 118, 101], qs [117, 110, 105, 110, 105, 116], qs [51], qs [48], qs [49, 50], qs [49, 48, 52, 56, 53, 55, 55], qs [45, 49], qs [114, 101, 97, 99, 104], qs [57, 57, 57, 57, 57, 57, 57, 57, 57, 57, 57], qs []] : Array Value)[j]?) := Lib.hid (fun j => by rw [← hY238]; exact World.cell?_alloc_new _ _ _ _)
                  have hl242 : u222.heap.size < Y238.heap.size := by rw [← hY238]; simp
                  have hb243 : u222.heap.size ≠ w0.heap.size := by have h7 := T223.out.lt; have h8 : w0.heap.size < u222.heap.size := h7; omega
                  clear hY238
                  have hrow246 := (R244.out qa).trans hsa
                  have hrow247 := (R241.out qb).trans hsb
                  refine wpAnyT_pure 10 ?v248 rfl (by kernel_rfl) (by kernel_rfl) (by kernel_rfl) (by kernel_rfl) (fun _ _ _ h => h) trivial rfl ?run248 ?rest248
                  case run248 => intro w hS; go_simp; rfl
                  refine wpAnyT_all (rs := [6, 11]) (by kernel_rfl) (by decide) ?_
                  intro ii hi
                  have hi2 : ii = 6 ∨ ii = 11 := by simpa using hi
                  clear hi
                  rcases hi2 with rfl | rfl
                  · skip
                    refine wpOp_of_list rfl ?_
                    go_wp2
                    refine ⟨fun _ => trivial, ?_⟩
                    refine wpAnyT_all (rs := [11]) (by kernel_rfl) (by decide) ?_
                    intro ii hi
                    obtain rfl : ii = 11 := by simpa using hi
                    clear hi
                    refine wpOp_of_list rfl ?_
                    go_wp2
                    refine ⟨fun _ => trivial, ?_⟩
                    refine wpAnyT_pure 12 ?v249 rfl (by kernel_rfl) (by kernel_rfl) (by kernel_rfl) (by kernel_rfl) (fun _ _ _ h => h) trivial rfl ?run249 ?rest249
                    case run249 => intro w hS; go_simp; rfl
                    refine wpAnyT_pure 13 ?v250 rfl (by kernel_rfl) (by kernel_rfl) (by kernel_rfl) (by kernel_rfl) (fun _ _ _ h => h) trivial rfl ?run250 ?rest250
                    case run250 => intro w hS; go_simp; rfl
                    refine wpAnyT_all (rs := [14]) (by kernel_rfl) (by decide) ?_
                    intro ii hi
                    obtain rfl : ii = 14 := by simpa using hi
                    clear hi
                    refine wpOp_of_list rfl ?_
                    go_wp2
                    refine ⟨fun h => absurd rfl h, ?_⟩
                    refine wpAnyT_done (by kernel_rfl) ?_ _
                    go_wp2
                    go_roundw
                    case rel => exact ⟨xs ++ (sa ++ sb), _, by simp [app_str], rfl, by omega, by simp only [List.length_append]; omega, T239, B240⟩
                    case measure => simp [intOf]; omega
                  · skip
                    refine wpOp_of_list rfl ?_
                    go_wp2
                    refine ⟨fun _ => trivial, ?_⟩
                    refine wpAnyT_all (rs := [6]) (by kernel_rfl) (by decide) ?_
                    intro ii hi
                    obtain rfl : ii = 6 := by simpa using hi
                    clear hi
                    refine wpOp_of_list rfl ?_
                    go_wp2
                    refine ⟨fun _ => trivial, ?_⟩
                    refine wpAnyT_pure 12 ?v251 rfl (by kernel_rfl) (by kernel_rfl) (by kernel_rfl) (by kernel_rfl) (fun _ _ _ h => h) trivial rfl ?run251 ?rest251
                    case run251 => intro w hS; go_simp; rfl
                    refine wpAnyT_pure 13 ?v252 rfl (by kernel_rfl) (by kernel_rfl) (by kernel_rfl) (by kernel_rfl) (fun _ _ _ h => h) trivial rfl ?run252 ?rest252
                    case run252 => intro w hS; go_simp; rfl
                    refine wpAnyT_all (rs := [14]) (by kernel_rfl) (by decide) ?_
                    intro ii hi
                    obtain rfl : ii = 14 := by simpa using hi
                    clear hi
                    refine wpOp_of_list rfl ?_
                    go_wp2
                    refine ⟨fun h => absurd rfl h, ?_⟩
                    refine wpAnyT_done (by kernel_rfl) ?_ _
                    go_wp2
                    go_roundw
                    case rel => exact ⟨xs ++ (sa ++ sb), _, by simp [app_str], rfl, by omega, by simp only [List.length_append]; omega, T239, B240⟩
                    case measure => simp [intOf]; omega
            · skip
              refine wpOp_of_list rfl ?_
              go_wp2
              refine ⟨fun _ => trivial, ?_⟩
              obtain ⟨Y253, hY253⟩ : ∃ Y, (u150).alloc (.cells #[qs [97], qs [112], qs [108, 105, 118, 101], qs [117, 110, 105, 110, 105, 116], qs [51], qs [48], qs [49, 50], qs [49, 48, 52, 56, 53, 55, 55], qs [45, 49], qs [114, 101, 97, 99, 104], qs [57, 57, 57, 57, 57, 57, 57, 57, 57, 57, 57], qs []] 9) = Y := ⟨_, rfl⟩
              rw [hY253]
              have T254 := Lib.hid (show TapeOk w0.heap.size Y253 w0.heap.size by rw [← hY253]; exact T151.out.alloc _)
              have B255 := Lib.hid (show Below w0.heap.size w0 Y253 by rw [← hY253]; exact B152.out.alloc B152.out.size _)
              have R256 : Hid (∀ j, Y253.cell? ⟨u150.heap.size, j, none⟩ = (#[qs [97], qs [112], qs [108, 105, 118, 101], qs [117, 110, 105, 110, 105, 116], qs [51], qs [48], qs [49, 50], qs [49, 48, 52, 56, 53, 55, 55], qs [45, 49], qs [114, 101, 97, 99, 104], qs [57, 57, 57, 57, 57, 57, 57, 57, 57, 57, 57], qs []] : Array Value)[j]?) := Lib.hid (fun j => by rw [← hY253]; exact World.cell?_alloc_new _ _ _ _)
              have hl257 : u150.heap.size < Y253.heap.size := by rw [← hY253]; simp
              have hb258 : u150.heap.size ≠ w0.heap.size := by have h7 := T151.out.lt; have h8 : w0.heap.size < u150.heap.size := h7; omega
              clear hY253
              refine wpAnyT_all (rs := [1, 9]) (by kernel_rfl) (by decide) ?_
              intro ii hi
              have hi2 : ii = 1 ∨ ii = 9 := by simpa using hi
              clear hi
              rcases hi2 with rfl | rfl
              · skip
                refine wpOp_of_list rfl ?_
                go_wp2
                refine ⟨fun _ => trivial, ?_⟩
                obtain ⟨Y259, hY259⟩ : ∃ Y, (Y253).alloc (.cells #[qs [32], qs [32, 32]] 9) = Y := ⟨_, rfl⟩
                rw [hY259]
                have T260 := Lib.hid (show TapeOk w0.heap.size Y259 w0.heap.size by rw [← hY259]; exact T254.out.alloc _)
                have B261 := Lib.hid (show Below w0.heap.size w0 Y259 by rw [← hY259]; exact B255.out.alloc B255.out.size _)
                have R265 : Hid (∀ j, Y259.cell? ⟨u150.heap.size, j, none⟩ = (#[qs [97], qs [112], qs [108, 105, 118, 101], qs [117, 110, 105, 110, 105, 116], qs [51], qs [48], qs [49, 50], qs [49, 48, 52, 56, 53, 55, 55], qs [45, 49], qs [114, 101, 97, 99, 104], qs [57, 57, 57, 57, 57, 57, 57, 57, 57, 57, 57], qs []] : Array Value)[j]?) := Lib.hid (fun j => by rw [← hY259]; exact (((Below.refl (Y253).heap.size (Y253)).alloc (Nat.le_refl _) _).cell (p := ⟨u150.heap.size, j, none⟩) hl257).trans (R256.out j))
                have hl266 : u150.heap.size < Y259.heap.size := by rw [← hY259]; have h7 : u150.heap.size < (Y253).heap.size := hl257; simp at h7 ⊢; omega
                have R262 : Hid (∀ j, Y259.cell? ⟨Y253.heap.size, j, none⟩ = (#[qs [32], qs [32, 32]] : Array Value)[j]?) := Lib.hid (fun j => by rw [← hY259]; exact World.cell?_alloc_new _ _ _ _)
                have hl263 : Y253.heap.size < Y259.heap.size := by rw [← hY259]; simp
                have hb264 : Y253.heap.size ≠ w0.heap.size := by have h7 := T254.out.lt; have h8 : w0.heap.size < Y253.heap.size := h7; omega
                clear hY259
                have hrow267 := (R262.out qa).trans hsa
                refine wpAnyT_pure 5 ?v268 rfl (by kernel_rfl) (by kernel_rfl) (by kernel_rfl) (by kernel_rfl) (fun _ _ _ h => h) trivial rfl ?run268 ?rest268
                case run268 => intro w hS; go_simp; rfl
                refine wpAnyT_all (rs := [6, 9]) (by kernel_rfl) (by decide) ?_
                intro ii hi
                have hi2 : ii = 6 ∨ ii = 9 := by simpa using hi
                clear hi
                rcases hi2 with rfl | rfl
                · skip
                  refine wpOp_of_list rfl ?_
                  go_wp2
                  refine ⟨fun _ => trivial, ?_⟩
                  refine wpAnyT_all (rs := [9]) (by kernel_rfl) (by decide) ?_
                  intro ii hi
                  obtain rfl : ii = 9 := by simpa using hi
                  clear hi
                  refine wpOp_of_list rfl ?_
                  go_wp2_with fail
                  refine (next_pos T260.out 12 (by omega) (by omega)).mono ?_
                  rintro e u269 ⟨qb, qb1, rfl, t4, b4⟩
                  have T270 := Lib.hid t4
                  have B271 := Lib.hid (B261.out.trans (b4.toBelow (Nat.le_refl _) B261.out.size))
                  obtain ⟨sb, hsb, lb⟩ := str_at #[qs [97], qs [112], qs [108, 105, 118, 101], qs [117, 110, 105, 110, 105, 116], qs [51], qs [48], qs [49, 50], qs [49, 48, 52, 56, 53, 55, 55], qs [45, 49], qs [114, 101, 97, 99, 104], qs [57, 57, 57, 57, 57, 57, 57, 57, 57, 57, 57], qs []] 12 11 rfl rfl qb (by omega)
                  have hs1 : ¬ 9223372036854775807 < sa.length + sb.length := by omega
                  have hs2 : ¬ 9223372036854775807 < xs.length + (sa.length + sb.length) := by omega
                  have R272 : Hid (∀ j, u269.cell? ⟨u150.heap.size, j, none⟩ = (#[qs [97], qs [112], qs [108, 105, 118, 101], qs [117, 110, 105, 110, 105, 116], qs [51], qs [48], qs [49, 50], qs [49, 48, 52, 56, 53, 55, 55], qs [45, 49], qs [114, 101, 97, 99, 104], qs [57, 57, 57, 57, 57, 57, 57, 57, 57, 57, 57], qs []] : Array Value)[j]?) := Lib.hid (fun j => (b4.cell u150.heap.size j hl266 hb258).trans (R265.out j))
                  have hl273 : u150.heap.size < u269.heap.size := Nat.lt_of_lt_of_le hl266 b4.size
                  clear t4 b4
                  go_wp2
                  refine ⟨fun _ => trivial, ?_⟩
                  have hrow274 := (R272.out qb).trans hsb
                  refine wpAnyT_pure 10 ?v275 rfl (by kernel_rfl) (by kernel_rfl) (by kernel_rfl) (by kernel_rfl) (fun _ _ _ h => h) trivial rfl ?run275 ?rest275
                  case run275 => intro w hS; go_simp; rfl
                  refine wpAnyT_all (rs := [11]) (by kernel_rfl) (by decide) ?_
                  intro ii hi
                  obtain rfl : ii = 11 := by simpa using hi
                  clear hi
                  refine wpOp_of_list rfl ?_
                  go_wp2
                  refine ⟨fun _ => trivial, ?_⟩
                  refine wpAnyT_pure 12 ?v276 rfl (by kernel_rfl) (by kernel_rfl) (by kernel_rfl) (by kernel_rfl) (fun _ _ _ h => h) trivial rfl ?run276 ?rest276
                  case run276 => intro w hS; go_simp; rfl
                  refine wpAnyT_pure 13 ?v277 rfl (by kernel_rfl) (by kernel_rfl) (by kernel_rfl) (by kernel_rfl) (fun _ _ _ h => h) trivial rfl ?run277 ?rest277
                  case run277 => intro w hS; go_simp; rfl
                  refine wpAnyT_all (rs := [14]) (by kernel_rfl) (by decide) ?_
                  intro ii hi
                  obtain rfl : ii = 14 := by simpa using hi
                  clear hi
                  refine wpOp_of_list rfl ?_
                  go_wp2
                  refine ⟨fun h => absurd rfl h, ?_⟩
                  refine wpAnyT_done (by kernel_rfl) ?_ _
                  go_wp2
                  go_roundw
                  case rel => exact ⟨xs ++ (sa ++ sb), _, by simp [app_str], rfl, by omega, by simp only [List.length_append]; omega, T270, B271⟩
                  case measure => simp [intOf]; omega
                · skip
                  refine wpOp_of_list rfl ?_
                  go_wp2_with fail
                  refine (next_pos T260.out 12 (by omega) (by omega)).mono ?_
                  rintro e u278 ⟨qb, qb1, rfl, t4, b4⟩
                  have T279 := Lib.hid t4
                  have B280 := Lib.hid (B261.out.trans (b4.toBelow (Nat.le_refl _) B261.out.size))
                  obtain ⟨sb, hsb, lb⟩ := str_at #[qs [97], qs [112], qs [108, 105, 118, 101], qs [117, 110, 105, 110, 105, 116], qs [51], qs [48], qs [49, 50], qs [49, 48, 52, 56, 53, 55, 55], qs [45, 49], qs [114, 101, 97, 99, 104], qs [57, 57, 57, 57, 57, 57, 57, 57, 57, 57, 57], qs []] 12 11 rfl rfl qb (by omega)
                  have hs1 : ¬ 9223372036854775807 < sa.length + sb.length := by omega
                  have hs2 : ¬ 9223372036854775807 < xs.length + (sa.length + sb.length) := by omega
                  have R281 : Hid (∀ j, u278.cell? ⟨Y253.heap.size, j, none⟩ = (#[qs [32], qs [32, 32]] : Array Value)[j]?) := Lib.hid (fun j => (b4.cell Y253.heap.size j hl263 hb264).trans (R262.out j))
                  have hl282 : Y253.heap.size < u278.heap.size := Nat.lt_of_lt_of_le hl263 b4.size
                  have R283 : Hid (∀ j, u278.cell? ⟨u150.heap.size, j, none⟩ = (#[qs [97], qs [112], qs [108, 105, 118, 101], qs [117, 110, 105, 110, 105, 116], qs [51], qs [48], qs [49, 50], qs [49, 48, 52, 56, 53, 55, 55], qs [45, 49], qs [114, 101, 97, 99, 104], qs [57, 57, 57, 57, 57, 57, 57, 57, 57, 57, 57], qs []] : Array Value)[j]?) := Lib.hid (fun j => (b4.cell u150.heap.size j hl266 hb258).trans (R265.out j))
                  have hl284 : u150.heap.size < u278.heap.size := Nat.lt_of_lt_of_le hl266 b4.size
                  clear t4 b4
                  go_wp2
                  refine ⟨fun _ => trivial, ?_⟩
                  have hrow285 := (R281.out qa).trans hsa
                  have hrow286 := (R283.out qb).trans hsb
                  refine wpAnyT_pure 10 ?v287 rfl (by kernel_rfl) (by kernel_rfl) (by kernel_rfl) (by kernel_rfl) (fun _ _ _ h => h) trivial rfl ?run287 ?rest287
                  case run287 => intro w hS; go_simp; rfl
                  refine wpAnyT_all (rs := [6, 11]) (by kernel_rfl) (by decide) ?_
                  intro ii hi
                  have hi2 : ii = 6 ∨ ii = 11 := by simpa using hi
                  clear hi
                  rcases hi2 with rfl | rfl
                  · skip
                    refine wpOp_of_list rfl ?_
                    go_wp2
                    refine ⟨fun _ => trivial, ?_⟩
                    refine wpAnyT_all (rs := [11]) (by kernel_rfl) (by decide) ?_
                    intro ii hi
                    obtain rfl : ii = 11 := by simpa using hi
                    clear hi
                    refine wpOp_of_list rfl ?_
                    go_wp2
                    refine ⟨fun _ => trivial, ?_⟩
                    refine wpAnyT_pure 12 ?v288 rfl (by kernel_rfl) (by kernel_rfl) (by kernel_rfl) (by kernel_rfl) (fun _ _ _ h => h) trivial rfl ?run288 ?rest288
                    case run288 => intro w hS; go_simp; rfl
                    refine wpAnyT_pure 13 ?v289 rfl (by kernel_rfl) (by kernel_rfl) (by kernel_rfl) (by kernel_rfl) (fun _ _ _ h => h) trivial rfl ?run289 ?rest289
                    case run289 => intro w hS; go_simp; rfl
                    refine wpAnyT_all (rs := [14]) (by kernel_rfl) (by decide) ?_
                    intro ii hi
                    obtain rfl : ii = 14 := by simpa using hi
                    clear hi
                    refine wpOp_of_list rfl ?_
                    go_wp2
                    refine ⟨fun h => absurd rfl h, ?_⟩
                    refine wpAnyT_done (by kernel_rfl) ?_ _
                    go_wp2
                    go_roundw
                    case rel => exact ⟨xs ++ (sa ++ sb), _, by simp [app_str], rfl, by omega, by simp only [List.length_append]; omega, T279, B280⟩
                    case measure => simp [intOf]; omega
                  · skip
                    refine wpOp_of_list rfl ?_
                    go_wp2
                    refine ⟨fun _ => trivial, ?_⟩
                    refine wpAnyT_all (rs := [6]) (by kernel_rfl) (by decide) ?_
                    intro ii hi
                    obtain rfl : ii = 6 := by simpa using hi
                    clear hi
                    refine wpOp_of_list rfl ?_
                    go_wp2
                    refine ⟨fun _ => trivial, ?_⟩
                    refine wpAnyT_pure 12 ?v290 rfl (by kernel_rfl) (by kernel_rfl) (by kernel_rfl) (by kernel_rfl) (fun _ _ _ h => h) trivial rfl ?run290 ?rest290
                    case run290 => intro w hS; go_simp; rfl
                    refine wpAnyT_pure 13 ?v291 rfl (by kernel_rfl) (by kernel_rfl) (by kernel_rfl) (by kernel_rfl) (fun _ _ _ h => h) trivial rfl ?run291 ?rest291
                    case run291 => intro w hS; go_simp; rfl
                    refine wpAnyT_all (rs := [14]) (by kernel_rfl) (by decide) ?_
                    intro ii hi
                    obtain rfl : ii = 14 := by simpa using hi
                    clear hi
                    refine wpOp_of_list rfl ?_
                    go_wp2
                    refine ⟨fun h => absurd rfl h, ?_⟩
                    refine wpAnyT_done (by kernel_rfl) ?_ _
                    go_wp2
                    go_roundw
                    case rel => exact ⟨xs ++ (sa ++ sb), _, by simp [app_str], rfl, by omega, by simp only [List.length_append]; omega, T279, B280⟩
                    case measure => simp [intOf]; omega
              · skip
                refine wpOp_of_list rfl ?_
                go_wp2_with fail
                refine (next_pos T254.out 12 (by omega) (by omega)).mono ?_
                rintro e u292 ⟨qb, qb1, rfl, t4, b4⟩
                have T293 := Lib.hid t4
                have B294 := Lib.hid (B255.out.trans (b4.toBelow (Nat.le_refl _) B255.out.size))
                obtain ⟨sb, hsb, lb⟩ := str_at #[qs [97], qs [112], qs [108, 105, 118, 101], qs [117, 110, 105, 110, 105, 116], qs [51], qs [48], qs [49, 50], qs [49, 48, 52, 56, 53, 55, 55], qs [45, 49], qs [114, 101, 97, 99, 104], qs [57, 57, 57, 57, 57, 57, 57, 57, 57, 57, 57], qs []] 12 11 rfl rfl qb (by omega)
                have hs1 : ¬ 9223372036854775807 < sa.length + sb.length := by omega
                have hs2 : ¬ 9223372036854775807 < xs.length + (sa.length + sb.length) := by omega
                have R295 : Hid (∀ j, u292.cell? ⟨u150.heap.size, j, none⟩ = (#[qs [97], qs [112], qs [108, 105, 118, 101], qs [117, 110, 105, 110, 105, 116], qs [51], qs [48], qs [49, 50], qs [49, 48, 52, 56, 53, 55, 55], qs [45, 49], qs [114, 101, 97, 99, 104], qs [57, 57, 57, 57, 57, 57, 57, 57, 57, 57, 57], qs []] : Array Value)[j]?) := Lib.hid (fun j => (b4.cell u150.heap.size j hl257 hb258).trans (R256.out j))
                have hl296 : u150.heap.size < u292.heap.size := Nat.lt_of_lt_of_le hl257 b4.size
                clear t4 b4
                go_wp2
                refine ⟨fun _ => trivial, ?_⟩
                have hrow297 := (R295.out qb).trans hsb
                refine wpAnyT_pure 10 ?v298 rfl (by kernel_rfl) (by kernel_rfl) (by kernel_rfl) (by kernel_rfl) (fun _ _ _ h => h) trivial rfl ?run298 ?rest298
                case run298 => intro w hS; go_simp; rfl
                refine wpAnyT_all (rs := [1, 11]) (by kernel_rfl) (by decide) ?_
                intro ii hi
                have hi2 : ii = 1 ∨ ii = 11 := by simpa using hi
                clear hi
                rcases hi2 with rfl | rfl
                · skip
                  refine wpOp_of_list rfl ?_
                  go_wp2
                  refine ⟨fun _ => trivial, ?_⟩
                  obtain ⟨Y299, hY299⟩ : ∃ Y, (u292).alloc (.cells #[qs [32], qs [32, 32]] 9) = Y := ⟨_, rfl⟩
                  rw [hY299]
                  have T300 := Lib.hid (show TapeOk w0.heap.size Y299 w0.heap.size by rw [← hY299]; exact T293.out.alloc _)
                  have B301 := Lib.hid (show Below w0.heap.size w0 Y299 by rw [← hY299]; exact B294.out.alloc B294.out.size _)
                  have R305 : Hid (∀ j, Y299.cell? ⟨u150.heap.size, j, none⟩ = (#[qs [97], qs [112], qs [108, 105, 118, 101], qs [117, 110, 105, 110, 105, 116], qs [51], qs [48], qs [49, 50], qs [49, 48, 52, 56, 53, 55, 55], qs [45, 49], qs [114, 101, 97, 99, 104], qs [57, 57, 57, 57, 57, 57, 57, 57, 57, 57, 57], qs []] : Array Value)[j]?) := Lib.hid (fun j => by rw [← hY299]; exact (((Below.refl (u292).heap.size (u292)).alloc (Nat.le_refl _) _).cell (p := ⟨u150.heap.size, j, none⟩) hl296).trans (R295.out j))
                  have hl306 : u150.heap.size < Y299.heap.size := by rw [← hY299]; have h7 : u150.heap.size < (u292).heap.size := hl296; simp at h7 ⊢; omega
                  have R302 : Hid (∀ j, Y299.cell? ⟨u292.heap.size, j, none⟩ = (#[qs [32], qs [32, 32]] : Array Value)[j]?) := Lib.hid (fun j => by rw [← hY299]; exact World.cell?_alloc_new _ _ _ _)
                  have hl303 : u292.heap.size < Y299.heap.size := by rw [← hY299]; simp
                  have hb304 : u292.heap.size ≠ w0.heap.size := by have h7 := T293.out.lt; have h8 : w0.heap.size < u292.heap.size := h7; omega
                  clear hY299
                  have hrow307 := (R302.out qa).trans hsa
                  have hrow308 := (R305.out qb).trans hsb
                  refine wpAnyT_pure 5 ?v309 rfl (by kernel_rfl) (by kernel_rfl) (by kernel_rfl) (by kernel_rfl) (fun _ _ _ h => h) trivial rfl ?run309 ?rest309
                  case run309 => intro w hS; go_simp; rfl
                  refine wpAnyT_all (rs := [6, 11]) (by kernel_rfl) (by decide) ?_
                  intro ii hi
                  have hi2 : ii = 6 ∨ ii = 11 := by simpa using hi
                  clear hi
                  rcases hi2 with rfl | rfl
                  · skip
                    refine wpOp_of_list rfl ?_
                    go_wp2
                    refine ⟨fun _ => trivial, ?_⟩
                    refine wpAnyT_all (rs := [11]) (by kernel_rfl) (by decide) ?_
                    intro ii hi
                    obtain rfl : ii = 11 := by simpa using hi
                    clear hi
                    refine wpOp_of_list rfl ?_
                    go_wp2
                    refine ⟨fun _ => trivial, ?_⟩
                    refine wpAnyT_pure 12 ?v310 rfl (by kernel_rfl) (by kernel_rfl) (by kernel_rfl) (by kernel_rfl) (fun _ _ _ h => h) trivial rfl ?run310 ?rest310
                    case run310 => intro w hS; go_simp; rfl
                    refine wpAnyT_pure 13 ?v311 rfl (by kernel_rfl) (by kernel_rfl) (by kernel_rfl) (by kernel_rfl) (fun _ _ _ h => h) trivial rfl ?run311 ?rest311
                    case run311 => intro w hS; go_simp; rfl
                    refine wpAnyT_all (rs := [14]) (by kernel_rfl) (by decide) ?_
                    intro ii hi
                    obtain rfl : ii = 14 := by simpa using hi
                    clear hi
                    refine wpOp_of_list rfl ?_
                    go_wp2
                    refine ⟨fun h => absurd rfl h, ?_⟩
                    refine wpAnyT_done (by kernel_rfl) ?_ _
                    go_wp2
                    go_roundw
                    case rel => exact ⟨xs ++ (sa ++ sb), _, by simp [app_str], rfl, by omega, by simp only [List.length_append]; omega, T300, B301⟩
                    case measure => simp [intOf]; omega
                  · skip
                    refine wpOp_of_list rfl ?_
                    go_wp2
                    refine ⟨fun _ => trivial, ?_⟩
                    refine wpAnyT_all (rs := [6]) (by kernel_rfl) (by decide) ?_
                    intro ii hi
                    obtain rfl : ii = 6 := by simpa using hi
                    clear hi
                    refine wpOp_of_list rfl ?_
                    go_wp2
                    refine ⟨fun _ => trivial, ?_⟩
                    refine wpAnyT_pure 12 ?v312 rfl (by kernel_rfl) (by kernel_rfl) (by kernel_rfl) (by kernel_rfl) (fun _ _ _ h => h) trivial rfl ?run312 ?rest312
                    case run312 => intro w hS; go_simp; rfl
                    refine wpAnyT_pure 13 ?v313 rfl (by kernel_rfl) (by kernel_rfl) (by kernel_rfl) (by kernel_rfl) (fun _ _ _ h => h) trivial rfl ?run313 ?rest313
                    case run313 => intro w hS; go_simp; rfl
                    refine wpAnyT_all (rs := [14]) (by kernel_rfl) (by decide) ?_
                    intro ii hi
                    obtain rfl : ii = 14 := by simpa using hi
                    clear hi
                    refine wpOp_of_list rfl ?_
                    go_wp2
                    refine ⟨fun h => absurd rfl h, ?_⟩
                    refine wpAnyT_done (by kernel_rfl) ?_ _
                    go_wp2
                    go_roundw
                    case rel => exact ⟨xs ++ (sa ++ sb), _, by simp [app_str], rfl, by omega, by simp only [List.length_append]; omega, T300, B301⟩
                    case measure => simp [intOf]; omega
                · skip
                  refine wpOp_of_list rfl ?_
                  go_wp2
                  refine ⟨fun _ => trivial, ?_⟩
                  refine wpAnyT_all (rs := [1]) (by kernel_rfl) (by decide) ?_
                  intro ii hi
                  obtain rfl : ii = 1 := by simpa using hi
                  clear hi
                  refine wpOp_of_list rfl ?_
                  go_wp2
                  refine ⟨fun _ => trivial, ?_⟩
                  obtain ⟨Y314, hY314⟩ : ∃ Y, (u292).alloc (.cells #[qs [32], qs [32, 32]] 9) = Y := ⟨_, rfl⟩
                  rw [hY314]
                  have T315 := Lib.hid (show TapeOk w0.heap.size Y314 w0.heap.size by rw [← hY314]; exact T293.out.alloc _)
                  have B316 := Lib.hid (show Below w0.heap.size w0 Y314 by rw [← hY314]; exact B294.out.alloc B294.out.size _)
                  have R317 : Hid (∀ j, Y314.cell? ⟨u292.heap.size, j, none⟩ = (#[qs [32], qs [32, 32]] : Array Value)[j]?) := Lib.hid (fun j => by rw [← hY314]; exact World.cell?_alloc_new _ _ _ _)
                  have hl318 : u292.heap.size < Y314.heap.size := by rw [← hY314]; simp
                  have hb319 : u292.heap.size ≠ w0.heap.size := by have h7 := T293.out.lt; have h8 : w0.heap.size < u292.heap.size := h7; omega
                  clear hY314
                  have hrow320 := (R317.out qa).trans hsa
                  refine wpAnyT_pure 5 ?v321 rfl (by kernel_rfl) (by kernel_rfl) (by kernel_rfl) (by kernel_rfl) (fun _ _ _ h => h) trivial rfl ?run321 ?rest321
                  case run321 => intro w hS; go_simp; rfl
                  refine wpAnyT_all (rs := [6]) (by kernel_rfl) (by decide) ?_
                  intro ii hi
                  obtain rfl : ii = 6 := by simpa using hi
                  clear hi
                  refine wpOp_of_list rfl ?_
                  go_wp2
                  refine ⟨fun _ => trivial, ?_⟩
                  refine wpAnyT_pure 12 ?v322 rfl (by kernel_rfl) (by kernel_rfl) (by kernel_rfl) (by kernel_rfl) (fun _ _ _ h => h) trivial rfl ?run322 ?rest322
                  case run322 => intro w hS; go_simp; rfl
                  refine wpAnyT_pure 13 ?v323 rfl (by kernel_rfl) (by kernel_rfl) (by kernel_rfl) (by kernel_rfl) (fun _ _ _ h => h) trivial rfl ?run323 ?rest323
                  case run323 => intro w hS; go_simp; rfl
                  refine wpAnyT_all (rs := [14]) (by kernel_rfl) (by decide) ?_
                  intro ii hi
                  obtain rfl : ii = 14 := by simpa using hi
                  clear hi
                  refine wpOp_of_list rfl ?_
                  go_wp2
                  refine ⟨fun h => absurd rfl h, ?_⟩
                  refine wpAnyT_done (by kernel_rfl) ?_ _
                  go_wp2
                  go_roundw
                  case rel => exact ⟨xs ++ (sa ++ sb), _, by simp [app_str], rfl, by omega, by simp only [List.length_append]; omega, T315, B316⟩
                  case measure => simp [intOf]; omega
            · skip
              refine wpOp_of_list rfl ?_
              go_wp2_with fail
              refine (next_pos T151.out 12 (by omega) (by omega)).mono ?_
              rintro e u324 ⟨qb, qb1, rfl, t4, b4⟩
              have T325 := Lib.hid t4
              have B326 := Lib.hid (B152.out.trans (b4.toBelow (Nat.le_refl _) B152.out.size))
              obtain ⟨sb, hsb, lb⟩ := str_at #[qs [97], qs [112], qs [108, 105, 118, 101], qs [117, 110, 105, 110, 105, 116], qs [51], qs [48], qs [49, 50], qs [49, 48, 52, 56, 53, 55, 55], qs [45, 49], qs [114, 101, 97, 99, 104], qs [57, 57, 57, 57, 57, 57, 57, 57, 57, 57, 57], qs []] 12 11 rfl rfl qb (by omega)
              have hs1 : ¬ 9223372036854775807 < sa.length + sb.length := by omega
              have hs2 : ¬ 9223372036854775807 < xs.length + (sa.length + sb.length) := by omega
              clear t4 b4
              go_wp2
              refine ⟨fun _ => trivial, ?_⟩
              refine wpAnyT_all (rs := [1, 7]) (by kernel_rfl) (by decide) ?_
              intro ii hi
              have hi2 : ii = 1 ∨ ii = 7 := by simpa using hi
              clear hi
              rcases hi2 with rfl | rfl
              · skip
                refine wpOp_of_list rfl ?_
                go_wp2
                refine ⟨fun _ => trivial, ?_⟩
                obtain ⟨Y327, hY327⟩ : ∃ Y, (u324).alloc (.cells #[qs [32], qs [32, 32]] 9) = Y := ⟨_, rfl⟩
                rw [hY327]
                have T328 := Lib.hid (show TapeOk w0.heap.size Y327 w0.heap.size by rw [← hY327]; exact T325.out.alloc _)
                have B329 := Lib.hid (show Below w0.heap.size w0 Y327 by rw [← hY327]; exact B326.out.alloc B326.out.size _)
                have R330 : Hid (∀ j, Y327.cell? ⟨u324.heap.size, j, none⟩ = (#[qs [32], qs [32, 32]] : Array Value)[j]?) := Lib.hid (fun j => by rw [← hY327]; exact World.cell?_alloc_new _ _ _ _)
                have hl331 : u324.heap.size < Y327.heap.size := by rw [← hY327]; simp
                have hb332 : u324.heap.size ≠ w0.heap.size := by have h7 := T325.out.lt; have h8 : w0.heap.size < u324.heap.size := h7; omega
                clear hY327
                have hrow333 := (R330.out qa).trans hsa
                refine wpAnyT_pure 5 ?v334 rfl (by kernel_rfl) (by kernel_rfl) (by kernel_rfl) (by kernel_rfl) (fun _ _ _ h => h) trivial rfl ?run334 ?rest334
                case run334 => intro w hS; go_simp; rfl
                refine wpAnyT_all (rs := [6, 7]) (by kernel_rfl) (by decide) ?_
                intro ii hi
                have hi2 : ii = 6 ∨ ii = 7 := by simpa using hi
                clear hi
                rcases hi2 with rfl | rfl
                · skip
                  refine wpOp_of_list rfl ?_
                  go_wp2
                  refine ⟨fun _ => trivial, ?_⟩
                  refine wpAnyT_all (rs := [7]) (by kernel_rfl) (by decide) ?_
                  intro ii hi
                  obtain rfl : ii = 7 := by simpa using hi
                  clear hi
                  refine wpOp_of_list rfl ?_
                  go_wp2
                  refine ⟨fun _ => trivial, ?_⟩
                  obtain ⟨Y335, hY335⟩ : ∃ Y, (Y327).alloc (.cells #[qs [97], qs [112], qs [108, 105, 118, 101], qs [117, 110, 105, 110, 105, 116], qs [51], qs [48], qs [49, 50], qs [49, 48, 52, 56, 53, 55, 55], qs [45, 49], qs [114, 101, 97, 99, 104], qs [57, 57, 57, 57, 57, 57, 57, 57, 57, 57, 57], qs []] 9) = Y := ⟨_, rfl⟩
                  rw [hY335]
                  have T336 := Lib.hid (show TapeOk w0.heap.size Y335 w0.heap.size by rw [← hY335]; exact T328.out.alloc _)
                  have B337 := Lib.hid (show Below w0.heap.size w0 Y335 by rw [← hY335]; exact B329.out.alloc B329.out.size _)
                  have R338 : Hid (∀ j, Y335.cell? ⟨Y327.heap.size, j, none⟩ = (#[qs [97], qs [112], qs [108, 105, 118, 101], qs [117, 110, 105, 110, 105, 116], qs [51], qs [48], qs [49, 50], qs [49, 48, 52, 56, 53, 55, 55], qs [45, 49], qs [114, 101, 97, 99, 104], qs [57, 57, 57, 57, 57, 57, 57, 57, 57, 57, 57], qs []] : Array Value)[j]?) := Lib.hid (fun j => by rw [← hY335]; exact World.cell?_alloc_new _ _ _ _)
                  have hl339 : Y327.heap.size < Y335.heap.size := by rw [← hY335]; simp
                  have hb340 : Y327.heap.size ≠ w0.heap.size := by have h7 := T328.out.lt; have h8 : w0.heap.size < Y327.heap.size := h7; omega
                  clear hY335
                  have hrow341 := (R338.out qb).trans hsb
                  refine wpAnyT_pure 10 ?v342 rfl (by kernel_rfl) (by kernel_rfl) (by kernel_rfl) (by kernel_rfl) (fun _ _ _ h => h) trivial rfl ?run342 ?rest342
                  case run342 => intro w hS; go_simp; rfl
                  refine wpAnyT_all (rs := [11]) (by kernel_rfl) (by decide) ?_
                  intro ii hi
                  obtain rfl : ii = 11 := by simpa using hi
                  clear hi
                  refine wpOp_of_list rfl ?_
                  go_wp2
                  refine ⟨fun _ => trivial, ?_⟩
                  refine wpAnyT_pure 12 ?v343 rfl (by kernel_rfl) (by kernel_rfl) (by kernel_rfl) (by kernel_rfl) (fun _ _ _ h => h) trivial rfl ?run343 ?rest343
                  case run343 => intro w hS; go_simp; rfl
                  refine wpAnyT_pure 13 ?v344 rfl (by kernel_rfl) (by kernel_rfl) (by kernel_rfl) (by kernel_rfl) (fun _ _ _ h => h) trivial rfl ?run344 ?rest344
                  case run344 => intro w hS; go_simp; rfl
                  refine wpAnyT_all (rs := [14]) (by kernel_rfl) (by decide) ?_
                  intro ii hi
                  obtain rfl : ii = 14 := by simpa using hi
                  clear hi
                  refine wpOp_of_list rfl ?_
                  go_wp2
                  refine ⟨fun h => absurd rfl h, ?_⟩
                  refine wpAnyT_done (by kernel_rfl) ?_ _
                  go_wp2
                  go_roundw
                  case rel => exact ⟨xs ++ (sa ++ sb), _, by simp [app_str], rfl, by omega, by simp only [List.length_append]; omega, T336, B337⟩
                  case measure => simp [intOf]; omega
                · skip
                  refine wpOp_of_list rfl ?_
                  go_wp2
                  refine ⟨fun _ => trivial, ?_⟩
                  obtain ⟨Y345, hY345⟩ : ∃ Y, (Y327).alloc (.cells #[qs [97], qs [112], qs [108, 105, 118, 101], qs [117, 110, 105, 110, 105, 116], qs [51], qs [48], qs [49, 50], qs [49, 48, 52, 56, 53, 55, 55], qs [45, 49], qs [114, 101, 97, 99, 104], qs [57, 57, 57, 57, 57, 57, 57, 57, 57, 57, 57], qs []] 9) = Y := ⟨_, rfl⟩
                  rw [hY345]
                  have T346 := Lib.hid (show TapeOk w0.heap.size Y345 w0.heap.size by rw [← hY345]; exact T328.out.alloc _)
                  have B347 := Lib.hid (show Below w0.heap.size w0 Y345 by rw [← hY345]; exact B329.out.alloc B329.out.size _)
                  have R351 : Hid (∀ j, Y345.cell? ⟨u324.heap.size, j, none⟩ = (#[qs [32], qs [32, 32]] : Array Value)[j]?) := Lib.hid (fun j => by rw [← hY345]; exact (((Below.refl (Y327).heap.size (Y327)).alloc (Nat.le_refl _) _).cell (p := ⟨u324.heap.size, j, none⟩) hl331).trans (R330.out j))
                  have hl352 : u324.heap.size < Y345.heap.size := by rw [← hY345]; have h7 : u324.heap.size < (Y327).heap.size := hl331; simp at h7 ⊢; omega
                  have R348 : Hid (∀ j, Y345.cell? ⟨Y327.heap.size, j, none⟩ = (#[qs [97], qs [112], qs [108, 105, 118, 101], qs [117, 110, 105, 110, 105, 116], qs [51], qs [48], qs [49, 50], qs [49, 48, 52, 56, 53, 55, 55], qs [45, 49], qs [114, 101, 97, 99, 104], qs [57, 57, 57, 57, 57, 57, 57, 57, 57, 57, 57], qs []] : Array Value)[j]?) := Lib.hid (fun j => by rw [← hY345]; exact World.cell?_alloc_new _ _ _ _)
                  have hl349 : Y327.heap.size < Y345.heap.size := by rw [← hY345]; simp
                  have hb350 : Y327.heap.size ≠ w0.heap.size := by have h7 := T328.out.lt; have h8 : w0.heap.size < Y327.heap.size := h7; omega
                  clear hY345
                  have hrow353 := (R351.out qa).trans hsa
                  have hrow354 := (R348.out qb).trans hsb
                  refine wpAnyT_pure 10 ?v355 rfl (by kernel_rfl) (by kernel_rfl) (by kernel_rfl) (by kernel_rfl) (fun _ _ _ h => h) trivial rfl ?run355 ?rest355
                  case run355 => intro w hS; go_simp; rfl
                  refine wpAnyT_all (rs := [6, 11]) (by kernel_rfl) (by decide) ?_
                  intro ii hi
                  have hi2 : ii = 6 ∨ ii = 11 := by simpa using hi
                  clear hi
                  rcases hi2 with rfl | rfl
                  · skip
                    refine wpOp_of_list rfl ?_
                    go_wp2
                    refine ⟨fun _ => trivial, ?_⟩
                    refine wpAnyT_all (rs := [11]) (by kernel_rfl) (by decide) ?_
                    intro ii hi
                    obtain rfl : ii = 11 := by simpa using hi
                    clear hi
                    refine wpOp_of_list rfl ?_
                    go_wp2
                    refine ⟨fun _ => trivial, ?_⟩
                    refine wpAnyT_pure 12 ?v356 rfl (by kernel_rfl) (by kernel_rfl) (by kernel_rfl) (by kernel_rfl) (fun _ _ _ h => h) trivial rfl ?run356 ?rest356
                    case run356 => intro w hS; go_simp; rfl
                    refine wpAnyT_pure 13 ?v357 rfl (by kernel_rfl) (by kernel_rfl) (by kernel_rfl) (by kernel_rfl) (fun _ _ _ h => h) trivial rfl ?run357 ?rest357
                    case run357 => intro w hS; go_simp; rfl
                    refine wpAnyT_all (rs := [14]) (by kernel_rfl) (by decide) ?_
                    intro ii hi
                    obtain rfl : ii = 14 := by simpa using hi
                    clear hi
                    refine wpOp_of_list rfl ?_
                    go_wp2
                    refine ⟨fun h => absurd rfl h, ?_⟩
                    refine wpAnyT_done (by kernel_rfl) ?_ _
                    go_wp2
                    go_roundw
                    case rel => exact ⟨xs ++ (sa ++ sb), _, by simp [app_str], rfl, by omega, by simp only [List.length_append]; omega, T346, B347⟩
                    case measure => simp [intOf]; omega
                  · skip
                    refine wpOp_of_list rfl ?_
                    go_wp2
                    refine ⟨fun _ => trivial, ?_⟩
                    refine wpAnyT_all (rs := [6]) (by kernel_rfl) (by decide) ?_
                    intro ii hi
                    obtain rfl : ii = 6 := by simpa using hi
                    clear hi
                    refine wpOp_of_list rfl ?_
                    go_wp2
                    refine ⟨fun _ => trivial, ?_⟩
                    refine wpAnyT_pure 12 ?v358 rfl (by kernel_rfl) (by kernel_rfl) (by kernel_rfl) (by kernel_rfl) (fun _ _ _ h => h) trivial rfl ?run358 ?rest358
                    case run358 => intro w hS; go_simp; rfl
                    refine wpAnyT_pure 13 ?v359 rfl (by kernel_rfl) (by kernel_rfl) (by kernel_rfl) (by kernel_rfl) (fun _ _ _ h => h) trivial rfl ?run359 ?rest359
                    case run359 => intro w hS; go_simp; rfl
                    refine wpAnyT_all (rs := [14]) (by kernel_rfl) (by decide) ?_
                    intro ii hi
                    obtain rfl : ii = 14 := by simpa using hi
                    clear hi
                    refine wpOp_of_list rfl ?_
                    go_wp2
                    refine ⟨fun h => absurd rfl h, ?_⟩
                    refine wpAnyT_done (by kernel_rfl) ?_ _
                    go_wp2
                    go_roundw
                    case rel => exact ⟨xs ++ (sa ++ sb), _, by simp [app_str], rfl, by omega, by simp only [List.length_append]; omega, T346, B347⟩
                    case measure => simp [intOf]; omega
              · skip
                refine wpOp_of_list rfl ?_
                go_wp2
                refine ⟨fun _ => trivial, ?_⟩
                obtain ⟨Y360, hY360⟩ : ∃ Y, (u324).alloc (.cells #[qs [97], qs [112], qs [108, 105, 118, 101], qs [117, 110, 105, 110, 105, 116], qs [51], qs [48], qs [49, 50], qs [49, 48, 52, 56, 53, 55, 55], qs [45, 49], qs [114, 101, 97, 99, 104], qs [57, 57, 57, 57, 57, 57, 57, 57, 57, 57, 57], qs []] 9) = Y := ⟨_, rfl⟩
                rw [hY360]
                have T361 := Lib.hid (show TapeOk w0.heap.size Y360 w0.heap.size by rw [← hY360]; exact T325.out.alloc _)
                have B362 := Lib.hid (show Below w0.heap.size w0 Y360 by rw [← hY360]; exact B326.out.alloc B326.out.size _)
                have R363 : Hid (∀ j, Y360.cell? ⟨u324.heap.size, j, none⟩ = (#[qs [97], qs [112], qs [108, 105, 118, 101], qs [117, 110, 105, 110, 105, 116], qs [51], qs [48], qs [49, 50], qs [49, 48, 52, 56, 53, 55, 55], qs [45, 49], qs [114, 101, 97, 99, 104], qs [57, 57, 57, 57, 57, 57, 57, 57, 57, 57, 57], qs []] : Array Value)[j]?) := Lib.hid (fun j => by rw [← hY360]; exact World.cell?_alloc_new _ _ _ _)
                have hl364 : u324.heap.size < Y360.heap.size := by rw [← hY360]; simp
                have hb365 : u324.heap.size ≠ w0.heap.size := by have h7 := T325.out.lt; have h8 : w0.heap.size < u324.heap.size := h7; omega
                clear hY360
                have hrow366 := (R363.out qb).trans hsb
                refine wpAnyT_pure 10 ?v367 rfl (by kernel_rfl) (by kernel_rfl) (by kernel_rfl) (by kernel_rfl) (fun _ _ _ h => h) trivial rfl ?run367 ?rest367
                case run367 => intro w hS; go_simp; rfl
                refine wpAnyT_all (rs := [1, 11]) (by kernel_rfl) (by decide) ?_
                intro ii hi
                have hi2 : ii = 1 ∨ ii = 11 := by simpa using hi
                clear hi
                rcases hi2 with rfl | rfl
                · skip
                  refine wpOp_of_list rfl ?_
                  go_wp2
                  refine ⟨fun _ => trivial, ?_⟩
                  obtain ⟨Y368, hY368⟩ : ∃ Y, (Y360).alloc (.cells #[qs [32], qs [32, 32]] 9) = Y := ⟨_, rfl⟩
                  rw [hY368]
                  have T369 := Lib.hid (show TapeOk w0.heap.size Y368 w0.heap.size by rw [← hY368]; exact T361.out.alloc _)
                  have B370 := Lib.hid (show Below w0.heap.size w0 Y368 by rw [← hY368]; exact B362.out.alloc B362.out.size _)
                  have R374 : Hid (∀ j, Y368.cell? ⟨u324.heap.size, j, none⟩ = (#[qs [97], qs [112], qs [108, 105, 118, 101], qs [117, 110, 105, 110, 105, 116], qs [51], qs [48], qs [49, 50], qs [49, 48, 52, 56, 53, 55, 55], qs [45, 49], qs [114, 101, 97, 99, 104], qs [57, 57, 57, 57, 57, 57, 57, 57, 57, 57, 57], qs []] : Array Value)[j]?) := Lib.hid (fun j => by rw [← hY368]; exact (((Below.refl (Y360).heap.size (Y360)).alloc (Nat.le_refl _) _).cell (p := ⟨u324.heap.size, j, none⟩) hl364).trans (R363.out j))
                  have hl375 : u324.heap.size < Y368.heap.size := by rw [← hY368]; have h7 : u324.heap.size < (Y360).heap.size := hl364; simp at h7 ⊢; omega
                  have R371 : Hid (∀ j, Y368.cell? ⟨Y360.heap.size, j, none⟩ = (#[qs [32], qs [32, 32]] : Array Value)[j]?) := Lib.hid (fun j => by rw [← hY368]; exact World.cell?_alloc_new _ _ _ _)
                  have hl372 : Y360.heap.size < Y368.heap.size := by rw [← hY368]; simp
                  have hb373 : Y360.heap.size ≠ w0.heap.size := by have h7 := T361.out.lt; have h8 : w0.heap.size < Y360.heap.size := h7; omega
                  clear hY368
                  have hrow376 := (R371.out qa).trans hsa
                  have hrow377 := (R374.out qb).trans hsb
                  refine wpAnyT_pure 5 ?v378 rfl (by kernel_rfl) (by kernel_rfl) (by kernel_rfl) (by kernel_rfl) (fun _ _ _ h => h) trivial rfl ?run378 ?rest378
                  case run378 => intro w hS; go_simp; rfl
                  refine wpAnyT_all (rs := [6, 11]) (by kernel_rfl) (by decide) ?_
                  intro ii hi
                  have hi2 : ii = 6 ∨ ii = 11 := by simpa using hi
                  clear hi
                  rcases hi2 with rfl | rfl
                  · skip
                    refine wpOp_of_list rfl ?_
                    go_wp2
                    refine ⟨fun _ => trivial, ?_⟩
                    refine wpAnyT_all (rs := [11]) (by kernel_rfl) (by decide) ?_
                    intro ii hi
                    obtain rfl : ii = 11 := by simpa using hi
                    clear hi
                    refine wpOp_of_list rfl ?_
                    go_wp2
                    refine ⟨fun _ => trivial, ?_⟩
                    refine wpAnyT_pure 12 ?v379 rfl (by kernel_rfl) (by kernel_rfl) (by kernel_rfl) (by kernel_rfl) (fun _ _ _ h => h) trivial rfl ?run379 ?rest379
                    case run379 => intro w hS; go_simp; rfl
                    refine wpAnyT_pure 13 ?v380 rfl (by kernel_rfl) (by kernel_rfl) (by kernel_rfl) (by kernel_rfl) (fun _ _ _ h => h) trivial rfl ?run380 ?rest380
                    case run380 => intro w hS; go_simp; rfl
                    refine wpAnyT_all (rs := [14]) (by kernel_rfl) (by decide) ?_
                    intro ii hi
                    obtain rfl : ii = 14 := by simpa using hi
                    clear hi
                    refine wpOp_of_list rfl ?_
                    go_wp2
                    refine ⟨fun h => absurd rfl h, ?_⟩
                    refine wpAnyT_done (by kernel_rfl) ?_ _
                    go_wp2
                    go_roundw
                    case rel => exact ⟨xs ++ (sa ++ sb), _, by simp [app_str], rfl, by omega, by simp only [List.length_append]; omega, T369, B370⟩
                    case measure => simp [intOf]; omega
                  · skip
                    refine wpOp_of_list rfl ?_
                    go_wp2
                    refine ⟨fun _ => trivial, ?_⟩
                    refine wpAnyT_all (rs := [6]) (by kernel_rfl) (by decide) ?_
                    intro ii hi
                    obtain rfl : ii = 6 := by simpa using hi
                    clear hi
                    refine wpOp_of_list rfl ?_
                    go_wp2
                    refine ⟨fun _ => trivial, ?_⟩
                    refine wpAnyT_pure 12 ?v381 rfl (by kernel_rfl) (by kernel_rfl) (by kernel_rfl) (by kernel_rfl) (fun _ _ _ h => h) trivial rfl ?run381 ?rest381
                    case run381 => intro w hS; go_simp; rfl
                    refine wpAnyT_pure 13 ?v382 rfl (by kernel_rfl) (by kernel_rfl) (by kernel_rfl) (by kernel_rfl) (fun _ _ _ h => h) trivial rfl ?run382 ?rest382
                    case run382 => intro w hS; go_simp; rfl
                    refine wpAnyT_all (rs := [14]) (by kernel_rfl) (by decide) ?_
                    intro ii hi
                    obtain rfl : ii = 14 := by simpa using hi
                    clear hi
                    refine wpOp_of_list rfl ?_
                    go_wp2
                    refine ⟨fun h => absurd rfl h, ?_⟩
                    refine wpAnyT_done (by kernel_rfl) ?_ _
                    go_wp2
                    go_roundw
                    case rel => exact ⟨xs ++ (sa ++ sb), _, by simp [app_str], rfl, by omega, by simp only [List.length_append]; omega, T369, B370⟩
                    case measure => simp [intOf]; omega
                · skip
                  refine wpOp_of_list rfl ?_
                  go_wp2
                  refine ⟨fun _ => trivial, ?_⟩
                  refine wpAnyT_all (rs := [1]) (by kernel_rfl) (by decide) ?_
                  intro ii hi
                  obtain rfl : ii = 1 := by simpa using hi
                  clear hi
                  refine wpOp_of_list rfl ?_
                  go_wp2
                  refine ⟨fun _ => trivial, ?_⟩
                  obtain ⟨Y383, hY383⟩ : ∃ Y, (Y360).alloc (.cells #[qs [32], qs [32, 32]] 9) = Y := ⟨_, rfl⟩
                  rw [hY383]
                  have T384 := Lib.hid (show TapeOk w0.heap.size Y383 w0.heap.size by rw [← hY383]; exact T361.out.alloc _)
                  have B385 := Lib.hid (show Below w0.heap.size w0 Y383 by rw [← hY383]; exact B362.out.alloc B362.out.size _)
                  have R386 : Hid (∀ j, Y383.cell? ⟨Y360.heap.size, j, none⟩ = (#[qs [32], qs [32, 32]] : Array Value)[j]?) := Lib.hid (fun j => by rw [← hY383]; exact World.cell?_alloc_new _ _ _ _)
                  have hl387 : Y360.heap.size < Y383.heap.size := by rw [← hY383]; simp
                  have hb388 : Y360.heap.size ≠ w0.heap.size := by have h7 := T361.out.lt; have h8 : w0.heap.size < Y360.heap.size := h7; omega
                  clear hY383
                  have hrow389 := (R386.out qa).trans hsa
                  refine wpAnyT_pure 5 ?v390 rfl (by kernel_rfl) (by kernel_rfl) (by kernel_rfl) (by kernel_rfl) (fun _ _ _ h => h) trivial rfl ?run390 ?rest390
                  case run390 => intro w hS; go_simp; rfl
                  refine wpAnyT_all (rs := [6]) (by kernel_rfl) (by decide) ?_
                  intro ii hi
                  obtain rfl : ii = 6 := by simpa using hi
                  clear hi
                  refine wpOp_of_list rfl ?_
                  go_wp2
                  refine ⟨fun _ => trivial, ?_⟩
                  refine wpAnyT_pure 12 ?v391 rfl (by kernel_rfl) (by kernel_rfl) (by kernel_rfl) (by kernel_rfl) (fun _ _ _ h => h) trivial rfl ?run391 ?rest391
                  case run391 => intro w hS; go_simp; rfl
                  refine wpAnyT_pure 13 ?v392 rfl (by kernel_rfl) (by kernel_rfl) (by kernel_rfl) (by kernel_rfl) (fun _ _ _ h => h) trivial rfl ?run392 ?rest392
                  case run392 => intro w hS; go_simp; rfl
                  refine wpAnyT_all (rs := [14]) (by kernel_rfl) (by decide) ?_
                  intro ii hi
                  obtain rfl : ii = 14 := by simpa using hi
                  clear hi
                  refine wpOp_of_list rfl ?_
                  go_wp2
                  refine ⟨fun h => absurd rfl h, ?_⟩
                  refine wpAnyT_done (by kernel_rfl) ?_ _
                  go_wp2
                  go_roundw
                  case rel => exact ⟨xs ++ (sa ++ sb), _, by simp [app_str], rfl, by omega, by simp only [List.length_append]; omega, T384, B385⟩
                  case measure => simp [intOf]; omega
          · skip
            refine wpOp_of_list rfl ?_
            go_wp2
            refine ⟨fun _ => trivial, ?_⟩
            obtain ⟨Y393, hY393⟩ : ∃ Y, (wr.drewN 1).alloc (.cells #[qs [97], qs [112], qs [108, 105, 118, 101], qs [117, 110, 105, 110, 105, 116], qs [51], qs [48], qs [49, 50], qs [49, 48, 52, 56, 53, 55, 55], qs [45, 49], qs [114, 101, 97, 99, 104], qs [57, 57, 57, 57, 57, 57, 57, 57, 57, 57, 57], qs []] 9) = Y := ⟨_, rfl⟩
            rw [hY393]
            have T394 := Lib.hid (show TapeOk w0.heap.size Y393 w0.heap.size by rw [← hY393]; exact TD.out.alloc _)
            have B395 := Lib.hid (show Below w0.heap.size w0 Y393 by rw [← hY393]; exact BD.out.alloc BD.out.size _)
            have R396 : Hid (∀ j, Y393.cell? ⟨wr.heap.size, j, none⟩ = (#[qs [97], qs [112], qs [108, 105, 118, 101], qs [117, 110, 105, 110, 105, 116], qs [51], qs [48], qs [49, 50], qs [49, 48, 52, 56, 53, 55, 55], qs [45, 49], qs [114, 101, 97, 99, 104], qs [57, 57, 57, 57, 57, 57, 57, 57, 57, 57, 57], qs []] : Array Value)[j]?) := Lib.hid (fun j => by rw [← hY393]; exact World.cell?_alloc_new _ _ _ _)
            have hl397 : wr.heap.size < Y393.heap.size := by rw [← hY393]; simp
            have hb398 : wr.heap.size ≠ w0.heap.size := by have h7 := TD.out.lt; have h8 : w0.heap.size < wr.heap.size := h7; omega
            clear hY393
            refine wpAnyT_all (rs := [1, 3]) (by kernel_rfl) (by decide) ?_
            intro ii hi
            have hi2 : ii = 1 ∨ ii = 3 := by simpa using hi
            clear hi
            rcases hi2 with rfl | rfl
            · skip
              refine wpOp_of_list rfl ?_
              go_wp2
              refine ⟨fun _ => trivial, ?_⟩
              obtain ⟨Y399, hY399⟩ : ∃ Y, (Y393).alloc (.cells #[qs [32], qs [32, 32]] 9) = Y := ⟨_, rfl⟩
              rw [hY399]
              have T400 := Lib.hid (show TapeOk w0.heap.size Y399 w0.heap.size by rw [← hY399]; exact T394.out.alloc _)
              have B401 := Lib.hid (show Below w0.heap.size w0 Y399 by rw [← hY399]; exact B395.out.alloc B395.out.size _)
              have R405 : Hid (∀ j, Y399.cell? ⟨wr.heap.size, j, none⟩ = (#[qs [97], qs [112], qs [108, 105, 118, 101], qs [117, 110, 105, 110, 105, 116], qs [51], qs [48], qs [49, 50], qs [49, 48, 52, 56, 53, 55, 55], qs [45, 49], qs [114, 101, 97, 99, 104], qs [57, 57, 57, 57, 57, 57, 57, 57, 57, 57, 57], qs []] : Array Value)[j]?) := Lib.hid (fun j => by rw [← hY399]; exact (((Below.refl (Y393).heap.size (Y393)).alloc (Nat.le_refl _) _).cell (p := ⟨wr.heap.size, j, none⟩) hl397).trans (R396.out j))
              have hl406 : wr.heap.size < Y399.heap.size := by rw [← hY399]; have h7 : wr.heap.size < (Y393).heap.size := hl397; simp at h7 ⊢; omega
              have R402 : Hid (∀ j, Y399.cell? ⟨Y393.heap.size, j, none⟩ = (#[qs [32], qs [32, 32]] : Array Value)[j]?) := Lib.hid (fun j => by rw [← hY399]; exact World.cell?_alloc_new _ _ _ _)
              have hl403 : Y393.heap.size < Y399.heap.size := by rw [← hY399]; simp
              have hb404 : Y393.heap.size ≠ w0.heap.size := by have h7 := T394.out.lt; have h8 : w0.heap.size < Y393.heap.size := h7; omega
              clear hY399
              refine wpAnyT_all (rs := [3]) (by kernel_rfl) (by decide) ?_
              intro ii hi
              obtain rfl : ii = 3 := by simpa using hi
              clear hi
              refine wpOp_of_list rfl ?_
              go_wp2_with fail
              refine (next_pos T400.out 9 (by omega) (by omega)).mono ?_
              rintro e u407 ⟨ka, ka1, rfl, t4, b4⟩
              have T408 := Lib.hid t4
              have B409 := Lib.hid (B401.out.trans (b4.toBelow (Nat.le_refl _) B401.out.size))
              obtain ⟨qa, qa1, hqa, hqw⟩ := eight ka (by omega)
              have qa2 : (qa : Int) < 2 := by omega
              obtain ⟨sa, hsa, la⟩ := str_at #[qs [32], qs [32, 32]] 2 2 rfl rfl qa (by omega)
              have R410 : Hid (∀ j, u407.cell? ⟨Y393.heap.size, j, none⟩ = (#[qs [32], qs [32, 32]] : Array Value)[j]?) := Lib.hid (fun j => (b4.cell Y393.heap.size j hl403 hb404).trans (R402.out j))
              have hl411 : Y393.heap.size < u407.heap.size := Nat.lt_of_lt_of_le hl403 b4.size
              have R412 : Hid (∀ j, u407.cell? ⟨wr.heap.size, j, none⟩ = (#[qs [97], qs [112], qs [108, 105, 118, 101], qs [117, 110, 105, 110, 105, 116], qs [51], qs [48], qs [49, 50], qs [49, 48, 52, 56, 53, 55, 55], qs [45, 49], qs [114, 101, 97, 99, 104], qs [57, 57, 57, 57, 57, 57, 57, 57, 57, 57, 57], qs []] : Array Value)[j]?) := Lib.hid (fun j => (b4.cell wr.heap.size j hl406 hb398).trans (R405.out j))
              have hl413 : wr.heap.size < u407.heap.size := Nat.lt_of_lt_of_le hl406 b4.size
              clear t4 b4
              go_wp2
              refine ⟨fun _ => trivial, ?_⟩
              have hrow414 := (R410.out qa).trans hsa
              refine wpAnyT_pure 4 ?v415 rfl (by kernel_rfl) (by kernel_rfl) (by kernel_rfl) (by kernel_rfl) (fun _ _ _ h => h) trivial rfl ?run415 ?rest415
              case run415 => intro w hS; go_simp; rfl
              refine wpAnyT_pure 5 ?v416 rfl (by kernel_rfl) (by kernel_rfl) (by kernel_rfl) (by kernel_rfl) (fun _ _ _ h => h) trivial rfl ?run416 ?rest416
              case run416 => intro w hS; go_simp; rfl
              refine wpAnyT_all (rs := [6, 9]) (by kernel_rfl) (by decide) ?_
              intro ii hi
              have hi2 : ii = 6 ∨ ii = 9 := by simpa using hi
              clear hi
              rcases hi2 with rfl | rfl
              · skip
                refine wpOp_of_list rfl ?_
                go_wp2
                refine ⟨fun _ => trivial, ?_⟩
                refine wpAnyT_all (rs := [9]) (by kernel_rfl) (by decide) ?_
                intro ii hi
                obtain rfl : ii = 9 := by simpa using hi
                clear hi
                refine wpOp_of_list rfl ?_
                go_wp2_with fail
                refine (next_pos T408.out 12 (by omega) (by omega)).mono ?_
                rintro e u417 ⟨qb, qb1, rfl, t4, b4⟩
                have T418 := Lib.hid t4
                have B419 := Lib.hid (B409.out.trans (b4.toBelow (Nat.le_refl _) B409.out.size))
                obtain ⟨sb, hsb, lb⟩ := str_at #[qs [97], qs [112], qs [108, 105, 118, 101], qs [117, 110, 105, 110, 105, 116], qs [51], qs [48], qs [49, 50], qs [49, 48, 52, 56, 53, 55, 55], qs [45, 49], qs [114, 101, 97, 99, 104], qs [57, 57, 57, 57, 57, 57, 57, 57, 57, 57, 57], qs []] 12 11 rfl rfl qb (by omega)
                have hs1 : ¬ 9223372036854775807 < sa.length + sb.length := by omega
                have hs2 : ¬ 9223372036854775807 < xs.length + (sa.length + sb.length) := by omega
                have R420 : Hid (∀ j, u417.cell? ⟨wr.heap.size, j, none⟩ = (#[qs [97], qs [112], qs [108, 105, 118, 101], qs [117, 110, 105, 110, 105, 116], qs [51], qs [48], qs [49, 50], qs [49, 48, 52, 56, 53, 55, 55], qs [45, 49], qs [114, 101, 97, 99, 104], qs [57, 57, 57, 57, 57, 57, 57, 57, 57, 57, 57], qs []] : Array Value)[j]?) := Lib.hid (fun j => (b4.cell wr.heap.size j hl413 hb398).trans (R412.out j))
                have hl421 : wr.heap.size < u417.heap.size := Nat.lt_of_lt_of_le hl413 b4.size
                clear t4 b4
                go_wp2
                refine ⟨fun _ => trivial, ?_⟩
                have hrow422 := (R420.out qb).trans hsb
                refine wpAnyT_pure 10 ?v423 rfl (by kernel_rfl) (by kernel_rfl) (by kernel_rfl) (by kernel_rfl) (fun _ _ _ h => h) trivial rfl ?run423 ?rest423
                case run423 => intro w hS; go_simp; rfl
                refine wpAnyT_all (rs := [11]) (by kernel_rfl) (by decide) ?_
                intro ii hi
                obtain rfl : ii = 11 := by simpa using hi
                clear hi
                refine wpOp_of_list rfl ?_
                go_wp2
                refine ⟨fun _ => trivial, ?_⟩
                refine wpAnyT_pure 12 ?v424 rfl (by kernel_rfl) (by kernel_rfl) (by kernel_rfl) (by kernel_rfl) (fun _ _ _ h => h) trivial rfl ?run424 ?rest424
                case run424 => intro w hS; go_simp; rfl
                refine wpAnyT_pure 13 ?v425 rfl (by kernel_rfl) (by kernel_rfl) (by kernel_rfl) (by kernel_rfl) (fun _ _ _ h => h) trivial rfl ?run425 ?rest425
                case run425 => intro w hS; go_simp; rfl
                refine wpAnyT_all (rs := [14]) (by kernel_rfl) (by decide) ?_
                intro ii hi
                obtain rfl : ii = 14 := by simpa using hi
                clear hi
                refine wpOp_of_list rfl ?_
                go_wp2
                refine ⟨fun h => absurd rfl h, ?_⟩
                refine wpAnyT_done (by kernel_rfl) ?_ _
                go_wp2
                go_roundw
                case rel => exact ⟨xs ++ (sa ++ sb), _, by simp [app_str], rfl, by omega, by simp only [List.length_append]; omega, T418, B419⟩
                case measure => simp [intOf]; omega
              · skip
                refine wpOp_of_list rfl ?_
                go_wp2_with fail
                refine (next_pos T408.out 12 (by omega) (by omega)).mono ?_
                rintro e u426 ⟨qb, qb1, rfl, t4, b4⟩
                have T427 := Lib.hid t4
                have B428 := Lib.hid (B409.out.trans (b4.toBelow (Nat.le_refl _) B409.out.size))
                obtain ⟨sb, hsb, lb⟩ := str_at #[qs [97], qs [112], qs [108, 105, 118, 101], qs [117, 110, 105, 110, 105, 116], qs [51], qs [48], qs [49, 50], qs [49, 48, 52, 56, 53, 55, 55], qs [45, 49], qs [114, 101, 97, 99, 104], qs [57, 57, 57, 57, 57, 57, 57, 57, 57, 57, 57], qs []] 12 11 rfl rfl qb (by omega)
                have hs1 : ¬ 9223372036854775807 < sa.length + sb.length := by omega
                have hs2 : ¬ 9223372036854775807 < xs.length + (sa.length + sb.length) := by omega
                have R429 : Hid (∀ j, u426.cell? ⟨Y393.heap.size, j, none⟩ = (#[qs [32], qs [32, 32]] : Array Value)[j]?) := Lib.hid (fun j => (b4.cell Y393.heap.size j hl411 hb404).trans (R410.out j))
                have hl430 : Y393.heap.size < u426.heap.size := Nat.lt_of_lt_of_le hl411 b4.size
                have R431 : Hid (∀ j, u426.cell? ⟨wr.heap.size, j, none⟩ = (#[qs [97], qs [112], qs [108, 105, 118, 101], qs [117, 110, 105, 110, 105, 116], qs [51], qs [48], qs [49, 50], qs [49, 48, 52, 56, 53, 55, 55], qs [45, 49], qs [114, 101, 97, 99, 104], qs [57, 57, 57, 57, 57, 57, 57, 57, 57, 57, 57], qs []] : Array Value)[j]?) := Lib.hid (fun j => (b4.cell wr.heap.size j hl413 hb398).trans (R412.out j))
                have hl432 : wr.heap.size < u426.heap.size := Nat.lt_of_lt_of_le hl413 b4.size
                clear t4 b4
                go_wp2
                refine ⟨fun _ => trivial, ?_⟩
                have hrow433 := (R429.out qa).trans hsa
                have hrow434 := (R431.out qb).trans hsb
                refine wpAnyT_pure 10 ?v435 rfl (by kernel_rfl) (by kernel_rfl) (by kernel_rfl) (by kernel_rfl) (fun _ _ _ h => h) trivial rfl ?run435 ?rest435
                case run435 => intro w hS; go_simp; rfl
                refine wpAnyT_all (rs := [6, 11]) (by kernel_rfl) (by decide) ?_
                intro ii hi
                have hi2 : ii = 6 ∨ ii = 11 := by simpa using hi
                clear hi
                rcases hi2 with rfl | rfl
                · skip
                  refine wpOp_of_list rfl ?_
                  go_wp2
                  refine ⟨fun _ => trivial, ?_⟩
                  refine wpAnyT_all (rs := [11]) (by kernel_rfl) (by decide) ?_
                  intro ii hi
                  obtain rfl : ii = 11 := by simpa using hi
                  clear hi
                  refine wpOp_of_list rfl ?_
                  go_wp2
                  refine ⟨fun _ => trivial, ?_⟩
                  refine wpAnyT_pure 12 ?v436 rfl (by kernel_rfl) (by kernel_rfl) (by kernel_rfl) (by kernel_rfl) (fun _ _ _ h => h) trivial rfl ?run436 ?rest436
                  case run436 => intro w hS; go_simp; rfl
                  refine wpAnyT_pure 13 ?v437 rfl (by kernel_rfl) (by kernel_rfl) (by kernel_rfl) (by kernel_rfl) (fun _ _ _ h => h) trivial rfl ?run437 ?rest437
                  case run437 => intro w hS; go_simp; rfl
                  refine wpAnyT_all (rs := [14]) (by kernel_rfl) (by decide) ?_
                  intro ii hi
                  obtain rfl : ii = 14 := by simpa using hi
                  clear hi
                  refine wpOp_of_list rfl ?_
                  go_wp2
                  refine ⟨fun h => absurd rfl h, ?_⟩
                  refine wpAnyT_done (by kernel_rfl) ?_ _
                  go_wp2
                  go_roundw
                  case rel => exact ⟨xs ++ (sa ++ sb), _, by simp [app_str], rfl, by omega, by simp only [List.length_append]; omega, T427, B428⟩
                  case measure => simp [intOf]; omega
                · skip
                  refine wpOp_of_list rfl ?_
                  go_wp2
                  refine ⟨fun _ => trivial, ?_⟩
                  refine wpAnyT_all (rs := [6]) (by kernel_rfl) (by decide) ?_
                  intro ii hi
                  obtain rfl : ii = 6 := by simpa using hi
                  clear hi
                  refine wpOp_of_list rfl ?_
                  go_wp2
                  refine ⟨fun _ => trivial, ?_⟩
                  refine wpAnyT_pure 12 ?v438 rfl (by kernel_rfl) (by kernel_rfl) (by kernel_rfl) (by kernel_rfl) (fun _ _ _ h => h) trivial rfl ?run438 ?rest438
                  case run438 => intro w hS; go_simp; rfl
                  refine wpAnyT_pure 13 ?v439 rfl (by kernel_rfl) (by kernel_rfl) (by kernel_rfl) (by kernel_rfl) (fun _ _ _ h => h) trivial rfl ?run439 ?rest439
                  case run439 => intro w hS; go_simp; rfl
                  refine wpAnyT_all (rs := [14]) (by kernel_rfl) (by decide) ?_
                  intro ii hi
                  obtain rfl : ii = 14 := by simpa using hi
                  clear hi
                  refine wpOp_of_list rfl ?_
                  go_wp2
                  refine ⟨fun h => absurd rfl h, ?_⟩
                  refine wpAnyT_done (by kernel_rfl) ?_ _
                  go_wp2
                  go_roundw
                  case rel => exact ⟨xs ++ (sa ++ sb), _, by simp [app_str], rfl, by omega, by simp only [List.length_append]; omega, T427, B428⟩
                  case measure => simp [intOf]; omega
            · skip
              refine wpOp_of_list rfl ?_
              go_wp2_with fail
              refine (next_pos T394.out 9 (by omega) (by omega)).mono ?_
              rintro e u440 ⟨ka, ka1, rfl, t4, b4⟩
              have T441 := Lib.hid t4
              have B442 := Lib.hid (B395.out.trans (b4.toBelow (Nat.le_refl _) B395.out.size))
              obtain ⟨qa, qa1, hqa, hqw⟩ := eight ka (by omega)
              have qa2 : (qa : Int) < 2 := by omega
              obtain ⟨sa, hsa, la⟩ := str_at #[qs [32], qs [32, 32]] 2 2 rfl rfl qa (by omega)
              have R443 : Hid (∀ j, u440.cell? ⟨wr.heap.size, j, none⟩ = (#[qs [97], qs [112], qs [108, 105, 118, 101], qs [117, 110, 105, 110, 105, 116], qs [51], qs [48], qs [49, 50], qs [49, 48, 52, 56, 53, 55, 55], qs [45, 49], qs [114, 101, 97, 99, 104], qs [57, 57, 57, 57, 57, 57, 57, 57, 57, 57, 57], qs []] : Array Value)[j]?) := Lib.hid (fun j => (b4.cell wr.heap.size j hl397 hb398).trans (R396.out j))
              have hl444 : wr.heap.size < u440.heap.size := Nat.lt_of_lt_of_le hl397 b4.size
              clear t4 b4
              go_wp2
              refine ⟨fun _ => trivial, ?_⟩
              refine wpAnyT_pure 4 ?v445 rfl (by kernel_rfl) (by kernel_rfl) (by kernel_rfl) (by kernel_rfl) (fun _ _ _ h => h) trivial rfl ?run445 ?rest445
              case run445 => intro w hS; go_simp; rfl
              refine wpAnyT_all (rs := [1, 9]) (by kernel_rfl) (by decide) ?_
              intro ii hi
              have hi2 : ii = 1 ∨ ii = 9 := by simpa using hi
              clear hi
              rcases hi2 with rfl | rfl
              · skip
                refine wpOp_of_list rfl ?_
                go_wp2
                refine ⟨fun _ => trivial, ?_⟩
                obtain ⟨Y446, hY446⟩ : ∃ Y, (u440).alloc (.cells #[qs [32], qs [32, 32]] 9) = Y := ⟨_, rfl⟩
                rw [hY446]
                have T447 := Lib.hid (show TapeOk w0.heap.size Y446 w0.heap.size by rw [← hY446]; exact T441.out.alloc _)
                have B448 := Lib.hid (show Below w0.heap.size w0 Y446 by rw [← hY446]; exact B442.out.alloc B442.out.size _)
                have R452 : Hid (∀ j, Y446.cell? ⟨wr.heap.size, j, none⟩ = (#[qs [97], qs [112], qs [108, 105, 118, 101], qs [117, 110, 105, 110, 105, 116], qs [51], qs [48], qs [49, 50], qs [49, 48, 52, 56, 53, 55, 55], qs [45, 49], qs [114, 101, 97, 99, 104], qs [57, 57, 57, 57, 57, 57, 57, 57, 57, 57, 57], qs []] : Array Value)[j]?) := Lib.hid (fun j => by rw [← hY446]; exact (((Below.refl (u440).heap.size (u440)).alloc (Nat.le_refl _) _).cell (p := ⟨wr.heap.size, j, none⟩) hl444).trans (R443.out j))
                have hl453 : wr.heap.size < Y446.heap.size := by rw [← hY446]; have h7 : wr.heap.size < (u440).heap.size := hl444; simp at h7 ⊢; omega
                have R449 : Hid (∀ j, Y446.cell? ⟨u440.heap.size, j, none⟩ = (#[qs [32], qs [32, 32]] : Array Value)[j]?) := Lib.hid (fun j => by rw [← hY446]; exact World.cell?_alloc_new _ _ _ _)
                have hl450 : u440.heap.size < Y446.heap.size := by rw [← hY446]; simp
                have hb451 : u440.heap.size ≠ w0.heap.size := by have h7 := T441.out.lt; have h8 : w0.heap.size < u440.heap.size := h7; omega
                clear hY446
                have hrow454 := (R449.out qa).trans hsa
                refine wpAnyT_pure 5 ?v455 rfl (by kernel_rfl) (by kernel_rfl) (by kernel_rfl) (by kernel_rfl) (fun _ _ _ h => h) trivial rfl ?run455 ?rest455
                case run455 => intro w hS; go_simp; rfl
                refine wpAnyT_all (rs := [6, 9]) (by kernel_rfl) (by decide) ?_
                intro ii hi
                have hi2 : ii = 6 ∨ ii = 9 := by simpa using hi
                clear hi
                rcases hi2 with rfl | rfl
                · skip
                  refine wpOp_of_list rfl ?_
                  go_wp2
                  refine ⟨fun _ => trivial, ?_⟩
                  refine wpAnyT_all (rs := [9]) (by kernel_rfl) (by decide) ?_
                  intro ii hi
                  obtain rfl : ii = 9 := by simpa using hi
                  clear hi
                  refine wpOp_of_list rfl ?_
                  go_wp2_with fail
                  refine (next_pos T447.out 12 (by omega) (by omega)).mono ?_
                  rintro e u456 ⟨qb, qb1, rfl, t4, b4⟩
                  have T457 := Lib.hid t4
                  have B458 := Lib.hid (B448.out.trans (b4.toBelow (Nat.le_refl _) B448.out.size))
                  obtain ⟨sb, hsb, lb⟩ := str_at #[qs [97], qs [112], qs [108, 105, 118, 101], qs [117, 110, 105, 110, 105, 116], qs [51], qs [48], qs [49, 50], qs [49, 48, 52, 56, 53, 55, 55], qs [45, 49], qs [114, 101, 97, 99, 104], qs [57, 57, 57, 57, 57, 57, 57, 57, 57, 57, 57], qs []] 12 11 rfl rfl qb (by omega)
                  have hs1 : ¬ 9223372036854775807 < sa.length + sb.length := by omega
                  have hs2 : ¬ 9223372036854775807 < xs.length + (sa.length + sb.length) := by omega
                  have R459 : Hid (∀ j, u456.cell? ⟨wr.heap.size, j, none⟩ = (#[qs [97], qs [112], qs [108, 105, 118, 101], qs [117, 110, 105, 110, 105, 116], qs [51], qs [48], qs [49, 50], qs [49, 48, 52, 56, 53, 55, 55], qs [45, 49], qs [114, 101, 97, 99, 104], qs [57, 57, 57, 57, 57, 57, 57, 57, 57, 57, 57], qs []] : Array Value)[j]?) := Lib.hid (fun j => (b4.cell wr.heap.size j hl453 hb398).trans (R452.out j))
                  have hl460 : wr.heap.size < u456.heap.size := Nat.lt_of_lt_of_le hl453 b4.size
                  clear t4 b4
                  go_wp2
                  refine ⟨fun _ => trivial, ?_⟩
                  have hrow461 := (R459.out qb).trans hsb
                  refine wpAnyT_pure 10 ?v462 rfl (by kernel_rfl) (by kernel_rfl) (by kernel_rfl) (by kernel_rfl) (fun _ _ _ h => h) trivial rfl ?run462 ?rest462
                  case run462 => intro w hS; go_simp; rfl
                  refine wpAnyT_all (rs := [11]) (by kernel_rfl) (by decide) ?_
                  intro ii hi
                  obtain rfl : ii = 11 := by simpa using hi
                  clear hi
                  refine wpOp_of_list rfl ?_
                  go_wp2
                  refine ⟨fun _ => trivial, ?_⟩
                  refine wpAnyT_pure 12 ?v463 rfl (by kernel_rfl) (by kernel_rfl) (by kernel_rfl) (by kernel_rfl) (fun _ _ _ h => h) trivial rfl ?run463 ?rest463
                  case run463 => intro w hS; go_simp; rfl
                  refine wpAnyT_pure 13 ?v464 rfl (by kernel_rfl) (by kernel_rfl) (by kernel_rfl) (by kernel_rfl) (fun _ _ _ h => h) trivial rfl ?run464 ?rest464
                  case run464 => intro w hS; go_simp; rfl
                  refine wpAnyT_all (rs := [14]) (by kernel_rfl) (by decide) ?_
                  intro ii hi
                  obtain rfl : ii = 14 := by simpa using hi
                  clear hi
                  refine wpOp_of_list rfl ?_
                  go_wp2
                  refine ⟨fun h => absurd rfl h, ?_⟩
                  refine wpAnyT_done (by kernel_rfl) ?_ _
                  go_wp2
                  go_roundw
                  case rel => exact ⟨xs ++ (sa ++ sb), _, by simp [app_str], rfl, by omega, by simp only [List.length_append]; omega, T457, B458⟩
                  case measure => simp [intOf]; omega
                · skip
                  refine wpOp_of_list rfl ?_
                  go_wp2_with fail
                  refine (next_pos T447.out 12 (by omega) (by omega)).mono ?_
                  rintro e u465 ⟨qb, qb1, rfl, t4, b4⟩
                  have T466 := Lib.hid t4
                  have B467 := Lib.hid (B448.out.trans (b4.toBelow (Nat.le_refl _) B448.out.size))
                  obtain ⟨sb, hsb, lb⟩ := str_at #[qs [97], qs [112], qs [108, 105, 118, 101], qs [117, 110, 105, 110, 105, 116], qs [51], qs [48], qs [49, 50], qs [49, 48, 52, 56, 53, 55, 55], qs [45, 49], qs [114, 101, 97, 99, 104], qs [57, 57, 57, 57, 57, 57, 57, 57, 57, 57, 57], qs []] 12 11 rfl rfl qb (by omega)
                  have hs1 : ¬ 9223372036854775807 < sa.length + sb.length := by omega
                  have hs2 : ¬ 9223372036854775807 < xs.length + (sa.length + sb.length) := by omega
                  have R468 : Hid (∀ j, u465.cell? ⟨u440.heap.size, j, none⟩ = (#[qs [32], qs [32, 32]] : Array Value)[j]?) := Lib.hid (fun j => (b4.cell u440.heap.size j hl450 hb451).trans (R449.out j))
                  have hl469 : u440.heap.size < u465.heap.size := Nat.lt_of_lt_of_le hl450 b4.size
                  have R470 : Hid (∀ j, u465.cell? ⟨wr.heap.size, j, none⟩ = (#[qs [97], qs [112], qs [108, 105, 118, 101], qs [117, 110, 105, 110, 105, 116], qs [51], qs [48], qs [49, 50], qs [49, 48, 52, 56, 53, 55, 55], qs [45, 49], qs [114, 101, 97, 99, 104], qs [57, 57, 57, 57, 57, 57, 57, 57, 57, 57, 57], qs []] : Array Value)[j]?) := Lib.hid (fun j => (b4.cell wr.heap.size j hl453 hb398).trans (R452.out j))
                  have hl471 : wr.heap.size < u465.heap.size := Nat.lt_of_lt_of_le hl453 b4.size
                  clear t4 b4
                  go_wp2
                  refine ⟨fun _ => trivial, ?_⟩
                  have hrow472 := (R468.out qa).trans hsa
                  have hrow473 := (R470.out qb).trans hsb
                  refine wpAnyT_pure 10 ?v474 rfl (by kernel_rfl) (by kernel_rfl) (by kernel_rfl) (by kernel_rfl) (fun _ _ _ h => h) trivial rfl ?run474 ?rest474
                  case run474 => intro w hS; go_simp; rfl
                  refine wpAnyT_all (rs := [6, 11]) (by kernel_rfl) (by decide) ?_
                  intro ii hi
                  have hi2 : ii = 6 ∨ ii = 11 := by simpa using hi
                  clear hi
                  rcases hi2 with rfl | rfl
                  · skip
                    refine wpOp_of_list rfl ?_
                    go_wp2
                    refine ⟨fun _ => trivial, ?_⟩
                    refine wpAnyT_all (rs := [11]) (by kernel_rfl) (by decide) ?_
                    intro ii hi
                    obtain rfl : ii = 11 := by simpa using hi
                    clear hi
                    refine wpOp_of_list rfl ?_
                    go_wp2
                    refine ⟨fun _ => trivial, ?_⟩
                    refine wpAnyT_pure 12 ?v475 rfl (by kernel_rfl) (by kernel_rfl) (by kernel_rfl) (by kernel_rfl) (fun _ _ _ h => h) trivial rfl ?run475 ?rest475
                    case run475 => intro w hS; go_simp; rfl
                    refine wpAnyT_pure 13 ?v476 rfl (by kernel_rfl) (by kernel_rfl) (by kernel_rfl) (by kernel_rfl) (fun _ _ _ h => h) trivial rfl ?run476 ?rest476
                    case run476 => intro w hS; go_simp; rfl
                    refine wpAnyT_all (rs := [14]) (by kernel_rfl) (by decide) ?_
                    intro ii hi
                    obtain rfl : ii = 14 := by simpa using hi
                    clear hi
                    refine wpOp_of_list rfl ?_
                    go_wp2
                    refine ⟨fun h => absurd rfl h, ?_⟩
                    refine wpAnyT_done (by kernel_rfl) ?_ _
                    go_wp2
                    go_roundw
                    case rel => exact ⟨xs ++ (sa ++ sb), _, by simp [app_str], rfl, by omega, by simp only [List.length_append]; omega, T466, B467⟩
                    case measure => simp [intOf]; omega
                  · skip
                    refine wpOp_of_list rfl ?_
                    go_wp2
                    refine ⟨fun _ => trivial, ?_⟩
                    refine wpAnyT_all (rs := [6]) (by kernel_rfl) (by decide) ?_
                    intro ii hi
                    obtain rfl : ii = 6 := by simpa using hi
                    clear hi
                    refine wpOp_of_list rfl ?_
                    go_wp2
                    refine ⟨fun _ => trivial, ?_⟩
                    refine wpAnyT_pure 12 ?v477 rfl (by kernel_rfl) (by kernel_rfl) (by kernel_rfl) (by kernel_rfl) (fun _ _ _ h => h) trivial rfl ?run477 ?rest477
                    case run477 => intro w hS; go_simp; rfl
                    refine wpAnyT_pure 13 ?v478 rfl (by kernel_rfl) (by kernel_rfl) (by kernel_rfl) (by kernel_rfl) (fun _ _ _ h => h) trivial rfl ?run478 ?rest478
                    case run478 => intro w hS; go_simp; rfl
                    refine wpAnyT_all (rs := [14]) (by kernel_rfl) (by decide) ?_
                    intro ii hi
                    obtain rfl : ii = 14 := by simpa using hi
                    clear hi
                    refine wpOp_of_list rfl ?_
                    go_wp2
                    refine ⟨fun h => absurd rfl h, ?_⟩
                    refine wpAnyT_done (by kernel_rfl) ?_ _
                    go_wp2
                    go_roundw
                    case rel => exact ⟨xs ++ (sa ++ sb), _, by simp [app_str], rfl, by omega, by simp only [List.length_append]; omega, T466, B467⟩
                    case measure => simp [intOf]; omega
              · skip
                refine wpOp_of_list rfl ?_
                go_wp2_with fail
                refine (next_pos T441.out 12 (by omega) (by omega)).mono ?_
                rintro e u479 ⟨qb, qb1, rfl, t4, b4⟩
                have T480 := Lib.hid t4
                have B481 := Lib.hid (B442.out.trans (b4.toBelow (Nat.le_refl _) B442.out.size))
                obtain ⟨sb, hsb, lb⟩ := str_at #[qs [97], qs [112], qs [108, 105, 118, 101], qs [117, 110, 105, 110, 105, 116], qs [51], qs [48], qs [49, 50], qs [49, 48, 52, 56, 53, 55, 55], qs [45, 49], qs [114, 101, 97, 99, 104], qs [57, 57, 57, 57, 57, 57, 57, 57, 57, 57, 57], qs []] 12 11 rfl rfl qb (by omega)
                have hs1 : ¬ 9223372036854775807 < sa.length + sb.length := by omega
                have hs2 : ¬ 9223372036854775807 < xs.length + (sa.length + sb.length) := by omega
                have R482 : Hid (∀ j, u479.cell? ⟨wr.heap.size, j, none⟩ = (#[qs [97], qs [112], qs [108, 105, 118, 101], qs [117, 110, 105, 110, 105, 116], qs [51], qs [48], qs [49, 50], qs [49, 48, 52, 56, 53, 55, 55], qs [45, 49], qs [114, 101, 97, 99, 104], qs [57, 57, 57, 57, 57, 57, 57, 57, 57, 57, 57], qs []] : Array Value)[j]?) := Lib.hid (fun j => (b4.cell wr.heap.size j hl444 hb398).trans (R443.out j))
                have hl483 : wr.heap.size < u479.heap.size := Nat.lt_of_lt_of_le hl444 b4.size
                clear t4 b4
                go_wp2
                refine ⟨fun _ => trivial, ?_⟩
                have hrow484 := (R482.out qb).trans hsb
                refine wpAnyT_pure 10 ?v485 rfl (by kernel_rfl) (by kernel_rfl) (by kernel_rfl) (by kernel_rfl) (fun _ _ _ h => h) trivial rfl ?run485 ?rest485
                case run485 => intro w hS; go_simp; rfl
                refine wpAnyT_all (rs := [1, 11]) (by kernel_rfl) (by decide) ?_
                intro ii hi
                have hi2 : ii = 1 ∨ ii = 11 := by simpa using hi
                clear hi
                rcases hi2 with rfl | rfl
                · skip
                  refine wpOp_of_list rfl ?_
                  go_wp2
                  refine ⟨fun _ => trivial, ?_⟩
                  obtain ⟨Y486, hY486⟩ : ∃ Y, (u479).alloc (.cells #[qs [32], qs [32, 32]] 9) = Y := ⟨_, rfl⟩
                  rw [hY486]
                  have T487 := Lib.hid (show TapeOk w0.heap.size Y486 w0.heap.size by rw [← hY486]; exact T480.out.alloc _)
                  have B488 := Lib.hid (show Below w0.heap.size w0 Y486 by rw [← hY486]; exact B481.out.alloc B481.out.size _)
                  have R492 : Hid (∀ j, Y486.cell? ⟨wr.heap.size, j, none⟩ = (#[qs [97], qs [112], qs [108, 105, 118, 101], qs [117, 110, 105, 110, 105, 116], qs [51], qs [48], qs [49, 50], qs [49, 48, 52, 56, 53, 55, 55], qs [45, 49], qs [114, 101, 97, 99, 104], qs [57, 57, 57, 57, 57, 57, 57, 57, 57, 57, 57], qs []] : Array Value)[j]?) := Lib.hid (fun j => by rw [← hY486]; exact (((Below.refl (u479).heap.size (u479)).alloc (Nat.le_refl _) _).cell (p := ⟨wr.heap.size, j, none⟩) hl483).trans (R482.out j))
                  have hl493 : wr.heap.size < Y486.heap.size := by rw [← hY486]; have h7 : wr.heap.size < (u479).heap.size := hl483; simp at h7 ⊢; omega
                  have R489 : Hid (∀ j, Y486.cell? ⟨u479.heap.size, j, none⟩ = (#[qs [32], qs [32, 32]] : Array Value)[j]?) := Lib.hid (fun j => by rw [← hY486]; exact World.cell?_alloc_new _ _ _ _)
                  have hl490 : u479.heap.size < Y486.heap.size := by rw [← hY486]; simp
                  have hb491 : u479.heap.size ≠ w0.heap.size := by have h7 := T480.out.lt; have h8 : w0.heap.size < u479.heap.size := h7; omega
                  clear hY486
                  have hrow494 := (R489.out qa).trans hsa
                  have hrow495 := (R492.out qb).trans hsb
                  refine wpAnyT_pure 5 ?v496 rfl (by kernel_rfl) (by kernel_rfl) (by kernel_rfl) (by kernel_rfl) (fun _ _ _ h => h) trivial rfl ?run496 ?rest496
                  case run496 => intro w hS; go_simp; rfl
                  refine wpAnyT_all (rs := [6, 11]) (by kernel_rfl) (by decide) ?_
                  intro ii hi
                  have hi2 : ii = 6 ∨ ii = 11 := by simpa using hi
                  clear hi
                  rcases hi2 with rfl | rfl
                  · skip
                    refine wpOp_of_list rfl ?_
                    go_wp2
                    refine ⟨fun _ => trivial, ?_⟩
                    refine wpAnyT_all (rs := [11]) (by kernel_rfl) (by decide) ?_
                    intro ii hi
                    obtain rfl : ii = 11 := by simpa using hi
                    clear hi
                    refine wpOp_of_list rfl ?_
                    go_wp2
                    refine ⟨fun _ => trivial, ?_⟩
                    refine wpAnyT_pure 12 ?v497 rfl (by kernel_rfl) (by kernel_rfl) (by kernel_rfl) (by kernel_rfl) (fun _ _ _ h => h) trivial rfl ?run497 ?rest497
                    case run497 => intro w hS; go_simp; rfl
                    refine wpAnyT_pure 13 ?v498 rfl (by kernel_rfl) (by kernel_rfl) (by kernel_rfl) (by kernel_rfl) (fun _ _ _ h => h) trivial rfl ?run498 ?rest498
                    case run498 => intro w hS; go_simp; rfl
                    refine wpAnyT_all (rs := [14]) (by kernel_rfl) (by decide) ?_
                    intro ii hi
                    obtain rfl : ii = 14 := by simpa using hi
                    clear hi
                    refine wpOp_of_list rfl ?_
                    go_wp2
                    refine ⟨fun h => absurd rfl h, ?_⟩
                    refine wpAnyT_done (by kernel_rfl) ?_ _
                    go_wp2
                    go_roundw
                    case rel => exact ⟨xs ++ (sa ++ sb), _, by simp [app_str], rfl, by omega, by simp only [List.length_append]; omega, T487, B488⟩
                    case measure => simp [intOf]; omega
                  · skip
                    refine wpOp_of_list rfl ?_
                    go_wp2
                    refine ⟨fun _ => trivial, ?_⟩
                    refine wpAnyT_all (rs := [6]) (by kernel_rfl) (by decide) ?_
                    intro ii hi
                    obtain rfl : ii = 6 := by simpa using hi
                    clear hi
                    refine wpOp_of_list rfl ?_
                    go_wp2
                    refine ⟨fun _ => trivial, ?_⟩
                    refine wpAnyT_pure 12 ?v499 rfl (by kernel_rfl) (by kernel_rfl) (by kernel_rfl) (by kernel_rfl) (fun _ _ _ h => h) trivial rfl ?run499 ?rest499
                    case run499 => intro w hS; go_simp; rfl
                    refine wpAnyT_pure 13 ?v500 rfl (by kernel_rfl) (by kernel_rfl) (by kernel_rfl) (by kernel_rfl) (fun _ _ _ h => h) trivial rfl ?run500 ?rest500
                    case run500 => intro w hS; go_simp; rfl
                    refine wpAnyT_all (rs := [14]) (by kernel_rfl) (by decide) ?_
                    intro ii hi
                    obtain rfl : ii = 14 := by simpa using hi
                    clear hi
                    refine wpOp_of_list rfl ?_
                    go_wp2
                    refine ⟨fun h => absurd rfl h, ?_⟩
                    refine wpAnyT_done (by kernel_rfl) ?_ _
                    go_wp2
                    go_roundw
                    case rel => exact ⟨xs ++ (sa ++ sb), _, by simp [app_str], rfl, by omega, by simp only [List.length_append]; omega, T487, B488⟩
                    case measure => simp [intOf]; omega
                · skip
                  refine wpOp_of_list rfl ?_
                  go_wp2
                  refine ⟨fun _ => trivial, ?_⟩
                  refine wpAnyT_all (rs := [1]) (by kernel_rfl) (by decide) ?_
                  intro ii hi
                  obtain rfl : ii = 1 := by simpa using hi
                  clear hi
                  refine wpOp_of_list rfl ?_
                  go_wp2
                  refine ⟨fun _ => trivial, ?_⟩
                  obtain ⟨Y501, hY501⟩ : ∃ Y, (u479).alloc (.cells #[qs [32], qs [32, 32]] 9) = Y := ⟨_, rfl⟩
                  rw [hY501]
                  have T502 := Lib.hid (show TapeOk w0.heap.size Y501 w0.heap.size by rw [← hY501]; exact T480.out.alloc _)
                  have B503 := Lib.hid (show Below w0.heap.size w0 Y501 by rw [← hY501]; exact B481.out.alloc B481.out.size _)
                  have R504 : Hid (∀ j, Y501.cell? ⟨u479.heap.size, j, none⟩ = (#[qs [32], qs [32, 32]] : Array Value)[j]?) := Lib.hid (fun j => by rw [← hY501]; exact World.cell?_alloc_new _ _ _ _)
                  have hl505 : u479.heap.size < Y501.heap.size := by rw [← hY501]; simp
                  have hb506 : u479.heap.size ≠ w0.heap.size := by have h7 := T480.out.lt; have h8 : w0.heap.size < u479.heap.size := h7; omega
                  clear hY501
                  have hrow507 := (R504.out qa).trans hsa
                  refine wpAnyT_pure 5 ?v508 rfl (by kernel_rfl) (by kernel_rfl) (by kernel_rfl) (by kernel_rfl) (fun _ _ _ h => h) trivial rfl ?run508 ?rest508
                  case run508 => intro w hS; go_simp; rfl
                  refine wpAnyT_all (rs := [6]) (by kernel_rfl) (by decide) ?_
                  intro ii hi
                  obtain rfl : ii = 6 := by simpa using hi
                  clear hi
                  refine wpOp_of_list rfl ?_
                  go_wp2
                  refine ⟨fun _ => trivial, ?_⟩
                  refine wpAnyT_pure 12 ?v509 rfl (by kernel_rfl) (by kernel_rfl) (by kernel_rfl) (by kernel_rfl) (fun _ _ _ h => h) trivial rfl ?run509 ?rest509
                  case run509 => intro w hS; go_simp; rfl
                  refine wpAnyT_pure 13 ?v510 rfl (by kernel_rfl) (by kernel_rfl) (by kernel_rfl) (by kernel_rfl) (fun _ _ _ h => h) trivial rfl ?run510 ?rest510
                  case run510 => intro w hS; go_simp; rfl
                  refine wpAnyT_all (rs := [14]) (by kernel_rfl) (by decide) ?_
                  intro ii hi
                  obtain rfl : ii = 14 := by simpa using hi
                  clear hi
                  refine wpOp_of_list rfl ?_
                  go_wp2
                  refine ⟨fun h => absurd rfl h, ?_⟩
                  refine wpAnyT_done (by kernel_rfl) ?_ _
                  go_wp2
                  go_roundw
                  case rel => exact ⟨xs ++ (sa ++ sb), _, by simp [app_str], rfl, by omega, by simp only [List.length_append]; omega, T502, B503⟩
                  case measure => simp [intOf]; omega
        · obtain rfl : r = 0 := by omega
          have hx6 : xs.length ≤ 281474976710656 := by omega
          go_wp2_with fail
          refine (parses_any (B := w0.heap.size) xs hx6 wr (HK.out _ Bb.out) Bb.out.size).mono ?_
          rintro e q1 ⟨rfl, b8⟩
          have TE := Lib.hid (T.out.below b8)
          have BE := Lib.hid (Bb.out.trans (b8.mono Bb.out.size))
          clear b8
          go_wp2_with fail
          refine (op_any TE.out).mono ?_
          rintro e q2 ⟨y, rfl, hyi, hyt, t2, b2⟩
          have T4 := Lib.hid t2
          have B4 := Lib.hid (BE.out.trans (b2.toBelow (Nat.le_refl _) BE.out.size))
          clear t2 b2
          obtain ⟨tx, htx⟩ : ∃ t, opT y = t := ⟨_, rfl⟩
          have htl : tx.length ≤ 100000 := by rw [← htx]; exact opT_len _
          go_wp2_with fail
          refine (rprint_to (o := y) htx (by omega) q2).mono ?_
          rintro e p5 ⟨rfl, b5⟩
          have T6 := T4.out.below b5
          have B6 := B4.out.trans (b5.mono B4.out.size)
          obtain ⟨p6, cap, hrun, hb6, hc6⟩ := conv_bytes ⟨tx.toArray⟩ p5
          have T7 := Lib.hid (T6.below hb6)
          have B7 := Lib.hid (B6.trans (hb6.mono B6.size))
          have BY := Lib.hid (bytes_all T7.out p5.heap.size (⟨tx.toArray⟩ : ByteArray).size cap _ (by rw [List.length_map, size_str]) (by rw [size_str]; omega) hc6)
          clear b5 T6 B6 hb6 hc6 htx
          go_wp2_with fail
          refine BY.out.mono ?_
          rintro e p7 ⟨b, m, cap2, zs, rfl, hz, hm, hc7, t7, b7⟩
          have T8 := Lib.hid t7
          have B8 := Lib.hid (B7.out.trans (b7.toBelow (Nat.le_refl _) B7.out.size))
          have hrun2 := run_convert_bytes_arg (P := Tryd.prog) p7 38 5 Tryd.underlying38 Tryd.underlying5 b 0 m cap2 zs hz (fun j hj => by rw [Nat.zero_add]; exact hc7 j hj) 9 Tryd.underlying9
          have hqs := nums_size zs
          obtain ⟨q, hq⟩ : ∃ q, strOfNums zs = q := ⟨_, rfl⟩
          rw [hq] at hrun2 hqs
          have hq6 : q.size ≤ 281474976710656 := by rw [hqs, hz]; rw [size_str] at hm; omega
          clear hc7 t7 b7 BY hrun hz hm hq hqs
          go_wp2_with fail
          refine (parses_in (B := w0.heap.size) q hq6 p7 (HK.out _ B8.out) B8.out.size).mono ?_
          rintro e p8 ⟨rfl, b8⟩
          have T9 := Lib.hid (T8.out.below b8)
          have B9 := Lib.hid (B8.out.trans (b8.mono B8.out.size))
          clear b8 hrun2
          go_wp2
          go_roundw
          case rel => exact ⟨i + 1, by omega, by go_num, T9, B9⟩
          case measure => simp [intOf]; omega
    · obtain rfl : i = 8 := by omega
      go_wp2_with fail
      refine (parses_in (B := w0.heap.size) p hp wr (HK.out _ HB.out) HB.out.size).mono ?_
      rintro e w5 ⟨rfl, b5⟩
      have B5 := Lib.hid (HB.out.trans (b5.mono HB.out.size))
      clear b5
      go_wp2_with fail
      refine (sane_any (B := w0.heap.size) w5 (HK.out _ B5.out) B5.out.size).mono ?_
      rintro e w6 ⟨rfl, b6⟩
      have B6 := Lib.hid (B5.out.trans (b6.mono B5.out.size))
      clear b6
      go_wp2
      go_ret
      exact ⟨rfl, B6.out⟩
end Go.Proofs.YtgmlnbheceeklaaDoor
