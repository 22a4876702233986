/- 'flqlaw25.StoreNumbers' returns true at every input: the numbers of loads ascend and are never used again. The variables that the program's text lays (keywords, the table of effects, the table of trailing zeros) hold what the text lays (the given tie). No condition beyond the statement's own. (nobase) -/
import Derived.Test.YtipnhmdibkkifaaGreatDoorNu35
import Derived.Test.YtipnhmdibkkifaaGreatDoorNu07
import Derived.Test.YtipnhmdibkkifaaGreatDoorCards
import Derived.Test.YtipnhmdibkkifaaGreatDoorTie
import Derived.ProofKit
import Derived.LaidMore
import Derived.OpenShut
import Derived.Carry
import Derived.Deep.Strs
import Derived.ChangeMaps5
import Derived.ChangeOld
import Derived.Stop.Joined
import Derived.SevenTiedAt
set_option linter.unusedVariables false
set_option linter.unusedSimpArgs false
set_option linter.unusedVariables false
set_option linter.unusedSimpArgs false
set_option linter.unusedSectionVars false
namespace Go.Proofs.YtipnhmdibkkifaaGreatDoor
open Go.RowKit
variable [Base]
theorem sttext_any (w : World) : Calls Tryz.prog 8 #[] w (fun e w' => e = .returned (.string ldTxt) ∧ w' = w) := by
  go_enter Tryz.func8, Tryz.ntmps8
  go_wp2
  go_ret
  exact ⟨rfl, rfl⟩
theorem KwIn.of {B : Nat} {w w' : World} (h : KwIn B w) (b : Below B w w') : KwIn B w' := h.keep fun k hk => b.block k hk
set_option maxRecDepth 100000 in
set_option maxHeartbeats 8000000 in
theorem stsane_any {B : Nat} {w : World} (kw : KwIn B w) (hB : B ≤ w.heap.size) : Calls Tryz.prog 10 #[] w (BoolQ true w) := by
  have KW := Lib.hid kw
  clear kw
  go_enter Tryz.func10, Tryz.ntmps10
  go_wp2_with fail
  refine (stconfig_any w).mono ?_
  rintro e w1 ⟨rfl, b1⟩
  have B1 := Lib.hid b1
  clear b1
  go_wp2_with fail
  refine (stnew_any w1).mono ?_
  rintro e w2 ⟨sb, bm, rfl, h2, b2⟩
  obtain ⟨z, hz⟩ : ∃ z, w1.heap.size = z := ⟨_, rfl⟩
  have hBz : B ≤ z := by have := B1.out.size; omega
  have hwz : w.heap.size ≤ z := by have := B1.out.size; omega
  rw [hz] at h2
  have H2 := Lib.hid h2
  have B2 := Lib.hid (B1.out.trans (b2.mono B1.out.size))
  have K2 := Lib.hid (KW.out.of (B2.out.mono hB))
  clear b2 h2 hz B1
  go_wp2_with fail
  refine (stloade_any K2.out hBz H2.out (by omega) (by omega) [109] (by kernel_rfl) rfl).mono ?_
  rintro e w3 ⟨rfl, h3, b3⟩
  have H3 := Lib.hid h3
  have B3 := Lib.hid (B2.out.trans (b3.mono hwz))
  have K3 := Lib.hid (KW.out.of (B3.out.mono hB))
  clear b3 h3 H2 B2 K2
  go_wp2_with fail
  refine (sttext_any w3).mono ?_
  rintro e w' ⟨rfl, rfl⟩
  go_wp2_with fail
  refine (stload_any K3.out hBz H3.out (by omega) (by omega) [109] (by kernel_rfl) (fun _ => by decide)).mono ?_
  rintro e w4 ⟨h4, b4⟩
  have B4 := Lib.hid (B3.out.trans (b4.mono hwz))
  have K4 := Lib.hid (KW.out.of (B4.out.mono hB))
  rcases h4 with ⟨_, _, x, hx, _⟩ | ⟨rfl, h4, -⟩
  · cases hx
  have H4 := Lib.hid h4
  clear b4 h4 H3 B3 K3
  go_wp2_with fail
  refine (sttext_any w4).mono ?_
  rintro e w' ⟨rfl, rfl⟩
  go_wp2_with fail
  refine (stload_any K4.out hBz H4.out (by omega) (by omega) [109] (by kernel_rfl) (fun _ => by decide)).mono ?_
  rintro e w5 ⟨h5, b5⟩
  have B5 := Lib.hid (B4.out.trans (b5.mono hwz))
  rcases h5 with ⟨rfl, h5, -⟩ | ⟨_, _, hno⟩
  rotate_left
  · exact absurd rfl (hno (0, [109]) (by simp))
  have H5 := Lib.hid h5
  clear b5 h5 H4 B4 K4
  go_wp2_with fail
  refine (stunload_any H5.out (by omega) [109]).mono ?_
  rintro e w6 ⟨h6, b6⟩
  have B6 := Lib.hid (B5.out.trans (b6.mono hwz))
  rcases h6 with ⟨k, rfl, hk, h6⟩ | ⟨_, hno, _⟩
  rotate_left
  · exact absurd rfl (hno (0, [109]) (by simp))
  obtain rfl : k = 0 := by simpa using hk
  rw [show (([] ++ [(0, [109])] : Loads).filter fun x => decide (x.1 ≠ 0)) = [] from by simp] at h6
  have H6 := Lib.hid h6
  clear b6 h6 H5 B5 hk
  go_wp2_with fail
  refine (stsys_any H6.out 0 (by unfold fitI; omega)).mono ?_
  rintro e w7 ⟨rfl, b7⟩
  have H7 := Lib.hid (H6.out.below b7)
  have B7 := Lib.hid (B6.out.trans (b7.mono (by have := B6.out.size; omega)))
  clear b7 H6 B6
  obtain ⟨V, hV⟩ : ∃ V, w7.alloc (.cells #[iv 0, .slice none 0 0, .slice none 0 0, .slice none 0 0] 58) = V := ⟨_, rfl⟩
  have BV := Lib.hid (show Below w7.heap.size w7 V by rw [← hV]; exact (Below.refl _ _).alloc (Nat.le_refl _) _)
  have B8 := Lib.hid (B7.out.trans (BV.out.mono B7.out.size))
  have H8 := Lib.hid (H7.out.below BV.out)
  have HVV := Lib.hid hV
  clear hV
  go_upto_region 9 with (fail)
  rw [show w7.alloc (.cells #[iv 0, .slice none 0 0, .slice none 0 0, .slice none 0 0] 58) = V from HVV.out]
  go_wp2_with fail
  refine (stnext_any H8.out.blk).mono ?_
  rintro e w' ⟨rfl, rfl⟩
  go_wp2
  go_ret
  exact ⟨rfl, B8.out⟩
end Go.Proofs.YtipnhmdibkkifaaGreatDoor
set_option linter.unusedVariables false
set_option linter.unusedSimpArgs false
set_option linter.unusedSectionVars false
namespace Go.Proofs.YtipnhmdibkkifaaGreatDoor
open Go.RowKit
variable [Base]
theorem loads_few {L : Loads} (h : (L.map Prod.snd).Nodup) (hp : ∀ x ∈ L, x.2 = [112] ∨ x.2 = [113]) {id : Str} (hid : id = [112] ∨ id = [113]) (hno : ∀ x ∈ L, x.2 ≠ id) : L.length < 2 := by
  match L, h, hp, hno with
  | [], _, _, _ => simp
  | [_], _, _, _ => simp
  | x :: y :: r, h, hp, hno =>
    exfalso
    have h1 : x.2 ≠ y.2 := by
      simp only [List.map_cons, List.nodup_cons, List.mem_cons, not_or] at h
      exact h.1.1
    have hx := hp x (by simp)
    have hy := hp y (by simp)
    have nx := hno x (by simp)
    have ny := hno y (by simp)
    rcases hid with rfl | rfl <;> rcases hx with hx | hx <;> rcases hy with hy | hy <;> simp_all
def UnStW (z sb bm c : Nat) (n : Int) (L : Loads) (w : World) (e : Ending) (w' : World) : Prop := ∃ (p q : Int) (L' : Loads), e = .returned (.tuple #[iv p, iv q]) ∧ StAt z w' sb bm c n L' ∧ (∀ x ∈ L', x ∈ L) ∧ Below z w w'
theorem stunload_w {z sb bm c : Nat} {n : Int} {L : Loads} {w : World} (h : StAt z w sb bm c n L) (hn : n ≤ 1073741824) (id : Str) :
    Calls Tryz.prog 6 #[.pointer (some ⟨sb, 0, none⟩), sv id] w (UnStW z sb bm c n L w) := by
  refine (stunload_any h hn id).mono ?_
  rintro e w' ⟨⟨k, rfl, -, h1⟩ | ⟨rfl, -, h1⟩, hb⟩
  · exact ⟨k, 0, _, rfl, h1, fun x hx => (List.mem_filter.1 hx).1, hb⟩
  · exact ⟨0, 8, _, rfl, h1, fun x hx => hx, hb⟩
set_option maxRecDepth 100000 in
set_option maxHeartbeats 16000000 in
theorem storeLaw_any (w0 : World) (a : Option Addr) (n c : Nat) (hn : n ≤ maxLen) (h : ∀ j : Nat, j < n → ∃ b off x, a = some ⟨b, off, none⟩ ∧ b < w0.heap.size ∧ w0.cell? ⟨b, off + j, none⟩ = some (.int .u8 x) ∧ 0 ≤ x ∧ x < 256) (kw : KwIn w0.heap.size w0) :
    Calls Tryz.prog 3 #[.slice a n c] w0 (BoolQ true w0) := by
  have HO := Lib.hid h
  have KW := Lib.hid kw
  unfold maxLen at hn
  obtain ⟨B, hB⟩ : ∃ b, w0.heap.size = b := ⟨_, rfl⟩
  have HB := Lib.hid hB
  clear kw h
  go_enter Tryz.func3, Tryz.ntmps3
  go_wp2_with fail
  refine (stconfig_any w0).mono ?_
  rintro e w1 ⟨rfl, b1⟩
  have B1 := Lib.hid b1
  clear b1
  go_wp2_with fail
  refine (stnew_any w1).mono ?_
  rintro e w2 ⟨sb, bm, rfl, h2, b2⟩
  obtain ⟨z, hz⟩ : ∃ z, w1.heap.size = z := ⟨_, rfl⟩
  have hBz : B ≤ z := by have := B1.out.size; omega
  rw [hz] at h2
  have H2 := Lib.hid h2
  have B2 := Lib.hid (B1.out.trans (b2.mono B1.out.size))
  clear b2 h2 hz B1
  go_wp2
  go_loopw [5, 6] (fun y5 y wr => ∃ (k N C : Nat) (L : Loads), k ≤ 20 ∧ k ≤ n ∧ N ≤ k ∧ C ≤ k ∧ y = .int .i64 k ∧ y5 = .int .i64 N ∧ Hid (StAt z wr sb bm C N L) ∧ Hid (Below w0.heap.size w0 wr) ∧ Hid (∀ x ∈ L, x.2 = [112] ∨ x.2 = [113])) (fun _ y _ => 20 - (intOf y).toNat)
  case atStart => exact ⟨0, 0, 0, [], by omega, by omega, by omega, by omega, rfl, rfl, H2.out, B2.out, fun x hx => (by cases hx)⟩
  case round =>
    obtain ⟨k, N, C, L, hk, hkn, hN, hC, rfl, rfl, HS, HBW, HP⟩ := hrel
    clear H2 B2
    by_cases hlt : k < n ∧ k < 20
    · obtain ⟨h1, h2⟩ := hlt
      obtain ⟨ob, oo, x, rfl, hob, x0, hx0, hx1⟩ := HO.out k h1
      have x0 := (HBW.out.cell (p := ⟨ob, oo + k, none⟩) hob).trans x0
      have tk : decide ((k : Int) < (n : Int)) = true := by simpa using h1
      have tk2 : decide ((k : Int) < 20) = true := by simp; omega
      obtain ⟨U, hU⟩ : ∃ U, wr.alloc (.cells #[sv [112], sv [113]] 9) = U := ⟨_, rfl⟩
      obtain ⟨g, hg⟩ : ∃ g, wr.heap.size = g := ⟨_, rfl⟩
      have BU := Lib.hid (show Below wr.heap.size wr U by rw [← hU]; exact (Below.refl _ _).alloc (Nat.le_refl _) _)
      have HG := Lib.hid (show U.heap[g]? = some (.cells #[sv [112], sv [113]] 9 (0, 0)) by rw [← hU, ← hg]; exact heap_alloc_new _ _)
      have hobw : ob < wr.heap.size := by have := HBW.out.size; omega
      have x0 := (BU.out.cell (p := ⟨ob, oo + k, none⟩) hobw).trans x0
      obtain ⟨g0, g1⟩ := cells2s HG.out
      by_cases hpar : x.tmod 2 = 0
      · go_upto_region 9 with (fail)
        clear g0 g1
        have HU := Lib.hid (HS.out.below BU.out)
        have BWU := Lib.hid (HBW.out.trans (BU.out.mono HBW.out.size))
        clear hpar
        by_cases h4 : x % 4 < 2
        · have t4 : decide (x % 4 < 2) = true := by simpa using h4
          go_wp2_with fail
          refine (stunload_w HU.out (by omega) [112]).mono ?_
          rintro e m0 ⟨p, q, L2, rfl, hs, hsub, bq⟩
          have HU2 := Lib.hid hs
          have BWU2 := Lib.hid (BWU.out.trans (bq.mono (by omega)))
          have HP2 := Lib.hid (show ∀ x ∈ L2, x.2 = [112] ∨ x.2 = [113] from fun x hx => HP.out x (hsub x hx))
          clear hs hsub bq x0 t4 h4
          have KWU := Lib.hid ((KW.out.of BWU2.out).keep fun _ _ => rfl)
          go_wp2_with fail
          refine (sttext_any m0).mono ?_
          rintro e w' ⟨rfl, rfl⟩
          go_wp2_with fail
          refine (stload_any KWU.out (by omega) HU2.out (by omega) (by omega) [112] (by kernel_rfl) (loads_few HU2.out.ids HP2.out (by simp))).mono ?_
          rintro e m1 ⟨hq, bq⟩
          have BQ := Lib.hid (BWU2.out.trans (bq.mono (by omega)))
          rcases hq with ⟨rfl, hs, -⟩ | ⟨rfl, hs, -⟩
          · have HQ := Lib.hid hs
            clear hs bq
            go_wp2
            go_roundw
            case rel => exact ⟨k + 1, N, C, L2, by omega, by omega, by omega, by omega, by go_num, rfl, HQ.out, BQ.out, HP2.out⟩
            case measure => simp [intOf]; omega
          · have HQ := Lib.hid (show StAt z m1 sb bm (C + 1) ((N + 1 : Nat) : Int) (L2 ++ [((N : Int), [112])]) from hs)
            have HPQ := Lib.hid (show ∀ x ∈ L2 ++ [((N : Int), ([112] : Str))], x.2 = [112] ∨ x.2 = [113] from fun x hx => by
              rcases List.mem_append.1 hx with hx | hx
              · exact HP2.out x hx
              · obtain rfl : x = ((N : Int), [112]) := by simpa using hx
                simp)
            clear hs bq
            have hwr : IntKind.i64.wrap ((N : Int) + 1) = (N : Int) + 1 := IntWalk.i64_in _ (by omega)
            have tne : ((N : Int) != (N : Int)) = false := by simp
            go_wp2
            go_roundw
            case rel => exact ⟨k + 1, N + 1, C + 1, _, by omega, by omega, by omega, by omega, by go_num, by go_num, HQ.out, BQ.out, HPQ.out⟩
            case measure => simp [intOf]; omega
        · have t4 : decide (x % 4 < 2) = false := by simpa using h4
          have h5 : ¬ (x % 4 < 2) := h4
          have KWU := Lib.hid ((KW.out.of BWU.out).keep fun _ _ => rfl)
          go_wp2_with fail
          refine (sttext_any U).mono ?_
          rintro e w' ⟨rfl, rfl⟩
          go_wp2_with fail
          refine (stload_any KWU.out (by omega) HU.out (by omega) (by omega) [112] (by kernel_rfl) (loads_few HU.out.ids HP.out (by simp))).mono ?_
          rintro e m1 ⟨hq, bq⟩
          have BQ := Lib.hid (BWU.out.trans (bq.mono (by omega)))
          rcases hq with ⟨rfl, hs, -⟩ | ⟨rfl, hs, -⟩
          · have HQ := Lib.hid hs
            clear hs bq
            go_wp2
            go_roundw
            case rel => exact ⟨k + 1, N, C, L, by omega, by omega, by omega, by omega, by go_num, rfl, HQ.out, BQ.out, HP.out⟩
            case measure => simp [intOf]; omega
          · have HQ := Lib.hid (show StAt z m1 sb bm (C + 1) ((N + 1 : Nat) : Int) (L ++ [((N : Int), [112])]) from hs)
            have HPQ := Lib.hid (show ∀ x ∈ L ++ [((N : Int), ([112] : Str))], x.2 = [112] ∨ x.2 = [113] from fun x hx => by
              rcases List.mem_append.1 hx with hx | hx
              · exact HP.out x hx
              · obtain rfl : x = ((N : Int), [112]) := by simpa using hx
                simp)
            clear hs bq
            have hwr : IntKind.i64.wrap ((N : Int) + 1) = (N : Int) + 1 := IntWalk.i64_in _ (by omega)
            have tne : ((N : Int) != (N : Int)) = false := by simp
            go_wp2
            go_roundw
            case rel => exact ⟨k + 1, N + 1, C + 1, _, by omega, by omega, by omega, by omega, by go_num, by go_num, HQ.out, BQ.out, HPQ.out⟩
            case measure => simp [intOf]; omega
      · have hpar : x.tmod 2 = 1 := by
          rw [Int.tmod_eq_emod_of_nonneg hx0] at hpar ⊢
          omega
        go_upto_region 9 with (fail)
        clear g0 g1
        have HU := Lib.hid (HS.out.below BU.out)
        have BWU := Lib.hid (HBW.out.trans (BU.out.mono HBW.out.size))
        clear hpar
        by_cases h4 : x % 4 < 2
        · have t4 : decide (x % 4 < 2) = true := by simpa using h4
          go_wp2_with fail
          refine (stunload_w HU.out (by omega) [113]).mono ?_
          rintro e m0 ⟨p, q, L2, rfl, hs, hsub, bq⟩
          have HU2 := Lib.hid hs
          have BWU2 := Lib.hid (BWU.out.trans (bq.mono (by omega)))
          have HP2 := Lib.hid (show ∀ x ∈ L2, x.2 = [112] ∨ x.2 = [113] from fun x hx => HP.out x (hsub x hx))
          clear hs hsub bq x0 t4 h4
          have KWU := Lib.hid ((KW.out.of BWU2.out).keep fun _ _ => rfl)
          go_wp2_with fail
          refine (sttext_any m0).mono ?_
          rintro e w' ⟨rfl, rfl⟩
          go_wp2_with fail
          refine (stload_any KWU.out (by omega) HU2.out (by omega) (by omega) [113] (by kernel_rfl) (loads_few HU2.out.ids HP2.out (by simp))).mono ?_
          rintro e m1 ⟨hq, bq⟩
          have BQ := Lib.hid (BWU2.out.trans (bq.mono (by omega)))
          rcases hq with ⟨rfl, hs, -⟩ | ⟨rfl, hs, -⟩
          · have HQ := Lib.hid hs
            clear hs bq
            go_wp2
            go_roundw
            case rel => exact ⟨k + 1, N, C, L2, by omega, by omega, by omega, by omega, by go_num, rfl, HQ.out, BQ.out, HP2.out⟩
            case measure => simp [intOf]; omega
          · have HQ := Lib.hid (show StAt z m1 sb bm (C + 1) ((N + 1 : Nat) : Int) (L2 ++ [((N : Int), [113])]) from hs)
            have HPQ := Lib.hid (show ∀ x ∈ L2 ++ [((N : Int), ([113] : Str))], x.2 = [112] ∨ x.2 = [113] from fun x hx => by
              rcases List.mem_append.1 hx with hx | hx
              · exact HP2.out x hx
              · obtain rfl : x = ((N : Int), [113]) := by simpa using hx
                simp)
            clear hs bq
            have hwr : IntKind.i64.wrap ((N : Int) + 1) = (N : Int) + 1 := IntWalk.i64_in _ (by omega)
            have tne : ((N : Int) != (N : Int)) = false := by simp
            go_wp2
            go_roundw
            case rel => exact ⟨k + 1, N + 1, C + 1, _, by omega, by omega, by omega, by omega, by go_num, by go_num, HQ.out, BQ.out, HPQ.out⟩
            case measure => simp [intOf]; omega
        · have t4 : decide (x % 4 < 2) = false := by simpa using h4
          have h5 : ¬ (x % 4 < 2) := h4
          have KWU := Lib.hid ((KW.out.of BWU.out).keep fun _ _ => rfl)
          go_wp2_with fail
          refine (sttext_any U).mono ?_
          rintro e w' ⟨rfl, rfl⟩
          go_wp2_with fail
          refine (stload_any KWU.out (by omega) HU.out (by omega) (by omega) [113] (by kernel_rfl) (loads_few HU.out.ids HP.out (by simp))).mono ?_
          rintro e m1 ⟨hq, bq⟩
          have BQ := Lib.hid (BWU.out.trans (bq.mono (by omega)))
          rcases hq with ⟨rfl, hs, -⟩ | ⟨rfl, hs, -⟩
          · have HQ := Lib.hid hs
            clear hs bq
            go_wp2
            go_roundw
            case rel => exact ⟨k + 1, N, C, L, by omega, by omega, by omega, by omega, by go_num, rfl, HQ.out, BQ.out, HP.out⟩
            case measure => simp [intOf]; omega
          · have HQ := Lib.hid (show StAt z m1 sb bm (C + 1) ((N + 1 : Nat) : Int) (L ++ [((N : Int), [113])]) from hs)
            have HPQ := Lib.hid (show ∀ x ∈ L ++ [((N : Int), ([113] : Str))], x.2 = [112] ∨ x.2 = [113] from fun x hx => by
              rcases List.mem_append.1 hx with hx | hx
              · exact HP.out x hx
              · obtain rfl : x = ((N : Int), [113]) := by simpa using hx
                simp)
            clear hs bq
            have hwr : IntKind.i64.wrap ((N : Int) + 1) = (N : Int) + 1 := IntWalk.i64_in _ (by omega)
            have tne : ((N : Int) != (N : Int)) = false := by simp
            go_wp2
            go_roundw
            case rel => exact ⟨k + 1, N + 1, C + 1, _, by omega, by omega, by omega, by omega, by go_num, by go_num, HQ.out, BQ.out, HPQ.out⟩
            case measure => simp [intOf]; omega
    · have HN := Lib.hid HS.out.blk
      by_cases h1 : k < n
      · have tk : decide ((k : Int) < (n : Int)) = true := by simpa using h1
        have tk2 : decide ((k : Int) < 20) = false := by simp; omega
        go_wp2_with fail
        refine (stnext_any HN.out).mono ?_
        rintro e w' ⟨rfl, rfl⟩
        have KWU := Lib.hid (KW.out.of HBW.out)
        go_wp2_with fail
        refine (stsane_any KWU.out (by have := HBW.out.size; omega)).mono ?_
        rintro e m1 ⟨rfl, bq⟩
        have BQ := Lib.hid (HBW.out.trans (bq.mono HBW.out.size))
        clear bq
        go_wp2
        go_ret
        exact ⟨rfl, BQ.out⟩
      · have tk : decide ((k : Int) < (n : Int)) = false := by simp; omega
        go_wp2_with fail
        refine (stnext_any HN.out).mono ?_
        rintro e w' ⟨rfl, rfl⟩
        have KWU := Lib.hid (KW.out.of HBW.out)
        go_wp2_with fail
        refine (stsane_any KWU.out (by have := HBW.out.size; omega)).mono ?_
        rintro e m1 ⟨rfl, bq⟩
        have BQ := Lib.hid (HBW.out.trans (bq.mono HBW.out.size))
        clear bq
        go_wp2
        go_ret
        exact ⟨rfl, BQ.out⟩
end Go.Proofs.YtipnhmdibkkifaaGreatDoor
set_option linter.unusedVariables false
set_option linter.unusedSimpArgs false
set_option linter.unusedSectionVars false
namespace Go.Proofs.YtipnhmdibkkifaaGreatDoor
open Go.ChangeShapes Go.WideShapes Go.ChangeAt Go.WideMaps Go.WideElems Go.ChangeMaps Go.Deep Go.RowKit
theorem own : ownKnob Tryz.prog.godebug = none := by kernel_rfl
theorem gKw : Tryz.prog.globalNamed "flowquery/lexer.keywords" = some 0 := by kernel_rfl
theorem tKw : (Tryz.prog.globals[0]?).map (·.type) = some 30 := by kernel_rfl
theorem cStr : Tryz.prog.cellsOf 9 = 1 := by kernel_rfl
theorem cU8 : Tryz.prog.cellsOf 5 = 1 := by kernel_rfl
def laidE : List (String × DataW Unit) := [("math/bits.deBruijn64tab", Rows.laid_math_bits_deBruijn64tab), ("flowquery/lexer.keywords", Rows.laid_flowquery_lexer_keywords), ("flowquery/equations.effects", Rows.laid_flowquery_equations_effects)]
theorem door_met (os : Os) (args : Array Value) : laidMetH Tryz.prog laidE ((World.doorLaid Tryz.prog 400 os).forCall (fun _ _ => 0) ⟨#[], args, []⟩).memory :=
  laidMetH_of_parts3 (fuel := 8) (laidMet_of_run' 8 (by kernel_rfl) (by kernel_rfl)) (by kernel_rfl) (by kernel_rfl)
theorem cell_lt {w : World} {b o : Nat} {v : Value} (h : w.cell? ⟨b, o, none⟩ = some v) : b < w.heap.size := by
  rcases Nat.lt_or_ge b w.heap.size with h' | h'
  · exact h'
  · simp [World.cell?, Array.getElem?_eq_none h'] at h
theorem of_laid [Base] {W : World} (h : laidMetH Tryz.prog laidE W) (hbs : Base.b ≤ W.heap.size) : KwIn W.heap.size W := by
  rw [MakeChecks.laidMetH_plain _ _ _ (by kernel_rfl)] at h
  obtain ⟨ps, h, _⟩ := h
  obtain ⟨_, _, _, _, _, _, _, _, _, _, h, -⟩ := h
  obtain ⟨g0, t0, cs0, f0, p0, q0, hg0, ht0, hv0, hd0, _⟩ := h
  obtain rfl := Option.some.inj (gKw.symm.trans hg0)
  obtain rfl := Option.some.inj (tKw.symm.trans ht0)
  rcases open_strs Tryz.underlying30 Tryz.underlying9 cStr hd0 with ⟨_, hx⟩ | ⟨a, len, cap, m, Sx, hcs, _, hl1, hl2, hm, hx, hcell⟩
  · simp [Rows.laid_flowquery_lexer_keywords] at hx
  simp only [Prod.mk.injEq] at hx
  have hK : kws.map (fun l => (DataW.lit (.string l) : DataW Unit)) = (List.range len).map fun i => .lit (.string (Sx i).data.toList) := by
    have h1 := hx.1
    have h2 : (Rows.laid_flowquery_lexer_keywords : DataW Unit) = .slice (kws.map fun l => .lit (.string l)) [] := rfl
    rw [h2] at h1
    injection h1 with h1 _
  have hlen : len = 11 := by
    have := congrArg List.length hK
    simp at this
    rw [← this]; rfl
  have hm2 : len ≤ m := by rw [hm]; split <;> omega
  have hc0 : W.cell? ⟨0, 0, none⟩ = some (.slice (some a) len cap) := by
    have := World.var?_cell hg0 hv0 0
    rw [Array.eq_one_of_toList hcs] at this
    simpa using this
  obtain ⟨b, off, spot⟩ := a
  have h00 := (hcell 0 (by omega)).1
  have hspot : spot = none := by simpa [Addr.add] using World.cell?_spot h00
  subst hspot
  subst hlen
  refine ⟨⟨by have := cell_lt hc0; omega, hbs⟩, b, off, cap, ?_, hc0, fun k s hk => ⟨b, off, rfl, ?_⟩⟩
  · rw [add_plain] at h00
    exact cell_lt h00
  · have hk2 : k < 11 := by
      have := (List.getElem?_eq_some_iff.1 hk).1
      exact this
    have h1 := congrArg (·[k]?) hK
    simp only [List.getElem?_map, hk, List.getElem?_range hk2, Option.map_some, Option.some.injEq, DataW.lit.injEq, Lit.string.injEq] at h1
    have h2 := (hcell k (by omega)).1
    rw [add_plain] at h2
    rw [h2, h1]
end Go.Proofs.YtipnhmdibkkifaaGreatDoor
set_option linter.unusedVariables false
set_option linter.unusedSimpArgs false
set_option linter.unusedSectionVars false
namespace Go.Proofs.YtipnhmdibkkifaaGreatDoor.storeNumbers
open Go.ChangeShapes Go.WideShapes Go.ChangeAt Go.WideMaps Go.WideElems Go.ChangeMaps Go.Deep Go.RowKit
theorem wf_u8C {n : Int} (h : (Lit.int .u8 n).wf = true) : 0 ≤ n ∧ n < 256 := by
  unfold Lit.wf at h
  simp [IntKind.min, IntKind.max, IntKind.bits, IntKind.signed] at h
  omega
set_option maxRecDepth 100000 in
set_option maxHeartbeats 1000000 in
theorem lifted (os : Os) (started : os.Started) (H : Type) (enc : TypeId × Value → H) :
    ReturnsInHanded {} Tryz.checked os 3 .any (fun w args => (Rows.storeNumbersSpec.pre enc Tryz.prog Tryz.f3 [] false w args ∧ laidMetH Tryz.prog laidE w) ∧ sizedMet enc Tryz.prog Tryz.f3 (OpenSpec.ofChange Rows.storeNumbersSpec) false w args)
      (Rows.storeNumbersSpec.post enc Tryz.prog Tryz.f3 false true false false) := by
  refine returnsInHanded_of_change_and (C := Tryz.checked) (X := fun w _ => laidMetH Tryz.prog laidE w) (fun _ _ _ hh h => h.of_heap hh) own started (by kernel_rfl) Tryz.func3
    (ChangeSpec.witness_shaped (enc := enc) (C := Tryz.checked) (os := os) (X := fun w _ => laidMetH Tryz.prog laidE w) false (World.doorLaid Tryz.prog 400 os) #[.slice none 0 0] 8 rfl (World.shaped_of_RefB (by kernel_rfl) (by kernel_rfl)) (by kernel_rfl) (by kernel_rfl) (by kernel_rfl) (door_met os _)) ?_
  intro W base args ds gs before hval0 hW _ _ hL _
  have hval : ∀ (j : Nat) t v, Tryz.f3.params[j]? = some t → args[j]? = some v → Value.okWide Tryz.prog W .any base t v := hval0
  have hW' := hW
  have hlt := hW.lt
  obtain ⟨p, q, hA0, hV, rfl, hfz, hnd⟩ := hW
  have hA : DataW.TrodAll enc Tryz.prog W 0 (fun _ => true) true Tryz.f3.params.toList args.toList ds p := hA0
  rw [Tryz.params3] at hA hval
  obtain ⟨v0, d0, rfl, rfl, h0⟩ := trodAll_one hA
  obtain ⟨rfl, rfl⟩ := trodVars_none hV
  obtain ⟨a0, len0, cap0, rfl⟩ := okWide_slice Tryz.underlying22 (hval 0 22 v0 rfl rfl)
  letI : Base := ⟨W.heap.size⟩
  have K := of_laid hL (Nat.le_refl _)
  have keep : ∀ W' : World, Below W.heap.size W W' → Rows.storeNumbersSpec.post enc Tryz.prog Tryz.f3 false true false false W #[.slice a0 len0 cap0] (.bool true) W' := by
    intro W' bel
    have h0' := Below.trod (P := Tryz.prog) (by kernel_rfl) (by kernel_rfl) (by decide +kernel) h0 bel (fun x hx => hlt x (by simp [hx]))
    exact ⟨_, _, _, [], _, [], hW', trodAll_mk1 (shut_bool Tryz.underlying4 _), trodAll_mk1 h0', rfl, bel.frame _, fun h => by cases h⟩
  obtain ⟨fuel, hf⟩ := h0
  rcases open_ints Tryz.underlying22 Tryz.underlying5 cU8 hf with ⟨hcs, _⟩ | ⟨a, len, cap, zs, hcs, _, hl1, hl2, hz, _, hcell, hwf⟩
  · have hcs' : [Value.slice a0 len0 cap0] = _ := hcs
    injection hcs' with hcs' _
    injection hcs' with e1 e2 e3
    subst e1 e2 e3
    refine (storeLaw_any W none 0 0 (Nat.zero_le _) (fun j hj => by omega) K).mono fun e W' ⟨he, bel⟩ => ?_
    subst he
    exact ⟨_, rfl, keep W' bel⟩
  · have hcs' : [Value.slice a0 len0 cap0] = _ := hcs
    injection hcs' with hcs' _
    injection hcs' with e1 e2 e3
    subst e1 e2 e3
    refine (storeLaw_any W (some a) len0 cap0 (by omega) (fun j hj => ?_) K).mono fun e W' ⟨he, bel⟩ => ?_
    · have hlz : len0 ≤ zs.length := by rw [hz]; split <;> omega
      obtain ⟨b, off, rfl, hc⟩ := ints_at hcell (by omega)
      have hw := wf_u8C (hwf (zs.getD j 0) (by rw [List.getD_eq_getElem?_getD, List.getElem?_eq_getElem (show j < zs.length by omega)]; exact List.getElem_mem _))
      exact ⟨b, off, _, rfl, cell_lt (hc j (by omega)), hc j (by omega), hw.1, hw.2⟩
    · subst he
      exact ⟨_, rfl, keep W' bel⟩
theorem over : Rows.StoreNumbersSaid :=
  OpenClaim.holds_of_wide 3 Tryz.f3 rfl rfl rfl rfl rfl rfl rfl ⟨rfl, rfl, rfl, rfl, rfl⟩ rfl rfl rfl rfl rfl (by kernel_rfl) Tryz.func3 (by kernel_rfl)
    (of_decide_eq_true (by kernel_rfl)) (by unfold Func.isWrapper; first | (rw [if_pos (by decide +kernel)]; kernel_rfl) | (rw [if_neg (by decide +kernel)]; exact ⟨rfl, rfl⟩))
    (fun os started H enc _ => lifted os started H enc)
end Go.Proofs.YtipnhmdibkkifaaGreatDoor.storeNumbers
namespace Go.Proofs.YtipnhmdibkkifaaGreatDoor
open Go
theorem storeNumbers_card_holds : Rows.StoreNumbersCardSaid :=
  Claim7.holds_tied_plain_at .later [] [.data, .widerDeep, .data] true Rows.storeNumbersCard.stood.harness false
    storeNumbers.over (fun _ h => by cases h) (by kernel_rfl) (fun _ h => by cases h) storeNumbers_row_tie rfl ⟨rfl, rfl⟩ (by kernel_rfl) rfl
    (fun f fn hf hfn => by
      obtain rfl : f = 3 := Option.some.inj ((show Tryz.prog.funcNamed "flowquery/flqlaw25.StoreNumbers" = some 3 by kernel_rfl).symm.trans hf) |>.symm
      obtain rfl : fn = Tryz.f3 := (Option.some.inj (Tryz.func3.symm.trans hfn)).symm
      exact ⟨by kernel_rfl, fun j t ht => by
        rw [Tryz.params3] at ht
        rcases j with _ | j
        · obtain rfl : t = 22 := by simpa using ht.symm
          exact (show Tryz.prog.wantsStandIn 22 = false by kernel_rfl)
        · simp at ht⟩)
    (by kernel_rfl)
#print axioms storeNumbers_card_holds
end Go.Proofs.YtipnhmdibkkifaaGreatDoor
