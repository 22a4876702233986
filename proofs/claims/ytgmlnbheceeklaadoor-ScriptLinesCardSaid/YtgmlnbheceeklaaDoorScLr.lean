/- Walk: the reference's Lines. -/
import Derived.Test.YtgmlnbheceeklaaDoorScLw
set_option linter.unusedVariables false
set_option linter.unusedSimpArgs false
set_option linter.unusedSectionVars false
namespace Go.Proofs.YtgmlnbheceeklaaDoor
open Go.RowKit
variable [Base]

def lenOf : Value → Nat
  | .string s => s.size
  | _ => 0
theorem ext_take (s : ByteArray) (k : Nat) : Value.string (s.extract 0 k) = qs (s.data.toList.take k) := str_take s k
theorem ext_drop (s : ByteArray) (j : Nat) : (s.extract j s.size).data.toList = s.data.toList.drop j := by
  have h := str_drop s j
  injection h with h
  rw [h]
theorem ext_size (s : ByteArray) (j : Nat) (h : j ≤ s.size) : (s.extract j s.size).size = s.size - j := by simp
theorem LnAt.own {w : World} {base : Nat} {v : Value} {ls : List Str} (h : w.ownsRow base 9 1 v ls.length (ls.map qs)) : LnAt w v ls := by
  obtain ⟨_, h2⟩ := h
  rcases h2 with ⟨rfl, e⟩ | ⟨g, cap, cur, rfl, _, hg, _, _, _, ht⟩
  · have : ls = [] := by
      have := congrArg List.length (show ls.map qs = [] from by first | exact e | simpa using e)
      exact List.length_eq_zero_iff.1 (by simpa using this)
    subst this
    exact LnAt.nil
  · refine ⟨some ⟨g, 0, none⟩, cap, rfl, fun k s hk => ⟨g, 0, rfl, ?_⟩⟩
    have hk2 := (List.getElem?_eq_some_iff.1 hk).1
    have e : (ls.map qs)[k]? = some (qs s) := by rw [List.getElem?_map, hk]; rfl
    rw [← ht, Nat.mul_one, List.getElem?_take_of_lt hk2] at e
    unfold World.cell?
    rw [hg, Nat.zero_add]
    simpa using e
theorem info_str : (Tryd.prog.info? 9).map (fun i => (i.zero, i.size, i.bytes)) = some (some (.string ⟨#[]⟩), 1, 16) := by kernel_rfl
set_option maxRecDepth 100000 in
set_option maxHeartbeats 4000000 in
theorem rlines_any (s0 : ByteArray) (w : World) : Calls Tryd.prog 18 #[.string s0] w (LinesQ (linesR s0.data.toList) w) := by
  have hud : ∀ b : Bool, (undef = Value.bool b) = False := fun b => by simp [undef]
  have hsz : s0.data.toList.length = s0.size := by simp
  by_cases h1 : 65536 < s0.size
  · have g1 : decide ((65536 : Int) < (s0.size : Int)) = true := by simp; omega
    have HR := Lib.hid (show linesR s0.data.toList = ([], 7) from if_pos (by omega))
    clear hsz
    go_enter Tryd.func18, Tryd.ntmps18
    go_wp2
    refine bodyPost_ret (v := .tuple #[.slice none 0 0, .int .i64 7]) (by simp [results, Tryd.results18, go_sem]) rfl ?_
    rw [HR.out]
    exact ⟨_, rfl, LnAt.nil, Below.refl _ _⟩
  have g1 : decide ((65536 : Int) < (s0.size : Int)) = false := by simp; omega
  have HR := Lib.hid (show linesR s0.data.toList = (lnS s0.data.toList, 0) from if_neg (by omega))
  have HL := Lib.hid (show (lnS s0.data.toList).length ≤ 65536 from Nat.le_trans (lnS_len _) (by omega))
  obtain ⟨LL, hLL⟩ : ∃ x, lnS s0.data.toList = x := ⟨_, rfl⟩
  have HLL := Lib.hid hLL
  rw [hLL] at HR HL
  rw [HR.out]
  clear hsz hLL HR
  go_enter Tryd.func18, Tryd.ntmps18
  go_wp2
  go_loopw [0, 4] (fun y0 y4 wr => ∃ (s : ByteArray) (acc : List Str) (v : Value), y0 = .string s ∧ v = y4 ∧ s.size ≤ 65536 ∧ acc.length ≤ 65536 ∧ Hid (LL = acc ++ lnS s.data.toList) ∧ Hid (wr.ownsRow w.heap.size 9 1 v acc.length (acc.map qs)) ∧ Hid (Below w.heap.size w wr)) (fun y0 _ _ => lenOf y0)
  case atStart => exact ⟨s0, [], _, rfl, rfl, by omega, by simp, Lib.hid HLL.out.symm, Lib.hid ⟨rfl, .inl ⟨rfl, rfl⟩⟩, Lib.hid (Below.refl _ _)⟩
  case round =>
    obtain ⟨s, acc, v, rfl, rfl, hs, ha, HA, OWN, HB⟩ := hrel
    by_cases h0 : 0 < s.size
    · have g2 : decide ((0 : Int) < (s.size : Int)) = true := by simp; omega
      go_wp2
      go_loop [5] (fun v => ∃ k : Nat, k ≤ s.size ∧ v = .int .i64 k ∧ Hid ((10 : UInt8) ∉ s.data.toList.take k)) (fun v => s.size - (intOf v).toNat)
      case atStart => exact ⟨0, Nat.zero_le _, rfl, by unfold Hid; simp⟩
      case round =>
        obtain ⟨k, hk, rfl, hn⟩ := hrel
        by_cases hlt : k < s.size
        · have HBY := Lib.hid (byte_at hlt)
          have g3 : decide ((k : Int) < (s.size : Int)) = true := by simp; omega
          by_cases e1 : (s[k].toNat : Int) = 10
          · have e2 : ((s[k].toNat : Int) != 10) = false := by simp [bne, e1]
            have HC := Lib.hid (show k = s.data.toList.length ∨ s.data.toList[k]? = some 10 from .inr (by
              rw [HBY.out]
              congr 1
              exact UInt8.toNat_inj.1 (by have : s[k].toNat = 10 := by omega
                                          exact this)))
            clear e1
            have hne : s.data.toList ≠ [] := fun e => by have h7 : s.data.toList.length = s.size := by simp
                                                         rw [e] at h7; simp at h7; omega
            have HCUT := Lib.hid (lnS_cut s.data.toList k hne (by simpa using hk) hn.out HC.out)
            obtain ⟨j, hj, hjp, hjm, hjd⟩ : ∃ j : Nat, j ≤ s.size ∧ 0 < j ∧ min ((k : Int) + 1) (s.size : Int) = (j : Int) ∧ s.data.toList.drop (k + 1) = s.data.toList.drop j := by
              rcases Nat.lt_or_ge k s.size with h | h
              · exact ⟨k + 1, by omega, by omega, by omega, rfl⟩
              · refine ⟨s.size, Nat.le_refl _, h0, by omega, ?_⟩
                rw [List.drop_of_length_le (by simp; omega), List.drop_of_length_le (by simp)]
            have HJD := Lib.hid hjd
            have EX := Lib.hid (ext_take s k)
            have HSZ := Lib.hid (ext_size s j hj)
            have hwi : IntKind.i64.wrap ((k : Int) + 1) = (k : Int) + 1 := IntWalk.i64_in _ (by omega)
            have hj1 : (j : Int) ≤ (s.size : Int) := by omega
            have hj0 : (0 : Int) ≤ (j : Int) := by omega
            have hk1 : (k : Int) ≤ (s.size : Int) := by omega
            have LE := Lib.hid HB.out.size
            have HLN := Lib.hid (show (acc ++ [s.data.toList.take k]).length ≤ 65536 by
              have h7 := HL.out
              rw [HA.out, HCUT.out] at h7
              simp at h7 ⊢
              omega)
            clear hne hjd
            go_wp2_with (at_builtin; refine wpList_pushH [.string (s.extract 0 k)] rfl _ _ 35 rfl w.heap.size 9 _ 1 16 Tryd.underlying35 info_str rfl (by decide) _ acc.length _ OWN.out rfl _ rfl rfl rfl rfl (by unfold maxLen; omega) (by omega) LE.out ?_; intro g cap w6 own2 gr2 q1 q2; have OW2 := Lib.hid own2; have GR2 := Lib.hid gr2; clear own2 gr2 q1 q2)
            have BX := Lib.hid (HB.out.trans (Below.of_grown GR2.out OWN.out LE.out))
            have OX := Lib.hid (show w6.ownsRow w.heap.size 9 1 (.slice (some ⟨g, 0, none⟩) (acc.length + 1) cap) (acc ++ [s.data.toList.take k]).length ((acc ++ [s.data.toList.take k]).map qs) by
              have h7 := OW2.out
              rw [EX.out] at h7
              simpa using h7)
            have EQ := Lib.hid (show LL = (acc ++ [s.data.toList.take k]) ++ lnS (s.extract j s.size).data.toList by
              rw [HA.out, HCUT.out, ext_drop, HJD.out]
              simp)
            go_roundw
            case rel => exact ⟨s.extract j s.size, acc ++ [s.data.toList.take k], _, rfl, rfl, by rw [HSZ.out]; omega, HLN.out, EQ, OX, BX⟩
            case measure =>
              show (s.extract j s.size).size < s.size
              rw [HSZ.out]; omega
          · have e2 : ((s[k].toNat : Int) != 10) = true := by simp [bne]; exact fun h => e1 (by omega)
            have HE := Lib.hid (show s[k] ≠ 10 from fun e => e1 (by rw [e]; rfl))
            go_wp2
            go_round
            case rel => exact ⟨k + 1, by omega, by go_num, Lib.hid (take_no HBY.out HE.out hn.out)⟩
            case measure => simp [intOf]; omega
        · have g3 : decide ((k : Int) < (s.size : Int)) = false := by simp; omega
          have HC := Lib.hid (show k = s.data.toList.length ∨ s.data.toList[k]? = some 10 from .inl (by simp; omega))
          have hne : s.data.toList ≠ [] := fun e => by have h7 : s.data.toList.length = s.size := by simp
                                                       rw [e] at h7; simp at h7; omega
          have HCUT := Lib.hid (lnS_cut s.data.toList k hne (by simpa using hk) hn.out HC.out)
          obtain ⟨j, hj, hjp, hjm, hjd⟩ : ∃ j : Nat, j ≤ s.size ∧ 0 < j ∧ min ((k : Int) + 1) (s.size : Int) = (j : Int) ∧ s.data.toList.drop (k + 1) = s.data.toList.drop j := by
            rcases Nat.lt_or_ge k s.size with h | h
            · exact ⟨k + 1, by omega, by omega, by omega, rfl⟩
            · refine ⟨s.size, Nat.le_refl _, h0, by omega, ?_⟩
              rw [List.drop_of_length_le (by simp; omega), List.drop_of_length_le (by simp)]
          have HJD := Lib.hid hjd
          have EX := Lib.hid (ext_take s k)
          have HSZ := Lib.hid (ext_size s j hj)
          have hwi : IntKind.i64.wrap ((k : Int) + 1) = (k : Int) + 1 := IntWalk.i64_in _ (by omega)
          have hj1 : (j : Int) ≤ (s.size : Int) := by omega
          have hj0 : (0 : Int) ≤ (j : Int) := by omega
          have hk1 : (k : Int) ≤ (s.size : Int) := by omega
          have LE := Lib.hid HB.out.size
          have HLN := Lib.hid (show (acc ++ [s.data.toList.take k]).length ≤ 65536 by
            have h7 := HL.out
            rw [HA.out, HCUT.out] at h7
            simp at h7 ⊢
            omega)
          clear hne hjd
          go_wp2_with (at_builtin; refine wpList_pushH [.string (s.extract 0 k)] rfl _ _ 35 rfl w.heap.size 9 _ 1 16 Tryd.underlying35 info_str rfl (by decide) _ acc.length _ OWN.out rfl _ rfl rfl rfl rfl (by unfold maxLen; omega) (by omega) LE.out ?_; intro g cap w6 own2 gr2 q1 q2; have OW2 := Lib.hid own2; have GR2 := Lib.hid gr2; clear own2 gr2 q1 q2)
          have BX := Lib.hid (HB.out.trans (Below.of_grown GR2.out OWN.out LE.out))
          have OX := Lib.hid (show w6.ownsRow w.heap.size 9 1 (.slice (some ⟨g, 0, none⟩) (acc.length + 1) cap) (acc ++ [s.data.toList.take k]).length ((acc ++ [s.data.toList.take k]).map qs) by
            have h7 := OW2.out
            rw [EX.out] at h7
            simpa using h7)
          have EQ := Lib.hid (show LL = (acc ++ [s.data.toList.take k]) ++ lnS (s.extract j s.size).data.toList by
            rw [HA.out, HCUT.out, ext_drop, HJD.out]
            simp)
          go_roundw
          case rel => exact ⟨s.extract j s.size, acc ++ [s.data.toList.take k], _, rfl, rfl, by rw [HSZ.out]; omega, HLN.out, EQ, OX, BX⟩
          case measure =>
            show (s.extract j s.size).size < s.size
            rw [HSZ.out]; omega
    · have g2 : decide ((0 : Int) < (s.size : Int)) = false := decide_eq_false (by omega)
      have HE := Lib.hid (show LL = acc by
        have h8 : s.data.toList.length = s.size := by simp
        have h7 : s.data.toList = [] := List.length_eq_zero_iff.1 (by omega)
        rw [HA.out, h7]
        simp [lnS])
      go_wp2
      refine bodyPost_ret (v := .tuple #[v, .int .i64 0]) (by simp [results, Tryd.results18, go_sem]) rfl ⟨v, rfl, ?_, HB.out⟩
      rw [HE.out]
      exact LnAt.own OWN.out
end Go.Proofs.YtgmlnbheceeklaaDoor
