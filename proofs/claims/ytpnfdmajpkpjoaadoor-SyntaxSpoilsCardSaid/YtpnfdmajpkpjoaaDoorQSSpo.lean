/- The walk of the law on spoiled texts. -/
import Derived.Test.YtpnfdmajpkpjoaaDoorQSParL
import Derived.Test.YtpnfdmajpkpjoaaDoorQTxtN
set_option linter.unusedVariables false
set_option linter.unusedSimpArgs false
namespace Go.Proofs.YtpnfdmajpkpjoaaDoor
open Go.RowKit

theorem cells_at {w : World} {la : Option Addr} {m lc : Nat} {ls : List Str} (h : StrsAt w (.slice la m lc) ls) (hm : ls.length = m) (k : Nat) (s : Str) (hs : ls[k]? = some s) :
    ∃ b off, la = some ⟨b, off, none⟩ ∧ b < w.heap.size ∧ w.cell? ⟨b, off + k, none⟩ = some (sv s) := by
  obtain ⟨a', c', ea, _, hc⟩ := h.cell
  injection ea with ea _ _
  subst ea
  exact hc k s hs
set_option maxHeartbeats 2000000 in
theorem spoilsLaw_any (w0 : World) (a : Option Addr) (n c : Nat) (hn : n ≤ maxLen)
    (h : ∀ j : Nat, j < n → ∃ b off z, a = some ⟨b, off, none⟩ ∧ b < w0.heap.size ∧ w0.cell? ⟨b, off + j, none⟩ = some (.int .i64 z)) (KW : KwIn w0.heap.size w0) :
    Calls Tryd.prog 5 #[.slice a n c] w0 (BoolPost true w0) := by
  have H := Lib.hid h
  have K := Lib.hid KW
  clear h KW
  go_enter Tryd.func5, Tryd.ntmps5
  go_wp2_with fail
  refine (new_any rfl a n c hn H.out).mono ?_
  rintro e w1 ⟨rfl, ht, hb⟩
  have M : Hid (Mid w0 w1) := ⟨ht, hb⟩
  clear ht hb
  go_wp2_with fail
  refine (program_any M.out.tape).mono ?_
  rintro e w2 ⟨p, v, hgp, rfl, hf, t2, b2⟩
  have HV := gen_valid hgp
  obtain ⟨pa, pn, pc, rfl⟩ := valid_cells hf
  have M2 := Lib.hid (M.out.next t2 b2)
  have LNS := Lib.hid (lines_any p _ _ hf HV)
  have hp1 := (validB_parts HV).1
  have hln := linesT_len HV
  have EACH := Lib.hid (linesT_each HV)
  have hl1 : 1 ≤ (linesT p).length := by
    cases p with
    | nil => simp at hp1
    | cons f p => simp [linesT, funcLines]
  clear hgp hf t2 b2 M HV hp1
  go_wp2_with fail
  refine LNS.out.mono ?_
  rintro e w3 ⟨lv, rfl, hl, b3⟩
  have M3 := Lib.hid (M2.out.trans b3)
  obtain ⟨la, lc, rfl, hlm, _⟩ := hl.cell
  have HL := Lib.hid hl
  clear b3 M2 LNS hl hlm
  obtain ⟨ls, hls⟩ : ∃ x, linesT p = x := ⟨_, rfl⟩
  rw [hls] at HL EACH hln hl1 ⊢
  clear hls
  obtain ⟨m, hm⟩ : ∃ x, ls.length = x := ⟨_, rfl⟩
  rw [hm] at HL hln hl1 ⊢
  have HM := Lib.hid hm
  clear hm
  go_wp2
  go_loopw [5] (fun v wr => ∃ k : Nat, k ≤ 4 ∧ v = .int .i64 k ∧ Hid (Mid w0 wr) ∧ Hid (StrsAt wr (.slice la m lc) ls)) (fun v _ => 4 - (intOf v).toNat)
  case atStart => exact ⟨0, by omega, rfl, M3, HL⟩
  case round =>
    obtain ⟨k, hk, rfl, M, HL⟩ := hrel
    clear M3
    by_cases hlt : k < 4
    · go_wp2_with fail
      refine (next_any M.out.tape m (by omega)).mono ?_
      rintro e w4 ⟨r, r0, r1, rfl, t4, b4⟩
      have M4 := Lib.hid (M.out.next t4 b4)
      have HL4 := Lib.hid (SliceAt.same HL.out (SameT.but b4 (by rw [M.out.tape.ty]; decide)))
      clear t4 b4 M HL
      go_wp2_with fail
      refine (next_any M4.out.tape 2 (by omega)).mono ?_
      rintro e w5 ⟨q, q0, q1, rfl, t5, b5⟩
      have M5 := Lib.hid (M4.out.next t5 b5)
      have HL5 := Lib.hid (SliceAt.same HL4.out (SameT.but b5 (by rw [M4.out.tape.ty]; decide)))
      clear t5 b5 M4 HL4
      have hq : q = 0 ∨ q = 1 := by omega
      clear q0 q1
      rcases hq with rfl | rfl
      · skip
        go_wp2
        obtain ⟨wo, rfl⟩ : ∃ wo : World, wo = w5 := ⟨_, rfl⟩
        go_loopw [8, 9] (fun x v wi => ∃ (xs : ByteArray) (j : Nat), j ≤ m ∧ x = .string xs ∧ v = .int .i64 j ∧ xs.size ≤ 402 * j ∧ Hid (Mid w0 wi) ∧ Hid (StrsAt wi (.slice la m lc) ls)) (fun _ v _ => m - (intOf v).toNat)
        case atStart => exact ⟨_, 0, by omega, rfl, rfl, by decide, M5, HL5⟩
        case round =>
          obtain ⟨xs, j, hj, rfl, rfl, hx, M, HL⟩ := hrel
          clear M5 HL5
          by_cases hlt2 : j < m
          · obtain ⟨t, ht⟩ : ∃ t, ls[j]? = some t := ⟨_, List.getElem?_eq_getElem (show j < ls.length by have := HM.out; omega)⟩
            obtain ⟨b, off, eb, hb, g⟩ := cells_at HL.out HM.out j t ht
            subst eb
            have htl := EACH.out t (List.mem_of_getElem? ht)
            have hts : (ByteArray.mk t.toArray).size = t.length := by show t.toArray.size = _; simp
            clear ht
            by_cases hjr : (j : Int) = r
            · have e1 : ((j : Int) != r) = false := by rw [bne_eq_false_iff_eq]; exact hjr
              have e2 : ((j : Int) == r) = true := by rw [beq_iff_eq]; exact hjr
              clear hjr
              go_wp2
              go_roundw
              case rel => exact ⟨xs, j + 1, by omega, rfl, by go_num, by omega, M, HL⟩
              case measure => simp [intOf]; omega
            · have e1 : ((j : Int) != r) = true := by rw [bne_iff_ne]; exact hjr
              have e2 : ((j : Int) == r) = false := by rw [beq_eq_false_iff_ne]; exact hjr
              clear hjr
              go_wp2
              go_roundw
              case rel => exact ⟨_, j + 1, by omega, rfl, by go_num, by rw [append_size', append_size', show (ByteArray.mk #[59]).size = 1 from rfl]; omega, M, HL⟩
              case measure => simp [intOf]; omega
          · go_wp2_with fail
            refine (M.out.parses K.out xs).mono ?_
            rintro e w6 ⟨rfl, hb6⟩
            have M6 := Lib.hid (M.out.trans hb6)
            have HL6 := Lib.hid (SliceAt.same HL.out (SameT.below hb6))
            clear hb6 M HL
            go_wp2
            go_roundw
            case rel => exact ⟨k + 1, by omega, by go_num, M6, HL6⟩
            case measure => simp [intOf]; omega
      · skip
        go_wp2
        obtain ⟨wo, rfl⟩ : ∃ wo : World, wo = w5 := ⟨_, rfl⟩
        go_loopw [8, 9] (fun x v wi => ∃ (xs : ByteArray) (j : Nat), j ≤ m ∧ x = .string xs ∧ v = .int .i64 j ∧ xs.size ≤ 402 * j ∧ Hid (Mid w0 wi) ∧ Hid (StrsAt wi (.slice la m lc) ls)) (fun _ v _ => m - (intOf v).toNat)
        case atStart => exact ⟨_, 0, by omega, rfl, rfl, by decide, M5, HL5⟩
        case round =>
          obtain ⟨xs, j, hj, rfl, rfl, hx, M, HL⟩ := hrel
          clear M5 HL5
          by_cases hlt2 : j < m
          · obtain ⟨t, ht⟩ : ∃ t, ls[j]? = some t := ⟨_, List.getElem?_eq_getElem (show j < ls.length by have := HM.out; omega)⟩
            obtain ⟨b, off, eb, hb, g⟩ := cells_at HL.out HM.out j t ht
            subst eb
            have htl := EACH.out t (List.mem_of_getElem? ht)
            have hts : (ByteArray.mk t.toArray).size = t.length := by show t.toArray.size = _; simp
            clear ht
            by_cases hjr : (j : Int) = r
            · have e1 : ((j : Int) != r) = false := by rw [bne_eq_false_iff_eq]; exact hjr
              have e2 : ((j : Int) == r) = true := by rw [beq_iff_eq]; exact hjr
              clear hjr
              go_wp2_with fail
              refine (next_any M.out.tape m (by omega)).mono ?_
              rintro e w6 ⟨r2, s0, s1, rfl, t6, b6⟩
              have M6 := Lib.hid (M.out.next t6 b6)
              have HL6 := Lib.hid (SliceAt.same HL.out (SameT.but b6 (by rw [M.out.tape.ty]; decide)))
              obtain ⟨j2, rfl⟩ := Int.eq_ofNat_of_zero_le s0
              have hj2 : j2 < m := by omega
              obtain ⟨t2, ht2⟩ : ∃ t, ls[j2]? = some t := ⟨_, List.getElem?_eq_getElem (show j2 < ls.length by have := HM.out; omega)⟩
              obtain ⟨b', off', eb, hb', g2⟩ := cells_at HL6.out HM.out j2 t2 ht2
              injection eb with eb
              injection eb with eb1 eb2
              subst eb1 eb2
              have htl2 := EACH.out t2 (List.mem_of_getElem? ht2)
              have hts2 : (ByteArray.mk t2.toArray).size = t2.length := by show t2.toArray.size = _; simp
              clear ht2 t6 b6 M HL s0 s1
              go_wp2
              go_roundw
              case rel => exact ⟨_, j + 1, by omega, rfl, by go_num, by rw [append_size', append_size', append_size', append_size', show (ByteArray.mk #[10]).size = 1 from rfl, show (ByteArray.mk #[59]).size = 1 from rfl]; omega, M6, HL6⟩
              case measure => simp [intOf]; omega
            · have e1 : ((j : Int) != r) = true := by rw [bne_iff_ne]; exact hjr
              have e2 : ((j : Int) == r) = false := by rw [beq_eq_false_iff_ne]; exact hjr
              clear hjr
              go_wp2
              go_roundw
              case rel => exact ⟨_, j + 1, by omega, rfl, by go_num, by rw [append_size', append_size', show (ByteArray.mk #[59]).size = 1 from rfl]; omega, M, HL⟩
              case measure => simp [intOf]; omega
          · go_wp2_with fail
            refine (M.out.parses K.out xs).mono ?_
            rintro e w6 ⟨rfl, hb6⟩
            have M6 := Lib.hid (M.out.trans hb6)
            have HL6 := Lib.hid (SliceAt.same HL.out (SameT.below hb6))
            clear hb6 M HL
            go_wp2
            go_roundw
            case rel => exact ⟨k + 1, by omega, by go_num, M6, HL6⟩
            case measure => simp [intOf]; omega
    · go_wp2_with fail
      refine (M.out.sane K.out).mono ?_
      rintro e w8 ⟨rfl, hb8⟩
      have M8 := Lib.hid (M.out.trans hb8)
      clear hb8 M
      go_wp2
      go_ret
      exact ⟨rfl, M8.out.below⟩
end Go.Proofs.YtpnfdmajpkpjoaaDoor

