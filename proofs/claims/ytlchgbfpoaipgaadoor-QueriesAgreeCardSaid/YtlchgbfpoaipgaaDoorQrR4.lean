/- Walks: the reference's Valid of tables. Printed by wip/gen_qrr4.py. -/
import Derived.Test.YtlchgbfpoaipgaaDoorQrR3
import Derived.Test.YtlchgbfpoaipgaaDoorQrR1
import Derived.Test.YtlchgbfpoaipgaaDoorQrW5
set_option linter.unusedVariables false
set_option linter.unusedSimpArgs false
set_option linter.unusedSectionVars false
namespace Go.Proofs.YtlchgbfpoaipgaaDoor
open Go.RowKit
variable [Base]

theorem fits_eq {r : QRec} {b : Bool} (hb : recB r = b) (u : Value) (w : World) (h : WordsAt w u r.value.words) : Calls Tryd.prog 48 #[recV r u] w (BoolQ b w) := hb ▸ fits_any r u w h
theorem rfind_eq {l : List QRec} {x : Str} {m : Int} (hm : findQ l x = m) (v : Value) (w : World) (h : RecsAt w v l) : Calls Tryd.prog 36 #[v, qs x] w fun e w' => e = .returned (.int .i64 m) ∧ w = w' := hm ▸ (rfind_any l x v w h).mono fun _ _ ⟨a, b⟩ => ⟨a, b.symm⟩
theorem rpending_eq {l : List QRec} (v : Value) (w : World) (h : RecsAt w v l) : Calls Tryd.prog 37 #[v] w fun e w' => e = .returned (.int .i64 (pend l)) ∧ w = w' := (rpending_any l v w h).mono fun _ _ ⟨a, b⟩ => ⟨a, b.symm⟩
set_option maxHeartbeats 800000 in
theorem rtvalid_any (l : List QRec) (v : Value) (w : World) (h : RecsAt w v l) : Calls Tryd.prog 35 #[v] w (BoolQ (tabB l) w) := by
  obtain ⟨a, c, rfl, hn, -, -, hc⟩ := h.cell
  have HC := Lib.hid hc
  obtain ⟨n, hl⟩ : ∃ n, l.length = n := ⟨_, rfl⟩
  rw [hl] at hn h ⊢
  have HL := Lib.hid hl
  have HR := Lib.hid h
  unfold maxLen at hn
  by_cases h64 : 64 < n
  · have hr : tabB l = false := by unfold tabB; rw [hl]; simp [show ¬ n ≤ 64 by omega]
    rw [hr]
    clear hc h hl hr
    go_enter Tryd.func35, Tryd.ntmps35
    go_wp2
    go_ret
    exact ⟨rfl, Below.refl _ _⟩
  have hr : tabB l = validFrom l 0 l := by unfold tabB; rw [hl]; simp [show n ≤ 64 by omega]
  rw [hr]
  clear hc h hl hr
  go_enter Tryd.func35, Tryd.ntmps35
  go_wp2
  go_loopw [3] (fun y wr => ∃ i : Nat, i ≤ n ∧ y = .int .i64 i ∧ Hid (Below w.heap.size w wr) ∧ Hid (validFrom l 0 l = validFrom l i (l.drop i))) (fun y _ => n - (intOf y).toNat)
  case atStart => exact ⟨0, Nat.zero_le _, rfl, Below.refl _ _, rfl⟩
  case round =>
    obtain ⟨i, hi, rfl, HB, HF⟩ := hrel
    by_cases hlt : i < n
    · obtain ⟨r, hr⟩ : ∃ r, l[i]? = some r := ⟨_, List.getElem?_eq_getElem (show i < l.length by have := HL.out; omega)⟩
      obtain ⟨rb, off, u, rfl, hrb, hu, hcs⟩ := HC.out i r hr
      obtain ⟨ua, uc, rfl, hum, -⟩ := hu.cell
      obtain ⟨un, hun⟩ : ∃ n, r.value.words.length = n := ⟨_, rfl⟩
      rw [hun] at hcs hum
      rw [hun] at hu
      have HU := Lib.hid hu
      have g0 := (HB.out.cell (p := ⟨rb, off + i * 8 + 0, none⟩) hrb).trans (hcs 0 (by omega))
      have g1 := (HB.out.cell (p := ⟨rb, off + i * 8 + 1, none⟩) hrb).trans (hcs 1 (by omega))
      have g2 := (HB.out.cell (p := ⟨rb, off + i * 8 + 2, none⟩) hrb).trans (hcs 2 (by omega))
      have g3 := (HB.out.cell (p := ⟨rb, off + i * 8 + 3, none⟩) hrb).trans (hcs 3 (by omega))
      have g4 := (HB.out.cell (p := ⟨rb, off + i * 8 + 4, none⟩) hrb).trans (hcs 4 (by omega))
      have g5 := (HB.out.cell (p := ⟨rb, off + i * 8 + 5, none⟩) hrb).trans (hcs 5 (by omega))
      have g6 := (HB.out.cell (p := ⟨rb, off + i * 8 + 6, none⟩) hrb).trans (hcs 6 (by omega))
      have g7 := (HB.out.cell (p := ⟨rb, off + i * 8 + 7, none⟩) hrb).trans (hcs 7 (by omega))
      simp only [List.getElem?_cons_zero, List.getElem?_cons_succ, Nat.add_zero] at g0 g1 g2 g3 g4 g5 g6 g7
      have FD := validFrom_drop (all := l) hr
      have G0 := Lib.hid g0
      rcases Bool.eq_false_or_eq_true (recB r) with hb | hb
      rotate_left
      · have K1 := Lib.hid (fits_eq hb (.slice ua un uc) wr (HU.out.below HB.out))
        rw [hb] at FD
        have FE := Lib.hid (HF.out.trans FD)
        clear hcs hr hu hun FD HC hb HU
        go_wp2_with (go_at_call 48; refine K1.out.mono ?_; rintro e w2 ⟨rfl, b2⟩; have B2 := Lib.hid (HB.out.trans (b2.mono HB.out.size)); have gy := (b2.cell (p := ⟨rb, off + i * 8, none⟩) (by have := HB.out.size; show rb < wr.heap.size; omega)).trans G0.out; clear b2)
        go_ret
        exact ⟨ret_boolQ FE.out.symm, B2.out⟩
      · have K1 := Lib.hid (fits_eq hb (.slice ua un uc) wr (HU.out.below HB.out))
        rw [hb, Bool.true_and] at FD
        obtain ⟨m, hm⟩ : ∃ m, findQ l r.id = m := ⟨_, rfl⟩
        by_cases hq : m = (i : Int)
        · have FE := Lib.hid (show validFrom l 0 l = validFrom l (i + 1) (l.drop (i + 1)) by rw [HF.out, FD]; simp [hm, hq])
          have HQB := Lib.hid (show (m != (i : Int)) = false by simp [hq])
          have HQ := Lib.hid hm
          clear hcs hr hu hun FD HC hb HU hq hm
          go_wp2_with first | (go_at_call 48; refine K1.out.mono ?_; rintro e w2 ⟨rfl, b2⟩; have B2 := Lib.hid (HB.out.trans (b2.mono HB.out.size)); have gy := (b2.cell (p := ⟨rb, off + i * 8, none⟩) (by have := HB.out.size; show rb < wr.heap.size; omega)).trans G0.out; clear b2) | (go_at_call 36; refine (rfind_eq HQ.out _ _ (HR.out.below B2.out)).mono ?_; rintro e w3 ⟨rfl, rfl⟩; have hqb := HQB.out)
          go_roundw
          case rel => exact ⟨i + 1, by omega, by go_num, B2, FE⟩
          case measure => simp [intOf]; omega
        · have FE := Lib.hid (show validFrom l 0 l = false by rw [HF.out, FD]; simp [hm, hq])
          have HQB := Lib.hid (show (m != (i : Int)) = true by simp [hq])
          have HQ := Lib.hid hm
          clear hcs hr hu hun FD HC hb HU hq hm
          go_wp2_with first | (go_at_call 48; refine K1.out.mono ?_; rintro e w2 ⟨rfl, b2⟩; have B2 := Lib.hid (HB.out.trans (b2.mono HB.out.size)); have gy := (b2.cell (p := ⟨rb, off + i * 8, none⟩) (by have := HB.out.size; show rb < wr.heap.size; omega)).trans G0.out; clear b2) | (go_at_call 36; refine (rfind_eq HQ.out _ _ (HR.out.below B2.out)).mono ?_; rintro e w3 ⟨rfl, rfl⟩; have hqb := HQB.out)
          go_ret
          exact ⟨ret_boolQ FE.out.symm, B2.out⟩
    · have FE := Lib.hid (HF.out.trans (validFrom_end (by have := HL.out; omega)))
      go_wp2
      go_ret
      exact ⟨ret_boolQ FE.out.symm, HB.out⟩
end Go.Proofs.YtlchgbfpoaipgaaDoor
