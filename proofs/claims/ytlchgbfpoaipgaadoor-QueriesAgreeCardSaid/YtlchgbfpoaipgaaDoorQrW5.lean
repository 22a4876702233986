/- Walks: queries.Valid. Printed by wip/gen_qrw5.py. -/
import Derived.Test.YtlchgbfpoaipgaaDoorQrW4
set_option linter.unusedVariables false
set_option linter.unusedSimpArgs false
set_option linter.unusedSectionVars false
namespace Go.Proofs.YtlchgbfpoaipgaaDoor
open Go.RowKit
variable [Base]

theorem validFrom_drop {all l : List QRec} {i : Nat} {r : QRec} (h : l[i]? = some r) : validFrom all i (l.drop i) = (recB r && (decide (findQ all r.id = (i : Int)) && validFrom all (i + 1) (l.drop (i + 1)))) := by
  obtain ⟨h1, rfl⟩ := List.getElem?_eq_some_iff.1 h
  rw [List.drop_eq_getElem_cons h1]
  rfl
theorem validFrom_end {all l : List QRec} {i : Nat} (h : l.length ≤ i) : validFrom all i (l.drop i) = true := by
  rw [List.drop_eq_nil_of_le h]; rfl
theorem rvalid_eq {B : Nat} {r : QRec} {b : Bool} (hb : recB r = b) (u : Value) (w : World) (KW : KwIn B w) (hB : B ≤ w.heap.size) (h : WordsAt w u r.value.words) : Calls Tryd.prog 24 #[recV r u] w (BoolQ b w) := hb ▸ rvalid_any r u w KW hB h
set_option maxHeartbeats 800000 in
theorem tvalid_any {B : Nat} (l : List QRec) (v : Value) (w : World) (KW : KwIn B w) (hB : B ≤ w.heap.size) (h : RecsAt w v l) : Calls Tryd.prog 22 #[v] w (BoolQ (tabB l) w) := by
  obtain ⟨a, c, rfl, hn, -, -, hc⟩ := h.cell
  have HC := Lib.hid hc
  have HK := Lib.hid KW
  obtain ⟨n, hl⟩ : ∃ n, l.length = n := ⟨_, rfl⟩
  rw [hl] at hn h ⊢
  have HL := Lib.hid hl
  have HR := Lib.hid h
  unfold maxLen at hn
  by_cases h64 : 64 < n
  · have hr : tabB l = false := by unfold tabB; rw [hl]; simp [show ¬ n ≤ 64 by omega]
    rw [hr]
    clear hc h hl KW hr
    go_enter Tryd.func22, Tryd.ntmps22
    go_wp2
    go_ret
    exact ⟨rfl, Below.refl _ _⟩
  have hr : tabB l = validFrom l 0 l := by unfold tabB; rw [hl]; simp [show n ≤ 64 by omega]
  rw [hr]
  clear hc h hl KW hr
  go_enter Tryd.func22, Tryd.ntmps22
  go_wp2
  go_loopw [10] (fun y wr => ∃ i : Nat, i ≤ n ∧ y = .int .i64 i ∧ Hid (Below w.heap.size w wr) ∧ Hid (validFrom l 0 l = validFrom l i (l.drop i))) (fun y _ => n - (intOf y).toNat)
  case atStart => exact ⟨0, Nat.zero_le _, rfl, Below.refl _ _, rfl⟩
  case round =>
    obtain ⟨i, hi, rfl, HB, HF⟩ := hrel
    by_cases hlt : i < n
    · obtain ⟨r, hr⟩ : ∃ r, l[i]? = some r := ⟨_, List.getElem?_eq_getElem (show i < l.length by have := HL.out; omega)⟩
      obtain ⟨rb, off, u, rfl, hrb, hu, hcs⟩ := HC.out i r hr
      obtain ⟨ua, uc, rfl, hum, -⟩ := hu.cell
      obtain ⟨un, hun⟩ : ∃ n, r.value.words.length = n := ⟨_, rfl⟩
      rw [hun] at hcs hum
      rw [hun] at hu
      have HU := Lib.hid hu
      have g0 := (HB.out.cell (p := ⟨rb, off + i * 8 + 0, none⟩) hrb).trans (hcs 0 (by omega))
      have g1 := (HB.out.cell (p := ⟨rb, off + i * 8 + 1, none⟩) hrb).trans (hcs 1 (by omega))
      have g2 := (HB.out.cell (p := ⟨rb, off + i * 8 + 2, none⟩) hrb).trans (hcs 2 (by omega))
      have g3 := (HB.out.cell (p := ⟨rb, off + i * 8 + 3, none⟩) hrb).trans (hcs 3 (by omega))
      have g4 := (HB.out.cell (p := ⟨rb, off + i * 8 + 4, none⟩) hrb).trans (hcs 4 (by omega))
      have g5 := (HB.out.cell (p := ⟨rb, off + i * 8 + 5, none⟩) hrb).trans (hcs 5 (by omega))
      have g6 := (HB.out.cell (p := ⟨rb, off + i * 8 + 6, none⟩) hrb).trans (hcs 6 (by omega))
      have g7 := (HB.out.cell (p := ⟨rb, off + i * 8 + 7, none⟩) hrb).trans (hcs 7 (by omega))
      simp only [List.getElem?_cons_zero, List.getElem?_cons_succ, Nat.add_zero] at g0 g1 g2 g3 g4 g5 g6 g7
      have HB1 := Lib.hid (HB.out.alloc HB.out.size (.cells #[qs r.id, .int .i64 r.prog, .int .i64 r.kind, .int .i64 r.node, .int .i64 r.prio, .int .i64 r.status, .int .i64 r.value.width, .slice ua un uc] 31))
      have FD := validFrom_drop (all := l) hr
      rcases Bool.eq_false_or_eq_true (recB r) with hb | hb
      rotate_left
      · have K1 := Lib.hid (rvalid_eq (B := B) hb (.slice ua un uc) (wr.alloc (.cells #[qs r.id, .int .i64 r.prog, .int .i64 r.kind, .int .i64 r.node, .int .i64 r.prio, .int .i64 r.status, .int .i64 r.value.width, .slice ua un uc] 31)) (HK.out.keep fun q hq => HB1.out.block q (by omega)) (Nat.le_trans hB HB1.out.size) (HU.out.below HB1.out))
        rw [hb] at FD
        have FE := Lib.hid (HF.out.trans FD)
        clear hcs hr hu hun FD HC hb HU
        go_wp2_with (go_at_call 24; refine K1.out.mono ?_; rintro e w2 ⟨rfl, b2⟩; have B2 := Lib.hid (HB1.out.trans (b2.mono HB1.out.size)); clear b2)
        go_ret
        exact ⟨ret_boolQ FE.out.symm, B2.out⟩
      · have K1 := Lib.hid (rvalid_eq (B := B) hb (.slice ua un uc) (wr.alloc (.cells #[qs r.id, .int .i64 r.prog, .int .i64 r.kind, .int .i64 r.node, .int .i64 r.prio, .int .i64 r.status, .int .i64 r.value.width, .slice ua un uc] 31)) (HK.out.keep fun q hq => HB1.out.block q (by omega)) (Nat.le_trans hB HB1.out.size) (HU.out.below HB1.out))
        rw [hb, Bool.true_and] at FD
        have hwz : wr.heap.size < (wr.alloc (.cells #[qs r.id, .int .i64 r.prog, .int .i64 r.kind, .int .i64 r.node, .int .i64 r.prio, .int .i64 r.status, .int .i64 r.value.width, .slice ua un uc] 31)).heap.size := by simp
        have gx := (lies_cells (heap_alloc_new wr (.cells #[qs r.id, .int .i64 r.prog, .int .i64 r.kind, .int .i64 r.node, .int .i64 r.prio, .int .i64 r.status, .int .i64 r.value.width, .slice ua un uc] 31))).1 0
        simp only [List.getElem?_toArray, List.getElem?_cons_zero] at gx
        have GX := Lib.hid gx
        have HZ := Lib.hid hwz
        clear gx hwz
        by_cases hq : findQ l r.id = (i : Int)
        · have FE := Lib.hid (show validFrom l 0 l = validFrom l (i + 1) (l.drop (i + 1)) by rw [HF.out, FD]; simp [hq])
          have hqb : (findQ l r.id != (i : Int)) = false := by simp [hq]
          have HQ := Lib.hid hqb
          clear hcs hr hu hun FD HC hb HU hq hqb
          go_wp2_with first | (go_at_call 24; refine K1.out.mono ?_; rintro e w2 ⟨rfl, b2⟩; have B2 := Lib.hid (HB1.out.trans (b2.mono HB1.out.size)); have gy := (b2.cell (p := ⟨wr.heap.size, 0, none⟩) HZ.out).trans GX.out; clear b2) | (go_at_call 25; refine (find_any l r.id _ _ (HR.out.below B2.out)).mono ?_; rintro e w3 ⟨rfl, b3⟩; have B3 := Lib.hid (B2.out.trans (b3.mono B2.out.size)); have hqb := HQ.out; clear b3)
          go_roundw
          case rel => exact ⟨i + 1, by omega, by go_num, B3, FE⟩
          case measure => simp [intOf]; omega
        · have FE := Lib.hid (show validFrom l 0 l = false by rw [HF.out, FD]; simp [hq])
          have hqb : (findQ l r.id != (i : Int)) = true := by simp [hq]
          have HQ := Lib.hid hqb
          clear hcs hr hu hun FD HC hb HU hq hqb
          go_wp2_with first | (go_at_call 24; refine K1.out.mono ?_; rintro e w2 ⟨rfl, b2⟩; have B2 := Lib.hid (HB1.out.trans (b2.mono HB1.out.size)); have gy := (b2.cell (p := ⟨wr.heap.size, 0, none⟩) HZ.out).trans GX.out; clear b2) | (go_at_call 25; refine (find_any l r.id _ _ (HR.out.below B2.out)).mono ?_; rintro e w3 ⟨rfl, b3⟩; have B3 := Lib.hid (B2.out.trans (b3.mono B2.out.size)); have hqb := HQ.out; clear b3)
          go_ret
          exact ⟨ret_boolQ FE.out.symm, B3.out⟩
    · have FE := Lib.hid (HF.out.trans (validFrom_end (by have := HL.out; omega)))
      go_wp2
      go_ret
      exact ⟨ret_boolQ FE.out.symm, HB.out⟩
end Go.Proofs.YtlchgbfpoaipgaaDoor
