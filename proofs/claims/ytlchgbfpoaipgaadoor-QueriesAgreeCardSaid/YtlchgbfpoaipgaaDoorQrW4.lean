/- Walks: queries.Find, queries.Pending. Printed by wip/gen_qrw4.py. -/
import Derived.Test.YtlchgbfpoaipgaaDoorQrW3
set_option linter.unusedVariables false
set_option linter.unusedSimpArgs false
set_option linter.unusedSectionVars false
namespace Go.Proofs.YtlchgbfpoaipgaaDoor
open Go.RowKit
variable [Base]

theorem findFrom_drop {l : List QRec} {x : Str} {i : Nat} {r : QRec} (h : l[i]? = some r) : findFrom x i (l.drop i) = if r.id = x then (i : Int) else findFrom x (i + 1) (l.drop (i + 1)) := by
  obtain ⟨h1, rfl⟩ := List.getElem?_eq_some_iff.1 h
  rw [List.drop_eq_getElem_cons h1]
  rfl
theorem findFrom_end {l : List QRec} {x : Str} {i : Nat} (h : l.length ≤ i) : findFrom x i (l.drop i) = -1 := by
  rw [List.drop_eq_nil_of_le h]; rfl
theorem pend_drop {l : List QRec} {i : Nat} {r : QRec} (h : l[i]? = some r) : pend (l.drop i) = pend (l.drop (i + 1)) + if r.status = 1 then 1 else 0 := by
  obtain ⟨h1, rfl⟩ := List.getElem?_eq_some_iff.1 h
  rw [List.drop_eq_getElem_cons h1]
  unfold pend
  rw [List.countP_cons]
  simp
theorem pend_end {l : List QRec} {i : Nat} (h : l.length ≤ i) : pend (l.drop i) = 0 := by
  rw [List.drop_eq_nil_of_le h]; rfl
theorem pend_le (l : List QRec) : pend l ≤ l.length := List.countP_le_length
set_option maxHeartbeats 400000 in
theorem find_any (l : List QRec) (x : Str) (v : Value) (w : World) (h : RecsAt w v l) : Calls Tryd.prog 25 #[v, qs x] w (IntQ (findQ l x) w) := by
  obtain ⟨a, c, rfl, hn, -, -, hc⟩ := h.cell
  have HC := Lib.hid hc
  obtain ⟨n, hl⟩ : ∃ n, l.length = n := ⟨_, rfl⟩
  rw [hl] at hn ⊢
  have HL := Lib.hid hl
  clear hc h hl
  unfold maxLen at hn
  go_enter Tryd.func25, Tryd.ntmps25
  go_wp2
  go_loopw [9] (fun y wr => ∃ i : Nat, i ≤ n ∧ y = .int .i64 i ∧ Hid (Below w.heap.size w wr) ∧ Hid (findQ l x = findFrom x i (l.drop i))) (fun y _ => n - (intOf y).toNat)
  case atStart => exact ⟨0, Nat.zero_le _, rfl, Below.refl _ _, rfl⟩
  case round =>
    obtain ⟨i, hi, rfl, HB, HF⟩ := hrel
    by_cases hlt : i < n
    · obtain ⟨r, hr⟩ : ∃ r, l[i]? = some r := ⟨_, List.getElem?_eq_getElem (show i < l.length by have := HL.out; omega)⟩
      obtain ⟨rb, off, u, rfl, hrb, hu, hcs⟩ := HC.out i r hr
      obtain ⟨ua, uc, rfl, hum, -⟩ := hu.cell
      obtain ⟨un, hun⟩ : ∃ n, r.value.words.length = n := ⟨_, rfl⟩
      rw [hun] at hcs hum
      have g0 := (HB.out.cell (p := ⟨rb, off + i * 8 + 0, none⟩) hrb).trans (hcs 0 (by omega))
      have g1 := (HB.out.cell (p := ⟨rb, off + i * 8 + 1, none⟩) hrb).trans (hcs 1 (by omega))
      have g2 := (HB.out.cell (p := ⟨rb, off + i * 8 + 2, none⟩) hrb).trans (hcs 2 (by omega))
      have g3 := (HB.out.cell (p := ⟨rb, off + i * 8 + 3, none⟩) hrb).trans (hcs 3 (by omega))
      have g4 := (HB.out.cell (p := ⟨rb, off + i * 8 + 4, none⟩) hrb).trans (hcs 4 (by omega))
      have g5 := (HB.out.cell (p := ⟨rb, off + i * 8 + 5, none⟩) hrb).trans (hcs 5 (by omega))
      have g6 := (HB.out.cell (p := ⟨rb, off + i * 8 + 6, none⟩) hrb).trans (hcs 6 (by omega))
      have g7 := (HB.out.cell (p := ⟨rb, off + i * 8 + 7, none⟩) hrb).trans (hcs 7 (by omega))
      simp only [List.getElem?_cons_zero, List.getElem?_cons_succ, Nat.add_zero] at g0 g1 g2 g3 g4 g5 g6 g7
      have HB1 := Lib.hid (HB.out.alloc HB.out.size (.cells #[qs r.id, .int .i64 r.prog, .int .i64 r.kind, .int .i64 r.node, .int .i64 r.prio, .int .i64 r.status, .int .i64 r.value.width, .slice ua un uc] 31))
      have FD := findFrom_drop (x := x) hr
      by_cases hx : r.id = x
      · rw [if_pos hx] at FD
        have FE := Lib.hid (HF.out.trans FD)
        have hxb : (r.id == x) = true := by simpa using hx
        clear hcs hr hu hun hx FD HC
        go_wp2
        go_ret
        exact ⟨ret_intQ FE.out.symm, HB1.out⟩
      · rw [if_neg hx] at FD
        have FE := Lib.hid (HF.out.trans FD)
        have hxb : (r.id == x) = false := by simpa using hx
        clear hcs hr hu hun hx FD HC
        go_wp2
        go_roundw
        case rel => exact ⟨i + 1, by omega, by go_num, HB1, FE⟩
        case measure => simp [intOf]; omega
    · have FE := Lib.hid (HF.out.trans (findFrom_end (by have := HL.out; omega)))
      go_wp2
      go_ret
      exact ⟨ret_intQ FE.out.symm, HB.out⟩
set_option maxHeartbeats 400000 in
theorem pending_any (l : List QRec) (v : Value) (w : World) (h : RecsAt w v l) : Calls Tryd.prog 10 #[v] w (IntQ (pend l) w) := by
  obtain ⟨a, c, rfl, hn, -, -, hc⟩ := h.cell
  have HC := Lib.hid hc
  obtain ⟨n, hl⟩ : ∃ n, l.length = n := ⟨_, rfl⟩
  rw [hl] at hn ⊢
  have HL := Lib.hid hl
  clear hc h hl
  unfold maxLen at hn
  go_enter Tryd.func10, Tryd.ntmps10
  go_wp2
  go_loopw [3, 8] (fun z y wr => ∃ i m : Nat, i ≤ n ∧ m ≤ i ∧ z = .int .i64 m ∧ y = .int .i64 i ∧ Hid (Below w.heap.size w wr) ∧ Hid (pend l = m + pend (l.drop i))) (fun _ y _ => n - (intOf y).toNat)
  case atStart => exact ⟨0, 0, Nat.zero_le _, Nat.le_refl _, rfl, rfl, Below.refl _ _, by unfold Hid; simp⟩
  case round =>
    obtain ⟨i, m, hi, hm, rfl, rfl, HB, HF⟩ := hrel
    by_cases hlt : i < n
    · obtain ⟨r, hr⟩ : ∃ r, l[i]? = some r := ⟨_, List.getElem?_eq_getElem (show i < l.length by have := HL.out; omega)⟩
      obtain ⟨rb, off, u, rfl, hrb, hu, hcs⟩ := HC.out i r hr
      obtain ⟨ua, uc, rfl, hum, -⟩ := hu.cell
      obtain ⟨un, hun⟩ : ∃ n, r.value.words.length = n := ⟨_, rfl⟩
      rw [hun] at hcs hum
      have g0 := (HB.out.cell (p := ⟨rb, off + i * 8 + 0, none⟩) hrb).trans (hcs 0 (by omega))
      have g1 := (HB.out.cell (p := ⟨rb, off + i * 8 + 1, none⟩) hrb).trans (hcs 1 (by omega))
      have g2 := (HB.out.cell (p := ⟨rb, off + i * 8 + 2, none⟩) hrb).trans (hcs 2 (by omega))
      have g3 := (HB.out.cell (p := ⟨rb, off + i * 8 + 3, none⟩) hrb).trans (hcs 3 (by omega))
      have g4 := (HB.out.cell (p := ⟨rb, off + i * 8 + 4, none⟩) hrb).trans (hcs 4 (by omega))
      have g5 := (HB.out.cell (p := ⟨rb, off + i * 8 + 5, none⟩) hrb).trans (hcs 5 (by omega))
      have g6 := (HB.out.cell (p := ⟨rb, off + i * 8 + 6, none⟩) hrb).trans (hcs 6 (by omega))
      have g7 := (HB.out.cell (p := ⟨rb, off + i * 8 + 7, none⟩) hrb).trans (hcs 7 (by omega))
      simp only [List.getElem?_cons_zero, List.getElem?_cons_succ, Nat.add_zero] at g0 g1 g2 g3 g4 g5 g6 g7
      have HB1 := Lib.hid (HB.out.alloc HB.out.size (.cells #[qs r.id, .int .i64 r.prog, .int .i64 r.kind, .int .i64 r.node, .int .i64 r.prio, .int .i64 r.status, .int .i64 r.value.width, .slice ua un uc] 31))
      have FD := pend_drop hr
      by_cases hx : r.status = 1
      · rw [if_pos hx] at FD
        have FE := Lib.hid (show pend l = (m + 1) + pend (l.drop (i + 1)) by rw [HF.out, FD]; omega)
        have hxb : (r.status == 1) = true := by simpa using hx
        clear hcs hr hu hun hx FD HC
        go_wp2
        go_roundw
        case rel => exact ⟨i + 1, m + 1, by omega, by omega, by go_num, by go_num, HB1, FE⟩
        case measure => simp [intOf]; omega
      · rw [if_neg hx] at FD
        have FE := Lib.hid (show pend l = m + pend (l.drop (i + 1)) by rw [HF.out, FD]; omega)
        have hxb : (r.status == 1) = false := by simpa using hx
        clear hcs hr hu hun hx FD HC
        go_wp2
        go_roundw
        case rel => exact ⟨i + 1, m, by omega, by omega, rfl, by go_num, HB1, FE⟩
        case measure => simp [intOf]; omega
    · have FE := Lib.hid (show pend l = m by rw [HF.out, pend_end (by have := HL.out; omega)]; rfl)
      go_wp2
      go_ret
      exact ⟨ret_intQ (by rw [FE.out]), HB.out⟩
end Go.Proofs.YtlchgbfpoaipgaaDoor
