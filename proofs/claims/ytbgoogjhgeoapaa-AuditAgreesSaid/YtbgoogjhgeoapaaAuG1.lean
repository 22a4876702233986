/- Walks: flqref19.New, Seat. -/
import Derived.Test.YtbgoogjhgeoapaaAuG0
set_option linter.unusedVariables false
set_option linter.unusedSimpArgs false
set_option linter.unusedSectionVars false
namespace Go.Proofs.Ytbgoogjhgeoapaa
open Go.RowKit
variable [Base]

set_option maxHeartbeats 1000000 in
theorem rnew_any (ba pe : Int) (w : World) (h1 : 1 ≤ ba ∧ ba ≤ 64) (h2 : 1 ≤ pe ∧ pe ≤ 1024) : Calls Try.prog 15 #[iv ba, iv pe] w fun e w' => e = .returned (.tuple #[ringV ⟨ba, pe, [], 0, false⟩ (.slice none 0 0), iv 0]) ∧ Below w.heap.size w w' := by
  obtain ⟨a1, a2⟩ := h1
  obtain ⟨b1, b2⟩ := h2
  go_enter Try.func15, Try.ntmps15
  go_wp2
  have hb := heap_alloc_new w (.cells #[iv ba, iv pe, .slice none 0 0, iv 0, .bool false] 44)
  obtain ⟨x0, x1, x2, x3, x4⟩ := cells5 hb
  refine bodyPost_ret (v := .tuple #[ringV ⟨ba, pe, [], 0, false⟩ (.slice none 0 0), iv 0]) (by simp [results, Try.results15, go_sem, x0, x1, x2, x3, x4, ringV]) rfl ⟨rfl, (Below.refl _ _).alloc (Nat.le_refl _) _⟩
set_option maxHeartbeats 1000000 in
theorem seat_any (r : RV) (id : Int) (v : Value) (w : World) (h : SeatsAt w v r.ss) : Calls Try.prog 30 #[ringV r v, iv id] w (IntQ (seatFrom id 0 r.ss) w) := by
  obtain ⟨a, c, rfl, hn, -, -, hc⟩ := h.cell
  unfold ringV
  obtain ⟨n, hl⟩ : ∃ n, r.ss.length = n := ⟨_, rfl⟩
  rw [hl] at hn ⊢
  obtain ⟨W, hW⟩ : ∃ W, w.alloc (.cells #[iv r.ba, iv r.pe, .slice a n c, iv r.at_, .bool r.op] 44) = W := ⟨_, rfl⟩
  have HB := Lib.hid (show W.heap[w.heap.size]? = some (.cells #[iv r.ba, iv r.pe, .slice a n c, iv r.at_, .bool r.op] 44 (0, 0)) by rw [← hW]; exact heap_alloc_new _ _)
  have BW := Lib.hid (show Below w.heap.size w W by rw [← hW]; exact (Below.refl _ _).alloc (Nat.le_refl _) _)
  have HW := Lib.hid hW
  obtain ⟨x0, x1, x2, x3, x4⟩ := cells5 HB.out
  have HC := Lib.hid hc
  have HL := Lib.hid hl
  clear hc h hl hW x0 x1 x3 x4
  unfold maxLen at hn
  go_enter Try.func30, Try.ntmps30
  go_wp2_with fail
  rw [show w.alloc (.cells #[iv r.ba, iv r.pe, .slice a n c, iv r.at_, .bool r.op] 44) = W from HW.out]
  go_loop [5] (fun y => ∃ i : Nat, i ≤ n ∧ y = .int .i64 i ∧ Hid (seatFrom id 0 r.ss = seatFrom id i (r.ss.drop i))) (fun y => n - (intOf y).toNat)
  case atStart => exact ⟨0, Nat.zero_le _, rfl, rfl⟩
  case round =>
    obtain ⟨i, hi, rfl, HF⟩ := hrel
    by_cases hlt : i < n
    · obtain ⟨s, hs⟩ : ∃ s, r.ss[i]? = some s := ⟨_, List.getElem?_eq_getElem (show i < r.ss.length by have := HL.out; omega)⟩
      obtain ⟨rb, off, rfl, hrb, hcs⟩ := HC.out i s hs
      have gk := (BW.out.cell (p := ⟨rb, off + i * 4 + 0, none⟩) hrb).trans (hcs 0 (by omega))
      simp only [seatC, List.getElem?_cons_zero, List.getElem?_cons_succ, Nat.add_zero] at gk
      have FD := seatFrom_drop (id := id) hs
      by_cases hx : s.id = id
      · rw [if_pos hx] at FD
        have FE := Lib.hid (HF.out.trans FD)
        have hxb : (s.id == id) = true := by simpa using hx
        clear hcs hs hx FD HC
        go_wp2
        go_ret
        exact ⟨ret_intQ FE.out.symm, BW.out⟩
      · rw [if_neg hx] at FD
        have FE := Lib.hid (HF.out.trans FD)
        have hxb : (s.id == id) = false := by simpa using hx
        clear hcs hs hx FD HC
        go_wp2
        go_round
        case rel => exact ⟨i + 1, by omega, by go_num, FE⟩
        case measure => simp [intOf]; omega
    · have FE := Lib.hid (HF.out.trans (seatFrom_end (by have := HL.out; omega)))
      go_wp2
      go_ret
      exact ⟨ret_intQ FE.out.symm, BW.out⟩
end Go.Proofs.Ytbgoogjhgeoapaa
