/- Walks: flqref19.ValidRing, at a valid ring. -/
import Derived.Test.YtbgoogjhgeoapaaAuG1
set_option linter.unusedVariables false
set_option linter.unusedSimpArgs false
set_option linter.unusedSectionVars false
namespace Go.Proofs.Ytbgoogjhgeoapaa
open Go.RowKit
variable [Base]

theorem seat_eq {r : RV} {id k : Int} (hk : seatFrom id 0 r.ss = k) (v : Value) (w : World) (h : SeatsAt w v r.ss) : Calls Try.prog 30 #[ringV r v, iv id] w (IntQ k w) := hk ▸ seat_any r id v w h
theorem seatB_parts {s : SV} (h : seatB s = true) : cnB s.id = true ∧ (0 ≤ s.pri ∧ s.pri ≤ 3) ∧ cnB s.age = true := by
  unfold seatB btwB at h
  simp only [Bool.and_eq_true, decide_eq_true_eq] at h
  exact ⟨h.1, h.2.1, h.2.2⟩
set_option maxRecDepth 100000 in
set_option maxHeartbeats 4000000 in
theorem vring_any (r : RV) (v : Value) (w : World) (h : SeatsAt w v r.ss) (hr : RingOk r) : Calls Try.prog 29 #[ringV r v] w (BoolQ true w) := by
  obtain ⟨a, c, rfl, hn, -, -, hc⟩ := h.cell
  have HT := Lib.hid h
  unfold ringV
  obtain ⟨n, hl⟩ : ∃ n, r.ss.length = n := ⟨_, rfl⟩
  rw [hl] at hn HT ⊢
  have hlen := hr.len
  have hat := hr.at_
  rw [hl] at hlen hat
  obtain ⟨at0, hat0⟩ : ∃ t, r.at_ = t := ⟨_, rfl⟩
  rw [hat0] at hat ⊢
  obtain ⟨W, hW⟩ : ∃ W, w.alloc (.cells #[iv r.ba, iv r.pe, .slice a n c, iv at0, .bool r.op] 44) = W := ⟨_, rfl⟩
  have HB := Lib.hid (show W.heap[w.heap.size]? = some (.cells #[iv r.ba, iv r.pe, .slice a n c, iv at0, .bool r.op] 44 (0, 0)) by rw [← hW]; exact heap_alloc_new _ _)
  have BW := Lib.hid (show Below w.heap.size w W by rw [← hW]; exact (Below.refl _ _).alloc (Nat.le_refl _) _)
  have HW := Lib.hid hW
  obtain ⟨x0, x1, x2, x3, x4⟩ := cells5 HB.out
  have HC := Lib.hid hc
  have HL := Lib.hid hl
  have HR := Lib.hid hr
  have HAT := Lib.hid hat0
  have hop : (r.op && ((n : Int) == 0)) = false := by
    cases e : r.op
    · rfl
    · have := hr.op e
      rw [hl] at this
      simp; omega
  obtain ⟨op0, hop0⟩ : ∃ o, r.op = o := ⟨_, rfl⟩
  rw [hop0] at hop x4
  have HOP := Lib.hid hop0
  have hba := hr.ba
  have hpe := hr.pe
  clear hc h hl hW hr hat0 hop0
  unfold maxLen at hn
  have hud : ∀ b : Bool, (undef = Value.bool b) = False := fun b => by simp [undef]
  rw [HOP.out] at HB HW ⊢
  rcases Nat.eq_zero_or_pos n with hn0 | hn0
  · subst hn0
    have hz : ((0 : Nat) : Int) == 0 := rfl
    obtain rfl : op0 = false := by cases op0 <;> simp_all
    obtain rfl : at0 = 0 := by omega
    clear hop hz
    go_enter Try.func29, Try.ntmps29
    go_wp2_with fail
    rw [show w.alloc (.cells #[iv r.ba, iv r.pe, .slice a 0 c, iv 0, .bool false] 44) = W from HW.out]
    go_wp2_with (go_at_call 15; refine (rnew_any r.ba r.pe _ hba hpe).mono ?_; rintro e w1 ⟨rfl, b1⟩; have B1 := Lib.hid b1; unfold ringV; have H1 := Lib.hid (lies_below HB.out b1 (lt_heap HB.out)); obtain ⟨y0, y1, y2, y3, y4⟩ := cells5 H1.out; have hlt1 := lt_heap H1.out; clear b1 x0 x1 x2 x3 x4)
    refine wp_loop_rounds 1 ?_
    rw [rounds_succ]
    go_wp2
    go_ret
    exact ⟨rfl, BW.out.trans ((B1.out.alloc B1.out.size _).mono BW.out.size)⟩
  have hnz : ((n : Int) == 0) = false := by simp; omega
  have hat1 : (at0 : Int) ≤ (n : Int) - 1 := by omega
  have hd1 : decide ((16 : Int) < (n : Int)) = false := by simp; omega
  have hd2 : decide ((at0 : Int) < 0) = false := by simp
  have hd3 : decide ((n : Int) - 1 < (at0 : Int)) = false := by simp; omega
  cases op0 with
  | false =>
    go_enter Try.func29, Try.ntmps29
    go_wp2_with fail
    rw [show w.alloc (.cells #[iv r.ba, iv r.pe, .slice a n c, iv at0, .bool false] 44) = W from HW.out]
    obtain ⟨rb0, hrb0⟩ : ∃ b, w.heap.size = b := ⟨_, rfl⟩
    rw [hrb0] at HB x0 x1 x2 x3 x4 ⊢
    have HRB := Lib.hid hrb0
    have BW2 : True := trivial
    clear hrb0
    go_wp2_with (go_at_call 15; refine (rnew_any r.ba r.pe _ hba hpe).mono ?_; rintro e w1 ⟨rfl, b1⟩; have B1 := Lib.hid b1; unfold ringV; have H1 := Lib.hid (lies_below HB.out b1 (lt_heap HB.out)); obtain ⟨y0, y1, y2, y3, y4⟩ := cells5 H1.out; have hlt1 := lt_heap H1.out; clear b1 x0 x1 x2 x3 x4)
    go_loopw [6] (fun y wr => ∃ i : Nat, i ≤ n ∧ y = .int .i64 i ∧ Hid (Below W.heap.size W wr)) (fun y _ => n - (intOf y).toNat)
    case atStart => exact ⟨0, Nat.zero_le _, rfl, B1.out.alloc B1.out.size _⟩
    case round =>
      obtain ⟨i, hi, rfl, HBE⟩ := hrel
      clear y0 y1 y2 y3 y4 hlt1
      by_cases hlt : i < n
      rotate_left
      · go_wp2
        go_ret
        exact ⟨rfl, BW.out.trans (HBE.out.mono BW.out.size)⟩
      obtain ⟨s, hs⟩ : ∃ s, r.ss[i]? = some s := ⟨_, List.getElem?_eq_getElem (show i < r.ss.length by have := HL.out; omega)⟩
      obtain ⟨sb, off, rfl, hrb, hcs⟩ := HC.out i s hs
      have hBW := BW.out.trans (HBE.out.mono BW.out.size)
      have g0 := (hBW.cell (p := ⟨sb, off + i * 4 + 0, none⟩) hrb).trans (hcs 0 (by omega))
      have g1 := (hBW.cell (p := ⟨sb, off + i * 4 + 1, none⟩) hrb).trans (hcs 1 (by omega))
      have g2 := (hBW.cell (p := ⟨sb, off + i * 4 + 2, none⟩) hrb).trans (hcs 2 (by omega))
      have g3 := (hBW.cell (p := ⟨sb, off + i * 4 + 3, none⟩) hrb).trans (hcs 3 (by omega))
      simp only [seatC, List.getElem?_cons_zero, List.getElem?_cons_succ, Nat.add_zero] at g0 g1 g2 g3
      have HR2 := Lib.hid (lies_below HB.out HBE.out (lt_heap HB.out))
      obtain ⟨U, hU⟩ : ∃ U, wr.alloc (.cells #[iv s.id, iv s.pri, iv s.age, iv s.df] 49) = U := ⟨_, rfl⟩
      have HS := Lib.hid (show U.heap[wr.heap.size]? = some (.cells #[iv s.id, iv s.pri, iv s.age, iv s.df] 49 (0, 0)) by rw [← hU]; exact heap_alloc_new _ _)
      have BU := Lib.hid (show Below W.heap.size W U by rw [← hU]; exact HBE.out.alloc HBE.out.size _)
      have HUU := Lib.hid hU
      obtain ⟨u0, u1, u2, u3⟩ := cells4 HS.out
      have HRU := Lib.hid (lies_below HB.out BU.out (lt_heap HB.out))
      obtain ⟨y0, y1, y2, y3, y4⟩ := cells5 HR2.out
      obtain ⟨v0, v1, v2, v3, v4⟩ := cells5 HRU.out
      obtain ⟨k1, ⟨k2, k3⟩, k4⟩ := seatB_parts (HR.out.ok s (List.mem_of_getElem? hs))
      have HSE := Lib.hid (show seatFrom s.id 0 r.ss = (i : Int) from by have := seatFrom_at r.ss 0 i s HR.out.nd hs; simpa using this)
      have hdf := HR.out.df i s hs
      have HTU := Lib.hid (show SeatsAt U (.slice (some ⟨sb, off, none⟩) n c) r.ss from HT.out.below (BW.out.trans (BU.out.mono BW.out.size)))
      rw [HAT.out, HOP.out] at hdf
      have K1 := Lib.hid k1
      have K4 := Lib.hid k4
      have hii : ((i : Int) != (i : Int)) = false := by simp
      obtain ⟨sz, hsz⟩ : ∃ z, wr.heap.size = z := ⟨_, rfl⟩
      have HSZ := Lib.hid hsz
      rw [hsz] at HS u0 u1 u2 u3
      have hltS := lt_heap HS.out
      have hltR := lt_heap HRU.out
      clear hcs hs hBW HC hU k1 k4
      go_wp2_with fail
      try rw [show wr.alloc (.cells #[iv s.id, iv s.pri, iv s.age, iv s.df] 49) = U from HUU.out]
      have hring : ∀ v, Value.agg #[iv r.ba, iv r.pe, v, iv at0, .bool false] = ringV r v := fun v => by unfold ringV; rw [HAT.out, HOP.out]
      have HRI := Lib.hid hring
      clear hring
      have HSQ := Lib.hid (show ∀ w', SeatsAt w' (.slice (some ⟨sb, off, none⟩) n c) r.ss → Calls Try.prog 30 #[.agg #[iv r.ba, iv r.pe, .slice (some ⟨sb, off, none⟩) n c, iv at0, .bool false], iv s.id] w' (IntQ (i : Int) w') from fun w' hw' => by rw [HRI.out]; exact seat_eq HSE.out _ _ hw')
      unfold dfOk at hdf
      simp only [Bool.false_and, Bool.false_eq_true, if_false] at hdf
      obtain ⟨d1, d2⟩ := hdf
      go_wp2_with first
        | (go_at_call 24; first | (refine (counter_eq K1.out _).mono ?_; rintro e w2 ⟨rfl, rfl⟩; clear K1) | (refine (counter_eq K4.out _).mono ?_; rintro e w2 ⟨rfl, rfl⟩))
        | (go_at_call 30; refine (HSQ.out _ HTU.out).mono ?_; rintro e w2 ⟨rfl, b2⟩; have B2 := Lib.hid (BU.out.trans (b2.mono BU.out.size)); have HS2 := Lib.hid (lies_below HS.out b2 hltS); obtain ⟨t0, t1, t2, t3⟩ := cells4 HS2.out; have HR3 := Lib.hid (lies_below HRU.out b2 hltR); obtain ⟨z0, z1, z2, z3, z4⟩ := cells5 HR3.out; clear b2)
      go_roundw
      case rel => exact ⟨i + 1, by omega, by go_num, B2⟩
      case measure => simp [intOf]; omega
  | true =>
    go_enter Try.func29, Try.ntmps29
    go_wp2_with fail
    rw [show w.alloc (.cells #[iv r.ba, iv r.pe, .slice a n c, iv at0, .bool true] 44) = W from HW.out]
    obtain ⟨rb0, hrb0⟩ : ∃ b, w.heap.size = b := ⟨_, rfl⟩
    rw [hrb0] at HB x0 x1 x2 x3 x4 ⊢
    have HRB := Lib.hid hrb0
    have BW2 : True := trivial
    clear hrb0
    go_wp2_with (go_at_call 15; refine (rnew_any r.ba r.pe _ hba hpe).mono ?_; rintro e w1 ⟨rfl, b1⟩; have B1 := Lib.hid b1; unfold ringV; have H1 := Lib.hid (lies_below HB.out b1 (lt_heap HB.out)); obtain ⟨y0, y1, y2, y3, y4⟩ := cells5 H1.out; have hlt1 := lt_heap H1.out; clear b1 x0 x1 x2 x3 x4)
    go_loopw [6] (fun y wr => ∃ i : Nat, i ≤ n ∧ y = .int .i64 i ∧ Hid (Below W.heap.size W wr)) (fun y _ => n - (intOf y).toNat)
    case atStart => exact ⟨0, Nat.zero_le _, rfl, B1.out.alloc B1.out.size _⟩
    case round =>
      obtain ⟨i, hi, rfl, HBE⟩ := hrel
      clear y0 y1 y2 y3 y4 hlt1
      by_cases hlt : i < n
      rotate_left
      · go_wp2
        go_ret
        exact ⟨rfl, BW.out.trans (HBE.out.mono BW.out.size)⟩
      obtain ⟨s, hs⟩ : ∃ s, r.ss[i]? = some s := ⟨_, List.getElem?_eq_getElem (show i < r.ss.length by have := HL.out; omega)⟩
      obtain ⟨sb, off, rfl, hrb, hcs⟩ := HC.out i s hs
      have hBW := BW.out.trans (HBE.out.mono BW.out.size)
      have g0 := (hBW.cell (p := ⟨sb, off + i * 4 + 0, none⟩) hrb).trans (hcs 0 (by omega))
      have g1 := (hBW.cell (p := ⟨sb, off + i * 4 + 1, none⟩) hrb).trans (hcs 1 (by omega))
      have g2 := (hBW.cell (p := ⟨sb, off + i * 4 + 2, none⟩) hrb).trans (hcs 2 (by omega))
      have g3 := (hBW.cell (p := ⟨sb, off + i * 4 + 3, none⟩) hrb).trans (hcs 3 (by omega))
      simp only [seatC, List.getElem?_cons_zero, List.getElem?_cons_succ, Nat.add_zero] at g0 g1 g2 g3
      have HR2 := Lib.hid (lies_below HB.out HBE.out (lt_heap HB.out))
      obtain ⟨U, hU⟩ : ∃ U, wr.alloc (.cells #[iv s.id, iv s.pri, iv s.age, iv s.df] 49) = U := ⟨_, rfl⟩
      have HS := Lib.hid (show U.heap[wr.heap.size]? = some (.cells #[iv s.id, iv s.pri, iv s.age, iv s.df] 49 (0, 0)) by rw [← hU]; exact heap_alloc_new _ _)
      have BU := Lib.hid (show Below W.heap.size W U by rw [← hU]; exact HBE.out.alloc HBE.out.size _)
      have HUU := Lib.hid hU
      obtain ⟨u0, u1, u2, u3⟩ := cells4 HS.out
      have HRU := Lib.hid (lies_below HB.out BU.out (lt_heap HB.out))
      obtain ⟨y0, y1, y2, y3, y4⟩ := cells5 HR2.out
      obtain ⟨v0, v1, v2, v3, v4⟩ := cells5 HRU.out
      obtain ⟨k1, ⟨k2, k3⟩, k4⟩ := seatB_parts (HR.out.ok s (List.mem_of_getElem? hs))
      have HSE := Lib.hid (show seatFrom s.id 0 r.ss = (i : Int) from by have := seatFrom_at r.ss 0 i s HR.out.nd hs; simpa using this)
      have hdf := HR.out.df i s hs
      have HTU := Lib.hid (show SeatsAt U (.slice (some ⟨sb, off, none⟩) n c) r.ss from HT.out.below (BW.out.trans (BU.out.mono BW.out.size)))
      rw [HAT.out, HOP.out] at hdf
      have K1 := Lib.hid k1
      have K4 := Lib.hid k4
      have hii : ((i : Int) != (i : Int)) = false := by simp
      obtain ⟨sz, hsz⟩ : ∃ z, wr.heap.size = z := ⟨_, rfl⟩
      have HSZ := Lib.hid hsz
      rw [hsz] at HS u0 u1 u2 u3
      have hltS := lt_heap HS.out
      have hltR := lt_heap HRU.out
      clear hcs hs hBW HC hU k1 k4
      go_wp2_with fail
      try rw [show wr.alloc (.cells #[iv s.id, iv s.pri, iv s.age, iv s.df] 49) = U from HUU.out]
      have hring : ∀ v, Value.agg #[iv r.ba, iv r.pe, v, iv at0, .bool true] = ringV r v := fun v => by unfold ringV; rw [HAT.out, HOP.out]
      have HRI := Lib.hid hring
      clear hring
      have HSQ := Lib.hid (show ∀ w', SeatsAt w' (.slice (some ⟨sb, off, none⟩) n c) r.ss → Calls Try.prog 30 #[.agg #[iv r.ba, iv r.pe, .slice (some ⟨sb, off, none⟩) n c, iv at0, .bool true], iv s.id] w' (IntQ (i : Int) w') from fun w' hw' => by rw [HRI.out]; exact seat_eq HSE.out _ _ hw')
      by_cases hia : i = at0
      · have hib : ((i : Int) == (at0 : Int)) = true := by simp [hia]
        rw [decide_eq_true hia] at hdf
        unfold dfOk at hdf
        simp only [Bool.and_self, if_true] at hdf
        obtain ⟨d1, d2⟩ := hdf
        clear hia
        go_wp2_with first
          | (go_at_call 24; first | (refine (counter_eq K1.out _).mono ?_; rintro e w2 ⟨rfl, rfl⟩; clear K1) | (refine (counter_eq K4.out _).mono ?_; rintro e w2 ⟨rfl, rfl⟩))
          | (go_at_call 30; refine (HSQ.out _ HTU.out).mono ?_; rintro e w2 ⟨rfl, b2⟩; have B2 := Lib.hid (BU.out.trans (b2.mono BU.out.size)); have HS2 := Lib.hid (lies_below HS.out b2 hltS); obtain ⟨t0, t1, t2, t3⟩ := cells4 HS2.out; have HR3 := Lib.hid (lies_below HRU.out b2 hltR); obtain ⟨z0, z1, z2, z3, z4⟩ := cells5 HR3.out; clear b2)
        go_roundw
        case rel => exact ⟨i + 1, by omega, by go_num, B2⟩
        case measure => simp [intOf]; omega
      · have hib : ((i : Int) == (at0 : Int)) = false := by simp; omega
        rw [decide_eq_false hia] at hdf
        unfold dfOk at hdf
        simp only [Bool.and_false, Bool.false_eq_true, if_false] at hdf
        obtain ⟨d1, d2⟩ := hdf
        clear hia
        go_wp2_with first
          | (go_at_call 24; first | (refine (counter_eq K1.out _).mono ?_; rintro e w2 ⟨rfl, rfl⟩; clear K1) | (refine (counter_eq K4.out _).mono ?_; rintro e w2 ⟨rfl, rfl⟩))
          | (go_at_call 30; refine (HSQ.out _ HTU.out).mono ?_; rintro e w2 ⟨rfl, b2⟩; have B2 := Lib.hid (BU.out.trans (b2.mono BU.out.size)); have HS2 := Lib.hid (lies_below HS.out b2 hltS); obtain ⟨t0, t1, t2, t3⟩ := cells4 HS2.out; have HR3 := Lib.hid (lies_below HRU.out b2 hltR); obtain ⟨z0, z1, z2, z3, z4⟩ := cells5 HR3.out; clear b2)
        go_roundw
        case rel => exact ⟨i + 1, by omega, by go_num, B2⟩
        case measure => simp [intOf]; omega
end Go.Proofs.Ytbgoogjhgeoapaa
