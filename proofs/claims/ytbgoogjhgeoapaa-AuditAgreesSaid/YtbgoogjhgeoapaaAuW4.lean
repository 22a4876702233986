/- Walks: flqref19.ValidLog. Printed by wip/gen_auw4.py. -/
import Derived.Test.YtbgoogjhgeoapaaAuW3
import Derived.Test.YtbgoogjhgeoapaaMem2
set_option linter.unusedVariables false
set_option linter.unusedSimpArgs false
set_option linter.unusedSectionVars false
namespace Go.Proofs.Ytbgoogjhgeoapaa
open Go.RowKit
variable [Base]

theorem counter_eq {n : Int} {r : Bool} (h : cnB n = r) (w : World) : Calls Try.prog 24 #[iv n] w fun e w' => e = .returned (.bool r) ∧ w' = w := h ▸ counter_any n w
theorem info_int : (Try.prog.info? 3).map (fun i => (i.zero, i.size, i.bytes)) = some (some (Value.int .i64 0), 1, 8) := by kernel_rfl
theorem own_slice2 {w : World} {base : Nat} {e : TypeId} {size : Nat} {v : Value} {n : Nat} {xs : List Value} (h : w.ownsRow base e size v n xs) : ∃ a c, v = .slice a n c ∧ n ≤ c ∧ c ≤ maxLen := by
  rcases h.2 with ⟨rfl, rfl⟩ | ⟨g, cap, cur, rfl, _, _, hnc, hc, _⟩
  · exact ⟨none, 0, rfl, Nat.le_refl _, Nat.zero_le _⟩
  · exact ⟨_, _, rfl, hnc, hc⟩
def dOk : List Int → List TV → Bool
  | _, [] => true
  | d, x :: r => !d.contains x.q && dOk (if x.fin then d ++ [x.q] else d) r
theorem vgo_dOk : ∀ (l : List TV) (f : Int → Bool) (d : List Int), (∀ k, f k = d.contains k) → vgo f l = (l.all turnB && dOk d l)
  | [], _, _, _ => rfl
  | x :: l, f, d, h => by
    unfold vgo dOk
    rw [List.all_cons, h]
    by_cases hc : d.contains x.q = true
    · simp only [hc, Bool.not_true, Bool.false_and, Bool.and_false]
    · have hc' : d.contains x.q = false := by simpa using hc
      rw [vgo_dOk l (fun k => if k = x.q then x.fin else f k) (if x.fin then d ++ [x.q] else d) (fun k => ?_), hc']
      · simp [Bool.and_assoc]
      · by_cases e : k = x.q
        · subst e
          cases x.fin <;> simp_all
        · cases x.fin <;> simp_all
theorem all_drop {l : List TV} {x : TV} {i : Nat} (h : l[i]? = some x) : (l.drop i).all turnB = (turnB x && (l.drop (i + 1)).all turnB) := by
  obtain ⟨h1, rfl⟩ := List.getElem?_eq_some_iff.1 h
  rw [List.drop_eq_getElem_cons h1]
  rfl
theorem dOk_drop {l : List TV} {x : TV} {i : Nat} (h : l[i]? = some x) (d : List Int) : dOk d (l.drop i) = (!d.contains x.q && dOk (if x.fin then d ++ [x.q] else d) (l.drop (i + 1))) := by
  obtain ⟨h1, rfl⟩ := List.getElem?_eq_some_iff.1 h
  rw [List.drop_eq_getElem_cons h1]
  rfl
theorem dOk_end {l : List TV} {i : Nat} (h : l.length ≤ i) (d : List Int) : dOk d (l.drop i) = true := by
  rw [List.drop_eq_nil_of_le h]; rfl
theorem rturnB_eq (x : TV) : turnB x = (cnB x.q && (!decide (x.qu < 0) && (!decide (64 < x.qu) && (cnB x.st && (cnB x.co && (!decide (x.co < x.st) && !decide (8 * x.st < x.co))))))) := by
  unfold turnB cnB btwB
  rw [Bool.eq_iff_iff]
  simp only [Bool.and_eq_true, decide_eq_true_eq, Bool.not_eq_true', decide_eq_false_iff_not]
  omega
theorem take_no {acc : List Int} {k : Nat} {z q : Int} (h : (acc.take k).contains q = false) (hk : acc[k]? = some z) (hz : z ≠ q) : (acc.take (k + 1)).contains q = false := by
  rw [List.take_add_one, hk]
  simp at h ⊢
  exact ⟨h, fun e => hz e.symm⟩
set_option maxRecDepth 100000 in
set_option maxHeartbeats 4000000 in
theorem rlvalid_any (l : List TV) (v : Value) (w : World) (h : TurnsAt w v l) : Calls Try.prog 12 #[v] w (BoolQ (logB l) w) := by
  obtain ⟨a, c, rfl, hn, -, -, hc⟩ := h.cell
  have HC := Lib.hid hc
  obtain ⟨n, hl⟩ : ∃ n, l.length = n := ⟨_, rfl⟩
  rw [hl] at hn ⊢
  have HL := Lib.hid hl
  clear hc h
  unfold maxLen at hn
  rcases (by omega : 4096 < n ∨ n ≤ 4096) with hbig | hsmall
  · have HR := Lib.hid (show logB l = false by unfold logB; rw [hl]; simp; intro h; omega)
    clear hl
    go_enter Try.func12, Try.ntmps12
    go_wp2
    go_ret
    exact ⟨ret_boolQ HR.out.symm, Below.refl _ _⟩
  have HR := Lib.hid (show logB l = (l.all turnB && dOk [] l) by unfold logB; rw [hl, vgo_dOk l (fun _ => false) [] (fun k => rfl)]; simp [hsmall])
  clear hl
  have hud : ∀ b : Bool, (undef = Value.bool b) = False := fun b => by simp [undef]
  go_enter Try.func12, Try.ntmps12
  go_wp2
  go_loopw [3] (fun y wr => ∃ (i : Nat), i ≤ n ∧ y = .int .i64 i ∧ Hid (Below w.heap.size w wr) ∧ Hid (l.all turnB = (l.drop i).all turnB)) (fun y _ => n - (intOf y).toNat)
  case atStart => exact ⟨0, Nat.zero_le _, rfl, Below.refl _ _, rfl⟩
  case round =>
    obtain ⟨i, hi, rfl, HB, HF⟩ := hrel
    by_cases hlt : i < n
    rotate_left
    · have HA := Lib.hid (show l.all turnB = true by rw [HF.out, List.drop_eq_nil_of_le (by have := HL.out; omega)]; rfl)
      clear HF
      have HS := Lib.hid (show logB l = dOk [] (l.drop 0) by rw [HR.out, HA.out]; rfl)
      have OW := Lib.hid (World.ownsRow_nil wr w.heap.size 3 1)
      go_wp2
      go_loopw [5, 6] (fun sv y wr2 => ∃ (i : Nat) (acc : List Int), i ≤ n ∧ acc.length ≤ i ∧ y = .int .i64 i ∧ Hid (Below w.heap.size w wr2) ∧ Hid (wr2.ownsRow w.heap.size 3 1 sv acc.length (acc.map iv)) ∧ Hid (logB l = dOk acc (l.drop i))) (fun _ y _ => n - (intOf y).toNat)
      case atStart => exact ⟨0, [], Nat.zero_le _, Nat.le_refl _, rfl, HB, OW, HS⟩
      case round =>
        clear HR HA HS OW HB
        obtain ⟨j, acc, hj, haj, rfl, HB, OW, HF⟩ := hrel
        obtain ⟨U, rfl⟩ : ∃ U, U = wr := ⟨_, rfl⟩
        by_cases hlj : j < n
        rotate_left
        · have FE := Lib.hid (HF.out.trans (dOk_end (by have := HL.out; omega) acc))
          obtain ⟨sa, sc, rfl, -, -⟩ := own_slice2 OW.out
          go_wp2
          go_ret
          exact ⟨ret_boolQ FE.out.symm, HB.out⟩
        obtain ⟨x, hx⟩ : ∃ x, l[j]? = some x := ⟨_, List.getElem?_eq_getElem (show j < l.length by have := HL.out; omega)⟩
        obtain ⟨rb, off, rfl, hrb, hcs⟩ := HC.out j x hx
        have g0 := (HB.out.cell (p := ⟨rb, off + j * 5 + 0, none⟩) hrb).trans (hcs 0 (by omega))
        have g4 := (HB.out.cell (p := ⟨rb, off + j * 5 + 4, none⟩) hrb).trans (hcs 4 (by omega))
        simp only [turnC, List.getElem?_cons_zero, List.getElem?_cons_succ, Nat.add_zero] at g0 g4
        have FD := Lib.hid (HF.out.trans (dOk_drop hx acc))
        obtain ⟨sa, sn, sc, rfl, f1, f2, f3, f4, f5⟩ := SliceAt.form (SliceAt.of_owns OW.out)
        rw [List.length_map, Nat.mul_one] at f1
        subst f1
        have F5 := Lib.hid f5
        have HJ := Lib.hid hlj
        have e1 : (0 : Int) ≤ (j : Int) := by omega
        have e2 : (j : Int) < (n : Int) := by omega
        clear hcs hx HC f5 HF
        obtain ⟨an, han⟩ : ∃ an, acc.length = an := ⟨_, rfl⟩
        rw [han] at OW F5 haj f2 f3 ⊢
        have HAN := Lib.hid han
        clear han
        unfold maxLen at f2 f4
        go_wp2
        go_loopw [7] (fun y wr3 => ∃ (k : Nat), k ≤ an ∧ y = .int .i64 k ∧ Hid ((acc.take k).contains x.q = false) ∧ ∃ m, wr3 = U.drewN m) (fun y _ => an - (intOf y).toNat)
        case atStart => exact ⟨0, Nat.zero_le _, rfl, by unfold Hid; simp, 0, rfl⟩
        case round =>
          obtain ⟨k, hk, rfl, HT, m, rfl⟩ := hrel
          by_cases hlk : k < an
          · obtain ⟨z, hz⟩ : ∃ z, acc[k]? = some z := ⟨_, List.getElem?_eq_getElem (show k < acc.length by have := HAN.out; omega)⟩
            obtain ⟨db, doff, rfl, hdb, -, hdc⟩ := F5.out (by omega)
            have q0 := hdc k (by rw [List.length_map]; have := HAN.out; omega)
            rw [List.getElem?_map, hz] at q0
            simp only [Option.map_some] at q0
            have e3 : (0 : Int) ≤ (k : Int) := by omega
            have e4 : (k : Int) < (an : Int) := by omega
            have HZ := Lib.hid hz
            clear hdc hz F5
            by_cases hzq : z = x.q
            · have FE := Lib.hid (FD.out.trans (show _ = false by
                have : acc.contains x.q = true := by
                  rw [List.contains_iff_mem]; exact List.mem_of_getElem? (hzq ▸ HZ.out)
                rw [this]; rfl))
              have hb : (z == x.q) = true := by simpa using hzq
              obtain ⟨VV, hV⟩ : ∃ VV, U.drewN m = VV := ⟨_, rfl⟩
              have q0' : VV.cell? ⟨db, doff + k, none⟩ = some (iv z) := by rw [← hV]; exact q0
              have g0' : VV.cell? ⟨rb, off + j * 5, none⟩ = some (iv x.q) := by rw [← hV]; exact g0
              rw [hV]
              have HV := Lib.hid hV
              clear hzq q0 g0 hV
              go_wp2
              go_quiet (fail)
              go_wp2
              go_ret
              exact ⟨ret_boolQ FE.out.symm, by rw [← HV.out]; exact below_drewQ (below_drewQ HB.out _) _⟩
            · have HT2 := Lib.hid (take_no HT.out HZ.out hzq)
              have hb : (z == x.q) = false := by simpa using hzq
              obtain ⟨VV, hV⟩ : ∃ VV, U.drewN m = VV := ⟨_, rfl⟩
              have q0' : VV.cell? ⟨db, doff + k, none⟩ = some (iv z) := by rw [← hV]; exact q0
              have g0' : VV.cell? ⟨rb, off + j * 5, none⟩ = some (iv x.q) := by rw [← hV]; exact g0
              rw [hV]
              have HV := Lib.hid hV
              clear hzq q0 g0 hV
              go_wp2
              go_quiet (fail)
              go_wp2
              go_roundw
              case rel => exact ⟨k + 1, by omega, by go_num, HT2, _, by rw [← HV.out]; exact World.drewN_drewN _ _ _⟩
              case measure => simp [intOf]; omega
          · have HN := Lib.hid (show acc.contains x.q = false by
              have := HT.out
              rwa [List.take_of_length_le (by have := HAN.out; omega)] at this)
            have FD2 := Lib.hid (FD.out.trans (by rw [HN.out]; rfl : _ = dOk (if x.fin then acc ++ [x.q] else acc) (l.drop (j + 1))))
            obtain ⟨VV, hV⟩ : ∃ VV, U.drewN m = VV := ⟨_, rfl⟩
            have g0' : VV.cell? ⟨rb, off + j * 5, none⟩ = some (iv x.q) := by rw [← hV]; exact g0
            have g4' : VV.cell? ⟨rb, off + j * 5 + 4, none⟩ = some (.bool x.fin) := by rw [← hV]; exact g4
            have BV := Lib.hid (show Below w.heap.size w VV by rw [← hV]; exact below_drewQ HB.out _)
            have OV := Lib.hid (show VV.ownsRow w.heap.size 3 1 (.slice sa an sc) an (acc.map iv) by rw [← hV]; exact OW.out)
            rw [hV]
            have LE := Lib.hid BV.out.size
            clear hV g0 g4 HB OW F5 FD HN HT
            obtain ⟨fin, hfin⟩ : ∃ fin, x.fin = fin := ⟨_, rfl⟩
            rw [hfin] at g4' FD2
            cases fin
            · go_wp2
              go_roundw
              case rel => exact ⟨j + 1, acc, by omega, by have := HAN.out; omega, by go_num, BV, by rw [HAN.out]; exact OV, FD2⟩
              case measure => simp [intOf]; omega
            · go_wp2_with (at_builtin; refine wpList_pushH [iv x.q] rfl _ _ 22 rfl w.heap.size 3 _ 1 8 Try.underlying22 info_int rfl (by decide) _ an _ OV.out rfl _ rfl rfl rfl rfl (by unfold maxLen; omega) (by omega) LE.out ?_; intro g cap w6 own2 gr2 q1 q2; have OW2 := Lib.hid own2; have GR2 := Lib.hid gr2; clear own2 gr2 q1 q2)
              go_roundw
              case rel => exact ⟨j + 1, acc ++ [x.q], by omega, by rw [List.length_append]; have := HAN.out; simp; omega, by go_num, BV.out.trans (Below.of_grown GR2.out OV.out LE.out), by rw [List.length_append, HAN.out, List.map_append]; exact OW2.out, FD2⟩
              case measure => simp [intOf]; omega
    obtain ⟨x, hx⟩ : ∃ x, l[i]? = some x := ⟨_, List.getElem?_eq_getElem (show i < l.length by have := HL.out; omega)⟩
    obtain ⟨rb, off, rfl, hrb, hcs⟩ := HC.out i x hx
    have g0 := (HB.out.cell (p := ⟨rb, off + i * 5 + 0, none⟩) hrb).trans (hcs 0 (by omega))
    have g1 := (HB.out.cell (p := ⟨rb, off + i * 5 + 1, none⟩) hrb).trans (hcs 1 (by omega))
    have g2 := (HB.out.cell (p := ⟨rb, off + i * 5 + 2, none⟩) hrb).trans (hcs 2 (by omega))
    have g3 := (HB.out.cell (p := ⟨rb, off + i * 5 + 3, none⟩) hrb).trans (hcs 3 (by omega))
    have g4 := (HB.out.cell (p := ⟨rb, off + i * 5 + 4, none⟩) hrb).trans (hcs 4 (by omega))
    simp only [turnC, List.getElem?_cons_zero, List.getElem?_cons_succ, Nat.add_zero] at g0 g1 g2 g3 g4
    obtain ⟨W, hW⟩ : ∃ W, wr.alloc (.cells #[iv x.q, iv x.qu, iv x.st, iv x.co, .bool x.fin] 53) = W := ⟨_, rfl⟩
    have HB0 : W.heap[wr.heap.size]? = some (.cells #[iv x.q, iv x.qu, iv x.st, iv x.co, .bool x.fin] 53 (0, 0)) := by rw [← hW]; exact heap_alloc_new _ _
    obtain ⟨x0, x1, x2, x3, x4⟩ := cells5 HB0
    have BW := Lib.hid (show Below w.heap.size w W by rw [← hW]; exact HB.out.alloc HB.out.size _)
    have HW := Lib.hid hW
    have FD := Lib.hid (HF.out.trans (all_drop hx))
    have HI := Lib.hid hlt
    clear hcs hx HC hW HB0 HF
    rcases Bool.eq_false_or_eq_true (cnB x.q) with b0 | b0
    rotate_left
    · have FE := Lib.hid (show logB l = false by rw [HR.out, FD.out, show turnB x = false by rw [rturnB_eq]; simp [b0]]; rfl)
      go_wp2_with fail
      try rw [show wr.alloc (.cells #[iv x.q, iv x.qu, iv x.st, iv x.co, .bool x.fin] 53) = W from HW.out]
      go_wp2_with first | (go_at_call 24; with_reducible refine (counter_eq b0 _).mono ?_; rintro e w1 ⟨rfl, rfl⟩)
      go_ret
      exact ⟨ret_boolQ FE.out.symm, BW.out⟩
    rcases (by omega : ¬ x.qu < 0 ∨ x.qu < 0) with b1 | b1
    rotate_left
    · have FE := Lib.hid (show logB l = false by rw [HR.out, FD.out, show turnB x = false by rw [rturnB_eq]; simp [b0, b1]]; rfl)
      go_wp2_with fail
      try rw [show wr.alloc (.cells #[iv x.q, iv x.qu, iv x.st, iv x.co, .bool x.fin] 53) = W from HW.out]
      go_wp2_with first | (go_at_call 24; with_reducible refine (counter_eq b0 _).mono ?_; rintro e w1 ⟨rfl, rfl⟩)
      go_ret
      exact ⟨ret_boolQ FE.out.symm, BW.out⟩
    rcases (by omega : ¬ 64 < x.qu ∨ 64 < x.qu) with b2 | b2
    rotate_left
    · have FE := Lib.hid (show logB l = false by rw [HR.out, FD.out, show turnB x = false by rw [rturnB_eq]; simp [b0, b1, b2]]; rfl)
      go_wp2_with fail
      try rw [show wr.alloc (.cells #[iv x.q, iv x.qu, iv x.st, iv x.co, .bool x.fin] 53) = W from HW.out]
      go_wp2_with first | (go_at_call 24; with_reducible refine (counter_eq b0 _).mono ?_; rintro e w1 ⟨rfl, rfl⟩)
      go_ret
      exact ⟨ret_boolQ FE.out.symm, BW.out⟩
    rcases Bool.eq_false_or_eq_true (cnB x.st) with b3 | b3
    rotate_left
    · have FE := Lib.hid (show logB l = false by rw [HR.out, FD.out, show turnB x = false by rw [rturnB_eq]; simp [b0, b1, b2, b3]]; rfl)
      go_wp2_with fail
      try rw [show wr.alloc (.cells #[iv x.q, iv x.qu, iv x.st, iv x.co, .bool x.fin] 53) = W from HW.out]
      go_wp2_with first | (go_at_call 24; with_reducible refine (counter_eq b0 _).mono ?_; rintro e w1 ⟨rfl, rfl⟩) | (go_at_call 24; with_reducible refine (counter_eq b3 _).mono ?_; rintro e w1 ⟨rfl, rfl⟩)
      go_ret
      exact ⟨ret_boolQ FE.out.symm, BW.out⟩
    have hst : 0 ≤ x.st ∧ x.st ≤ 1073741824 := by unfold cnB btwB at b3; simpa using b3
    have hwr : wrap64 (8 * x.st) = 8 * x.st := IntWalk.wrap64_in _ (by omega)
    rcases Bool.eq_false_or_eq_true (cnB x.co) with b4 | b4
    rotate_left
    · have FE := Lib.hid (show logB l = false by rw [HR.out, FD.out, show turnB x = false by rw [rturnB_eq]; simp [b0, b1, b2, b3, b4]]; rfl)
      go_wp2_with fail
      try rw [show wr.alloc (.cells #[iv x.q, iv x.qu, iv x.st, iv x.co, .bool x.fin] 53) = W from HW.out]
      go_wp2_with first | (go_at_call 24; with_reducible refine (counter_eq b0 _).mono ?_; rintro e w1 ⟨rfl, rfl⟩) | (go_at_call 24; with_reducible refine (counter_eq b3 _).mono ?_; rintro e w1 ⟨rfl, rfl⟩) | (go_at_call 24; with_reducible refine (counter_eq b4 _).mono ?_; rintro e w1 ⟨rfl, rfl⟩)
      go_ret
      exact ⟨ret_boolQ FE.out.symm, BW.out⟩
    rcases (by omega : ¬ x.co < x.st ∨ x.co < x.st) with b5 | b5
    rotate_left
    · have FE := Lib.hid (show logB l = false by rw [HR.out, FD.out, show turnB x = false by rw [rturnB_eq]; simp [b0, b1, b2, b3, b4, b5]]; rfl)
      go_wp2_with fail
      try rw [show wr.alloc (.cells #[iv x.q, iv x.qu, iv x.st, iv x.co, .bool x.fin] 53) = W from HW.out]
      go_wp2_with first | (go_at_call 24; with_reducible refine (counter_eq b0 _).mono ?_; rintro e w1 ⟨rfl, rfl⟩) | (go_at_call 24; with_reducible refine (counter_eq b3 _).mono ?_; rintro e w1 ⟨rfl, rfl⟩) | (go_at_call 24; with_reducible refine (counter_eq b4 _).mono ?_; rintro e w1 ⟨rfl, rfl⟩)
      go_ret
      exact ⟨ret_boolQ FE.out.symm, BW.out⟩
    rcases (by omega : ¬ 8 * x.st < x.co ∨ 8 * x.st < x.co) with b6 | b6
    rotate_left
    · have FE := Lib.hid (show logB l = false by rw [HR.out, FD.out, show turnB x = false by rw [rturnB_eq]; simp [b0, b1, b2, b3, b4, b5, b6]]; rfl)
      go_wp2_with fail
      try rw [show wr.alloc (.cells #[iv x.q, iv x.qu, iv x.st, iv x.co, .bool x.fin] 53) = W from HW.out]
      go_wp2_with first | (go_at_call 24; with_reducible refine (counter_eq b0 _).mono ?_; rintro e w1 ⟨rfl, rfl⟩) | (go_at_call 24; with_reducible refine (counter_eq b3 _).mono ?_; rintro e w1 ⟨rfl, rfl⟩) | (go_at_call 24; with_reducible refine (counter_eq b4 _).mono ?_; rintro e w1 ⟨rfl, rfl⟩)
      go_ret
      exact ⟨ret_boolQ FE.out.symm, BW.out⟩
    have FE := Lib.hid (FD.out.trans (by rw [show turnB x = true by rw [rturnB_eq]; simp [b0, b1, b2, b3, b4, b5, b6]]; rfl : _ = (l.drop (i + 1)).all turnB))
    go_wp2_with fail
    try rw [show wr.alloc (.cells #[iv x.q, iv x.qu, iv x.st, iv x.co, .bool x.fin] 53) = W from HW.out]
    go_wp2_with first | (go_at_call 24; with_reducible refine (counter_eq b0 _).mono ?_; rintro e w1 ⟨rfl, rfl⟩) | (go_at_call 24; with_reducible refine (counter_eq b3 _).mono ?_; rintro e w1 ⟨rfl, rfl⟩) | (go_at_call 24; with_reducible refine (counter_eq b4 _).mono ?_; rintro e w1 ⟨rfl, rfl⟩)
    go_roundw
    case rel => exact ⟨i + 1, by omega, by go_num, BW, FE⟩
    case measure => simp [intOf]; omega
end Go.Proofs.Ytbgoogjhgeoapaa
