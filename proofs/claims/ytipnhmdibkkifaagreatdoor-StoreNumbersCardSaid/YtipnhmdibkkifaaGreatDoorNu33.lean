/- A part of the proof. -/
import Derived.Test.YtipnhmdibkkifaaGreatDoorNu15
import Derived.Test.YtipnhmdibkkifaaGreatDoorNu18
import Derived.Test.YtipnhmdibkkifaaGreatDoorNu14
set_option linter.unusedVariables false
set_option linter.unusedSimpArgs false
set_option linter.unusedVariables false
set_option linter.unusedSimpArgs false
set_option linter.unusedSectionVars false
namespace Go.Proofs.YtipnhmdibkkifaaGreatDoor
open Go.RowKit
variable [Base]
def prevG (l : List Int) (k : Nat) : Option Int := if k = 0 then none else l[k - 1]?
theorem ascG_step {n : Int} {l : List Int} {k : Nat} {c : Int} (h : l[k]? = some c) : ascGo n (prevG l k) (l.drop k) = (((decide (0 ≤ c) && decide (c < n)) && (match prevG l k with | none => true | some q => decide (q < c))) && ascGo n (prevG l (k + 1)) (l.drop (k + 1))) := by
  have e : l.drop k = c :: l.drop (k + 1) := by
    have hlt := (List.getElem?_eq_some_iff.1 h).1
    rw [List.drop_eq_getElem_cons hlt]
    rw [List.getElem?_eq_getElem hlt] at h
    injection h with h
    rw [h]
  rw [e]
  conv => lhs; unfold ascGo
  have e2 : prevG l (k + 1) = some c := by unfold prevG; rw [if_neg (by omega)]; simpa using h
  rw [e2]
  cases prevG l k <;> rfl
set_option maxRecDepth 100000 in
set_option maxHeartbeats 8000000 in
theorem gasc_any (l : List Int) (v : Value) (m : Int) (w : World) (h : IntsAt w v l) : Calls Tryz.prog 83 #[v, iv m] w (BoolQ (ascB m l) w) := by
  obtain ⟨a, c, rfl, hn, -, -, hc⟩ := h.cell
  have HC := Lib.hid hc
  obtain ⟨n, hl⟩ : ∃ n, l.length = n := ⟨_, rfl⟩
  rw [hl] at hn ⊢
  have HL := Lib.hid hl
  clear hc h hl
  unfold maxLen at hn
  go_enter Tryz.func83, Tryz.ntmps83
  go_wp2
  go_loopw [9] (fun y wr => ∃ k : Nat, k ≤ n ∧ y = .int .i64 k ∧ w = wr ∧ Hid (ascB m l = ascGo m (prevG l k) (l.drop k))) (fun y _ => n - (intOf y).toNat)
  case atStart => exact ⟨0, Nat.zero_le _, rfl, rfl, by unfold Hid ascB prevG; simp⟩
  case round =>
    obtain ⟨k, hk, rfl, rfl, HA⟩ := hrel
    by_cases hlt : k < n
    · obtain ⟨x, hx⟩ : ∃ x, l[k]? = some x := ⟨_, List.getElem?_eq_getElem (by rw [HL.out]; exact hlt)⟩
      obtain ⟨xb, xo, rfl, hxb, g0⟩ := HC.out k x hx
      have HS := Lib.hid (ascG_step (n := m) hx)
      by_cases h1 : 0 ≤ x
      · have t1 : decide (x < 0) = false := by simp; omega
        by_cases h2 : x < m
        · have t2 : decide (x ≥ m) = false := by simp; omega
          by_cases h0 : k = 0
          · subst h0
            rw [Nat.add_zero] at g0
            have HA2 := Lib.hid (show ascB m l = ascGo m (prevG l (0 + 1)) (l.drop (0 + 1)) by
              rw [HA.out, HS.out]
              have e : prevG l 0 = none := rfl
              rw [e]
              simp [h1, h2])
            clear hx h1 h2
            go_wp2
            go_roundw
            case rel => exact ⟨0 + 1, by omega, by go_num, (by first | rfl | trivial), HA2⟩
            case measure => simp [intOf]; omega
          · obtain ⟨j, rfl⟩ : ∃ j, k = j + 1 := ⟨k - 1, by omega⟩
            obtain ⟨y, hy⟩ : ∃ y, l[j]? = some y := ⟨_, List.getElem?_eq_getElem (by rw [HL.out]; omega)⟩
            obtain ⟨yb, yo, e, hyb, g1⟩ := HC.out j y hy
            injection e with e
            injection e with e1 e2
            subst e1 e2
            have e : prevG l (j + 1) = some y := by unfold prevG; rw [if_neg h0]; exact hy
            by_cases h4 : y < x
            · have t4 : decide (x ≤ y) = false := by simp; omega
              have HA2 := Lib.hid (show ascB m l = ascGo m (prevG l (j + 1 + 1)) (l.drop (j + 1 + 1)) by
                rw [HA.out, HS.out, e]
                simp [h1, h2, h4])
              clear hx hy h0 h1 h2 h4 e
              go_wp2
              go_roundw
              case rel => exact ⟨j + 1 + 1, by omega, by go_num, (by first | rfl | trivial), HA2⟩
              case measure => simp [intOf]; omega
            · have t4 : decide (x ≤ y) = true := by simp; omega
              have HA2 := Lib.hid (show ascB m l = false by
                rw [HA.out, HS.out, e]
                simp [h4])
              clear hx hy h0 h1 h2 h4 e
              go_wp2
              go_ret
              exact ⟨by rw [HA2.out]; rfl, Below.refl _ _⟩
        · have t2 : decide (x ≥ m) = true := by simp; omega
          have HA2 := Lib.hid (show ascB m l = false by rw [HA.out, HS.out]; simp [h2])
          clear hx h1 h2
          go_wp2
          go_ret
          exact ⟨by rw [HA2.out]; rfl, Below.refl _ _⟩
      · have t1 : decide (x < 0) = true := by simp; omega
        have HA2 := Lib.hid (show ascB m l = false by rw [HA.out, HS.out]; simp [h1])
        clear hx h1
        go_wp2
        go_ret
        exact ⟨by rw [HA2.out]; rfl, Below.refl _ _⟩
    · have HA2 := Lib.hid (show ascB m l = true by
        rw [HA.out, List.drop_eq_nil_of_le (by rw [HL.out]; omega)]
        cases prevG l k <;> rfl)
      go_wp2
      go_ret
      exact ⟨by rw [HA2.out]; rfl, Below.refl _ _⟩
theorem foldl_addIG : ∀ (l : List Int) (a : Int), l.foldl (· + ·) a = a + l.foldl (· + ·) 0
  | [], a => by simp
  | x :: r, a => by
    rw [List.foldl_cons, List.foldl_cons, foldl_addIG r (a + x), foldl_addIG r (0 + x)]
    omega
theorem sumI_consRG (x : Int) (l : List Int) : sumI (x :: l) = x + sumI l := by
  unfold sumI
  rw [List.foldl_cons, foldl_addIG, Int.zero_add]
theorem totI_consG (x : List Int) (l : List (List Int)) : totI (x :: l) = x.length + totI l := sumI_consRG _ _
theorem totI_appG : ∀ (a b : List (List Int)), totI (a ++ b) = totI a + totI b
  | [], b => by show totI b = 0 + totI b; omega
  | x :: r, b => by
    rw [List.cons_append, totI_consG, totI_consG, totI_appG r b]
    omega
theorem totI_nonnegG : ∀ l : List (List Int), 0 ≤ totI l
  | [] => Int.le_refl _
  | x :: r => by
    have := totI_nonnegG r
    rw [totI_consG]
    omega
theorem totI_takeG {l : List (List Int)} {k : Nat} {x : List Int} (h : l[k]? = some x) : totI (l.take (k + 1)) = totI (l.take k) + x.length := by
  rw [List.take_add_one, h, totI_appG]
  congr 1
  show totI [x] = _
  rw [totI_consG]
  show (x.length : Int) + 0 = _
  omega
theorem totI_leG (l : List (List Int)) (k : Nat) : totI (l.take k) ≤ totI l := by
  conv => rhs; rw [← List.take_append_drop k l]
  rw [totI_appG]
  have := totI_nonnegG (l.drop k)
  omega
set_option maxRecDepth 100000 in
set_option maxHeartbeats 8000000 in
theorem gcount_any (L : List (List Int)) (v : Value) (w : World) (h : RowsAt intEl w v L) (ht : totI L ≤ 1024) (ha : ∀ x ∈ L, ascB L.length x = true) : Calls Tryz.prog 54 #[v] w (IntQ (totI L) w) := by
  obtain ⟨a, c, rfl, hn, -, -, hc⟩ := h.cell
  have HC := Lib.hid hc
  have HT := Lib.hid ht
  have HA := Lib.hid ha
  obtain ⟨n, hl⟩ : ∃ n, L.length = n := ⟨_, rfl⟩
  rw [hl] at hn HA ⊢
  have HL := Lib.hid hl
  unfold maxLen at hn
  clear hc h hl ht ha
  go_enter Tryz.func54, Tryz.ntmps54
  go_wp2
  go_loopw [3, 8] (fun y3 y wr => ∃ (k : Nat) (E : Int), k ≤ n ∧ y = .int .i64 k ∧ y3 = .int .i64 E ∧ 0 ≤ E ∧ E ≤ 1024 ∧ Hid (totI (L.take k) = E) ∧ Hid (Below w.heap.size w wr)) (fun _ y _ => n - (intOf y).toNat)
  case atStart => exact ⟨0, 0, Nat.zero_le _, rfl, rfl, by omega, by omega, rfl, Below.refl _ _⟩
  case round =>
    obtain ⟨k, E, hk, rfl, rfl, hE0, hE1, HE, HB⟩ := hrel
    by_cases hlt : k < n
    · obtain ⟨l, hl⟩ : ∃ l, L[k]? = some l := ⟨_, List.getElem?_eq_getElem (by rw [HL.out]; exact hlt)⟩
      obtain ⟨jb, jo, cs, rfl, hjb, ⟨u, rfl, hu⟩, hcs⟩ := HC.out k l hl
      have g0 := hcs 0 (show 0 < 1 by omega)
      simp only [intEl, Nat.add_zero, Nat.mul_one, List.getElem?_cons_zero] at g0
      have g0 := (HB.out.cell (p := ⟨jb, jo + k, none⟩) hjb).trans g0
      obtain ⟨ua, uc, rfl, hum, -⟩ := hu.cell
      have KA := Lib.hid (gasc_any l (.slice ua l.length uc) n wr (SliceAt.same hu (SameT.below HB.out)))
      rw [HA.out l (List.mem_of_getElem? hl)] at KA
      have HE2 := Lib.hid (show totI (L.take (k + 1)) = E + l.length by rw [totI_takeG hl, HE.out])
      have hle : E + (l.length : Int) ≤ 1024 := by
        have h1 := totI_leG L (k + 1)
        have h2 := HE2.out
        have h3 := HT.out
        omega
      obtain ⟨un, hun⟩ : ∃ n, l.length = n := ⟨_, rfl⟩
      rw [hun] at g0 hum KA HE2 hle
      clear hl hu hcs hun
      have hw : IntKind.i64.wrap (E + (un : Int)) = E + (un : Int) := IntWalk.i64_in _ (by omega)
      have t1 : decide (E + (un : Int) > 1024) = false := by simpa using hle
      go_wp2_with fail
      refine KA.out.mono ?_
      rintro e w2 ⟨rfl, b2⟩
      have HB2 := Lib.hid (HB.out.trans (b2.mono HB.out.size))
      clear b2
      go_wp2
      go_roundw
      case rel => exact ⟨k + 1, E + un, by omega, by go_num, by go_num, by omega, by omega, HE2, HB2⟩
      case measure => simp [intOf]; omega
    · have HE2 := Lib.hid (show totI L = E by
        have h1 := HE.out
        rwa [List.take_of_length_le (by rw [HL.out]; omega)] at h1)
      go_wp2
      go_ret
      exact ⟨by rw [HE2.out]; rfl, HB.out⟩
theorem rowG {w : World} {a : Option Addr} {n c : Nat} {L : List (List Int)} (h : RowsAt intEl w (.slice a n c) L) {k : Nat} {l : List Int} (hl : L[k]? = some l) : ∃ jb jo ua uc, a = some ⟨jb, jo, none⟩ ∧ jb < w.heap.size ∧ l.length ≤ maxLen ∧ IntsAt w (.slice ua l.length uc) l ∧ w.cell? ⟨jb, jo + k, none⟩ = some (.slice ua l.length uc) := by
  obtain ⟨a', c', e, hn, -, -, hc⟩ := h.cell
  injection e with e1 e2 e3
  subst e1 e2 e3
  obtain ⟨jb, jo, cs, rfl, hjb, ⟨u, rfl, hu⟩, hcs⟩ := hc k l hl
  have g0 := hcs 0 (show 0 < 1 by omega)
  simp only [intEl, Nat.add_zero, Nat.mul_one, List.getElem?_cons_zero] at g0
  obtain ⟨ua, uc, rfl, hum, -⟩ := hu.cell
  exact ⟨jb, jo, ua, uc, rfl, hjb, hum, hu, g0⟩
theorem cells3G {b : Nat} {w : World} {v0 v1 v2 : Value} {t : TypeId} (h : w.heap[b]? = some (.cells #[v0, v1, v2] t (0, 0))) :
    w.cell? ⟨b, 0, none⟩ = some v0 ∧ w.cell? ⟨b, 1, none⟩ = some v1 ∧ w.cell? ⟨b, 2, none⟩ = some v2 := by
  simp [World.cell?, h]
set_option maxRecDepth 100000 in
set_option maxHeartbeats 8000000 in
theorem gvalid_any {N : List PNode} {S P : List (List Int)} {nv sv' pv : Value} {w : World} (hN : NodesAt w nv N) (hS : RowsAt intEl w sv' S) (hP : RowsAt intEl w pv P) (m : Nat) (h1 : N.length = m) (h2 : S.length = m) (h3 : P.length = m) (hm1 : 1 ≤ m) (hm2 : m ≤ 256)
    (tS : totI S ≤ 1024) (tP : totI P = totI S) (aS : ∀ x ∈ S, ascB m x = true) (aP : ∀ x ∈ P, ascB m x = true) (hE : ∀ (a : Nat) (l : List Int), S[a]? = some l → ∀ (j : Nat) (b : Int), l[j]? = some b → ∃ (q : Nat) (r : List Int), b = q ∧ q < m ∧ P[q]? = some r ∧ (a : Int) ∈ r) :
    Calls Tryz.prog 53 #[.agg #[nv, sv', pv]] w (BoolQ true w) := by
  obtain ⟨na, nc, rfl, -⟩ := hN.cell
  obtain ⟨sa, sc, rfl, -⟩ := hS.cell
  obtain ⟨pa, pc, rfl, -⟩ := hP.cell
  rw [h1] at hN
  rw [h2] at hS
  rw [h3] at hP
  rw [h1, h2, h3]
  obtain ⟨W, hW⟩ : ∃ W, w.alloc (.cells #[.slice na m nc, .slice sa m sc, .slice pa m pc] 85) = W := ⟨_, rfl⟩
  obtain ⟨z, hz⟩ : ∃ b, w.heap.size = b := ⟨_, rfl⟩
  have BW := Lib.hid (show Below w.heap.size w W by rw [← hW]; exact (Below.refl _ _).alloc (Nat.le_refl _) _)
  have HX := Lib.hid (show W.heap[z]? = some (.cells #[.slice na m nc, .slice sa m sc, .slice pa m pc] 85 (0, 0)) by rw [← hW, ← hz]; exact heap_alloc_new _ _)
  have HWW := Lib.hid hW
  have KS := Lib.hid (fun (x : World) (b : Below w.heap.size w x) => gcount_any S (.slice sa m sc) x (hS.below b) tS (by rw [h2]; exact aS))
  have KP := Lib.hid (fun (x : World) (b : Below w.heap.size w x) => gcount_any P (.slice pa m pc) x (hP.below b) (by omega) (by rw [h3]; exact aP))
  rw [tP] at KP
  obtain ⟨E, hEE⟩ : ∃ E, totI S = E := ⟨_, rfl⟩
  have hE0 : 0 ≤ E := hEE ▸ totI_nonnegG S
  rw [hEE] at KS KP tS
  have HS := Lib.hid hS
  have HP := Lib.hid hP
  have HE := Lib.hid hE
  have HL := Lib.hid h2
  clear hN hS hP aS aP hE h1 h2 h3 tP hEE hW
  obtain ⟨x0, x1, x2⟩ := cells3G HX.out
  have t1 : decide ((m : Int) < 1) = false := by simp; omega
  have t2 : decide ((m : Int) > 256) = false := by simp; omega
  have t3 : ((m : Int) != (m : Int)) = false := by simp
  have t4 : decide (E < 0) = false := by simp; omega
  go_enter Tryz.func53, Tryz.ntmps53
  go_upto_region 1 with (fail)
  rw [show w.alloc (.cells #[.slice na m nc, .slice sa m sc, .slice pa m pc] 85) = W from HWW.out]
  try rw [hz]
  go_wp2_with fail
  refine (KS.out W BW.out).mono ?_
  rintro e w1 ⟨rfl, b1⟩
  have B1 := Lib.hid (BW.out.trans (b1.mono BW.out.size))
  have HX1 := Lib.hid (lies_below HX.out b1 (lt_heap HX.out))
  clear b1 x0 x1 x2
  obtain ⟨x0, x1, x2⟩ := cells3G HX1.out
  go_wp2_with fail
  refine (KP.out w1 B1.out).mono ?_
  rintro e w2 ⟨rfl, b2⟩
  have B2 := Lib.hid (B1.out.trans (b2.mono B1.out.size))
  have HX2 := Lib.hid (lies_below HX1.out b2 (lt_heap HX1.out))
  clear b2 x0 x1 x2
  obtain ⟨x0, x1, x2⟩ := cells3G HX2.out
  go_wp2
  clear x0 x1 x2 t1 t2 t3 t4
  go_loopw [47] (fun y wr => ∃ k : Nat, k ≤ m ∧ y = .int .i64 k ∧ Hid (Below w.heap.size w wr ∧ wr.heap[z]? = some (.cells #[.slice na m nc, .slice sa m sc, .slice pa m pc] 85 (0, 0)))) (fun y _ => m - (intOf y).toNat)
  case atStart => exact ⟨0, Nat.zero_le _, rfl, B2.out, HX2.out⟩
  case round =>
    obtain ⟨k, hk, rfl, HB⟩ := hrel
    by_cases hlt : k < m
    · obtain ⟨l, hl⟩ : ∃ l, S[k]? = some l := ⟨_, List.getElem?_eq_getElem (by rw [HL.out]; exact hlt)⟩
      obtain ⟨jb, jo, ua, uc, rfl, hjb, hum, hu, g0⟩ := rowG HS.out hl
      have g0 := (HB.out.1.cell (p := ⟨jb, jo + k, none⟩) hjb).trans g0
      have HEL := Lib.hid (HE.out k l hl)
      obtain ⟨un, hun⟩ : ∃ n, l.length = n := ⟨_, rfl⟩
      rw [hun] at g0 hum hu
      have HU := Lib.hid hu
      have HUN := Lib.hid hun
      unfold maxLen at hum
      clear hl hu hun
      go_wp2
      clear g0
      obtain ⟨wo, rfl⟩ : ∃ wo : World, wo = wr := ⟨_, rfl⟩
      go_loopw [54] (fun y wr => ∃ j : Nat, j ≤ un ∧ y = .int .i64 j ∧ Hid (Below w.heap.size w wr ∧ wr.heap[z]? = some (.cells #[.slice na m nc, .slice (some ⟨jb, jo, none⟩) m sc, .slice pa m pc] 85 (0, 0)))) (fun y _ => un - (intOf y).toNat)
      case atStart => exact ⟨0, Nat.zero_le _, rfl, HB.out⟩
      case round =>
        obtain ⟨j, hj, rfl, HI⟩ := hrel
        by_cases hlt2 : j < un
        · obtain ⟨x, hx⟩ : ∃ x, l[j]? = some x := ⟨_, List.getElem?_eq_getElem (by rw [HUN.out]; exact hlt2)⟩
          obtain ⟨q, r, rfl, hqm, hr, hin⟩ := HEL.out j x hx
          obtain ⟨a', c', e', -, -, -, hcc⟩ := IntsAt.cell HU.out
          injection e' with e1 e2 e3
          subst e1 e2 e3
          obtain ⟨xb, xo, rfl, hxb, x0⟩ := hcc j _ hx
          have x0 := (HI.out.1.cell (p := ⟨xb, xo + j, none⟩) hxb).trans x0
          obtain ⟨pb, po, ra, rc, rfl, hpb, hrm, hrr, p0⟩ := rowG HP.out hr
          have p0 := (HI.out.1.cell (p := ⟨pb, po + q, none⟩) hpb).trans p0
          have KC := Lib.hid (contains_ints r (.slice ra r.length rc) k wr (SliceAt.same hrr (SameT.below HI.out.1)))
          rw [decide_eq_true hin] at KC
          obtain ⟨rn, hrn⟩ : ∃ n, r.length = n := ⟨_, rfl⟩
          rw [hrn] at p0 hrm KC
          unfold maxLen at hrm
          clear hx hcc hr hin hrr hrn
          obtain ⟨q0, q1, q2⟩ := cells3G HI.out.2
          go_wp2_with fail
          refine KC.out.mono ?_
          rintro e w3 ⟨rfl, rfl⟩
          go_wp2
          go_roundw
          case rel => exact ⟨j + 1, by omega, by go_num, HI⟩
          case measure => simp [intOf]; omega
        · go_wp2
          go_roundw
          case rel => exact ⟨k + 1, by omega, by go_num, HI⟩
          case measure => simp [intOf]; omega
    · go_wp2
      go_ret
      exact ⟨rfl, HB.out.1⟩
set_option maxRecDepth 100000 in
set_option maxHeartbeats 8000000 in
theorem gedges_any {N : List PNode} {S P : List (List Int)} {nv sv' pv : Value} {w : World} (hN : NodesAt w nv N) (hS : RowsAt intEl w sv' S) (hP : RowsAt intEl w pv P) (m : Nat) (h1 : N.length = m) (h2 : S.length = m) (h3 : P.length = m) (hm1 : 1 ≤ m) (hm2 : m ≤ 256)
    (tS : totI S ≤ 1024) (tP : totI P = totI S) (aS : ∀ x ∈ S, ascB m x = true) (aP : ∀ x ∈ P, ascB m x = true) (hE : ∀ (a : Nat) (l : List Int), S[a]? = some l → ∀ (j : Nat) (b : Int), l[j]? = some b → ∃ (q : Nat) (r : List Int), b = q ∧ q < m ∧ P[q]? = some r ∧ (a : Int) ∈ r) :
    Calls Tryz.prog 28 #[.agg #[nv, sv', pv]] w (IntQ (totI S) w) := by
  have HS' := Lib.hid hS
  obtain ⟨na, nc, rfl, -⟩ := hN.cell
  obtain ⟨sa, sc, rfl, -⟩ := hS.cell
  obtain ⟨pa, pc, rfl, -⟩ := hP.cell
  have KV := Lib.hid (fun (x : World) (b : Below w.heap.size w x) => gvalid_any (hN.below b) (hS.below b) (hP.below b) m h1 h2 h3 hm1 hm2 tS tP aS aP hE)
  have KS := Lib.hid (fun (x : World) (b : Below w.heap.size w x) => gcount_any S _ x (hS.below b) tS (by rw [h2]; exact aS))
  rw [h1, h2, h3] at KV
  rw [h2] at KS
  rw [h1, h2, h3]
  obtain ⟨W, hW⟩ : ∃ W, w.alloc (.cells #[.slice na m nc, .slice sa m sc, .slice pa m pc] 85) = W := ⟨_, rfl⟩
  obtain ⟨z, hz⟩ : ∃ b, w.heap.size = b := ⟨_, rfl⟩
  have BW := Lib.hid (show Below w.heap.size w W by rw [← hW]; exact (Below.refl _ _).alloc (Nat.le_refl _) _)
  have HX := Lib.hid (show W.heap[z]? = some (.cells #[.slice na m nc, .slice sa m sc, .slice pa m pc] 85 (0, 0)) by rw [← hW, ← hz]; exact heap_alloc_new _ _)
  have HWW := Lib.hid hW
  clear hN hS hP aS aP hE h1 h2 h3 tP tS hW HS'
  obtain ⟨x0, x1, x2⟩ := cells3G HX.out
  go_enter Tryz.func28, Tryz.ntmps28
  go_upto_region 1 with (fail)
  rw [show w.alloc (.cells #[.slice na m nc, .slice sa m sc, .slice pa m pc] 85) = W from HWW.out]
  try rw [hz]
  go_wp2_with fail
  refine (KV.out W BW.out).mono ?_
  rintro e w1 ⟨rfl, b1⟩
  have B1 := Lib.hid (BW.out.trans (b1.mono BW.out.size))
  have HX1 := Lib.hid (lies_below HX.out b1 (lt_heap HX.out))
  clear b1 x0 x1 x2
  obtain ⟨x0, x1, x2⟩ := cells3G HX1.out
  go_wp2_with fail
  refine (KS.out w1 B1.out).mono ?_
  rintro e w2 ⟨rfl, b2⟩
  have B2 := Lib.hid (B1.out.trans (b2.mono B1.out.size))
  clear b2 x0 x1 x2
  go_wp2
  go_ret
  exact ⟨rfl, B2.out⟩
end Go.Proofs.YtipnhmdibkkifaaGreatDoor
set_option linter.unusedVariables false
set_option linter.unusedSimpArgs false
set_option linter.unusedSectionVars false
namespace Go.Proofs.YtipnhmdibkkifaaGreatDoor
variable [Base]
open Go
section
variable {P : Program} {ops : Array Oper} {Q : Exit → Act → World → Prop} {md : Region.Mode} {S : World → Prop}
theorem wpAnyT_firstN {st i : Nat} {oi : Oper} {v : Value} (hst : ops[st]? = none) (hi : ops[i]? = some oi) (hsel : ∀ (j : Nat) (o : Oper) cs b, ops[j]? = some o → o.op ≠ .select cs b)
    (hQ : ∀ c a w, Q (.panic c) (a.put oi.dst v) w → Q (.panic c) a w) :
    ∀ (fuel : Nat) (listed : Array Bool) (a : Act) (w : World),
      (∀ j oj, ops[j]? = some oj → j ≠ i → listed.getD j true = false → (∀ e ∈ oj.after, Region.binds md e = true → e.on ≠ i) → oi.apart ops oj = true) →
      i ∈ Region.ready md ops listed → YieldsIf P ops S oi v a → S w →
      wpAnyT P md ops Q S st fuel (listed.setIfInBounds i true) (a.put oi.dst v) w → wpAnyT P md ops Q S st (fuel + 1) listed a w := by
  intro fuel
  induction fuel with
  | zero =>
    intro listed a w _ hr hy hS H
    refine ⟨fun h => (by rw [h] at hr; cases hr), fun j hj => ?_⟩
    by_cases hji : j = i
    · subst hji; exact hy.wpOp hi hS ⟨fun _ => hS, H⟩
    · have := ready_mono hj hji
      rw [H.1] at this
      cases this
  | succ fuel ih =>
    intro listed a w hfree hr hy hS H
    refine ⟨fun h => (by rw [h] at hr; cases hr), fun j hj => ?_⟩
    by_cases hji : j = i
    · subst hji; exact hy.wpOp hi hS ⟨fun _ => hS, H⟩
    · have hiun := listed_false (mem_ready.1 hr).1
      obtain ⟨hjun, oj, hoj, hall⟩ := mem_ready.1 hj
      have hjst : j ≠ st := fun h => by rw [h, hst] at hoj; cases hoj
      have hnot : ∀ e ∈ oj.after, Region.binds md e = true → e.on ≠ i := fun e he hb heq => by
        have h1 := hall e he hb
        rw [heq, hiun] at h1
        cases h1
      have hstep := wpOp_putIf hoj (hfree j oj hoj hji hjun hnot) (fun cs b => hsel i oi cs b hi) (fun cs b => hsel j oj cs b hoj) hQ hy (H.2 j (ready_mono hj hji))
      refine wpOp_mono (fun a' w' h3 => ⟨h3.2.1, ih (listed.setIfInBounds j true) a' w' ?_ (ready_mono hr (Ne.symm hji)) h3.1 (h3.2.1 hjst) ?_⟩) hstep
      · intro k ok hk hki hun hno
        refine hfree k ok hk hki ?_ hno
        by_cases hjk : j = k
        · subst hjk; exact hjun
        · rw [getD_set_ne true hjk] at hun; exact hun
      · rw [Array.setIfInBounds_comm _ _ hji]
        exact h3.2.2
theorem wpAnyT_pureN {st : Nat} (i : Nat) (d : Option Tmp) (v : Value) {oi : Oper} {fuel : Nat} {listed : Array Bool} {a : Act} {w : World} (hi : ops[i]? = some oi)
    (hs : Region.noSelect ops = true) (hf : Region.free md ops listed i = true) (hr : (Region.ready md ops listed).contains i = true) (hst : ops[st]? = none)
    (hQ : ∀ c a w, Q (.panic c) (a.put oi.dst v) w → Q (.panic c) a w) (hS : S w) (hwant : Region.wanted oi (yielded ops a.tmps) = true)
    (hd : oi.dst = d) (hrun : ∀ w, S w → (execOp a.eval oi).run P w = .ok (.value v) w)
    (h : wpAnyT P md ops Q S st fuel (listed.setIfInBounds i true) (a.put d v) w) : wpAnyT P md ops Q S st (fuel + 1) listed a w := by
  subst hd
  exact wpAnyT_firstN hst hi (Region.noSelect_spec hs) hQ fuel listed a w (Region.free_spec hi hf) (by simpa using hr) (.inl ⟨hwant, hrun⟩) hS h
end
end Go.Proofs.YtipnhmdibkkifaaGreatDoor
