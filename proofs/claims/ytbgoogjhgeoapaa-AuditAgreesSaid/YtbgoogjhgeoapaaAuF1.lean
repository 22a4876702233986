/- Walks: flqref30.begins, gone, leave, find, fair. -/
import Derived.Test.YtbgoogjhgeoapaaAuG6
import Derived.Test.YtbgoogjhgeoapaaHold3
import Derived.BigQuiet
import Derived.Deep.Cut
import Derived.Deep.QuietTactic
set_option linter.unusedVariables false
set_option linter.unusedSimpArgs false
set_option linter.unusedSectionVars false
namespace Go.Proofs.Ytbgoogjhgeoapaa
open Go.RowKit
variable [Base]

theorem drop_take_cons {l : List TV} {to i : Nat} (h1 : i < to) (h2 : to ≤ l.length) {x : TV} (hx : l[i]? = some x) : (l.take to).drop i = x :: (l.take to).drop (i + 1) := by
  obtain ⟨q1, rfl⟩ := List.getElem?_eq_some_iff.1 hx
  rw [List.drop_eq_getElem_cons (by rw [List.length_take]; omega)]
  simp
theorem drop_take_end {l : List TV} {to i : Nat} (h1 : to ≤ i) : (l.take to).drop i = [] := List.drop_eq_nil_of_le (by rw [List.length_take]; omega)
theorem begins_cons (x : TV) (l : List TV) (q : Int) : begins (x :: l) q = (if x.q = q ∧ 0 < x.qu then 1 else 0) + begins l q := by
  unfold begins
  rw [List.countP_cons]
  by_cases h1 : x.q = q <;> by_cases h2 : 0 < x.qu <;> simp [h1, h2] <;> omega
theorem goneB_cons (x : TV) (l : List TV) (q : Int) : goneB (x :: l) q = ((decide (x.q = q) && x.fin) || goneB l q) := by
  unfold goneB; simp
set_option maxHeartbeats 2000000 in
theorem rbegins_any (l : List TV) (v : Value) (w : World) (h : TurnsAt w v l) (fr to : Nat) (hto : to ≤ l.length) (q : Int) : Calls Try.prog 45 #[v, iv fr, iv to, iv q] w (IntQ (begins ((l.take to).drop fr) q) w) := by
  obtain ⟨a, c, rfl, hn, -, -, hc⟩ := h.cell
  obtain ⟨n, hl⟩ : ∃ n, l.length = n := ⟨_, rfl⟩
  rw [hl] at hn hto ⊢
  have HC := Lib.hid hc
  have HL := Lib.hid hl
  have HTO := Lib.hid hto
  clear hc h hl
  unfold maxLen at hn
  go_enter Try.func45, Try.ntmps45
  go_wp2_with fail
  go_loop [9, 10] (fun y9 y10 => ∃ (i m : Nat), y9 = .int .i64 m ∧ y10 = .int .i64 i ∧ (i ≤ to ∨ i = fr) ∧ m ≤ i ∧ Hid (begins ((l.take to).drop fr) q = m + begins ((l.take to).drop i) q)) (fun _ y => to - (intOf y).toNat)
  case atStart => exact ⟨fr, 0, rfl, rfl, .inr rfl, Nat.zero_le _, Lib.hid (Nat.zero_add _).symm⟩
  case round =>
    obtain ⟨i, m, rfl, rfl, hi, hm, HF⟩ := hrel
    by_cases hlt : i < to
    · obtain ⟨x, hx⟩ : ∃ x, l[i]? = some x := ⟨_, List.getElem?_eq_getElem (show i < l.length by have := HL.out; omega)⟩
      obtain ⟨rb, off, rfl, hrb, hcs⟩ := HC.out i x hx
      have g0 := hcs 0 (by omega)
      have g1 := hcs 1 (by omega)
      simp only [turnC, List.getElem?_cons_zero, List.getElem?_cons_succ, Nat.add_zero] at g0 g1
      have hF2 : begins ((l.take to).drop fr) q = m + ((if x.q = q ∧ 0 < x.qu then 1 else 0) + begins ((l.take to).drop (i + 1)) q) := by
        have h1 := HF.out
        rw [drop_take_cons hlt (by rw [HL.out]; exact HTO.out) hx, begins_cons] at h1
        exact h1
      have hin : (i : Int) < (n : Int) := by omega
      clear hcs hx hi
      by_cases hq : x.q = q
      · have hqb : (x.q == q) = true := by simpa using hq
        by_cases hu : 0 < x.qu
        · have HF3 := Lib.hid (show begins ((l.take to).drop fr) q = (m + 1) + begins ((l.take to).drop (i + 1)) q by rw [hF2, if_pos ⟨hq, hu⟩]; omega)
          clear hF2 hq
          go_wp2
          go_round
          case rel => exact ⟨i + 1, m + 1, by go_num, by go_num, .inl hlt, by omega, HF3⟩
          case measure => simp [intOf]; omega
        · have HF3 := Lib.hid (show begins ((l.take to).drop fr) q = m + begins ((l.take to).drop (i + 1)) q by rw [hF2, if_neg (fun h => hu h.2)]; omega)
          clear hF2 hq
          go_wp2
          go_round
          case rel => exact ⟨i + 1, m, rfl, by go_num, .inl hlt, by omega, HF3⟩
          case measure => simp [intOf]; omega
      · have hqb : (x.q == q) = false := by simpa using hq
        have HF3 := Lib.hid (show begins ((l.take to).drop fr) q = m + begins ((l.take to).drop (i + 1)) q by rw [hF2, if_neg (fun h => hq h.1)]; omega)
        clear hF2 hq
        go_wp2
        go_round
        case rel => exact ⟨i + 1, m, rfl, by go_num, .inl hlt, by omega, HF3⟩
        case measure => simp [intOf]; omega
    · have HE := Lib.hid (show begins ((l.take to).drop fr) q = m by rw [HF.out, drop_take_end (by omega)]; rfl)
      go_wp2
      go_ret
      exact ⟨ret_intQ (by rw [HE.out]), Below.refl _ _⟩
set_option maxHeartbeats 2000000 in
theorem rgone_any (l : List TV) (v : Value) (w : World) (h : TurnsAt w v l) (to : Nat) (hto : to ≤ l.length) (q : Int) : Calls Try.prog 46 #[v, iv to, iv q] w (BoolQ (goneB (l.take to) q) w) := by
  obtain ⟨a, c, rfl, hn, -, -, hc⟩ := h.cell
  obtain ⟨n, hl⟩ : ∃ n, l.length = n := ⟨_, rfl⟩
  rw [hl] at hn hto ⊢
  have HC := Lib.hid hc
  have HL := Lib.hid hl
  have HTO := Lib.hid hto
  clear hc h hl
  unfold maxLen at hn
  go_enter Try.func46, Try.ntmps46
  go_wp2_with fail
  go_loop [7] (fun y => ∃ (i : Nat), y = .int .i64 i ∧ i ≤ to ∧ Hid (goneB (l.take to) q = goneB ((l.take to).drop i) q)) (fun y => to - (intOf y).toNat)
  case atStart => exact ⟨0, rfl, Nat.zero_le _, rfl⟩
  case round =>
    obtain ⟨i, rfl, hi, HF⟩ := hrel
    by_cases hlt : i < to
    · obtain ⟨x, hx⟩ : ∃ x, l[i]? = some x := ⟨_, List.getElem?_eq_getElem (show i < l.length by have := HL.out; omega)⟩
      obtain ⟨rb, off, rfl, hrb, hcs⟩ := HC.out i x hx
      have g0 := hcs 0 (by omega)
      have g4 := hcs 4 (by omega)
      simp only [turnC, List.getElem?_cons_zero, List.getElem?_cons_succ, Nat.add_zero] at g0 g4
      have hF2 : goneB (l.take to) q = ((decide (x.q = q) && x.fin) || goneB ((l.take to).drop (i + 1)) q) := by
        have h1 := HF.out
        rw [drop_take_cons hlt (by rw [HL.out]; exact HTO.out) hx, goneB_cons] at h1
        exact h1
      have hin : (i : Int) < (n : Int) := by omega
      clear hcs hx
      obtain ⟨fb, hfb⟩ : ∃ b, x.fin = b := ⟨_, rfl⟩
      rw [hfb] at g4 hF2
      by_cases hq : x.q = q
      · have hqb : (x.q == q) = true := by simpa using hq
        cases fb with
        | true =>
          have HE := Lib.hid (show goneB (l.take to) q = true by rw [hF2, decide_eq_true hq]; rfl)
          clear hF2 hq hfb
          go_wp2
          go_ret
          exact ⟨ret_boolQ HE.out.symm, Below.refl _ _⟩
        | false =>
          have HF3 := Lib.hid (show goneB (l.take to) q = goneB ((l.take to).drop (i + 1)) q by rw [hF2, Bool.and_false, Bool.false_or])
          clear hF2 hq hfb
          go_wp2
          go_round
          case rel => exact ⟨i + 1, by go_num, hlt, HF3⟩
          case measure => simp [intOf]; omega
      · have hqb : (x.q == q) = false := by simpa using hq
        have HF3 := Lib.hid (show goneB (l.take to) q = goneB ((l.take to).drop (i + 1)) q by rw [hF2, decide_eq_false hq, Bool.false_and, Bool.false_or])
        clear hF2 hq hfb
        go_wp2
        go_round
        case rel => exact ⟨i + 1, by go_num, hlt, HF3⟩
        case measure => simp [intOf]; omega
    · have HE := Lib.hid (show goneB (l.take to) q = false by rw [HF.out, drop_take_end (by omega)]; rfl)
      go_wp2
      go_ret
      exact ⟨ret_boolQ HE.out.symm, Below.refl _ _⟩
theorem rfleave_any (x : TV) (w : World) : Calls Try.prog 40 #[turnV x] w (BoolQ (leaveB x) w) := by
  unfold turnV
  have hb := heap_alloc_new w (.cells #[iv x.q, iv x.qu, iv x.st, iv x.co, .bool x.fin] 53)
  obtain ⟨x0, x1, x2, x3, x4⟩ := cells5 hb
  have BW : Below w.heap.size w (w.alloc (.cells #[iv x.q, iv x.qu, iv x.st, iv x.co, .bool x.fin] 53)) := (Below.refl _ _).alloc (Nat.le_refl _) _
  obtain ⟨W, hW⟩ : ∃ W, w.alloc (.cells #[iv x.q, iv x.qu, iv x.st, iv x.co, .bool x.fin] 53) = W := ⟨_, rfl⟩
  rw [hW] at x0 x1 x2 x3 x4 BW
  have HW := Lib.hid hW
  have HB := Lib.hid BW
  clear hb hW BW x0 x3
  have hud : ∀ b : Bool, (undef = Value.bool b) = False := fun b => by simp [undef]
  by_cases h1 : x.qu = 0
  · have k1 : (x.qu == 0) = true := by simpa using h1
    by_cases h2 : x.st = 0
    · have k2 : (x.st == 0) = true := by simpa using h2
      have HE := Lib.hid (show leaveB x = x.fin by unfold leaveB; simp [h1, h2])
      clear h1 h2
      go_enter Try.func40, Try.ntmps40
      go_upto_region 1 with (fail)
      rw [show w.alloc (.cells #[iv x.q, iv x.qu, iv x.st, iv x.co, .bool x.fin] 53) = W from HW.out]
      go_wp2
      go_ret
      exact ⟨ret_boolQ HE.out.symm, HB.out⟩
    · have k2 : (x.st == 0) = false := by simpa using h2
      have HE := Lib.hid (show leaveB x = false by unfold leaveB; simp [h2])
      clear h1 h2
      go_enter Try.func40, Try.ntmps40
      go_upto_region 1 with (fail)
      rw [show w.alloc (.cells #[iv x.q, iv x.qu, iv x.st, iv x.co, .bool x.fin] 53) = W from HW.out]
      go_wp2
      go_ret
      exact ⟨ret_boolQ HE.out.symm, HB.out⟩
  · have k1 : (x.qu == 0) = false := by simpa using h1
    have HE := Lib.hid (show leaveB x = false by unfold leaveB; simp [h1])
    clear h1
    go_enter Try.func40, Try.ntmps40
    go_upto_region 1 with (fail)
    rw [show w.alloc (.cells #[iv x.q, iv x.qu, iv x.st, iv x.co, .bool x.fin] 53) = W from HW.out]
    go_wp2
    go_ret
    exact ⟨ret_boolQ HE.out.symm, HB.out⟩
/-! ### the reference's accounts in memory -/
def rC (a : RAcc) : List Value := [iv a.query, iv a.df, iv a.turns, .bool a.fin, .bool (a.may.getD 0 false), .bool (a.may.getD 1 false), .bool (a.may.getD 2 false), .bool (a.may.getD 3 false), iv a.seen]
def AccsAt (w : World) (v : Value) (l : List RAcc) : Prop := SliceAt w 83 9 v (l.map rC).flatten
theorem rC_len (l : List RAcc) : ∀ x ∈ l.map rC, x.length = 9 := by
  intro x hx
  obtain ⟨y, _, rfl⟩ := List.mem_map.1 hx
  rfl
theorem AccsAt.below {w w' : World} {v : Value} {l : List RAcc} (h : AccsAt w v l) (hb : Below w.heap.size w w') : AccsAt w' v l := SliceAt.same h (SameT.below hb)
theorem AccsAt.cell {w : World} {v : Value} {l : List RAcc} (h : AccsAt w v l) : ∃ a c, v = .slice a l.length c ∧ l.length ≤ maxLen ∧ l.length ≤ c ∧ c ≤ maxLen ∧ ∀ k x, l[k]? = some x → ∃ b off, a = some ⟨b, off, none⟩ ∧ b < w.heap.size ∧
    ∀ j, j < 9 → w.cell? ⟨b, off + k * 9 + j, none⟩ = (rC x)[j]? := by
  obtain ⟨a, c, e, hm, h3, h4, hc⟩ := rows_lie h (rC_len l) (by omega)
  rw [List.length_map] at e hm h3
  refine ⟨a, c, e, hm, h3, h4, fun k x hk => ?_⟩
  obtain ⟨b, off, h5, h6, _, h7⟩ := hc k (rC x) (by rw [List.getElem?_map, hk]; rfl)
  exact ⟨b, off, h5, h6, h7⟩
/-- An account's place. -/
def placeR (q : Int) : Nat → List RAcc → Int
  | _, [] => -1
  | k, a :: l => if a.query = q then (k : Int) else placeR q (k + 1) l
theorem placeR_drop {l : List RAcc} {q : Int} {i : Nat} {s : RAcc} (h : l[i]? = some s) : placeR q i (l.drop i) = if s.query = q then (i : Int) else placeR q (i + 1) (l.drop (i + 1)) := by
  obtain ⟨h1, rfl⟩ := List.getElem?_eq_some_iff.1 h
  rw [List.drop_eq_getElem_cons h1]
  rfl
theorem placeR_end {l : List RAcc} {q : Int} {i : Nat} (h : l.length ≤ i) : placeR q i (l.drop i) = -1 := by
  rw [List.drop_eq_nil_of_le h]; rfl
set_option maxHeartbeats 2000000 in
theorem rfind_any (l : List RAcc) (v : Value) (w : World) (h : AccsAt w v l) (q : Int) : Calls Try.prog 39 #[v, iv q] w (IntQ (placeR q 0 l) w) := by
  obtain ⟨a, c, rfl, hn, -, -, hc⟩ := h.cell
  obtain ⟨n, hl⟩ : ∃ n, l.length = n := ⟨_, rfl⟩
  rw [hl] at hn ⊢
  have HC := Lib.hid hc
  have HL := Lib.hid hl
  clear hc h hl
  unfold maxLen at hn
  go_enter Try.func39, Try.ntmps39
  go_wp2_with fail
  go_loop [5] (fun y => ∃ i : Nat, i ≤ n ∧ y = .int .i64 i ∧ Hid (placeR q 0 l = placeR q i (l.drop i))) (fun y => n - (intOf y).toNat)
  case atStart => exact ⟨0, Nat.zero_le _, rfl, rfl⟩
  case round =>
    obtain ⟨i, hi, rfl, HF⟩ := hrel
    by_cases hlt : i < n
    · obtain ⟨s, hs⟩ : ∃ s, l[i]? = some s := ⟨_, List.getElem?_eq_getElem (show i < l.length by have := HL.out; omega)⟩
      obtain ⟨rb, off, rfl, hrb, hcs⟩ := HC.out i s hs
      have g0 := hcs 0 (by omega)
      simp only [rC, List.getElem?_cons_zero, Nat.add_zero] at g0
      have FD := placeR_drop (q := q) hs
      by_cases hx : s.query = q
      · rw [if_pos hx] at FD
        have FE := Lib.hid (HF.out.trans FD)
        have hxb : (s.query == q) = true := by simpa using hx
        clear hcs hs hx FD HC
        go_wp2
        go_ret
        exact ⟨ret_intQ FE.out.symm, Below.refl _ _⟩
      · rw [if_neg hx] at FD
        have FE := Lib.hid (HF.out.trans FD)
        have hxb : (s.query == q) = false := by simpa using hx
        clear hcs hs hx FD HC
        go_wp2
        go_round
        case rel => exact ⟨i + 1, by omega, by go_num, FE⟩
        case measure => simp [intOf]; omega
    · have FE := Lib.hid (HF.out.trans (placeR_end (by have := HL.out; omega)))
      go_wp2
      go_ret
      exact ⟨ret_intQ FE.out.symm, Below.refl _ _⟩
end Go.Proofs.Ytbgoogjhgeoapaa
