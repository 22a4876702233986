/- The law BitsetMakes: the walk. -/
import Derived.Test.YtmanmlankfoflaaDoorBsMk
import Derived.Test.YtmanmlankfoflaaDoorBsSa
import Derived.Test.YtmanmlankfoflaaDoorBsG5
set_option linter.unusedVariables false
set_option linter.unusedSimpArgs false
set_option linter.unusedSectionVars false
namespace Go.Proofs.YtmanmlankfoflaaDoor
open Go.RowKit
variable [Base]

theorem makes_any (k : Int) (l : List Int) (v0 : Value) (w : World) (hl : IntsAt w v0 l) : Calls Tryd.prog 15 #[.int .i64 k, v0] w (BoolQ true w) := by
  rcases Bool.eq_false_or_eq_true (rangedB k) with h | h
  · have h2 : 0 ≤ k ∧ k ≤ 256 := by unfold rangedB at h; simpa using h
    obtain ⟨m, rfl⟩ := Int.eq_ofNat_of_zero_le h2.1
    exact makes_yes m (by omega) l v0 w hl
  · exact makes_no k h l v0 w hl
/-- A list that is being drawn. -/
structure LIn (B bt : Nat) (w0 wr : World) (v : Value) (l : List Int) : Prop where
  tape : TapeOk B wr bt
  but : But bt w0 wr
  own : wr.ownsRow w0.heap.size 3 1 v l.length (l.map iv)
  old : bt < w0.heap.size
theorem LIn.next {B bt : Nat} {w0 wr w2 : World} {v : Value} {l : List Int} (h : LIn B bt w0 wr v l) (ht : TapeOk B w2 bt) (hb : But bt wr w2) : LIn B bt w0 w2 v l := by
  have o4 := h.old
  refine ⟨ht, h.but.trans hb, ⟨h.own.1, ?_⟩, h.old⟩
  rcases h.own.2 with hn | ⟨g, cap, cur, rfl, hg, hh, rest⟩
  · exact .inl hn
  · exact .inr ⟨g, cap, cur, rfl, hg, (hb.block g (lt_heap hh) (by omega)).trans hh, rest⟩
theorem LIn.push {B bt : Nat} {w0 wr w2 : World} {v v2 : Value} {l : List Int} {x : Int} (h : LIn B bt w0 wr v l) (ho : w2.ownsRow w0.heap.size 3 1 v2 (l.length + 1) (l.map iv ++ [iv x])) (hg : wr.grownBy w2 v.ownBlock) : LIn B bt w0 w2 v2 (l ++ [x]) := by
  have o4 := h.old
  have hge := h.tape.ge
  have hb : Below w0.heap.size wr w2 := Below.of_grown hg h.own (by have := h.but.size; omega)
  refine ⟨h.tape.keep (hb.block bt o4) (fun k hk => hb.block k (by omega)) hb.size, ⟨hb.os.trans h.but.os, hb.tape.trans h.but.tape, hb.output.trans h.but.output, Nat.le_trans h.but.size hb.size, fun k hk hn => (hb.block k hk).trans (h.but.block k hk hn)⟩, ?_, h.old⟩
  rw [List.length_append, List.map_append]
  exact ho
theorem LIn.ints {B bt : Nat} {w0 wr : World} {v : Value} {l : List Int} (h : LIn B bt w0 wr v l) : IntsAt wr v l := SliceAt.of_owns h.own
theorem LIn.nil {B bt : Nat} {w0 wr : World} (ht : TapeOk B wr bt) (hb : But bt w0 wr) (ho : bt < w0.heap.size) : LIn B bt w0 wr (.slice none 0 0) [] := ⟨ht, hb, World.ownsRow_nil _ _ _ _, ho⟩
theorem LIn.shape {B bt : Nat} {w0 wr : World} {v : Value} {l : List Int} (h : LIn B bt w0 wr v l) : ∃ a c, v = .slice a l.length c ∧ l.length ≤ c ∧ c ≤ maxLen := own_slice h.own
theorem eight_at {w : World} {b q : Nat} {x0 x1 x2 x3 x4 x5 x6 x7 : Int} {T : TypeId} (h : ∀ o, w.cell? ⟨b, o, none⟩ = (#[iv x0, iv x1, iv x2, iv x3, iv x4, iv x5, iv x6, iv x7] : Array Value)[o]?) (hq : q < 8)
    (hx : ∀ x ∈ [x0, x1, x2, x3, x4, x5, x6, x7], -1 ≤ x ∧ x ≤ 257) : ∃ z, -1 ≤ z ∧ z ≤ 257 ∧ w.cell? ⟨b, q, none⟩ = some (iv z) := by
  have hc := h q
  have hq' : q = 0 ∨ q = 1 ∨ q = 2 ∨ q = 3 ∨ q = 4 ∨ q = 5 ∨ q = 6 ∨ q = 7 := by omega
  rcases hq' with rfl | rfl | rfl | rfl | rfl | rfl | rfl | rfl
  · exact ⟨x0, (hx x0 (by simp)).1, (hx x0 (by simp)).2, hc⟩
  · exact ⟨x1, (hx x1 (by simp)).1, (hx x1 (by simp)).2, hc⟩
  · exact ⟨x2, (hx x2 (by simp)).1, (hx x2 (by simp)).2, hc⟩
  · exact ⟨x3, (hx x3 (by simp)).1, (hx x3 (by simp)).2, hc⟩
  · exact ⟨x4, (hx x4 (by simp)).1, (hx x4 (by simp)).2, hc⟩
  · exact ⟨x5, (hx x5 (by simp)).1, (hx x5 (by simp)).2, hc⟩
  · exact ⟨x6, (hx x6 (by simp)).1, (hx x6 (by simp)).2, hc⟩
  · exact ⟨x7, (hx x7 (by simp)).1, (hx x7 (by simp)).2, hc⟩
set_option maxRecDepth 100000 in
set_option maxHeartbeats 4000000 in
theorem makesLaw_any (w0 : World) (a : Option Addr) (n c : Nat) (hn : n ≤ maxLen)
    (h : ∀ j : Nat, j < n → ∃ b off z, a = some ⟨b, off, none⟩ ∧ b < w0.heap.size ∧ w0.cell? ⟨b, off + j, none⟩ = some (.int .i64 z)) (KT : TabsIn w0.heap.size w0) (hbs : Base.b ≤ w0.heap.size)
    (k : Int) (l : List Int) (v0 : Value) (hl : IntsAt w0 v0 l) :
    Calls Tryd.prog 4 #[.slice a n c, .int .i64 k, v0] w0 (BoolQ true w0) := by
  have H := Lib.hid h
  have HK := Lib.hid KT
  have HL := Lib.hid hl
  have hud : ∀ b : Bool, (undef = Value.bool b) = False := fun b => by simp [undef]
  obtain ⟨la, lc, rfl, hlm, -⟩ := hl.cell
  obtain ⟨ln, hln⟩ : ∃ ln, l.length = ln := ⟨_, rfl⟩
  rw [hln] at HL hlm ⊢
  clear h KT hl hln
  go_enter Tryd.func4, Tryd.ntmps4
  go_wp2_with fail
  refine (new_any rfl a n c hn H.out).mono ?_
  rintro e w1 ⟨rfl, ht, hb⟩
  have T1 := Lib.hid ht
  have B1 := Lib.hid hb
  clear ht hb
  go_wp2_with fail
  go_loopw [8] (fun y8 wr => ∃ i : Nat, i ≤ 4 ∧ y8 = .int .i64 i ∧ Hid (TapeOk w0.heap.size wr w0.heap.size) ∧ Hid (Below w0.heap.size w0 wr)) (fun y _ => 4 - (intOf y).toNat)
  case atStart => exact ⟨0, by omega, rfl, T1, B1⟩
  case round =>
    clear T1 B1
    obtain ⟨i, hi, rfl, HT, HB⟩ := hrel
    by_cases hlt : i < 4
    · have i2 : (i : Int) < 4 := by omega
      go_wp2_with fail
      refine (next_pos2 (HT.out.alloc _) 8 (by omega) (by omega)).mono ?_
      rintro e w2 ⟨q, q1, q2, rfl, t2, b2⟩
      obtain ⟨q, rfl⟩ := Int.eq_ofNat_of_zero_le q1
      have q3 : (q : Int) < 8 := q2
      have hne : wr.heap.size ≠ w0.heap.size := by have := HT.out.lt; omega
      obtain ⟨z, z1, z2, hz⟩ := eight_at (w := w2) (b := wr.heap.size) (q := q) (x0 := 0) (x1 := 5) (x2 := 63) (x3 := 64) (x4 := 65) (x5 := 256) (x6 := 257) (x7 := -1) (T := 3)
        (fun o => (b2.cell wr.heap.size o (by simp) hne).trans (by simp only [World.cell?, heap_alloc_new]; rfl)) (by omega) (by decide)
      have B2 := Lib.hid (HB.out.trans ((((But.refl w0.heap.size wr).alloc _).trans b2).toBelow (Nat.le_refl _) HB.out.size))
      have T2 := Lib.hid t2
      clear t2 b2 HT
      go_wp2_with fail
      refine (next_pos2 T2.out 6 (by omega) (by omega)).mono ?_
      rintro e w3 ⟨n3, n1, n2, rfl, t3, b3⟩
      obtain ⟨n3, rfl⟩ := Int.eq_ofNat_of_zero_le n1
      have B3 := Lib.hid (B2.out.trans (b3.toBelow (Nat.le_refl _) B2.out.size))
      have L3 := Lib.hid (LIn.nil t3 (But.refl _ w3) t3.lt)
      clear t3 b3 hz
      go_wp2
      go_loopw [10, 11] (fun y10 y11 wr => ∃ (j : Nat) (l : List Int), j + l.length ≤ 5 ∧ y11 = .int .i64 j ∧ Hid (LIn w0.heap.size w0.heap.size w3 wr y10 l)) (fun _ y _ => (intOf y).toNat)
      case atStart => exact ⟨n3, [], by simp; omega, rfl, L3⟩
      case round =>
        clear L3
        obtain ⟨j, m, hj, rfl, I⟩ := hrel
        obtain ⟨ma, mc, rfl, -, -⟩ := I.out.shape
        by_cases hj0 : j = 0
        · subst hj0
          go_wp2_with fail
          refine (makes_any z m _ _ I.out.ints).mono ?_
          rintro e w4 ⟨rfl, b4⟩
          have T4 := Lib.hid (I.out.tape.below b4)
          have B4 := Lib.hid (B3.out.trans ((I.out.but.toBelow (Nat.le_refl _) B3.out.size).trans (b4.mono (Nat.le_trans B3.out.size I.out.but.size))))
          clear b4 I
          go_wp2
          go_roundw
          case rel => exact ⟨i + 1, by omega, by go_num, T4, B4⟩
          case measure => simp [intOf]; omega
        · have j1 : (0 : Int) < (j : Int) := by omega
          obtain ⟨mx, hmx⟩ : ∃ mx, max z 1 = mx := ⟨_, rfl⟩
          have mx1 : 1 ≤ mx ∧ mx ≤ 257 := by omega
          obtain ⟨ml, hml⟩ : ∃ ml, m.length = ml := ⟨_, rfl⟩
          rw [hml] at hj I ⊢
          have ML := Lib.hid hml
          clear hml
          go_wp2_with fail
          refine (next_pos2 I.out.tape (mx + 1) (by omega) (by omega)).mono ?_
          rintro e w4 ⟨x, x1, x2, rfl, t4, b4⟩
          have J := Lib.hid (I.out.next t4 b4)
          clear t4 b4 I
          go_wp2_with fail
          refine (next_pos2 J.out.tape 8 (by omega) (by omega)).mono ?_
          rintro e w5 ⟨y, y1, y2, rfl, t5, b5⟩
          have I := Lib.hid (J.out.next t5 b5)
          clear t5 b5 J
          have hq7 : 0 ≤ y.tdiv 7 ∧ y.tdiv 7 ≤ 1 := by rw [Int.tdiv_eq_ediv_of_nonneg y1]; omega
          obtain ⟨yq, hyq⟩ : ∃ yq, y.tdiv 7 = yq := ⟨_, rfl⟩
          rw [hyq] at hq7
          have OWN := Lib.hid (show w5.ownsRow w3.heap.size 3 1 (.slice ma ml mc) ml (m.map iv) by have h := I.out.own; rw [ML.out] at h; exact h)
          go_wp2_with (at_builtin; go_must (refine wpList_push [iv (x - yq)] rfl _ _ 22 rfl w3.heap.size 3 _ 1 8 Tryd.underlying22 info_int rfl (by decide) _ ml _ OWN.out rfl rfl rfl rfl (by unfold maxLen; omega) (by omega) I.out.but.size ?_; intro g cap w6 own2 gr2 p1 p2; have OW2 := Lib.hid own2; have GR2 := Lib.hid gr2; clear own2 gr2 p1 p2))
          have L6 := Lib.hid (I.out.push (x := x - yq) (by rw [ML.out]; exact OW2.out) GR2.out)
          go_roundw
          case rel => exact ⟨j - 1, _, by rw [List.length_append, ML.out]; simp; omega, by go_num, L6⟩
          case measure => simp [intOf]; omega
    · obtain rfl : i = 4 := by omega
      have T4 := Lib.hid (TabsIn.below HK.out HB.out)
      have L4 := Lib.hid (HL.out.below HB.out)
      by_cases hl6 : 60 < ln
      · have g1 : decide ((60 : Int) < (ln : Int)) = true := by simp; omega
        have g2 : decide (60 < ln) = true := by simp; omega
        go_wp2
        go_ret
        exact ⟨rfl, HB.out⟩
      · have g1 : decide ((60 : Int) < (ln : Int)) = false := by simp; omega
        have g2 : decide (60 < ln) = false := by simp; omega
        go_wp2_with fail
        refine (makes_any k l _ _ L4.out).mono ?_
        rintro e w5 ⟨rfl, b5⟩
        have B5 := Lib.hid (HB.out.trans (b5.mono HB.out.size))
        clear b5
        go_wp2_with fail
        refine (sane_any w5 (TabsIn.below HK.out B5.out) B5.out.size).mono ?_
        rintro e w6 ⟨rfl, b6⟩
        have B6 := Lib.hid (B5.out.trans (b6.mono B5.out.size))
        clear b6
        go_wp2
        go_ret
        exact ⟨rfl, B6.out⟩
end Go.Proofs.YtmanmlankfoflaaDoor
