/- Walks: drawn tables of the laws on queries. Printed by wip/gen_qrg4.py. -/
import Derived.Test.YtlchgbfpoaipgaaDoorQrG3
import Derived.Test.YtlchgbfpoaipgaaDoorQrR7
import Derived.Test.YtlchgbfpoaipgaaDoorQrR8
import Derived.Test.YtlchgbfpoaipgaaDoorQrR9
set_option linter.unusedVariables false
set_option linter.unusedSimpArgs false
set_option linter.unusedSectionVars false
namespace Go.Proofs.YtlchgbfpoaipgaaDoor
open Go.RowKit
variable [Base]

theorem RecsAt.but {B bt : Nat} {w w' : World} {v : Value} {l : List QRec} (h : RecsAt w v l) (ht : TapeOk B w bt) (hb : But bt w w') : RecsAt w' v l := h.keep (hb.sameT ht (by decide)) (hb.sameT ht (by decide))
theorem WordsAt.but {B bt : Nat} {w w' : World} {v : Value} {l : List Nat} (h : WordsAt w v l) (ht : TapeOk B w bt) (hb : But bt w w') : WordsAt w' v l := h.keep (hb.sameT ht (by decide))
/-- A table that is at hand, with the tape. -/
structure TIn (B bt : Nat) (w wr : World) (v : Value) (l : List QRec) : Prop where
  tape : TapeOk B wr bt
  but : But bt w wr
  recs : RecsAt wr v l
  tab : tabB l = true
theorem TIn.next {B bt : Nat} {w wr w2 : World} {v : Value} {l : List QRec} (h : TIn B bt w wr v l) (ht : TapeOk B w2 bt) (hb : But bt wr w2) : TIn B bt w w2 v l := ⟨ht, h.but.trans hb, h.recs.but h.tape hb, h.tab⟩
theorem TIn.below {B bt : Nat} {w wr w2 : World} {v : Value} {l : List QRec} (h : TIn B bt w wr v l) (hb : Below wr.heap.size wr w2) : TIn B bt w w2 v l := ⟨h.tape.below hb, h.but.below hb, h.recs.below hb, h.tab⟩
theorem TIn.turn {B bt : Nat} {w wr w2 : World} {v v2 : Value} {l m : List QRec} (h : TIn B bt w wr v l) (hb : Below wr.heap.size wr w2) (hm : RecsAt w2 v2 m) (ht : tabB m = true) : TIn B bt w w2 v2 m := ⟨h.tape.below hb, h.but.below hb, hm, ht⟩
def TabPost (B bt : Nat) (w : World) (e : Ending) (w' : World) : Prop := ∃ v l, e = .returned v ∧ TIn B bt w w' v l
set_option maxHeartbeats 2000000 in
theorem table_any {B bt : Nat} {w : World} (ht : TapeOk B w bt) : Calls Tryd.prog 12 #[.pointer (some ⟨bt, 0, none⟩)] w (TabPost B bt w) := by
  have HT := Lib.hid ht
  clear ht
  go_enter Tryd.func12, Tryd.ntmps12
  go_wp2_with fail
  refine (next_pos HT.out 16 (by omega) (by omega)).mono ?_
  rintro e w1 ⟨n, n1, n2, rfl, t1, b1⟩
  obtain ⟨n, rfl⟩ := Int.eq_ofNat_of_zero_le n1
  have I0 : Hid (∃ l, TIn B bt w w1 (.slice none 0 0) l) := ⟨[], t1, b1, RecsAt.nil, tab_nil⟩
  clear t1 b1 n1
  go_wp2
  go_loopw [3, 4] (fun y0 y wr => ∃ (i : Nat) (v : Value), i ≤ n ∧ v = y0 ∧ y = .int .i64 i ∧ Hid (∃ l, TIn B bt w wr v l)) (fun _ y _ => (intOf y).toNat)
  case atStart => exact ⟨n, _, Nat.le_refl _, rfl, rfl, I0⟩
  case round =>
    clear I0
    obtain ⟨i, v, hi, rfl, rfl, I⟩ := hrel
    obtain ⟨l, I⟩ := I
    have HI := Lib.hid I
    clear I
    by_cases h0 : i = 0
    · subst h0
      go_wp2
      go_ret
      exact ⟨_, l, rfl, HI.out⟩
    have hpos : 0 < i := by omega
    clear h0
    go_wp2_with fail
    refine (next_pos HI.out.tape 7 (by omega) (by omega)).mono ?_
    rintro e w2 ⟨z, z1, z2, rfl, t2, b2⟩
    have J := Lib.hid (HI.out.next t2 b2)
    clear t2 b2 HI
    by_cases h0 : z = 0
    · subst h0
      go_wp2_with fail
      refine (id_any J.out.tape).mono ?_
      rintro e w3 ⟨x, rfl, t3, b3⟩
      have J3 := Lib.hid (J.out.next t3 b3)
      clear t3 b3
      go_wp2_with fail
      refine (next_pos J3.out.tape 4 (by omega) (by omega)).mono ?_
      rintro e w4 ⟨q, q1, q2, rfl, t4, b4⟩
      have J4 := Lib.hid (J3.out.next t4 b4)
      obtain ⟨q, rfl⟩ := Int.eq_ofNat_of_zero_le q1
      clear t4 b4 q1
      go_wp2_with fail
      refine (set_any q (by omega) _ J4.out.tape).mono ?_
      rintro e w5 ⟨s, u, rfl, hf, hw, hu, t5, b5⟩
      have J5 := Lib.hid (J4.out.next t5 b5)
      clear t5 b5 hf hw
      go_wp2_with fail
      refine (ranswer_any l x s v u _ J5.out.recs hu (Nat.le_trans J5.out.tape.bs (Nat.le_of_lt J5.out.tape.lt))).mono ?_
      rintro e w6 ⟨v6, rfl, h5, b5⟩
      by_cases he : (answerQ l x s).2 = 0
      · have K := Lib.hid (J5.out.turn b5 h5 (answer_tab he))
        have heb : ((answerQ l x s).2 == 0) = true := by simp [he]
        clear h5 b5 he
        go_wp2
        go_roundw
        case rel => exact ⟨i - 1, _, by omega, rfl, by go_num, _, K.out⟩
        case measure => simp [intOf]; omega
      · have K := Lib.hid (J5.out.below b5)
        have heb : ((answerQ l x s).2 == 0) = false := by simpa using he
        clear h5 b5 he
        go_wp2
        go_roundw
        case rel => exact ⟨i - 1, _, by omega, rfl, by go_num, _, K.out⟩
        case measure => simp [intOf]; omega
    by_cases h1 : z = 1
    · subst h1
      go_wp2_with fail
      refine (id_any J.out.tape).mono ?_
      rintro e w3 ⟨x, rfl, t3, b3⟩
      have J3 := Lib.hid (J.out.next t3 b3)
      clear t3 b3
      go_wp2_with fail
      refine (rcancel_any l x v _ J3.out.recs (Nat.le_trans J3.out.tape.bs (Nat.le_of_lt J3.out.tape.lt))).mono ?_
      rintro e w6 ⟨v6, rfl, h5, b5⟩
      by_cases he : (cancelQ l x).2 = 0
      · have K := Lib.hid (J3.out.turn b5 h5 (cancel_tab he))
        have heb : ((cancelQ l x).2 == 0) = true := by simp [he]
        clear h5 b5 he
        go_wp2
        go_roundw
        case rel => exact ⟨i - 1, _, by omega, rfl, by go_num, _, K.out⟩
        case measure => simp [intOf]; omega
      · have K := Lib.hid (J3.out.below b5)
        have heb : ((cancelQ l x).2 == 0) = false := by simpa using he
        clear h5 b5 he
        go_wp2
        go_roundw
        case rel => exact ⟨i - 1, _, by omega, rfl, by go_num, _, K.out⟩
        case measure => simp [intOf]; omega
    by_cases h2 : z = 2
    · subst h2
      go_wp2_with fail
      refine (id_any J.out.tape).mono ?_
      rintro e w3 ⟨x, rfl, t3, b3⟩
      have J3 := Lib.hid (J.out.next t3 b3)
      clear t3 b3
      go_wp2_with fail
      refine (rforget_any l x v _ J3.out.recs).mono ?_
      rintro e w6 ⟨v6, rfl, h5, b5⟩
      by_cases he : (forgetQ l x).2 = 0
      · have K := Lib.hid (J3.out.turn b5 h5 (forget_tab he))
        have heb : ((forgetQ l x).2 == 0) = true := by simp [he]
        clear h5 b5 he
        go_wp2
        go_roundw
        case rel => exact ⟨i - 1, _, by omega, rfl, by go_num, _, K.out⟩
        case measure => simp [intOf]; omega
      · have K := Lib.hid (J3.out.below b5)
        have heb : ((forgetQ l x).2 == 0) = false := by simpa using he
        clear h5 b5 he
        go_wp2
        go_roundw
        case rel => exact ⟨i - 1, _, by omega, rfl, by go_num, _, K.out⟩
        case measure => simp [intOf]; omega
    by_cases h3 : z = 3
    · subst h3
      go_wp2_with fail
      refine (next_pos J.out.tape 3 (by omega) (by omega)).mono ?_
      rintro e w4 ⟨q, q1, q2, rfl, t4, b4⟩
      have J4 := Lib.hid (J.out.next t4 b4)
      clear t4 b4
      go_wp2_with fail
      refine (runload_any l q v _ J4.out.recs (Nat.le_trans J4.out.tape.bs (Nat.le_of_lt J4.out.tape.lt))).mono ?_
      rintro e w6 ⟨v6, iv, rfl, h5, hs, b5⟩
      have K := Lib.hid (J4.out.turn b5 h5 (unload_tab J4.out.tab))
      clear h5 hs b5
      go_wp2
      go_roundw
      case rel => exact ⟨i - 1, _, by omega, rfl, by go_num, _, K.out⟩
      case measure => simp [intOf]; omega
    have e0 : (z == 0) = false := by simpa using h0
    have e1 : (z == 1) = false := by simpa using h1
    have e2 : (z == 2) = false := by simpa using h2
    have e3 : (z == 3) = false := by simpa using h3
    clear h0 h1 h2 h3
    go_wp2_with fail
    refine (record_any J.out.tape).mono ?_
    rintro e w4 ⟨r, u, rfl, hu, t4, b4⟩
    have J4 := Lib.hid (J.out.next t4 b4)
    clear t4 b4
    go_wp2_with fail
    refine (rsubmit_any l r 4 v u _ J4.out.recs hu).mono ?_
    rintro e w6 ⟨v6, rfl, h5, b5⟩
    by_cases he : (submitQ l r 4).2 = 0
    · have K := Lib.hid (J4.out.turn b5 h5 (submit_tab he))
      have heb : ((submitQ l r 4).2 == 0) = true := by simp [he]
      clear h5 b5 he
      go_wp2
      go_roundw
      case rel => exact ⟨i - 1, _, by omega, rfl, by go_num, _, K.out⟩
      case measure => simp [intOf]; omega
    · have K := Lib.hid (J4.out.below b5)
      have heb : ((submitQ l r 4).2 == 0) = false := by simpa using he
      clear h5 b5 he
      go_wp2
      go_roundw
      case rel => exact ⟨i - 1, _, by omega, rfl, by go_num, _, K.out⟩
      case measure => simp [intOf]; omega
end Go.Proofs.YtlchgbfpoaipgaaDoor
