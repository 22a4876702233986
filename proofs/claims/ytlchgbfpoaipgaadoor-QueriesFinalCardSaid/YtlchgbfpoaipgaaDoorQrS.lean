/- Walks: the sanity check of the laws on queries. Printed by wip/gen_qrs.py. -/
import Derived.Test.YtlchgbfpoaipgaaDoorQrG1
import Derived.Test.YtlchgbfpoaipgaaDoorQrW9
set_option linter.unusedVariables false
set_option linter.unusedSimpArgs false
namespace Go.Proofs.YtlchgbfpoaipgaaDoor
open Go.RowKit

def ra : QRec := ⟨[97], 0, 1, 0, 0, 0, zeroSet⟩
def rb : QRec := ⟨[98], 0, 1, 0, 0, 0, zeroSet⟩
def ta : List QRec := [fresh ra]
def tb : List QRec := [turn 2 (emptyS 1) (fresh ra)]
theorem sane1 : submitQ [] ra 1 = (ta, 0) := by decide +kernel
theorem sane2 : submitQ ta rb 1 = ([], 7) := by decide +kernel
theorem sane3 : answerQ ta [97] (emptyS 1) = (tb, 0) := by decide +kernel
theorem sane4 : submitQ tb ra 1 = ([], 6) := by decide +kernel
theorem sane5 : cancelQ tb [97] = ([], 10) := by decide +kernel
theorem sane6 : forgetQ tb [97] = ([], 0) := by decide +kernel
theorem submit_to {B : Nat} {l m : List QRec} {r : QRec} {most e : Int} (hq : submitQ l r most = (m, e)) (v u : Value) (w : World) (KW : KwIn B w) (hB : B ≤ w.heap.size) (h : RecsAt w v l) (hu : WordsAt w u r.value.words) :
    Calls Tryd.prog 7 #[v, recV r u, .int .i64 most] w (TabQ (m, e) w) := hq ▸ submit_any l r most v u w KW hB h hu
theorem answer_to {B : Nat} {l m : List QRec} {x : Str} {s : QSet} {e : Int} (hq : answerQ l x s = (m, e)) (v u : Value) (w : World) (KW : KwIn B w) (hB : B ≤ w.heap.size) (h : RecsAt w v l) (hu : WordsAt w u s.words) :
    Calls Tryd.prog 19 #[v, qs x, setV s u] w (TabQ (m, e) w) := hq ▸ answer_any l x s v u w KW hB h hu
theorem cancel_to {B : Nat} {l m : List QRec} {x : Str} {e : Int} (hq : cancelQ l x = (m, e)) (v : Value) (w : World) (KW : KwIn B w) (hB : B ≤ w.heap.size) (h : RecsAt w v l) :
    Calls Tryd.prog 20 #[v, qs x] w (TabQ (m, e) w) := hq ▸ cancel_any l x v w KW hB h
theorem forget_to {B : Nat} {l m : List QRec} {x : Str} {e : Int} (hq : forgetQ l x = (m, e)) (v : Value) (w : World) (KW : KwIn B w) (hB : B ≤ w.heap.size) (h : RecsAt w v l) :
    Calls Tryd.prog 28 #[v, qs x] w (TabQ (m, e) w) := hq ▸ forget_any l x v w KW hB h
theorem RecsAt.len {w : World} {v : Value} {l : List QRec} {n : Nat} (h : RecsAt w v l) (hn : l.length = n) : ∃ a c, v = .slice a n c := by
  obtain ⟨a, c, rfl, -⟩ := h.cell
  exact ⟨a, c, by rw [hn]⟩
set_option maxHeartbeats 1000000 in
theorem sane_any {B : Nat} (w : World) (KW : KwIn B w) (hB : B ≤ w.heap.size) : Calls Tryd.prog 9 #[] w (BoolQ true w) := by
  have HK := Lib.hid KW
  clear KW
  go_enter Tryd.func9, Tryd.ntmps9
  go_wp2_with fail
  refine (submit_to (B := B) (r := ra) sane1 _ (.slice none 0 0) _ HK.out hB RecsAt.nil WordsAt.nil).mono ?_
  rintro e w1 ⟨v1, rfl, h1, b1⟩
  obtain ⟨v1a, v1c, rfl⟩ := RecsAt.len (n := 1) h1 rfl
  have Hh1 := Lib.hid h1
  have Bb1 := Lib.hid ((Below.refl w.heap.size w).trans (b1.mono (Below.refl w.heap.size w).size))
  clear h1 b1
  go_wp2_with fail
  refine (submit_to (B := B) (r := rb) sane2 _ (.slice none 0 0) _ (HK.out.keep fun q hq => Bb1.out.block q (by omega)) (Nat.le_trans hB Bb1.out.size) Hh1.out WordsAt.nil).mono ?_
  rintro e w2 ⟨v2, rfl, h2, b2⟩
  obtain ⟨v2a, v2c, rfl⟩ := RecsAt.len (n := 0) h2 rfl
  have Hh2 := Lib.hid h2
  have H12 := Lib.hid (Hh1.out.below b2)
  have Bb2 := Lib.hid (Bb1.out.trans (b2.mono Bb1.out.size))
  clear h2 b2
  go_wp2_with fail
  refine (empty_any 1 (by omega) _).mono ?_
  rintro e w3 ⟨u3, rfl, ho, b3⟩
  have Bb3 := Lib.hid (Bb2.out.trans (b3.mono Bb2.out.size))
  have HO := Lib.hid ho.words
  have H13 := Lib.hid (H12.out.below b3)
  clear ho b3
  go_wp2_with fail
  refine (answer_to (B := B) sane3 _ u3 _ (HK.out.keep fun q hq => Bb3.out.block q (by omega)) (Nat.le_trans hB Bb3.out.size) H13.out HO.out).mono ?_
  rintro e w4 ⟨v4, rfl, h4, b4⟩
  obtain ⟨v4a, v4c, rfl⟩ := RecsAt.len (n := 1) h4 rfl
  have Hh4 := Lib.hid h4
  have Bb4 := Lib.hid (Bb3.out.trans (b4.mono Bb3.out.size))
  clear h4 b4
  go_wp2_with fail
  refine (submit_to (B := B) (r := ra) sane4 _ (.slice none 0 0) _ (HK.out.keep fun q hq => Bb4.out.block q (by omega)) (Nat.le_trans hB Bb4.out.size) Hh4.out WordsAt.nil).mono ?_
  rintro e w5 ⟨v5, rfl, h5, b5⟩
  obtain ⟨v5a, v5c, rfl⟩ := RecsAt.len (n := 0) h5 rfl
  have Hh5 := Lib.hid h5
  have H45 := Lib.hid (Hh4.out.below b5)
  have Bb5 := Lib.hid (Bb4.out.trans (b5.mono Bb4.out.size))
  clear h5 b5
  go_wp2_with fail
  refine (cancel_to (B := B) sane5 _ _ (HK.out.keep fun q hq => Bb5.out.block q (by omega)) (Nat.le_trans hB Bb5.out.size) H45.out).mono ?_
  rintro e w6 ⟨v6, rfl, h6, b6⟩
  obtain ⟨v6a, v6c, rfl⟩ := RecsAt.len (n := 0) h6 rfl
  have Hh6 := Lib.hid h6
  have H46 := Lib.hid (H45.out.below b6)
  have Bb6 := Lib.hid (Bb5.out.trans (b6.mono Bb5.out.size))
  clear h6 b6
  go_wp2_with fail
  refine (forget_to (B := B) sane6 _ _ (HK.out.keep fun q hq => Bb6.out.block q (by omega)) (Nat.le_trans hB Bb6.out.size) H46.out).mono ?_
  rintro e w7 ⟨v7, rfl, h7, b7⟩
  obtain ⟨v7a, v7c, rfl⟩ := RecsAt.len (n := 0) h7 rfl
  have Hh7 := Lib.hid h7
  have H47 := Lib.hid (H46.out.below b7)
  have Bb7 := Lib.hid (Bb6.out.trans (b7.mono Bb6.out.size))
  clear h7 b7
  obtain ⟨a9, c9, e9, -, -, -, hc9⟩ := H47.out.cell
  obtain ⟨b9, o9, u9, ea9, hb9, hu9, hcs9⟩ := hc9 0 (turn 2 (emptyS 1) (fresh ra)) rfl
  injection e9 with e9 e10 e11
  subst e9 e11
  rw [ea9]
  have k5 := hcs9 5 (by omega)
  simp only [List.getElem?_cons_zero, List.getElem?_cons_succ, Nat.zero_mul, Nat.add_zero] at k5
  have k6 : w7.cell? ⟨b9, o9 + 5, none⟩ = some (.int .i64 2) := k5
  clear hc9 hcs9 hu9 k5 e10 ea9
  go_wp2
  go_ret
  exact ⟨rfl, Bb7.out⟩
end Go.Proofs.YtlchgbfpoaipgaaDoor
