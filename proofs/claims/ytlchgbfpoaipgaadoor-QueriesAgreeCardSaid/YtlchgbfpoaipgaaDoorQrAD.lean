/- 'flqlaw24.QueriesAgree' returns true at every input: all functions of the table of queries agree with the reference, on drawn tables, on changed ones and on the given one. The keywords' variable holds what the program's text lays (the given tie). No condition beyond the statement's own. (nobase) -/
import Derived.Test.YtlchgbfpoaipgaaDoorQrR2
import Derived.BigQuiet
import Derived.RegionTactic
import Derived.BigRegion
import Derived.Test.YtlchgbfpoaipgaaDoorQrG1
import Derived.Test.YtlchgbfpoaipgaaDoorQrW9
import Derived.Test.YtlchgbfpoaipgaaDoorQrR7
import Derived.Test.YtlchgbfpoaipgaaDoorQrR8
import Derived.Test.YtlchgbfpoaipgaaDoorQrR9
import Derived.Test.YtlchgbfpoaipgaaDoorQrG4
import Derived.Test.YtlchgbfpoaipgaaDoorQrG5
import Derived.Test.YtlchgbfpoaipgaaDoorQryN
import Derived.ProofKit
import Derived.Deep.Slices
import Derived.Deep.Fields
import Derived.ChangeSame
import Derived.ChangeMaps5
import Derived.Test.YtlchgbfpoaipgaaDoorKw
import Derived.Test.YtlchgbfpoaipgaaDoorCards
import Derived.Test.YtlchgbfpoaipgaaDoorTie
import Derived.LaidMore
import Derived.OpenShut
import Derived.Carry
import Derived.Deep.Strs
import Derived.ChangeOld
import Derived.Stop.Joined
import Derived.SevenTiedAt
set_option linter.unusedVariables false
set_option linter.unusedSimpArgs false
set_option linter.unusedSectionVars false
/- Walks: the reference's Same of sets, at equal sets. -/
namespace Go.Proofs.YtlchgbfpoaipgaaDoor
open Go.RowKit
variable [Base]

set_option maxHeartbeats 1000000 in
theorem rsame_any (s : QSet) (u1 u2 : Value) (w : World) (h1 : WordsAt w u1 s.words) (h2 : WordsAt w u2 s.words) : Calls Tryd.prog 40 #[setV s u1, setV s u2] w (BoolQ true w) := by
  obtain ⟨a1, c1, rfl, hm, -, -, hk1⟩ := h1.cell
  obtain ⟨a2, c2, rfl, -, -, -, hk2⟩ := h2.cell
  obtain ⟨n, hn⟩ : ∃ n, s.words.length = n := ⟨_, rfl⟩
  rw [hn] at hm ⊢
  obtain ⟨W, hW⟩ : ∃ W, (w.alloc (.cells #[.int .i64 s.width, .slice a1 n c1] 29)).alloc (.cells #[.int .i64 s.width, .slice a2 n c2] 29) = W := ⟨_, rfl⟩
  have B0 : Below w.heap.size w W := by rw [← hW]; exact ((Below.refl _ _).alloc (Nat.le_refl _) _).alloc (by simp) _
  have HB1 : W.heap[w.heap.size]? = some (.cells #[.int .i64 s.width, .slice a1 n c1] 29 (0, 0)) := by rw [← hW]; exact lies_alloc _ (heap_alloc_new _ _)
  have HB2 : W.heap[w.heap.size + 1]? = some (.cells #[.int .i64 s.width, .slice a2 n c2] 29 (0, 0)) := by rw [← hW]; exact lies_new2 _ _
  have H1 := Lib.hid HB1
  have H2 := Lib.hid HB2
  have HW := Lib.hid hW
  have BB := Lib.hid B0
  have HN := Lib.hid hn
  have HK1 := Lib.hid hk1
  have HK2 := Lib.hid hk2
  unfold maxLen at hm
  clear hW HB1 HB2 B0 hn hk1 hk2 h1 h2
  go_enter Tryd.func40, Tryd.ntmps40
  go_wp2_with fail
  rw [show (w.alloc (.cells #[.int .i64 s.width, .slice a1 n c1] 29)).alloc (.cells #[.int .i64 s.width, .slice a2 n c2] 29) = W from HW.out]
  go_loopw [5] (fun y wr => ∃ i : Nat, i ≤ n ∧ y = .int .i64 i ∧ Hid (Below W.heap.size W wr)) (fun y _ => n - (intOf y).toNat)
  case atStart => exact ⟨0, Nat.zero_le _, rfl, Below.refl _ _⟩
  case round =>
    obtain ⟨i, hi, rfl, HB⟩ := hrel
    have G1 := lies_below H1.out HB.out (lt_heap H1.out)
    have G2 := lies_below H2.out HB.out (lt_heap H2.out)
    have x0 := (lies_cells G1).1 0
    have x1 := (lies_cells G1).1 1
    have y0 := (lies_cells G2).1 0
    have y1 := (lies_cells G2).1 1
    simp only [List.getElem?_toArray, List.getElem?_cons_zero, List.getElem?_cons_succ] at x0 x1 y0 y1
    clear G1 G2
    by_cases hlt : i < n
    · obtain ⟨x, hx⟩ : ∃ x, s.words[i]? = some x := ⟨_, List.getElem?_eq_getElem (show i < s.words.length by have := HN.out; omega)⟩
      obtain ⟨b1, o1, rfl, hb1, -, hc1⟩ := HK1.out i x hx
      obtain ⟨b2, o2, rfl, hb2, -, hc2⟩ := HK2.out i x hx
      have g1 := ((BB.out.trans (HB.out.mono BB.out.size)).cell (p := ⟨b1, o1 + i, none⟩) hb1).trans hc1
      have g2 := ((BB.out.trans (HB.out.mono BB.out.size)).cell (p := ⟨b2, o2 + i, none⟩) hb2).trans hc2
      have e1 : (0 : Int) ≤ (i : Int) := by omega
      have e2 : (i : Int) < (n : Int) := by omega
      have q1 : ((x : Int) != (x : Int)) = false := by simp
      clear hc1 hc2 hx HK1 HK2
      go_wp2
      go_quiet (fail)
      go_wp2
      go_roundw
      case rel => exact ⟨i + 1, by omega, by go_num, below_drewQ HB.out _⟩
      case measure => simp [intOf]; omega
    · go_wp2
      go_ret
      exact ⟨rfl, BB.out.trans (HB.out.mono BB.out.size)⟩
end Go.Proofs.YtlchgbfpoaipgaaDoor

/- Walks: the reference's Same of tables, at equal tables. Printed by wip/gen_qrr11.py. -/
namespace Go.Proofs.YtlchgbfpoaipgaaDoor
open Go.RowKit
variable [Base]

set_option maxHeartbeats 4000000 in
theorem rtsame_any (l : List QRec) (v1 v2 : Value) (w : World) (h1 : RecsAt w v1 l) (h2 : RecsAt w v2 l) : Calls Tryd.prog 23 #[v1, v2] w (BoolQ true w) := by
  obtain ⟨a1, c1, rfl, hm, -, -, hk1⟩ := h1.cell
  obtain ⟨a2, c2, rfl, -, -, -, hk2⟩ := h2.cell
  obtain ⟨n, hn⟩ : ∃ n, l.length = n := ⟨_, rfl⟩
  rw [hn] at hm ⊢
  have HN := Lib.hid hn
  have HK1 := Lib.hid hk1
  have HK2 := Lib.hid hk2
  unfold maxLen at hm
  clear hn hk1 hk2 h1 h2
  go_enter Tryd.func23, Tryd.ntmps23
  go_wp2_with fail
  go_loopw [5] (fun y wr => ∃ i : Nat, i ≤ n ∧ y = .int .i64 i ∧ Hid (Below w.heap.size w wr)) (fun y _ => n - (intOf y).toNat)
  case atStart => exact ⟨0, Nat.zero_le _, rfl, Below.refl _ _⟩
  case round =>
    obtain ⟨i, hi, rfl, HB⟩ := hrel
    by_cases hlt : i < n
    · obtain ⟨r, hr⟩ : ∃ r, l[i]? = some r := ⟨_, List.getElem?_eq_getElem (show i < l.length by have := HN.out; omega)⟩
      obtain ⟨un, hun⟩ : ∃ n, r.value.words.length = n := ⟨_, rfl⟩
      obtain ⟨b1, o1, u1, rfl, hb1, hug, hcsg⟩ := HK1.out i r hr
      obtain ⟨u1a, u1c, rfl, -, -⟩ := hug.cell
      rw [hun] at hcsg hug
      have g0 := (HB.out.cell (p := ⟨b1, o1 + i * 8 + 0, none⟩) hb1).trans (hcsg 0 (by omega))
      have g1 := (HB.out.cell (p := ⟨b1, o1 + i * 8 + 1, none⟩) hb1).trans (hcsg 1 (by omega))
      have g2 := (HB.out.cell (p := ⟨b1, o1 + i * 8 + 2, none⟩) hb1).trans (hcsg 2 (by omega))
      have g3 := (HB.out.cell (p := ⟨b1, o1 + i * 8 + 3, none⟩) hb1).trans (hcsg 3 (by omega))
      have g4 := (HB.out.cell (p := ⟨b1, o1 + i * 8 + 4, none⟩) hb1).trans (hcsg 4 (by omega))
      have g5 := (HB.out.cell (p := ⟨b1, o1 + i * 8 + 5, none⟩) hb1).trans (hcsg 5 (by omega))
      have g6 := (HB.out.cell (p := ⟨b1, o1 + i * 8 + 6, none⟩) hb1).trans (hcsg 6 (by omega))
      have g7 := (HB.out.cell (p := ⟨b1, o1 + i * 8 + 7, none⟩) hb1).trans (hcsg 7 (by omega))
      simp only [List.getElem?_cons_zero, List.getElem?_cons_succ, Nat.add_zero] at g0 g1 g2 g3 g4 g5 g6 g7
      have HUg := Lib.hid (hug.below HB.out)
      have lg : b1 < wr.heap.size := Nat.lt_of_lt_of_le hb1 HB.out.size
      obtain ⟨b2, o2, u2, rfl, hb2, huk, hcsk⟩ := HK2.out i r hr
      obtain ⟨u2a, u2c, rfl, -, -⟩ := huk.cell
      rw [hun] at hcsk huk
      have k0 := (HB.out.cell (p := ⟨b2, o2 + i * 8 + 0, none⟩) hb2).trans (hcsk 0 (by omega))
      have k1 := (HB.out.cell (p := ⟨b2, o2 + i * 8 + 1, none⟩) hb2).trans (hcsk 1 (by omega))
      have k2 := (HB.out.cell (p := ⟨b2, o2 + i * 8 + 2, none⟩) hb2).trans (hcsk 2 (by omega))
      have k3 := (HB.out.cell (p := ⟨b2, o2 + i * 8 + 3, none⟩) hb2).trans (hcsk 3 (by omega))
      have k4 := (HB.out.cell (p := ⟨b2, o2 + i * 8 + 4, none⟩) hb2).trans (hcsk 4 (by omega))
      have k5 := (HB.out.cell (p := ⟨b2, o2 + i * 8 + 5, none⟩) hb2).trans (hcsk 5 (by omega))
      have k6 := (HB.out.cell (p := ⟨b2, o2 + i * 8 + 6, none⟩) hb2).trans (hcsk 6 (by omega))
      have k7 := (HB.out.cell (p := ⟨b2, o2 + i * 8 + 7, none⟩) hb2).trans (hcsk 7 (by omega))
      simp only [List.getElem?_cons_zero, List.getElem?_cons_succ, Nat.add_zero] at k0 k1 k2 k3 k4 k5 k6 k7
      have HUk := Lib.hid (huk.below HB.out)
      have lk : b2 < wr.heap.size := Nat.lt_of_lt_of_le hb2 HB.out.size
      have e1 : (0 : Int) ≤ (i : Int) := by omega
      have e2 : (i : Int) < (n : Int) := by omega
      have z1 : (b1 == wr.heap.size) = false := by rw [beq_eq_false_iff_ne]; omega
      have z2 : (b2 == wr.heap.size) = false := by rw [beq_eq_false_iff_ne]; omega
      have z3 : (b1 == wr.heap.size + 1) = false := by rw [beq_eq_false_iff_ne]; omega
      have z4 : (b2 == wr.heap.size + 1) = false := by rw [beq_eq_false_iff_ne]; omega
      have z5 : (wr.heap.size == b1) = false := by rw [beq_eq_false_iff_ne]; omega
      have z6 : (wr.heap.size == b2) = false := by rw [beq_eq_false_iff_ne]; omega
      have z7 : (wr.heap.size + 1 == b1) = false := by rw [beq_eq_false_iff_ne]; omega
      have z8 : (wr.heap.size + 1 == b2) = false := by rw [beq_eq_false_iff_ne]; omega
      clear hcsg hcsk hug huk hr HK1 HK2 hun
      go_wp2
      go_region
      all_goals
        go_wp2_with (go_at_call 40; refine (rsame_any r.value (.slice u1a un u1c) (.slice u2a un u2c) _ (HUg.out.keep (SameT.trans (SameT.alloc (w := wr.drew)) SameT.alloc)) (HUk.out.keep (SameT.trans (SameT.alloc (w := wr.drew)) SameT.alloc))).mono ?_; rintro e w2 ⟨rfl, b2⟩; have B2 := Lib.hid (((HB.out.drew.alloc HB.out.size _).alloc (Nat.le_trans HB.out.size (by simp)) _).trans (b2.mono (Nat.le_trans HB.out.size (by simp; omega)))); clear b2)
        go_roundw
        case rel => exact ⟨i + 1, by omega, by go_num, B2⟩
        case measure => simp [intOf]; omega
    · go_wp2
      go_ret
      exact ⟨rfl, HB.out⟩
end Go.Proofs.YtlchgbfpoaipgaaDoor

/- Walks: the sanity check of the laws on queries. Printed by wip/gen_qrs.py. -/
namespace Go.Proofs.YtlchgbfpoaipgaaDoor
open Go.RowKit
variable [Base]

def ra : QRec := ⟨[97], 0, 1, 0, 0, 0, zeroSet⟩
def rb : QRec := ⟨[98], 0, 1, 0, 0, 0, zeroSet⟩
def ta : List QRec := [fresh ra]
def tb : List QRec := [turn 2 (emptyS 1) (fresh ra)]
theorem sane1 : submitQ [] ra 1 = (ta, 0) := by decide +kernel
theorem sane2 : submitQ ta rb 1 = ([], 7) := by decide +kernel
theorem sane3 : answerQ ta [97] (emptyS 1) = (tb, 0) := by decide +kernel
theorem sane4 : submitQ tb ra 1 = ([], 6) := by decide +kernel
theorem sane5 : cancelQ tb [97] = ([], 10) := by decide +kernel
theorem sane6 : forgetQ tb [97] = ([], 0) := by decide +kernel
theorem submit_to {B : Nat} {l m : List QRec} {r : QRec} {most e : Int} (hq : submitQ l r most = (m, e)) (v u : Value) (w : World) (KW : KwIn B w) (hB : B ≤ w.heap.size) (h : RecsAt w v l) (hu : WordsAt w u r.value.words) :
    Calls Tryd.prog 7 #[v, recV r u, .int .i64 most] w (TabQ (m, e) w) := hq ▸ submit_any l r most v u w KW hB h hu
theorem answer_to {B : Nat} {l m : List QRec} {x : Str} {s : QSet} {e : Int} (hq : answerQ l x s = (m, e)) (v u : Value) (w : World) (KW : KwIn B w) (hB : B ≤ w.heap.size) (h : RecsAt w v l) (hu : WordsAt w u s.words) :
    Calls Tryd.prog 19 #[v, qs x, setV s u] w (TabQ (m, e) w) := hq ▸ answer_any l x s v u w KW hB h hu
theorem cancel_to {B : Nat} {l m : List QRec} {x : Str} {e : Int} (hq : cancelQ l x = (m, e)) (v : Value) (w : World) (KW : KwIn B w) (hB : B ≤ w.heap.size) (h : RecsAt w v l) :
    Calls Tryd.prog 20 #[v, qs x] w (TabQ (m, e) w) := hq ▸ cancel_any l x v w KW hB h
theorem forget_to {B : Nat} {l m : List QRec} {x : Str} {e : Int} (hq : forgetQ l x = (m, e)) (v : Value) (w : World) (KW : KwIn B w) (hB : B ≤ w.heap.size) (h : RecsAt w v l) :
    Calls Tryd.prog 28 #[v, qs x] w (TabQ (m, e) w) := hq ▸ forget_any l x v w KW hB h
theorem RecsAt.len {w : World} {v : Value} {l : List QRec} {n : Nat} (h : RecsAt w v l) (hn : l.length = n) : ∃ a c, v = .slice a n c := by
  obtain ⟨a, c, rfl, -⟩ := h.cell
  exact ⟨a, c, by rw [hn]⟩
set_option maxHeartbeats 1000000 in
theorem sane_any {B : Nat} (w : World) (KW : KwIn B w) (hB : B ≤ w.heap.size) : Calls Tryd.prog 9 #[] w (BoolQ true w) := by
  have HK := Lib.hid KW
  clear KW
  go_enter Tryd.func9, Tryd.ntmps9
  go_wp2_with fail
  refine (submit_to (B := B) (r := ra) sane1 _ (.slice none 0 0) _ HK.out hB RecsAt.nil WordsAt.nil).mono ?_
  rintro e w1 ⟨v1, rfl, h1, b1⟩
  obtain ⟨v1a, v1c, rfl⟩ := RecsAt.len (n := 1) h1 rfl
  have Hh1 := Lib.hid h1
  have Bb1 := Lib.hid ((Below.refl w.heap.size w).trans (b1.mono (Below.refl w.heap.size w).size))
  clear h1 b1
  go_wp2_with fail
  refine (submit_to (B := B) (r := rb) sane2 _ (.slice none 0 0) _ (HK.out.keep fun q hq => Bb1.out.block q (by omega)) (Nat.le_trans hB Bb1.out.size) Hh1.out WordsAt.nil).mono ?_
  rintro e w2 ⟨v2, rfl, h2, b2⟩
  obtain ⟨v2a, v2c, rfl⟩ := RecsAt.len (n := 0) h2 rfl
  have Hh2 := Lib.hid h2
  have H12 := Lib.hid (Hh1.out.below b2)
  have Bb2 := Lib.hid (Bb1.out.trans (b2.mono Bb1.out.size))
  clear h2 b2
  go_wp2_with fail
  refine (empty_any 1 (by omega) _).mono ?_
  rintro e w3 ⟨u3, rfl, ho, b3⟩
  have Bb3 := Lib.hid (Bb2.out.trans (b3.mono Bb2.out.size))
  have HO := Lib.hid ho.words
  have H13 := Lib.hid (H12.out.below b3)
  clear ho b3
  go_wp2_with fail
  refine (answer_to (B := B) sane3 _ u3 _ (HK.out.keep fun q hq => Bb3.out.block q (by omega)) (Nat.le_trans hB Bb3.out.size) H13.out HO.out).mono ?_
  rintro e w4 ⟨v4, rfl, h4, b4⟩
  obtain ⟨v4a, v4c, rfl⟩ := RecsAt.len (n := 1) h4 rfl
  have Hh4 := Lib.hid h4
  have Bb4 := Lib.hid (Bb3.out.trans (b4.mono Bb3.out.size))
  clear h4 b4
  go_wp2_with fail
  refine (submit_to (B := B) (r := ra) sane4 _ (.slice none 0 0) _ (HK.out.keep fun q hq => Bb4.out.block q (by omega)) (Nat.le_trans hB Bb4.out.size) Hh4.out WordsAt.nil).mono ?_
  rintro e w5 ⟨v5, rfl, h5, b5⟩
  obtain ⟨v5a, v5c, rfl⟩ := RecsAt.len (n := 0) h5 rfl
  have Hh5 := Lib.hid h5
  have H45 := Lib.hid (Hh4.out.below b5)
  have Bb5 := Lib.hid (Bb4.out.trans (b5.mono Bb4.out.size))
  clear h5 b5
  go_wp2_with fail
  refine (cancel_to (B := B) sane5 _ _ (HK.out.keep fun q hq => Bb5.out.block q (by omega)) (Nat.le_trans hB Bb5.out.size) H45.out).mono ?_
  rintro e w6 ⟨v6, rfl, h6, b6⟩
  obtain ⟨v6a, v6c, rfl⟩ := RecsAt.len (n := 0) h6 rfl
  have Hh6 := Lib.hid h6
  have H46 := Lib.hid (H45.out.below b6)
  have Bb6 := Lib.hid (Bb5.out.trans (b6.mono Bb5.out.size))
  clear h6 b6
  go_wp2_with fail
  refine (forget_to (B := B) sane6 _ _ (HK.out.keep fun q hq => Bb6.out.block q (by omega)) (Nat.le_trans hB Bb6.out.size) H46.out).mono ?_
  rintro e w7 ⟨v7, rfl, h7, b7⟩
  obtain ⟨v7a, v7c, rfl⟩ := RecsAt.len (n := 0) h7 rfl
  have Hh7 := Lib.hid h7
  have H47 := Lib.hid (H46.out.below b7)
  have Bb7 := Lib.hid (Bb6.out.trans (b7.mono Bb6.out.size))
  clear h7 b7
  obtain ⟨a9, c9, e9, -, -, -, hc9⟩ := H47.out.cell
  obtain ⟨b9, o9, u9, ea9, hb9, hu9, hcs9⟩ := hc9 0 (turn 2 (emptyS 1) (fresh ra)) rfl
  injection e9 with e9 e10 e11
  subst e9 e11
  rw [ea9]
  have k5 := hcs9 5 (by omega)
  simp only [List.getElem?_cons_zero, List.getElem?_cons_succ, Nat.zero_mul, Nat.add_zero] at k5
  have k6 : w7.cell? ⟨b9, o9 + 5, none⟩ = some (.int .i64 2) := k5
  clear hc9 hcs9 hu9 k5 e10 ea9
  go_wp2
  go_ret
  exact ⟨rfl, Bb7.out⟩
end Go.Proofs.YtlchgbfpoaipgaaDoor

/- Walks: agrees of the laws on queries. Printed by wip/gen_qra1.py. -/
namespace Go.Proofs.YtlchgbfpoaipgaaDoor
open Go.RowKit
variable [Base]

theorem SliceAt.strs {w : World} {v : Value} {l : List Str} (h : SliceAt w 9 1 v (l.map qs)) : ∃ a n c, v = .slice a n c ∧ l.length = n ∧ n ≤ maxLen ∧ ∀ k x, l[k]? = some x → ∃ b off, a = some ⟨b, off, none⟩ ∧ b < w.heap.size ∧ w.cell? ⟨b, off + k, none⟩ = some (qs x) := by
  obtain ⟨a, n, c, rfl, h1, h2, -, -, h5⟩ := SliceAt.form h
  rw [List.length_map, Nat.mul_one] at h1
  refine ⟨a, n, c, rfl, h1, h2, fun k x hk => ?_⟩
  have hlt := (List.getElem?_eq_some_iff.1 hk).1
  obtain ⟨b, off, rfl, hb, -, hc⟩ := h5 (by omega)
  refine ⟨b, off, rfl, hb, ?_⟩
  rw [hc k (by rw [List.length_map]; exact hlt), List.getElem?_map, hk]
  rfl
theorem find_to {l : List QRec} {x : Str} {m : Int} (hm : findQ l x = m) (v : Value) (w : World) (h : RecsAt w v l) : Calls Tryd.prog 25 #[v, qs x] w (IntQ m w) := hm ▸ find_any l x v w h
theorem rfind_to {l : List QRec} {x : Str} {m : Int} (hm : findQ l x = m) (v : Value) (w : World) (h : RecsAt w v l) : Calls Tryd.prog 36 #[v, qs x] w fun e w' => e = .returned (.int .i64 m) ∧ w = w' := rfind_eq hm v w h
theorem pend_to {l : List QRec} {m : Nat} (hm : pend l = m) (v : Value) (w : World) (h : RecsAt w v l) : Calls Tryd.prog 10 #[v] w (IntQ m w) := hm ▸ pending_any l v w h
theorem rpend_to {l : List QRec} {m : Nat} (hm : pend l = m) (v : Value) (w : World) (h : RecsAt w v l) : Calls Tryd.prog 37 #[v] w fun e w' => e = .returned (.int .i64 (m : Int)) ∧ w = w' := hm ▸ rpending_eq v w h
theorem val_to {B : Nat} {l : List QRec} {b : Bool} (hb : tabB l = b) (v : Value) (w : World) (KW : KwIn B w) (hB : B ≤ w.heap.size) (h : RecsAt w v l) : Calls Tryd.prog 22 #[v] w (BoolQ b w) := hb ▸ tvalid_any l v w KW hB h
set_option maxRecDepth 100000 in
set_option maxHeartbeats 4000000 in
theorem agrees_any {B : Nat} (l : List QRec) (r : QRec) (most : Int) (x : Str) (s : QSet) (p : Int) (v ru su : Value) (w : World) (KW : KwIn B w) (hB : B ≤ w.heap.size) (h : RecsAt w v l) (hr : WordsAt w ru r.value.words) (hs : WordsAt w su s.words) :
    Calls Tryd.prog 15 #[v, recV r ru, .int .i64 most, qs x, setV s su, .int .i64 p] w (BoolQ true w) := by
  obtain ⟨a, n, c, rfl⟩ : ∃ a n c, v = .slice a n c := by obtain ⟨a, c, rfl, -⟩ := h.cell; exact ⟨_, _, _, rfl⟩
  obtain ⟨ra, rn, rc, rfl⟩ : ∃ a n c, ru = .slice a n c := by obtain ⟨a, c, rfl, -⟩ := hr.cell; exact ⟨_, _, _, rfl⟩
  obtain ⟨sa, sn, sc, rfl⟩ : ∃ a n c, su = .slice a n c := by obtain ⟨a, c, rfl, -⟩ := hs.cell; exact ⟨_, _, _, rfl⟩
  have HK := Lib.hid KW
  have HBS := Lib.hid (Nat.le_trans KW.bs hB)
  have HR := Lib.hid h
  have HU := Lib.hid hr
  have HS := Lib.hid hs
  have hud : ∀ b : Bool, (undef = Value.bool b) = False := fun b => by simp [undef]
  obtain ⟨W, hW⟩ : ∃ W, (w.alloc (.cells #[qs r.id, .int .i64 r.prog, .int .i64 r.kind, .int .i64 r.node, .int .i64 r.prio, .int .i64 r.status, .int .i64 r.value.width, .slice ra rn rc] 31)).alloc (.cells #[.int .i64 s.width, .slice sa sn sc] 29) = W := ⟨_, rfl⟩
  have B0 : Below w.heap.size w W := by rw [← hW]; exact ((Below.refl _ _).alloc (Nat.le_refl _) _).alloc (by simp) _
  have HB1 : W.heap[w.heap.size]? = some (.cells #[qs r.id, .int .i64 r.prog, .int .i64 r.kind, .int .i64 r.node, .int .i64 r.prio, .int .i64 r.status, .int .i64 r.value.width, .slice ra rn rc] 31 (0, 0)) := by rw [← hW]; exact lies_alloc _ (heap_alloc_new _ _)
  have HB2 : W.heap[w.heap.size + 1]? = some (.cells #[.int .i64 s.width, .slice sa sn sc] 29 (0, 0)) := by rw [← hW]; exact lies_new2 _ _
  obtain ⟨x0, x1, x2, x3, x4, x5, x6, x7⟩ := cells8 HB1
  have H1 := Lib.hid HB1
  have H2 := Lib.hid HB2
  have HW := Lib.hid hW
  have BB0 := Lib.hid B0
  clear hW HB1 HB2 B0 KW h hr hs
  go_enter Tryd.func15, Tryd.ntmps15
  go_wp2_with fail
  rw [show (w.alloc (.cells #[qs r.id, .int .i64 r.prog, .int .i64 r.kind, .int .i64 r.node, .int .i64 r.prio, .int .i64 r.status, .int .i64 r.value.width, .slice ra rn rc] 31)).alloc (.cells #[.int .i64 s.width, .slice sa sn sc] 29) = W from HW.out]
  refine (submit_any (B := B) l r most (.slice a n c) (.slice ra rn rc) _ (HK.out.keep fun q hq => BB0.out.block q (by omega)) (Nat.le_trans hB BB0.out.size) (HR.out.below BB0.out) (HU.out.below BB0.out)).mono ?_
  rintro e w1 ⟨v1, rfl, h1, b1⟩
  have D1 := Lib.hid b1
  have R1 := Lib.hid h1
  have BB1 := Lib.hid (BB0.out.trans (b1.mono BB0.out.size))
  have C1 := Lib.hid (b1)
  clear x0 x1 x2 x3 x4 x5 x6 x7
  obtain ⟨x0, x1, x2, x3, x4, x5, x6, x7⟩ := cells8 (lies_below H1.out C1.out (lt_heap H1.out))
  clear b1 h1
  go_wp2_with fail
  refine (rsubmit_any l r most (.slice a n c) (.slice ra rn rc) _ (HR.out.below BB1.out) (HU.out.below BB1.out)).mono ?_
  rintro e w2 ⟨v2, rfl, h2, b2⟩
  have D2 := Lib.hid b2
  have R2 := Lib.hid h2
  have BB2 := Lib.hid (BB1.out.trans (b2.mono BB1.out.size))
  have C2 := Lib.hid (C1.out.trans (b2.mono C1.out.size))
  clear x0 x1 x2 x3 x4 x5 x6 x7
  have y0 := (lies_cells (lies_below H2.out C2.out (lt_heap H2.out))).1 0
  have y1 := (lies_cells (lies_below H2.out C2.out (lt_heap H2.out))).1 1
  simp only [List.getElem?_toArray, List.getElem?_cons_zero, List.getElem?_cons_succ] at y0 y1
  clear b2 h2
  go_wp2_with fail
  refine (answer_any (B := B) l x s (.slice a n c) (.slice sa sn sc) _ (HK.out.keep fun q hq => BB2.out.block q (by omega)) (Nat.le_trans hB BB2.out.size) (HR.out.below BB2.out) (HS.out.below BB2.out)).mono ?_
  rintro e w3 ⟨v3, rfl, h3, b3⟩
  have D3 := Lib.hid b3
  have R3 := Lib.hid h3
  have BB3 := Lib.hid (BB2.out.trans (b3.mono BB2.out.size))
  have C3 := Lib.hid (C2.out.trans (b3.mono C2.out.size))
  clear y0 y1
  have y0 := (lies_cells (lies_below H2.out C3.out (lt_heap H2.out))).1 0
  have y1 := (lies_cells (lies_below H2.out C3.out (lt_heap H2.out))).1 1
  simp only [List.getElem?_toArray, List.getElem?_cons_zero, List.getElem?_cons_succ] at y0 y1
  clear b3 h3
  go_wp2_with fail
  refine (ranswer_any l x s (.slice a n c) (.slice sa sn sc) _ (HR.out.below BB3.out) (HS.out.below BB3.out) (Nat.le_trans HBS.out BB3.out.size)).mono ?_
  rintro e w4 ⟨v4, rfl, h4, b4⟩
  have D4 := Lib.hid b4
  have R4 := Lib.hid h4
  have BB4 := Lib.hid (BB3.out.trans (b4.mono BB3.out.size))
  have C4 := Lib.hid (C3.out.trans (b4.mono C3.out.size))
  clear y0 y1
  clear b4 h4
  go_wp2_with fail
  refine (cancel_any (B := B) l x (.slice a n c) _ (HK.out.keep fun q hq => BB4.out.block q (by omega)) (Nat.le_trans hB BB4.out.size) (HR.out.below BB4.out)).mono ?_
  rintro e w5 ⟨v5, rfl, h5, b5⟩
  have D5 := Lib.hid b5
  have R5 := Lib.hid h5
  have BB5 := Lib.hid (BB4.out.trans (b5.mono BB4.out.size))
  clear b5 h5
  go_wp2_with fail
  refine (rcancel_any l x (.slice a n c) _ (HR.out.below BB5.out) (Nat.le_trans HBS.out BB5.out.size)).mono ?_
  rintro e w6 ⟨v6, rfl, h6, b6⟩
  have D6 := Lib.hid b6
  have R6 := Lib.hid h6
  have BB6 := Lib.hid (BB5.out.trans (b6.mono BB5.out.size))
  clear b6 h6
  go_wp2_with fail
  refine (forget_any (B := B) l x (.slice a n c) _ (HK.out.keep fun q hq => BB6.out.block q (by omega)) (Nat.le_trans hB BB6.out.size) (HR.out.below BB6.out)).mono ?_
  rintro e w7 ⟨v7, rfl, h7, b7⟩
  have D7 := Lib.hid b7
  have R7 := Lib.hid h7
  have BB7 := Lib.hid (BB6.out.trans (b7.mono BB6.out.size))
  clear b7 h7
  go_wp2_with fail
  refine (rforget_any l x (.slice a n c) _ (HR.out.below BB7.out)).mono ?_
  rintro e w8 ⟨v8, rfl, h8, b8⟩
  have D8 := Lib.hid b8
  have R8 := Lib.hid h8
  have BB8 := Lib.hid (BB7.out.trans (b8.mono BB7.out.size))
  clear b8 h8
  go_wp2_with fail
  refine (unload_any (B := B) l p (.slice a n c) _ (HK.out.keep fun q hq => BB8.out.block q (by omega)) (Nat.le_trans hB BB8.out.size) (HR.out.below BB8.out)).mono ?_
  rintro e w9 ⟨v9, i9, rfl, h9, s9, b9⟩
  have S9 := Lib.hid s9
  clear s9
  have D9 := Lib.hid b9
  have R9 := Lib.hid h9
  have BB9 := Lib.hid (BB8.out.trans (b9.mono BB8.out.size))
  clear b9 h9
  go_wp2_with fail
  refine (runload_any l p (.slice a n c) _ (HR.out.below BB9.out) (Nat.le_trans HBS.out BB9.out.size)).mono ?_
  rintro e w10 ⟨v10, i10, rfl, h10, s10, b10⟩
  have S10 := Lib.hid s10
  clear s10
  have D10 := Lib.hid b10
  have R10 := Lib.hid h10
  have BB10 := Lib.hid (BB9.out.trans (b10.mono BB9.out.size))
  clear b10 h10
  obtain ⟨ia, im, ic, rfl, himl, him, hi1⟩ := SliceAt.strs S9.out
  obtain ⟨ja, jm, jc, rfl, hjml, hjm, hj1⟩ := SliceAt.strs S10.out
  obtain rfl : im = jm := by omega
  have I1 := Lib.hid hi1
  have J1 := Lib.hid hj1
  have HIM := Lib.hid himl
  unfold maxLen at him
  clear hi1 hj1 himl hjml hjm
  go_wp2
  go_loopw [33] (fun y wr => ∃ k : Nat, k ≤ im ∧ y = .int .i64 k ∧ Hid (Below w10.heap.size w10 wr)) (fun y _ => im - (intOf y).toNat)
  case atStart => exact ⟨0, Nat.zero_le _, rfl, Below.refl _ _⟩
  case round =>
    obtain ⟨k, hk, rfl, HB⟩ := hrel
    by_cases hlt : k < im
    · obtain ⟨y, hy⟩ : ∃ y, (unloadIds l p)[k]? = some y := ⟨_, List.getElem?_eq_getElem (show k < (unloadIds l p).length by have := HIM.out; omega)⟩
      obtain ⟨b1, o1, rfl, hb1, hc1⟩ := I1.out k y hy
      obtain ⟨b2, o2, rfl, hb2, hc2⟩ := J1.out k y hy
      have g1 := (HB.out.cell (p := ⟨b1, o1 + k, none⟩) (Nat.lt_of_lt_of_le hb1 D10.out.size)).trans ((D10.out.cell (p := ⟨b1, o1 + k, none⟩) hb1).trans hc1)
      have g2 := (HB.out.cell (p := ⟨b2, o2 + k, none⟩) hb2).trans hc2
      have e1 : (0 : Int) ≤ (k : Int) := by omega
      have e2 : (k : Int) < (im : Int) := by omega
      have q1 : (y != y) = false := by simp
      clear hc1 hc2 hy I1 J1
      go_wp2
      go_quiet (fail)
      go_wp2
      go_roundw
      case rel => exact ⟨k + 1, by omega, by go_num, below_drewQ HB.out _⟩
      case measure => simp [intOf]; omega
    · have BL := Lib.hid (BB10.out.trans (HB.out.mono BB10.out.size))
      obtain ⟨tb, htb⟩ : ∃ b, tabB l = b := ⟨_, rfl⟩
      obtain ⟨fm, hfm⟩ : ∃ m, findQ l x = m := ⟨_, rfl⟩
      obtain ⟨pm, hpm⟩ : ∃ m, pend l = m := ⟨_, rfl⟩
      have HTB := Lib.hid htb
      have HFM := Lib.hid hfm
      have HPM := Lib.hid hpm
      clear htb hfm hpm
      go_wp2_with fail
      refine (val_to (B := B) HTB.out _ _ (HK.out.keep fun q hq => BL.out.block q (by omega)) (Nat.le_trans hB BL.out.size) (HR.out.below BL.out)).mono ?_
      rintro e u1 ⟨rfl, b1⟩
      have L1 := Lib.hid (BL.out.trans (b1.mono BL.out.size))
      have K1 := Lib.hid (HB.out.trans (b1.mono HB.out.size))
      clear b1
      go_wp2_with fail
      refine (rtvalid_eq HTB.out _ _ (HR.out.below L1.out)).mono ?_
      rintro e u2 ⟨rfl, b2⟩
      have L2 := Lib.hid (L1.out.trans (b2.mono L1.out.size))
      have K2 := Lib.hid (K1.out.trans (b2.mono K1.out.size))
      clear b2
      go_wp2_with fail
      refine (find_to HFM.out _ _ (HR.out.below L2.out)).mono ?_
      rintro e u3 ⟨rfl, b3⟩
      have L3 := Lib.hid (L2.out.trans (b3.mono L2.out.size))
      have K3 := Lib.hid (K2.out.trans (b3.mono K2.out.size))
      clear b3
      go_wp2_with fail
      refine (rfind_to HFM.out _ _ (HR.out.below L3.out)).mono ?_
      rintro e u4 ⟨rfl, rfl⟩
      go_wp2_with fail
      refine (pend_to HPM.out _ _ (HR.out.below L3.out)).mono ?_
      rintro e u5 ⟨rfl, b5⟩
      have L5 := Lib.hid (L3.out.trans (b5.mono L3.out.size))
      have K5 := Lib.hid (K3.out.trans (b5.mono K3.out.size))
      clear b5
      go_wp2_with fail
      refine (rpend_to HPM.out _ _ (HR.out.below L5.out)).mono ?_
      rintro e u6 ⟨rfl, rfl⟩
      go_wp2_with fail
      refine (rtsame_any (submitQ l r most).1 _ _ _ ((((((((((R1.out.below D2.out).below D3.out).below D4.out).below D5.out).below D6.out).below D7.out).below D8.out).below D9.out).below D10.out).below K5.out) (((((((((R2.out.below D3.out).below D4.out).below D5.out).below D6.out).below D7.out).below D8.out).below D9.out).below D10.out).below K5.out)).mono ?_
      rintro e u10 ⟨rfl, b10⟩
      have L10 := Lib.hid (L5.out.trans (b10.mono L5.out.size))
      have K10 := Lib.hid (K5.out.trans (b10.mono K5.out.size))
      clear b10
      go_wp2_with fail
      refine (rtsame_any (answerQ l x s).1 _ _ _ ((((((((R3.out.below D4.out).below D5.out).below D6.out).below D7.out).below D8.out).below D9.out).below D10.out).below K10.out) (((((((R4.out.below D5.out).below D6.out).below D7.out).below D8.out).below D9.out).below D10.out).below K10.out)).mono ?_
      rintro e u11 ⟨rfl, b11⟩
      have L11 := Lib.hid (L10.out.trans (b11.mono L10.out.size))
      have K11 := Lib.hid (K10.out.trans (b11.mono K10.out.size))
      clear b11
      go_wp2_with fail
      refine (rtsame_any (cancelQ l x).1 _ _ _ ((((((R5.out.below D6.out).below D7.out).below D8.out).below D9.out).below D10.out).below K11.out) (((((R6.out.below D7.out).below D8.out).below D9.out).below D10.out).below K11.out)).mono ?_
      rintro e u12 ⟨rfl, b12⟩
      have L12 := Lib.hid (L11.out.trans (b12.mono L11.out.size))
      have K12 := Lib.hid (K11.out.trans (b12.mono K11.out.size))
      clear b12
      go_wp2_with fail
      refine (rtsame_any (forgetQ l x).1 _ _ _ ((((R7.out.below D8.out).below D9.out).below D10.out).below K12.out) (((R8.out.below D9.out).below D10.out).below K12.out)).mono ?_
      rintro e u13 ⟨rfl, b13⟩
      have L13 := Lib.hid (L12.out.trans (b13.mono L12.out.size))
      have K13 := Lib.hid (K12.out.trans (b13.mono K12.out.size))
      clear b13
      go_wp2_with fail
      refine (rtsame_any (unloadQ l p) _ _ _ ((R9.out.below D10.out).below K13.out) (R10.out.below K13.out)).mono ?_
      rintro e u14 ⟨rfl, b14⟩
      have L14 := Lib.hid (L13.out.trans (b14.mono L13.out.size))
      have K14 := Lib.hid (K13.out.trans (b14.mono K13.out.size))
      clear b14
      go_wp2
      go_ret
      exact ⟨rfl, L14.out⟩
end Go.Proofs.YtlchgbfpoaipgaaDoor

/- The law QueriesAgree: the walk. Printed by wip/gen_qrl4.py. -/
namespace Go.Proofs.YtlchgbfpoaipgaaDoor
open Go.RowKit
variable [Base]

/-- What stands at the head of a round. -/
structure AIn (W wr : World) : Prop where
  tape : TapeOk W.heap.size wr W.heap.size
  below : Below W.heap.size W wr
theorem AIn.next {W wr w2 : World} (h : AIn W wr) (ht : TapeOk W.heap.size w2 W.heap.size) (hb : But W.heap.size wr w2) : AIn W w2 := ⟨ht, h.below.trans (hb.toBelow (Nat.le_refl _) h.below.size)⟩
theorem AIn.after {W wr w2 : World} (h : AIn W wr) (hb : Below wr.heap.size wr w2) : AIn W w2 := ⟨h.tape.below hb, h.below.trans (hb.mono h.below.size)⟩
theorem AIn.kw {W wr : World} {B : Nat} (h : AIn W wr) (hB : B ≤ W.heap.size) (K : KwIn B W) : KwIn B wr := K.keep fun q hq => h.below.block q (by omega)
structure YIn (W wr : World) (xv : Value) (xl : List QRec) (yv : Value) (yl : List QRec) : Prop where
  ain : AIn W wr
  x : RecsAt wr xv xl
  y : RecsAt wr yv yl
theorem YIn.next {W wr w2 : World} {xv yv : Value} {xl yl : List QRec} (h : YIn W wr xv xl yv yl) (ht : TapeOk W.heap.size w2 W.heap.size) (hb : But W.heap.size wr w2) : YIn W w2 xv xl yv yl := ⟨h.ain.next ht hb, h.x.but h.ain.tape hb, h.y.but h.ain.tape hb⟩
theorem YIn.after {W wr w2 : World} {xv yv : Value} {xl yl : List QRec} (h : YIn W wr xv xl yv yl) (hb : Below wr.heap.size wr w2) : YIn W w2 xv xl yv yl := ⟨h.ain.after hb, h.x.below hb, h.y.below hb⟩
theorem tyAt_but {bt b : Nat} {w w' : World} (h : But bt w w') (hb : b < w.heap.size) (hn : b ≠ bt) : tyAt w' b = tyAt w b := by
  unfold tyAt
  rw [h.block b hb hn]
theorem set3_len {s : QSet} (hf : FormS s) (hd : s.width = ((3 : Nat) : Int)) : s.words.length ≤ 1000 := by
  obtain ⟨m, e, h1, h2⟩ := form_len hf
  unfold wordsN at h2
  omega
/-- A row of a table whose record is set. -/
theorem RecsAt.put8 {w : World} {g n c i : Nat} {l : List QRec} {r2 : QRec} {u : Value} (h : RecsAt w (.slice (some ⟨g, 0, none⟩) n c) l) (hi : i < l.length) (hu : WordsAt w u r2.value.words) (hty : tyAt w g = some 31) :
    RecsAt ((((((((w.setCell ⟨g, i * 8, none⟩ (qs r2.id)).setCell ⟨g, i * 8 + 1, none⟩ (.int .i64 r2.prog)).setCell ⟨g, i * 8 + 2, none⟩ (.int .i64 r2.kind)).setCell ⟨g, i * 8 + 3, none⟩ (.int .i64 r2.node)).setCell ⟨g, i * 8 + 4, none⟩ (.int .i64 r2.prio)).setCell ⟨g, i * 8 + 5, none⟩ (.int .i64 r2.status)).setCell ⟨g, i * 8 + 6, none⟩ (.int .i64 r2.value.width)).setCell ⟨g, i * 8 + 7, none⟩ u) (.slice (some ⟨g, 0, none⟩) n c) (l.set i r2) := by
  obtain ⟨xss, h1, h2⟩ := h
  obtain ⟨x, hx, u', rfl, _⟩ := h2.satR (List.getElem?_eq_getElem hi)
  have hxi := (List.getElem?_eq_some_iff.1 hx).1
  have e0 := flatten_set 8 (qs r2.id) 0 (by omega) xss i _ (rows_len h2) hx
  rw [Nat.add_zero] at e0
  have hs := ((((((((h1.set (i * 8) (qs r2.id)).set (i * 8 + 1) (.int .i64 r2.prog)).set (i * 8 + 2) (.int .i64 r2.kind)).set (i * 8 + 3) (.int .i64 r2.node)).set (i * 8 + 4) (.int .i64 r2.prio)).set (i * 8 + 5) (.int .i64 r2.status)).set (i * 8 + 6) (.int .i64 r2.value.width)).set (i * 8 + 7) u)
  rw [e0, flatten_set 8 _ 1 (by omega) _ i _ (set_len (rows_len h2) rfl) (List.getElem?_set_self hxi), List.set_set, flatten_set 8 _ 2 (by omega) _ i _ (set_len (rows_len h2) rfl) (List.getElem?_set_self hxi), List.set_set, flatten_set 8 _ 3 (by omega) _ i _ (set_len (rows_len h2) rfl) (List.getElem?_set_self hxi), List.set_set, flatten_set 8 _ 4 (by omega) _ i _ (set_len (rows_len h2) rfl) (List.getElem?_set_self hxi), List.set_set, flatten_set 8 _ 5 (by omega) _ i _ (set_len (rows_len h2) rfl) (List.getElem?_set_self hxi), List.set_set, flatten_set 8 _ 6 (by omega) _ i _ (set_len (rows_len h2) rfl) (List.getElem?_set_self hxi), List.set_set, flatten_set 8 _ 7 (by omega) _ i _ (set_len (rows_len h2) rfl) (List.getElem?_set_self hxi), List.set_set] at hs
  exact ⟨_, hs, (h2.mono fun _ _ hx => RecCells.keep (SameT.trans (SameT.trans (SameT.trans (SameT.trans (SameT.trans (SameT.trans (SameT.trans (SameT.words hty) (SameT.words ((tyAt_set g).trans (hty)))) (SameT.words ((tyAt_set g).trans ((tyAt_set g).trans (hty))))) (SameT.words ((tyAt_set g).trans ((tyAt_set g).trans ((tyAt_set g).trans (hty)))))) (SameT.words ((tyAt_set g).trans ((tyAt_set g).trans ((tyAt_set g).trans ((tyAt_set g).trans (hty))))))) (SameT.words ((tyAt_set g).trans ((tyAt_set g).trans ((tyAt_set g).trans ((tyAt_set g).trans ((tyAt_set g).trans (hty)))))))) (SameT.words ((tyAt_set g).trans ((tyAt_set g).trans ((tyAt_set g).trans ((tyAt_set g).trans ((tyAt_set g).trans ((tyAt_set g).trans (hty))))))))) (SameT.words ((tyAt_set g).trans ((tyAt_set g).trans ((tyAt_set g).trans ((tyAt_set g).trans ((tyAt_set g).trans ((tyAt_set g).trans ((tyAt_set g).trans (hty)))))))))) hx).set ⟨u, rfl, hu.keep (SameT.trans (SameT.trans (SameT.trans (SameT.trans (SameT.trans (SameT.trans (SameT.trans (SameT.words hty) (SameT.words ((tyAt_set g).trans (hty)))) (SameT.words ((tyAt_set g).trans ((tyAt_set g).trans (hty))))) (SameT.words ((tyAt_set g).trans ((tyAt_set g).trans ((tyAt_set g).trans (hty)))))) (SameT.words ((tyAt_set g).trans ((tyAt_set g).trans ((tyAt_set g).trans ((tyAt_set g).trans (hty))))))) (SameT.words ((tyAt_set g).trans ((tyAt_set g).trans ((tyAt_set g).trans ((tyAt_set g).trans ((tyAt_set g).trans (hty)))))))) (SameT.words ((tyAt_set g).trans ((tyAt_set g).trans ((tyAt_set g).trans ((tyAt_set g).trans ((tyAt_set g).trans ((tyAt_set g).trans (hty))))))))) (SameT.words ((tyAt_set g).trans ((tyAt_set g).trans ((tyAt_set g).trans ((tyAt_set g).trans ((tyAt_set g).trans ((tyAt_set g).trans ((tyAt_set g).trans (hty))))))))))⟩ i⟩
theorem YIn.put8 {W wx w : World} {xv : Value} {xl yl : List QRec} {g n c i : Nat} {r2 : QRec} {u : Value} (h : YIn W w xv xl (.slice (some ⟨g, 0, none⟩) n c) yl) (hx : RecsAt wx xv xl) (ht : TapeOk W.heap.size wx W.heap.size) (hb : But W.heap.size wx w) (hg1 : wx.heap.size ≤ g) (hg2 : W.heap.size < g) (hi : i < yl.length) (hu : WordsAt w u r2.value.words) (hty : tyAt w g = some 31) :
    YIn W ((((((((w.setCell ⟨g, i * 8, none⟩ (qs r2.id)).setCell ⟨g, i * 8 + 1, none⟩ (.int .i64 r2.prog)).setCell ⟨g, i * 8 + 2, none⟩ (.int .i64 r2.kind)).setCell ⟨g, i * 8 + 3, none⟩ (.int .i64 r2.node)).setCell ⟨g, i * 8 + 4, none⟩ (.int .i64 r2.prio)).setCell ⟨g, i * 8 + 5, none⟩ (.int .i64 r2.status)).setCell ⟨g, i * 8 + 6, none⟩ (.int .i64 r2.value.width)).setCell ⟨g, i * 8 + 7, none⟩ u) xv xl (.slice (some ⟨g, 0, none⟩) n c) (yl.set i r2) := by
  have hne : g ≠ W.heap.size := by omega
  have hle : W.heap.size ≤ g := by omega
  refine ⟨⟨?_, ?_⟩, hx.but ht ?_, h.y.put8 hi hu hty⟩
  · exact (((((((h.ain.tape.setCell hne hle _).setCell hne hle _).setCell hne hle _).setCell hne hle _).setCell hne hle _).setCell hne hle _).setCell hne hle _).setCell hne hle _
  · exact (((((((h.ain.below.setCell hle _).setCell hle _).setCell hle _).setCell hle _).setCell hle _).setCell hle _).setCell hle _).setCell hle _
  · exact (((((((hb.setCell _ (.inr hg1) _).setCell _ (.inr hg1) _).setCell _ (.inr hg1) _).setCell _ (.inr hg1) _).setCell _ (.inr hg1) _).setCell _ (.inr hg1) _).setCell _ (.inr hg1) _).setCell _ (.inr hg1) _
set_option maxRecDepth 100000 in
set_option maxHeartbeats 8000000 in
theorem agreeLaw_any (w0 : World) (ta : Option Addr) (tn tc : Nat) (htn : tn ≤ maxLen)
    (h : ∀ j : Nat, j < tn → ∃ b off z, ta = some ⟨b, off, none⟩ ∧ b < w0.heap.size ∧ w0.cell? ⟨b, off + j, none⟩ = some (.int .i64 z)) (KW : KwIn w0.heap.size w0)
    (l : List QRec) (r : QRec) (most : Int) (x : Str) (s : QSet) (p : Int) (vl ru su : Value) (hl : RecsAt w0 vl l) (hr : WordsAt w0 ru r.value.words) (hs : WordsAt w0 su s.words) :
    Calls Tryd.prog 4 #[.slice ta tn tc, vl, recV r ru, .int .i64 most, qs x, setV s su, .int .i64 p] w0 (BoolQ true w0) := by
  obtain ⟨la, lc, rfl, hlm, -, -, -⟩ := hl.cell
  obtain ⟨ln, hln⟩ : ∃ k, l.length = k := ⟨_, rfl⟩
  rw [hln] at hl hlm ⊢
  obtain ⟨ra, rn, rc, rfl⟩ := hr.shape
  obtain ⟨sa, sn, sc, rfl⟩ := hs.shape
  have hud : ∀ b : Bool, (undef = Value.bool b) = False := fun b => by simp [undef]
  obtain ⟨W, hW⟩ : ∃ W, (w0.alloc (.cells #[qs r.id, .int .i64 r.prog, .int .i64 r.kind, .int .i64 r.node, .int .i64 r.prio, .int .i64 r.status, .int .i64 r.value.width, .slice ra rn rc] 31)).alloc (.cells #[.int .i64 s.width, .slice sa sn sc] 29) = W := ⟨_, rfl⟩
  have B0 : Below w0.heap.size w0 W := by rw [← hW]; exact ((Below.refl _ _).alloc (Nat.le_refl _) _).alloc (by simp) _
  have HB1 : W.heap[w0.heap.size]? = some (.cells #[qs r.id, .int .i64 r.prog, .int .i64 r.kind, .int .i64 r.node, .int .i64 r.prio, .int .i64 r.status, .int .i64 r.value.width, .slice ra rn rc] 31 (0, 0)) := by rw [← hW]; exact lies_alloc _ (heap_alloc_new _ _)
  have HB2 : W.heap[w0.heap.size + 1]? = some (.cells #[.int .i64 s.width, .slice sa sn sc] 29 (0, 0)) := by rw [← hW]; exact lies_new2 _ _
  have HK := Lib.hid (show KwIn w0.heap.size W from KW.keep fun q hq => B0.block q hq)
  have HT := Lib.hid (show ∀ j : Nat, j < tn → ∃ b off z, ta = some ⟨b, off, none⟩ ∧ b < W.heap.size ∧ W.cell? ⟨b, off + j, none⟩ = some (.int .i64 z) from fun j hj => by
    obtain ⟨b, off, z, e1, e2, e3⟩ := h j hj
    exact ⟨b, off, z, e1, Nat.lt_of_lt_of_le e2 B0.size, (B0.cell (p := ⟨b, off + j, none⟩) e2).trans e3⟩)
  have HL := Lib.hid (hl.below B0)
  have HR := Lib.hid (hr.below B0)
  have HS := Lib.hid (hs.below B0)
  have H1 := Lib.hid HB1
  have H2 := Lib.hid HB2
  have HW := Lib.hid hW
  have BB := Lib.hid B0
  have HBW := Lib.hid B0.size
  have hbs := Nat.le_trans KW.bs B0.size
  clear hW HB1 HB2 B0 KW hl hr hs h hln
  go_enter Tryd.func4, Tryd.ntmps4
  go_wp2_with fail
  rw [show (w0.alloc (.cells #[qs r.id, .int .i64 r.prog, .int .i64 r.kind, .int .i64 r.node, .int .i64 r.prio, .int .i64 r.status, .int .i64 r.value.width, .slice ra rn rc] 31)).alloc (.cells #[.int .i64 s.width, .slice sa sn sc] 29) = W from HW.out]
  refine (new_any rfl ta tn tc htn HT.out).mono ?_
  rintro e w1 ⟨rfl, t1, b1⟩
  have I0 : Hid (AIn W w1) := ⟨t1, b1⟩
  clear t1 b1
  go_wp2_with fail
  go_loopw [16] (fun y wr => ∃ (k : Nat) (wa : World), wa = wr ∧ k ≤ 4 ∧ y = .int .i64 k ∧ Hid (AIn W wa)) (fun y _ => 4 - (intOf y).toNat)
  case atStart => exact ⟨0, _, rfl, by omega, rfl, I0.out⟩
  case round =>
    clear I0
    obtain ⟨k, wa, rfl, hk, rfl, I⟩ := hrel
    by_cases hlt : k < 4
    · go_wp2_with fail
      refine (table_any I.out.tape).mono ?_
      rintro e w2 ⟨xv, xl, rfl, hI⟩
      obtain ⟨t2, b2, hx, htab⟩ := hI
      have A2 := Lib.hid (I.out.next t2 b2)
      obtain ⟨xa, xc, rfl, -⟩ := hx.cell
      obtain ⟨xn, hxn⟩ : ∃ k, xl.length = k := ⟨_, rfl⟩
      have hx64 : xn ≤ 64 := by have := tabB_len htab; omega
      rw [hxn] at hx ⊢
      obtain ⟨xss, sx, al, lnx, oc⟩ := RecsAt.rows hx
      rw [hxn] at lnx
      have HX := Lib.hid hx
      have SX := Lib.hid sx
      have AL := Lib.hid al
      have LN := Lib.hid lnx
      have OC := Lib.hid oc
      have HXN := Lib.hid hxn
      clear t2 b2 hx sx al lnx oc hxn htab
      by_cases h0 : xn = 0
      · subst h0
        go_wp2_with (at_builtin; refine wpList_append_sl rfl _ _ 22 rfl w2.heap.size 31 _ 8 88 Tryd.underlying22 info_rec rfl (by decide) _ _ _ (empty_rec w2) rfl _ 0 _ rfl (SliceAt.same SX.out SameT.alloc) LN.out OC.out (by unfold maxLen; omega) (by omega) (by simp) ?_; intro yg yd w3 own gr; simp only [Nat.zero_add, List.nil_append] at own; have OW := Lib.hid own; have B3 := Lib.hid (((Below.refl w2.heap.size w2).alloc (Nat.le_refl _) (.cells #[] 31)).trans (Below.of_grown gr (empty_rec w2) (by simp))); clear own gr)
        have Y0 := Lib.hid (show YIn W _ _ xl _ xl from ⟨A2.out.after B3.out, HX.out.below B3.out, ⟨xss, SliceAt.of_owns OW.out, AL.out.mono fun _ _ hx => RecCells.keep (SameT.below B3.out) hx⟩⟩)
        obtain ⟨yl, hyl⟩ : ∃ yl, yl = xl := ⟨_, rfl⟩
        have Y : Hid (YIn W w3 (.slice xa 0 xc) xl (.slice yg 0 yd) yl) := Lib.hid (by rw [hyl]; exact Y0.out)
        clear OW B3 A2 HX SX AL LN OC HXN hyl Y0
        go_wp2_with fail
        refine (record_any Y.out.ain.tape).mono ?_
        rintro e v1 ⟨r1, ru1, rfl, hu, t, b⟩
        have Z1 := Lib.hid (Y.out.next t b)
        clear t b Y 
        have U1 := Lib.hid hu
        clear hu
        go_wp2_with fail
        refine (next_pos Z1.out.ain.tape 6 (by omega) (by omega)).mono ?_
        rintro e v2 ⟨m1, -, -, rfl, t, b⟩
        have Z2 := Lib.hid (Z1.out.next t b)
        have U1_ := Lib.hid (U1.out.but Z1.out.ain.tape b)
        clear t b Z1 U1
        go_wp2_with fail
        refine (id_any Z2.out.ain.tape).mono ?_
        rintro e v3 ⟨i1, rfl, t, b⟩
        have Z3 := Lib.hid (Z2.out.next t b)
        have U1__ := Lib.hid (U1_.out.but Z2.out.ain.tape b)
        clear t b Z2 U1_
        go_wp2_with fail
        refine (set_any 3 (by omega) _ Z3.out.ain.tape).mono ?_
        rintro e v4 ⟨s1, su1, rfl, hf, hd, hu, t, b⟩
        have Z4 := Lib.hid (Z3.out.next t b)
        have U1___ := Lib.hid (U1__.out.but Z3.out.ain.tape b)
        clear t b Z3 U1__
        have S1 := Lib.hid hu
        clear hu
        clear hf hd
        go_wp2_with fail
        refine (next_pos Z4.out.ain.tape 3 (by omega) (by omega)).mono ?_
        rintro e v5 ⟨p1, -, -, rfl, t, b⟩
        have Z5 := Lib.hid (Z4.out.next t b)
        have U1____ := Lib.hid (U1___.out.but Z4.out.ain.tape b)
        have S1_ := Lib.hid (S1.out.but Z4.out.ain.tape b)
        clear t b Z4 U1___ S1
        go_wp2_with fail
        refine (agrees_any (B := w0.heap.size) xl r1 m1 i1 s1 p1 _ ru1 su1 _ (Z5.out.ain.kw HBW.out HK.out) (Nat.le_trans HBW.out Z5.out.ain.below.size) Z5.out.x U1____.out S1_.out).mono ?_
        rintro e v6 ⟨rfl, b⟩
        have Z6 := Lib.hid (Z5.out.after b)
        clear b Z5 
        clear U1____ S1_
        go_wp2_with fail
        refine (record_any Z6.out.ain.tape).mono ?_
        rintro e v7 ⟨r2, ru2, rfl, hu, t, b⟩
        have Z7 := Lib.hid (Z6.out.next t b)
        clear t b Z6 
        have U2 := Lib.hid hu
        clear hu
        go_wp2_with fail
        refine (id_any Z7.out.ain.tape).mono ?_
        rintro e v8 ⟨i2, rfl, t, b⟩
        have Z8 := Lib.hid (Z7.out.next t b)
        have U2_ := Lib.hid (U2.out.but Z7.out.ain.tape b)
        clear t b Z7 U2
        go_wp2_with fail
        refine (set_any 3 (by omega) _ Z8.out.ain.tape).mono ?_
        rintro e v9 ⟨s2, su2, rfl, hf, hd, hu, t, b⟩
        have Z9 := Lib.hid (Z8.out.next t b)
        have U2__ := Lib.hid (U2_.out.but Z8.out.ain.tape b)
        clear t b Z8 U2_
        have S2 := Lib.hid hu
        clear hu
        have hl3 := set3_len hf hd
        clear hf
        go_wp2_with fail
        refine (spoilset_any s2 su2 _ Z9.out.ain.tape S2.out (by omega) (by omega) (by omega)).mono ?_
        rintro e v10 ⟨s3, su3, rfl, hu, t, b⟩
        have Z10 := Lib.hid (Z9.out.next t b)
        have U2___ := Lib.hid (U2__.out.but Z9.out.ain.tape b)
        clear t b Z9 U2__
        have S3 := Lib.hid hu
        clear hu
        clear S2 hd hl3
        go_wp2_with fail
        refine (next_pos Z10.out.ain.tape 3 (by omega) (by omega)).mono ?_
        rintro e v11 ⟨p2, -, -, rfl, t, b⟩
        have Z11 := Lib.hid (Z10.out.next t b)
        have U2____ := Lib.hid (U2___.out.but Z10.out.ain.tape b)
        have S3_ := Lib.hid (S3.out.but Z10.out.ain.tape b)
        clear t b Z10 U2___ S3
        have hb1 := lies_below H1.out Z11.out.ain.below (lt_heap H1.out)
        have hb2 := lies_below H2.out Z11.out.ain.below (lt_heap H2.out)
        obtain ⟨x0, x1, x2, x3, x4, x5, x6, x7⟩ := cells8 hb1
        have y0 := (lies_cells hb2).1 0
        have y1 := (lies_cells hb2).1 1
        simp only [List.getElem?_toArray, List.getElem?_cons_zero, List.getElem?_cons_succ] at y0 y1
        clear hb1 hb2
        go_wp2_with fail
        refine (agrees_any (B := w0.heap.size) yl r2 4 i2 s3 p2 _ ru2 su3 _ (Z11.out.ain.kw HBW.out HK.out) (Nat.le_trans HBW.out Z11.out.ain.below.size) Z11.out.y U2____.out S3_.out).mono ?_
        rintro e v12 ⟨rfl, b⟩
        have Z12 := Lib.hid (Z11.out.after b)
        clear b Z11 
        clear U2____ S3_
        clear x0 x1 x2 x3 x4 x5 x6 x7 y0 y1
        have hb1 := lies_below H1.out Z12.out.ain.below (lt_heap H1.out)
        have hb2 := lies_below H2.out Z12.out.ain.below (lt_heap H2.out)
        obtain ⟨x0, x1, x2, x3, x4, x5, x6, x7⟩ := cells8 hb1
        have y0 := (lies_cells hb2).1 0
        have y1 := (lies_cells hb2).1 1
        simp only [List.getElem?_toArray, List.getElem?_cons_zero, List.getElem?_cons_succ] at y0 y1
        clear hb1 hb2
        go_wp2_with fail
        refine (agrees_any (B := w0.heap.size) xl r most x s p _ (.slice ra rn rc) (.slice sa sn sc) _ (Z12.out.ain.kw HBW.out HK.out) (Nat.le_trans HBW.out Z12.out.ain.below.size) Z12.out.x (HR.out.below Z12.out.ain.below) (HS.out.below Z12.out.ain.below)).mono ?_
        rintro e v13 ⟨rfl, b⟩
        have Z13 := Lib.hid (Z12.out.after b)
        clear b Z12 
        clear x0 x1 x2 x3 x4 x5 x6 x7 y0 y1
        go_wp2
        go_roundw
        case rel => exact ⟨k + 1, _, rfl, by omega, by go_num, Z13.out.ain⟩
        case measure => simp [intOf]; omega
      · have hpos : 0 < xn := by omega
        go_wp2_with (at_builtin; refine wpList_append_sl rfl _ _ 22 rfl w2.heap.size 31 _ 8 88 Tryd.underlying22 info_rec rfl (by decide) _ _ _ (empty_rec w2) rfl _ xn _ rfl (SliceAt.same SX.out SameT.alloc) LN.out OC.out (by unfold maxLen; omega) (by omega) (by simp) ?_; intro yg yd w3 own gr; simp only [Nat.zero_add, List.nil_append] at own; have OW := Lib.hid own; have B3 := Lib.hid (((Below.refl w2.heap.size w2).alloc (Nat.le_refl _) (.cells #[] 31)).trans (Below.of_grown gr (empty_rec w2) (by simp))); clear own gr)
        have Y0 := Lib.hid (show YIn W _ _ xl _ xl from ⟨A2.out.after B3.out, HX.out.below B3.out, ⟨xss, SliceAt.of_owns OW.out, AL.out.mono fun _ _ hx => RecCells.keep (SameT.below B3.out) hx⟩⟩)
        obtain ⟨g, rfl, hg1, hg2, hg3, hg4, hg5⟩ := own_pos OW.out hpos (Nat.le_trans A2.out.tape.bs (Nat.le_of_lt A2.out.tape.lt))
        have GT := Lib.hid hg3
        have GF := Lib.hid hg5
        have HWG : W.heap.size < g := by have h1 := A2.out.tape.lt; omega
        have BX := Lib.hid ((But.refl W.heap.size w2).below B3.out)
        clear OW B3 SX AL LN OC hg3 hg4 hg5
        go_wp2_with fail
        refine (next_pos Y0.out.ain.tape xn (by omega) (by omega)).mono ?_
        rintro e v1 ⟨i, i1, i2, rfl, t, b⟩
        have Z1 := Lib.hid (Y0.out.next t b)
        have GT1 := Lib.hid ((tyAt_but b hg2 (by omega)).trans GT.out)
        have GF1 := Lib.hid (show ∀ j, v1.frozen? ⟨g, j, none⟩ = false from fun j => (b.frozen g j hg2 (by omega)).trans (GF.out j))
        have BX1 := Lib.hid (BX.out.trans b)
        have hg21 : g < v1.heap.size := Nat.lt_of_lt_of_le hg2 b.size
        clear t b GT GF BX
        go_wp2_with fail
        refine (record_any Z1.out.ain.tape).mono ?_
        rintro e v2 ⟨r0, ru0, rfl, hu, t, b⟩
        obtain ⟨i, rfl⟩ := Int.eq_ofNat_of_zero_le i1
        obtain ⟨ua, un, uc, rfl⟩ := hu.shape
        have Z2 := Lib.hid (Z1.out.next t b)
        have GT2 := Lib.hid ((tyAt_but b hg21 (by omega)).trans GT1.out)
        have GF2 := Lib.hid (show ∀ j, v2.frozen? ⟨g, j, none⟩ = false from fun j => (b.frozen g j hg21 (by omega)).trans (GF1.out j))
        have U0 := Lib.hid hu
        have hi : i < xl.length := by have := HXN.out; omega
        obtain ⟨rz, hrz⟩ : ∃ r, xl[i]? = some r := ⟨_, List.getElem?_eq_getElem hi⟩
        obtain ⟨a4, c4, e4, -, -, -, hc4⟩ := Z2.out.y.cell
        obtain ⟨mb, mo, mu, ea4, -, -, hc5⟩ := hc4 i rz hrz
        injection e4 with e41 e42 e43
        rw [← e41] at ea4
        injection ea4 with ea4
        injection ea4 with ea4 ea5
        have q0 := hc5 0 (by omega)
        have q1 := hc5 1 (by omega)
        have q2 := hc5 2 (by omega)
        have q3 := hc5 3 (by omega)
        have q4 := hc5 4 (by omega)
        have q5 := hc5 5 (by omega)
        have q6 := hc5 6 (by omega)
        have q7 := hc5 7 (by omega)
        rw [← ea4, ← ea5] at q0 q1 q2 q3 q4 q5 q6 q7
        simp only [List.getElem?_cons_zero, List.getElem?_cons_succ, Nat.zero_add, Nat.add_zero] at q0 q1 q2 q3 q4 q5 q6 q7
        have f0 := GF2.out (i * 8)
        have f1 := GF2.out (i * 8 + 1)
        have f2 := GF2.out (i * 8 + 2)
        have f3 := GF2.out (i * 8 + 3)
        have f4 := GF2.out (i * 8 + 4)
        have f5 := GF2.out (i * 8 + 5)
        have f6 := GF2.out (i * 8 + 6)
        have f7 := GF2.out (i * 8 + 7)
        have Y2 := Lib.hid (Z2.out.put8 (u := .slice ua un uc) (r2 := r0) HX.out A2.out.tape (BX1.out.trans b) hg1 HWG hi U0.out GT2.out)
        clear t b hu hrz hc4 hc5 e41 e42 e43 ea4 ea5 Z1 Z2 GF1 GF2 GT1 GT2 U0 Y0 BX1 HX A2 hi
        obtain ⟨yl, hyl⟩ : ∃ yl, yl = xl.set i r0 := ⟨_, rfl⟩
        rw [← hyl] at Y2
        clear hyl
        go_wp2_with fail
        refine (record_any Y2.out.ain.tape).mono ?_
        rintro e v1 ⟨r1, ru1, rfl, hu, t, b⟩
        have Z1 := Lib.hid (Y2.out.next t b)
        clear t b Y2 
        have U1 := Lib.hid hu
        clear hu
        go_wp2_with fail
        refine (next_pos Z1.out.ain.tape 6 (by omega) (by omega)).mono ?_
        rintro e v2 ⟨m1, -, -, rfl, t, b⟩
        have Z2 := Lib.hid (Z1.out.next t b)
        have U1_ := Lib.hid (U1.out.but Z1.out.ain.tape b)
        clear t b Z1 U1
        go_wp2_with fail
        refine (id_any Z2.out.ain.tape).mono ?_
        rintro e v3 ⟨i1, rfl, t, b⟩
        have Z3 := Lib.hid (Z2.out.next t b)
        have U1__ := Lib.hid (U1_.out.but Z2.out.ain.tape b)
        clear t b Z2 U1_
        go_wp2_with fail
        refine (set_any 3 (by omega) _ Z3.out.ain.tape).mono ?_
        rintro e v4 ⟨s1, su1, rfl, hf, hd, hu, t, b⟩
        have Z4 := Lib.hid (Z3.out.next t b)
        have U1___ := Lib.hid (U1__.out.but Z3.out.ain.tape b)
        clear t b Z3 U1__
        have S1 := Lib.hid hu
        clear hu
        clear hf hd
        go_wp2_with fail
        refine (next_pos Z4.out.ain.tape 3 (by omega) (by omega)).mono ?_
        rintro e v5 ⟨p1, -, -, rfl, t, b⟩
        have Z5 := Lib.hid (Z4.out.next t b)
        have U1____ := Lib.hid (U1___.out.but Z4.out.ain.tape b)
        have S1_ := Lib.hid (S1.out.but Z4.out.ain.tape b)
        clear t b Z4 U1___ S1
        go_wp2_with fail
        refine (agrees_any (B := w0.heap.size) xl r1 m1 i1 s1 p1 _ ru1 su1 _ (Z5.out.ain.kw HBW.out HK.out) (Nat.le_trans HBW.out Z5.out.ain.below.size) Z5.out.x U1____.out S1_.out).mono ?_
        rintro e v6 ⟨rfl, b⟩
        have Z6 := Lib.hid (Z5.out.after b)
        clear b Z5 
        clear U1____ S1_
        go_wp2_with fail
        refine (record_any Z6.out.ain.tape).mono ?_
        rintro e v7 ⟨r2, ru2, rfl, hu, t, b⟩
        have Z7 := Lib.hid (Z6.out.next t b)
        clear t b Z6 
        have U2 := Lib.hid hu
        clear hu
        go_wp2_with fail
        refine (id_any Z7.out.ain.tape).mono ?_
        rintro e v8 ⟨i2, rfl, t, b⟩
        have Z8 := Lib.hid (Z7.out.next t b)
        have U2_ := Lib.hid (U2.out.but Z7.out.ain.tape b)
        clear t b Z7 U2
        go_wp2_with fail
        refine (set_any 3 (by omega) _ Z8.out.ain.tape).mono ?_
        rintro e v9 ⟨s2, su2, rfl, hf, hd, hu, t, b⟩
        have Z9 := Lib.hid (Z8.out.next t b)
        have U2__ := Lib.hid (U2_.out.but Z8.out.ain.tape b)
        clear t b Z8 U2_
        have S2 := Lib.hid hu
        clear hu
        have hl3 := set3_len hf hd
        clear hf
        go_wp2_with fail
        refine (spoilset_any s2 su2 _ Z9.out.ain.tape S2.out (by omega) (by omega) (by omega)).mono ?_
        rintro e v10 ⟨s3, su3, rfl, hu, t, b⟩
        have Z10 := Lib.hid (Z9.out.next t b)
        have U2___ := Lib.hid (U2__.out.but Z9.out.ain.tape b)
        clear t b Z9 U2__
        have S3 := Lib.hid hu
        clear hu
        clear S2 hd hl3
        go_wp2_with fail
        refine (next_pos Z10.out.ain.tape 3 (by omega) (by omega)).mono ?_
        rintro e v11 ⟨p2, -, -, rfl, t, b⟩
        have Z11 := Lib.hid (Z10.out.next t b)
        have U2____ := Lib.hid (U2___.out.but Z10.out.ain.tape b)
        have S3_ := Lib.hid (S3.out.but Z10.out.ain.tape b)
        clear t b Z10 U2___ S3
        have hb1 := lies_below H1.out Z11.out.ain.below (lt_heap H1.out)
        have hb2 := lies_below H2.out Z11.out.ain.below (lt_heap H2.out)
        obtain ⟨x0, x1, x2, x3, x4, x5, x6, x7⟩ := cells8 hb1
        have y0 := (lies_cells hb2).1 0
        have y1 := (lies_cells hb2).1 1
        simp only [List.getElem?_toArray, List.getElem?_cons_zero, List.getElem?_cons_succ] at y0 y1
        clear hb1 hb2
        go_wp2_with fail
        refine (agrees_any (B := w0.heap.size) yl r2 4 i2 s3 p2 _ ru2 su3 _ (Z11.out.ain.kw HBW.out HK.out) (Nat.le_trans HBW.out Z11.out.ain.below.size) Z11.out.y U2____.out S3_.out).mono ?_
        rintro e v12 ⟨rfl, b⟩
        have Z12 := Lib.hid (Z11.out.after b)
        clear b Z11 
        clear U2____ S3_
        clear x0 x1 x2 x3 x4 x5 x6 x7 y0 y1
        have hb1 := lies_below H1.out Z12.out.ain.below (lt_heap H1.out)
        have hb2 := lies_below H2.out Z12.out.ain.below (lt_heap H2.out)
        obtain ⟨x0, x1, x2, x3, x4, x5, x6, x7⟩ := cells8 hb1
        have y0 := (lies_cells hb2).1 0
        have y1 := (lies_cells hb2).1 1
        simp only [List.getElem?_toArray, List.getElem?_cons_zero, List.getElem?_cons_succ] at y0 y1
        clear hb1 hb2
        go_wp2_with fail
        refine (agrees_any (B := w0.heap.size) xl r most x s p _ (.slice ra rn rc) (.slice sa sn sc) _ (Z12.out.ain.kw HBW.out HK.out) (Nat.le_trans HBW.out Z12.out.ain.below.size) Z12.out.x (HR.out.below Z12.out.ain.below) (HS.out.below Z12.out.ain.below)).mono ?_
        rintro e v13 ⟨rfl, b⟩
        have Z13 := Lib.hid (Z12.out.after b)
        clear b Z12 
        clear x0 x1 x2 x3 x4 x5 x6 x7 y0 y1
        go_wp2
        go_roundw
        case rel => exact ⟨k + 1, _, rfl, by omega, by go_num, Z13.out.ain⟩
        case measure => simp [intOf]; omega
    · by_cases h70 : 70 < ln
      · have d1 : decide ((70 : Int) < (ln : Int)) = true := by simp; omega
        have d2 : decide (70 < ln) = true := by simp; omega
        go_wp2
        go_ret
        exact ⟨rfl, BB.out.trans (I.out.below.mono HBW.out)⟩
      · have d1 : decide ((70 : Int) < (ln : Int)) = false := by simp; omega
        have d2 : decide (70 < ln) = false := by simp; omega
        have hb1 := lies_below H1.out I.out.below (lt_heap H1.out)
        have hb2 := lies_below H2.out I.out.below (lt_heap H2.out)
        obtain ⟨x0, x1, x2, x3, x4, x5, x6, x7⟩ := cells8 hb1
        have y0 := (lies_cells hb2).1 0
        have y1 := (lies_cells hb2).1 1
        simp only [List.getElem?_toArray, List.getElem?_cons_zero, List.getElem?_cons_succ] at y0 y1
        by_cases h20 : 20 < sn
        · have d3 : decide ((20 : Int) < (sn : Int)) = true := by simp; omega
          have d4 : decide (20 < sn) = true := by simp; omega
          go_wp2
          go_ret
          exact ⟨rfl, BB.out.trans (I.out.below.mono HBW.out)⟩
        · have d3 : decide ((20 : Int) < (sn : Int)) = false := by simp; omega
          have d4 : decide (20 < sn) = false := by simp; omega
          go_wp2_with fail
          refine (agrees_any (B := w0.heap.size) l r most x s p _ (.slice ra rn rc) (.slice sa sn sc) _ (I.out.kw HBW.out HK.out) (Nat.le_trans HBW.out I.out.below.size) (HL.out.below I.out.below) (HR.out.below I.out.below) (HS.out.below I.out.below)).mono ?_
          rintro e w5 ⟨rfl, b⟩
          have I5 := Lib.hid (I.out.after b)
          clear b x0 x1 x2 x3 x4 x5 x6 x7 y0 y1 I
          go_wp2_with fail
          refine (sane_any (B := w0.heap.size) _ (I5.out.kw HBW.out HK.out) (Nat.le_trans HBW.out I5.out.below.size)).mono ?_
          rintro e w6 ⟨rfl, b⟩
          have I6 := Lib.hid (I5.out.after b)
          clear b I5
          go_wp2
          go_ret
          exact ⟨rfl, BB.out.trans (I6.out.below.mono HBW.out)⟩
end Go.Proofs.YtlchgbfpoaipgaaDoor

/- What came in, as the walks want it: words, sets, records, tables. (nobase) No walk. -/
namespace Go.Proofs.YtlchgbfpoaipgaaDoor
open Go.ChangeShapes Go.WideShapes Go.Deep Go.RowKit

section
variable {H : Type} {enc : TypeId × Value → H} {w : World} {base : Nat} {held : Bool} [Base]
theorem cell_block {b o : Nat} {v : Value} (h : w.cell? ⟨b, o, none⟩ = some v) : b < w.heap.size ∧ ∃ c U fr, w.heap[b]? = some (.cells c U fr) ∧ ∀ k, w.cell? ⟨b, k, none⟩ = c[k]? := by
  unfold World.cell? at h
  cases hb : w.heap[b]? with
  | none => simp [hb] at h
  | some q =>
    refine ⟨lt_heap hb, ?_⟩
    cases q <;> first | (refine ⟨_, _, _, rfl, fun k => ?_⟩; simp [World.cell?, hb]) | (simp [hb] at h)
theorem addr_plain {a : Addr} {v : Value} (h : w.cell? a = some v) : ∃ b off, a = ⟨b, off, none⟩ := by
  obtain ⟨b, off, s⟩ := a
  have hs : s = none := by simpa using World.cell?_spot h
  exact ⟨b, off, by rw [hs]⟩
theorem addr_add' (b off j : Nat) : (⟨b, off, none⟩ : Addr).add j = ⟨b, off + j, none⟩ := by
  unfold Addr.add
  split
  · rename_i h; subst h; rfl
  · rfl
/-- A row of cells that came in, where an element is sz cells. -/
theorem slice_old {T : TypeId} {sz len cap : Nat} {a : Addr} {xs : List Value} (hB : w.heap.size ≤ Base.b) (hl : len ≤ cap) (hm : cap ≤ maxLen) (hx : xs.length = len * sz) (hsz : 0 < sz)
    (h0 : 0 < cap → ∃ v, w.cell? (a.add 0) = some v) (hc : ∀ i, i < xs.length → w.cell? (a.add i) = xs[i]?) : SliceAt w T sz (.slice (some a) len cap) xs := by
  by_cases h : cap = 0
  · subst h
    obtain rfl : len = 0 := by omega
    exact ⟨0, 0, hx, Nat.le_refl _, Nat.zero_le _, .inl ⟨⟨_, rfl⟩, rfl⟩⟩
  · obtain ⟨v, hv⟩ := h0 (by omega)
    have ha : a.add 0 = a := by unfold Addr.add; simp
    rw [ha] at hv
    obtain ⟨b, off, rfl⟩ := addr_plain hv
    obtain ⟨hlt, c, U, fr, hb, hk⟩ := cell_block hv
    refine ⟨len, cap, hx, hl, hm, .inr ⟨b, off, c, fr, rfl, HeapLike.old hb (by omega), fun i hi => ?_⟩⟩
    rw [← hc i hi, addr_add', hk]
theorem wf_u64 {n : Int} (h : (Lit.int .u64 n).wf = true) : 0 ≤ n ∧ n < 18446744073709551616 := by
  simp [Lit.wf, IntKind.min, IntKind.max, IntKind.signed, IntKind.bits] at h
  omega
theorem open_words {fuel : Nat} {v : Value} {x : DataW H × List MemPlace} (hB : w.heap.size ≤ Base.b) (h : DataW.trod enc Tryd.prog w base (fun _ => true) held fuel 27 [v] = some x) : ∃ ws, WordsAt w v ws := by
  rcases open_slice1 Tryd.underlying27 (by kernel_rfl) h with ⟨hcs, _⟩ | ⟨a, len, cap, m, n, V, D, Pl, hcs, _, hl, hm, hmm, _, hx⟩
  · injection hcs with hcs _
    subst hcs
    exact ⟨[], WordsAt.nil⟩
  · injection hcs with hcs _
    subst hcs
    simp only [if_true] at hmm
    subst hmm
    have hV : ∀ i, i < m → ∃ z : Int, V i = .int .u64 z ∧ 0 ≤ z ∧ z < 18446744073709551616 := fun i hi => by
      obtain ⟨z, h1, _, h2⟩ := DataW.trod_int Tryd.underlying61 (hx i hi).2
      injection h1 with h1 _
      exact ⟨z, h1, wf_u64 h2⟩
    let f : Nat → Nat := fun i => match V i with | .int _ z => z.toNat | _ => 0
    have hf : ∀ i, i < m → V i = uv (f i) ∧ f i < 18446744073709551616 := fun i hi => by
      obtain ⟨z, h1, h2, h3⟩ := hV i hi
      show V i = .int .u64 ((f i : Nat) : Int) ∧ _
      have : f i = z.toNat := by show (match V i with | .int _ z => z.toNat | _ => 0) = _; rw [h1]
      rw [this, h1]
      exact ⟨by rw [Int.toNat_of_nonneg h2], by omega⟩
    refine ⟨(List.range len).map f, slice_old hB hl hm (by simp) (by omega) (fun h => ⟨_, (hx 0 h).1⟩) (fun i hi => ?_), fun y hy => ?_⟩
    · simp at hi
      rw [(hx i (by omega)).1, (hf i (by omega)).1]
      simp [hi]
    · simp only [List.mem_map, List.mem_range] at hy
      obtain ⟨i, hi, rfl⟩ := hy
      exact (hf i (by omega)).2
theorem open_set {fuel : Nat} {cs : List Value} {x : DataW H × List MemPlace} (hB : w.heap.size ≤ Base.b) (h : DataW.trod enc Tryd.prog w base (fun _ => true) held fuel 29 cs = some x) :
    ∃ (s : QSet) (u : Value), cs = [.int .i64 s.width, u] ∧ WordsAt w u s.words := by
  obtain ⟨xs, n, _, _, hlen, hxl, hf⟩ := DataW.trod_struct Tryd.underlying29 h
  have hlen2 : cs.length = 2 := hlen.trans (by kernel_rfl)
  match cs, hlen2 with
  | [c0, c1], _ =>
    have h0 : DataW.trod enc Tryd.prog w base (fun _ => true) held n 3 (List.take (Tryd.prog.cellsOf 3) (List.drop 0 [c0, c1])) = xs[0]? := hf 0 _ rfl
    have h1 : DataW.trod enc Tryd.prog w base (fun _ => true) held n 27 (List.take (Tryd.prog.cellsOf 27) (List.drop 1 [c0, c1])) = xs[1]? := hf 1 _ rfl
    have k0 : Tryd.prog.cellsOf 3 = 1 := by kernel_rfl
    have k1 : Tryd.prog.cellsOf 27 = 1 := by kernel_rfl
    rw [k0] at h0
    rw [k1] at h1
    simp only [List.drop_zero, List.drop_succ_cons, List.take_succ_cons, List.take_zero] at h0 h1
    have xl : xs.length = 2 := hxl
    rw [List.getElem?_eq_getElem (by omega)] at h0 h1
    obtain ⟨z, e0, _, _⟩ := DataW.trod_int Tryd.underlying3 h0
    injection e0 with e0 _
    subst e0
    obtain ⟨ws, hw⟩ := open_words hB h1
    exact ⟨⟨z, ws⟩, c1, rfl, hw⟩
theorem one_cell {c d : Value} (h : [c] = [d]) : c = d := by injection h
theorem open_rec {fuel : Nat} {cs : List Value} {x : DataW H × List MemPlace} (hB : w.heap.size ≤ Base.b) (h : DataW.trod enc Tryd.prog w base (fun _ => true) held fuel 31 cs = some x) :
    ∃ r : QRec, RecCells w cs r := by
  obtain ⟨xs, n, _, _, hlen, hxl, hf⟩ := DataW.trod_struct Tryd.underlying31 h
  have hlen2 : cs.length = 8 := hlen.trans (by kernel_rfl)
  match cs, hlen2 with
  | [c0, c1, c2, c3, c4, c5, c6, c7], _ =>
    have h0 : DataW.trod enc Tryd.prog w base (fun _ => true) held n 9 (List.take (Tryd.prog.cellsOf 9) (List.drop 0 [c0, c1, c2, c3, c4, c5, c6, c7])) = xs[0]? := hf 0 _ rfl
    have h1 : DataW.trod enc Tryd.prog w base (fun _ => true) held n 3 (List.take (Tryd.prog.cellsOf 3) (List.drop 1 [c0, c1, c2, c3, c4, c5, c6, c7])) = xs[1]? := hf 1 _ rfl
    have h2 : DataW.trod enc Tryd.prog w base (fun _ => true) held n 3 (List.take (Tryd.prog.cellsOf 3) (List.drop 2 [c0, c1, c2, c3, c4, c5, c6, c7])) = xs[2]? := hf 2 _ rfl
    have h3 : DataW.trod enc Tryd.prog w base (fun _ => true) held n 3 (List.take (Tryd.prog.cellsOf 3) (List.drop 3 [c0, c1, c2, c3, c4, c5, c6, c7])) = xs[3]? := hf 3 _ rfl
    have h4 : DataW.trod enc Tryd.prog w base (fun _ => true) held n 3 (List.take (Tryd.prog.cellsOf 3) (List.drop 4 [c0, c1, c2, c3, c4, c5, c6, c7])) = xs[4]? := hf 4 _ rfl
    have h5 : DataW.trod enc Tryd.prog w base (fun _ => true) held n 3 (List.take (Tryd.prog.cellsOf 3) (List.drop 5 [c0, c1, c2, c3, c4, c5, c6, c7])) = xs[5]? := hf 5 _ rfl
    have h6 : DataW.trod enc Tryd.prog w base (fun _ => true) held n 29 (List.take (Tryd.prog.cellsOf 29) (List.drop 6 [c0, c1, c2, c3, c4, c5, c6, c7])) = xs[6]? := hf 6 _ rfl
    have ks : Tryd.prog.cellsOf 9 = 1 := by kernel_rfl
    have k0 : Tryd.prog.cellsOf 3 = 1 := by kernel_rfl
    have k1 : Tryd.prog.cellsOf 29 = 2 := by kernel_rfl
    rw [ks] at h0
    rw [k0] at h1 h2 h3 h4 h5
    rw [k1] at h6
    simp only [List.drop_zero, List.drop_succ_cons, List.take_succ_cons, List.take_zero] at h0 h1 h2 h3 h4 h5 h6
    have xl : xs.length = 7 := hxl
    rw [List.getElem?_eq_getElem (by omega)] at h0 h1 h2 h3 h4 h5 h6
    obtain ⟨s, e0, _, _⟩ := DataW.trod_string Tryd.underlying9 h0
    obtain ⟨z1, e1, _, _⟩ := DataW.trod_int Tryd.underlying3 h1
    obtain ⟨z2, e2, _, _⟩ := DataW.trod_int Tryd.underlying3 h2
    obtain ⟨z3, e3, _, _⟩ := DataW.trod_int Tryd.underlying3 h3
    obtain ⟨z4, e4, _, _⟩ := DataW.trod_int Tryd.underlying3 h4
    obtain ⟨z5, e5, _, _⟩ := DataW.trod_int Tryd.underlying3 h5
    obtain ⟨q, u, e6, hw⟩ := open_set hB h6
    obtain rfl := one_cell e0
    obtain rfl := one_cell e1
    obtain rfl := one_cell e2
    obtain rfl := one_cell e3
    obtain rfl := one_cell e4
    obtain rfl := one_cell e5
    injection e6 with e6 e7
    obtain rfl := e6
    obtain rfl := one_cell e7
    exact ⟨⟨s.data.toList, z1, z2, z3, z4, z5, q⟩, _, rfl, hw⟩
theorem open_recs {fuel : Nat} {v : Value} {x : DataW H × List MemPlace} (hB : w.heap.size ≤ Base.b) (h : DataW.trod enc Tryd.prog w base (fun _ => true) held fuel 22 [v] = some x) : ∃ l, RecsAt w v l := by
  have hC : Tryd.prog.cellsOf 31 = 8 := by kernel_rfl
  rcases open_slice Tryd.underlying22 h with ⟨hcs, _⟩ | ⟨a, len, cap, m, n, D, Pl, hcs, _, hl, hm, hmm, _, hx⟩
  · injection hcs with hcs _
    subst hcs
    exact ⟨[], RecsAt.nil⟩
  · injection hcs with hcs _
    subst hcs
    simp only [if_true] at hmm
    subst hmm
    rw [hC] at hx
    have hy : ∀ i, i < m → ∃ (p : List Value × QRec), RecCells w p.1 p.2 ∧ ∀ j, j < 8 → w.cell? (a.add (i * 8 + j)) = p.1[j]? := fun i hi => by
      obtain ⟨cs', h1, h2⟩ := hx i hi
      obtain ⟨r, hr⟩ := open_rec hB h2
      obtain ⟨_, _, hat⟩ := World.cells?_some h1
      exact ⟨(cs', r), hr, fun j hj => by rw [← Go.Deep.add_add]; exact hat j hj⟩
    obtain ⟨f, hf⟩ : ∃ f : Nat → List Value × QRec, ∀ i, i < m → RecCells w (f i).1 (f i).2 ∧ ∀ j, j < 8 → w.cell? (a.add (i * 8 + j)) = (f i).1[j]? := by
      classical
      exact ⟨fun i => if hi : i < m then Classical.choose (hy i hi) else ([], ⟨[], 0, 0, 0, 0, 0, ⟨0, []⟩⟩), fun i hi => by simp only [dif_pos hi]; exact Classical.choose_spec (hy i hi)⟩
    have hall : ∀ k, k ≤ len → All2 (RecCells w) ((List.range k).map fun i => (f i).1) ((List.range k).map fun i => (f i).2) := by
      intro k
      induction k with
      | zero => intro _; exact trivial
      | succ k ih =>
        intro hk
        rw [List.range_succ, List.map_append, List.map_append]
        exact (ih (by omega)).append ⟨(hf k (by omega)).1, trivial⟩
    have hl8 : ∀ y ∈ (List.range len).map (fun i => (f i).1), y.length = 8 := rows_len (hall len (Nat.le_refl _))
    have hfl := flatten_len 8 _ hl8
    rw [List.length_map, List.length_range] at hfl
    refine ⟨(List.range len).map fun i => (f i).2, (List.range len).map fun i => (f i).1, slice_old hB hl hm hfl (by omega) (fun h => ?_) (fun i hi => ?_), hall len (Nat.le_refl _)⟩
    · obtain ⟨u, e, _⟩ := (hf 0 h).1
      have := (hf 0 h).2 0 (by omega)
      rw [e] at this
      exact ⟨_, this⟩
    · rw [hfl] at hi
      have h1 := (hf (i / 8) (by omega)).2 (i % 8) (by omega)
      rw [show i / 8 * 8 + i % 8 = i by omega] at h1
      rw [h1]
      have h2 := flatten_get 8 _ hl8 (i / 8) (i % 8) (by rw [List.length_map, List.length_range]; omega) (by omega)
      rw [show i / 8 * 8 + i % 8 = i by omega] at h2
      rw [h2]
      simp
end
end Go.Proofs.YtlchgbfpoaipgaaDoor

/- What the tied keywords give a law's walk. (nobase) -/
namespace Go.Proofs.YtlchgbfpoaipgaaDoor
open Go.ChangeShapes Go.WideShapes Go.ChangeAt Go.WideMaps Go.WideElems Go.ChangeMaps Go.Deep Go.RowKit

theorem own : ownKnob Tryd.prog.godebug = none := by kernel_rfl
theorem gKw : Tryd.prog.globalNamed "flowquery/lexer.keywords" = some 0 := by kernel_rfl
theorem tKw : (Tryd.prog.globals[0]?).map (·.type) = some 48 := by kernel_rfl
theorem cStr : Tryd.prog.cellsOf 9 = 1 := by kernel_rfl
theorem cInt : Tryd.prog.cellsOf 3 = 1 := by kernel_rfl
def laid1 : List (String × DataW Unit) := [("flowquery/lexer.keywords", Rows.laid_flowquery_lexer_keywords)]

/-- The door's own heap meets the condition. -/
theorem door_met (os : Os) (args : Array Value) : laidMetH Tryd.prog laid1 ((World.doorLaid Tryd.prog 400 os).forCall (fun _ _ => 0) ⟨#[], args, []⟩).memory :=
  laidMetH_of_parts3 (fuel := 8) (laidMet_of_run' 8 (by kernel_rfl) (by kernel_rfl)) (by kernel_rfl) (by kernel_rfl)

theorem cell_lt {w : World} {b o : Nat} {v : Value} (h : w.cell? ⟨b, o, none⟩ = some v) : b < w.heap.size := by
  rcases Nat.lt_or_ge b w.heap.size with h' | h'
  · exact h'
  · simp [World.cell?, Array.getElem?_eq_none h'] at h

/-- What the condition gives the walk. -/
theorem of_laid [Base] {W : World} (h : laidMetH Tryd.prog laid1 W) (hbs : Base.b ≤ W.heap.size) : KwIn W.heap.size W := by
  rw [MakeChecks.laidMetH_plain _ _ _ (by kernel_rfl)] at h
  obtain ⟨ps, ⟨g0, t0, cs0, f0, p0, q0, hg0, ht0, hv0, hd0, _⟩, _, _⟩ := h
  obtain rfl := Option.some.inj (gKw.symm.trans hg0)
  obtain rfl := Option.some.inj (tKw.symm.trans ht0)
  rcases open_strs Tryd.underlying48 Tryd.underlying9 cStr hd0 with ⟨_, hx⟩ | ⟨a, len, cap, m, Sx, hcs, _, hl1, hl2, hm, hx, hcell⟩
  · simp [Rows.laid_flowquery_lexer_keywords] at hx
  simp only [Prod.mk.injEq] at hx
  have hK : kws.map (fun l => (DataW.lit (.string l) : DataW Unit)) = (List.range len).map fun i => .lit (.string (Sx i).data.toList) := by
    have h1 := hx.1
    have h2 : (Rows.laid_flowquery_lexer_keywords : DataW Unit) = .slice (kws.map fun l => .lit (.string l)) [] := rfl
    rw [h2] at h1
    injection h1 with h1 _
  have hlen : len = 11 := by
    have := congrArg List.length hK
    simp at this
    rw [← this]; rfl
  have hm2 : len ≤ m := by rw [hm]; split <;> omega
  have hc0 : W.cell? ⟨0, 0, none⟩ = some (.slice (some a) len cap) := by
    have := World.var?_cell hg0 hv0 0
    rw [Array.eq_one_of_toList hcs] at this
    simpa using this
  obtain ⟨b, off, spot⟩ := a
  have h00 := (hcell 0 (by omega)).1
  have hspot : spot = none := by simpa [Addr.add] using World.cell?_spot h00
  subst hspot
  subst hlen
  refine ⟨⟨by have := cell_lt hc0; omega, hbs⟩, b, off, cap, ?_, hc0, fun k s hk => ⟨b, off, rfl, ?_⟩⟩
  · rw [add_plain] at h00
    exact cell_lt h00
  · have hk2 : k < 11 := by
      have := (List.getElem?_eq_some_iff.1 hk).1
      exact this
    have h1 := congrArg (·[k]?) hK
    simp only [List.getElem?_map, hk, List.getElem?_range hk2, Option.map_some, Option.some.injEq, DataW.lit.injEq, Lit.string.injEq] at h1
    have h2 := (hcell k (by omega)).1
    rw [add_plain] at h2
    rw [h2, h1]

end Go.Proofs.YtlchgbfpoaipgaaDoor

namespace Go.Proofs.YtlchgbfpoaipgaaDoor
open Go.ChangeShapes Go.WideShapes Go.ChangeAt Go.WideMaps Go.WideElems Go.ChangeMaps Go.Deep Go.RowKit

section
variable {H : Type} {enc : TypeId × Value → H} {P : Program} {w : World} {base : Nat} {spare : Nat → Bool} {held : Bool}
theorem trodAll_seven {t0 t1 t2 t3 t4 t5 t6 : TypeId} {args : Array Value} {ds : List (DataW H)} {ps : List MemPlace} (h : DataW.TrodAll enc P w base spare held (#[t0, t1, t2, t3, t4, t5, t6] : Array TypeId).toList args.toList ds ps) :
    ∃ v0 v1 v2 v3 v4 v5 v6 d0 d1 d2 d3 d4 d5 d6 p0 p1 p2 p3 p4 p5 p6, args = #[v0, v1, v2, v3, v4, v5, v6] ∧ ds = [d0, d1, d2, d3, d4, d5, d6] ∧ ps = p0 ++ (p1 ++ (p2 ++ (p3 ++ (p4 ++ (p5 ++ p6))))) ∧
      DataW.Trod enc P w base spare held t0 v0 d0 p0 ∧ DataW.Trod enc P w base spare held t1 v1 d1 p1 ∧ DataW.Trod enc P w base spare held t2 v2 d2 p2 ∧ DataW.Trod enc P w base spare held t3 v3 d3 p3 ∧ DataW.Trod enc P w base spare held t4 v4 d4 p4 ∧ DataW.Trod enc P w base spare held t5 v5 d5 p5 ∧ DataW.Trod enc P w base spare held t6 v6 d6 p6 := by
  obtain ⟨v0, r0, d0, e0, p0, q0, a0, b0, c0, g0, h⟩ := trodAll_cons h
  obtain ⟨v1, r1, d1, e1, p1, q1, rfl, rfl, rfl, g1, h⟩ := trodAll_cons h
  obtain ⟨v2, r2, d2, e2, p2, q2, rfl, rfl, rfl, g2, h⟩ := trodAll_cons h
  obtain ⟨v3, r3, d3, e3, p3, q3, rfl, rfl, rfl, g3, h⟩ := trodAll_cons h
  obtain ⟨v4, r4, d4, e4, p4, q4, rfl, rfl, rfl, g4, h⟩ := trodAll_cons h
  obtain ⟨v5, r5, d5, e5, p5, q5, rfl, rfl, rfl, g5, h⟩ := trodAll_cons h
  obtain ⟨v6, r6, d6, e6, p6, q6, rfl, rfl, rfl, g6, h⟩ := trodAll_cons h
  obtain ⟨rfl, rfl, rfl⟩ := trodAll_nil h
  exact ⟨v0, v1, v2, v3, v4, v5, v6, d0, d1, d2, d3, d4, d5, d6, p0, p1, p2, p3, p4, p5, p6, Array.toList_inj.1 (by simpa using a0), b0, by simpa using c0, g0, g1, g2, g3, g4, g5, g6⟩
theorem trodAll_mk7 {t0 t1 t2 t3 t4 t5 t6 : TypeId} {v0 v1 v2 v3 v4 v5 v6 : Value} {d0 d1 d2 d3 d4 d5 d6 : DataW H} {p0 p1 p2 p3 p4 p5 p6 : List MemPlace} (g0 : DataW.Trod enc P w base spare held t0 v0 d0 p0) (g1 : DataW.Trod enc P w base spare held t1 v1 d1 p1) (g2 : DataW.Trod enc P w base spare held t2 v2 d2 p2) (g3 : DataW.Trod enc P w base spare held t3 v3 d3 p3) (g4 : DataW.Trod enc P w base spare held t4 v4 d4 p4) (g5 : DataW.Trod enc P w base spare held t5 v5 d5 p5) (g6 : DataW.Trod enc P w base spare held t6 v6 d6 p6) :
    DataW.TrodAll enc P w base spare held [t0, t1, t2, t3, t4, t5, t6] [v0, v1, v2, v3, v4, v5, v6] [d0, d1, d2, d3, d4, d5, d6] (p0 ++ (p1 ++ (p2 ++ (p3 ++ (p4 ++ (p5 ++ (p6 ++ []))))))) :=
  trodAll_cons_mk g0 (trodAll_cons_mk g1 (trodAll_cons_mk g2 (trodAll_cons_mk g3 (trodAll_cons_mk g4 (trodAll_cons_mk g5 (trodAll_cons_mk g6 trodAll_mk0))))))
end
theorem agg_of {c : Array Value} {l : List Value} (h : (Value.agg c).cells.toList = l) : Value.agg c = .agg l.toArray := by
  have h : c.toList = l := h
  rw [← h]
namespace queriesAgree

set_option maxRecDepth 100000 in
set_option maxHeartbeats 1000000 in
theorem lifted (os : Os) (started : os.Started) (H : Type) (enc : TypeId × Value → H) :
    ReturnsInHanded {} Tryd.checked os 4 .any (fun w args => (Rows.queriesAgreeSpec.pre enc Tryd.prog Tryd.f4 [] false w args ∧ laidMetH Tryd.prog laid1 w) ∧ sizedMet enc Tryd.prog Tryd.f4 (OpenSpec.ofChange Rows.queriesAgreeSpec) false w args)
      (Rows.queriesAgreeSpec.post enc Tryd.prog Tryd.f4 false true false false) := by
  refine returnsInHanded_of_change_and (C := Tryd.checked) (X := fun w _ => laidMetH Tryd.prog laid1 w) (fun _ _ _ hh h => h.of_heap hh) own started (by kernel_rfl) Tryd.func4
    (ChangeSpec.witness_shaped (enc := enc) (C := Tryd.checked) (os := os) (X := fun w _ => laidMetH Tryd.prog laid1 w) false (World.doorLaid Tryd.prog 400 os) #[.slice none 0 0, .slice none 0 0, .agg #[.string ⟨#[]⟩, .int .i64 0, .int .i64 0, .int .i64 0, .int .i64 0, .int .i64 0, .int .i64 0, .slice none 0 0], .int .i64 0, .string ⟨#[]⟩, .agg #[.int .i64 0, .slice none 0 0], .int .i64 0] 8 rfl (World.shaped_of_RefB (by kernel_rfl) (by kernel_rfl)) (by kernel_rfl) (by kernel_rfl) (by kernel_rfl) (door_met os _)) ?_
  intro W base args ds gs before hval0 hW _ _ hL _
  have hval : ∀ (j : Nat) t v, Tryd.f4.params[j]? = some t → args[j]? = some v → Value.okWide Tryd.prog W .any base t v := hval0
  have hW' := hW
  have hlt := hW.lt
  obtain ⟨p, q, hA0, hV, rfl, hfz, hnd⟩ := hW
  have hA : DataW.TrodAll enc Tryd.prog W 0 (fun _ => true) true Tryd.f4.params.toList args.toList ds p := hA0
  rw [Tryd.params4] at hA hval
  obtain ⟨v0, v1, v2, v3, v4, v5, v6, d0, d1, d2, d3, d4, d5, d6, p0, p1, p2, p3, p4, p5, p6, rfl, rfl, rfl, h0, h1, h2, h3, h4, h5, h6⟩ := trodAll_seven hA
  obtain ⟨rfl, rfl⟩ := trodVars_none hV
  letI : Base := ⟨W.heap.size⟩
  have hB : W.heap.size ≤ Base.b := Nat.le_refl _
  have K := of_laid hL (Nat.le_refl _)
  obtain ⟨a0, len0, cap0, rfl⟩ := okWide_slice Tryd.underlying35 (hval 0 35 v0 rfl rfl)
  obtain ⟨a1, len1, cap1, rfl⟩ := okWide_slice Tryd.underlying22 (hval 1 22 v1 rfl rfl)
  obtain ⟨c2, rfl, _⟩ := okWide_struct Tryd.underlying31 (hval 2 31 v2 rfl rfl)
  obtain ⟨z3, rfl, rfl, rfl, wf3⟩ := open_int Tryd.underlying3 (hval 3 3 v3 rfl rfl) h3
  obtain ⟨s4, rfl, rfl, rfl, hs4⟩ := open_string Tryd.underlying9 (hval 4 9 v4 rfl rfl) h4
  obtain ⟨c5, rfl, _⟩ := okWide_struct Tryd.underlying29 (hval 5 29 v5 rfl rfl)
  obtain ⟨z6, rfl, rfl, rfl, wf6⟩ := open_int Tryd.underlying3 (hval 6 3 v6 rfl rfl) h6
  obtain ⟨l, hl⟩ : ∃ l, RecsAt W (.slice a1 len1 cap1) l := by obtain ⟨fuel, hf⟩ := h1; exact open_recs hB hf
  obtain ⟨r, ru, er, hr⟩ : ∃ r ru, Value.agg c2 = recV r ru ∧ WordsAt W ru r.value.words := by
    obtain ⟨fuel, hf⟩ := h2
    obtain ⟨r, u, e, hu⟩ := open_rec hB hf
    exact ⟨r, u, agg_of e, hu⟩
  obtain ⟨sx, su, es, hs⟩ : ∃ s u, Value.agg c5 = setV s u ∧ WordsAt W u s.words := by
    obtain ⟨fuel, hf⟩ := h5
    obtain ⟨s, u, e, hu⟩ := open_set hB hf
    exact ⟨s, u, agg_of e, hu⟩
  have keep : ∀ W' : World, Below W.heap.size W W' → Rows.queriesAgreeSpec.post enc Tryd.prog Tryd.f4 false true false false W #[.slice a0 len0 cap0, .slice a1 len1 cap1, .agg c2, .int .i64 z3, .string s4, .agg c5, .int .i64 z6] (.bool true) W' := by
    intro W' bel
    have h0' := Below.trod (P := Tryd.prog) (by kernel_rfl) (by kernel_rfl) (by decide +kernel) h0 bel (fun x hx => hlt x (by simp [hx]))
    have h1' := Below.trod (P := Tryd.prog) (by kernel_rfl) (by kernel_rfl) (by decide +kernel) h1 bel (fun x hx => hlt x (by simp [hx]))
    have h2' := Below.trod (P := Tryd.prog) (by kernel_rfl) (by kernel_rfl) (by decide +kernel) h2 bel (fun x hx => hlt x (by simp [hx]))
    have h3' := Below.trod (P := Tryd.prog) (by kernel_rfl) (by kernel_rfl) (by decide +kernel) h3 bel (fun x hx => by cases hx)
    have h4' := Below.trod (P := Tryd.prog) (by kernel_rfl) (by kernel_rfl) (by decide +kernel) h4 bel (fun x hx => by cases hx)
    have h5' := Below.trod (P := Tryd.prog) (by kernel_rfl) (by kernel_rfl) (by decide +kernel) h5 bel (fun x hx => hlt x (by simp [hx]))
    have h6' := Below.trod (P := Tryd.prog) (by kernel_rfl) (by kernel_rfl) (by decide +kernel) h6 bel (fun x hx => by cases hx)
    exact ⟨_, _, _, [], _, [], hW', trodAll_mk1 (shut_bool Tryd.underlying4 _), trodAll_mk7 h0' h1' h2' h3' h4' h5' h6', rfl, bel.frame _, fun h => by cases h⟩
  have call : ∀ (ta : Option Addr) (tn tc : Nat), tn ≤ maxLen → (∀ j : Nat, j < tn → ∃ b off z, ta = some ⟨b, off, none⟩ ∧ b < W.heap.size ∧ W.cell? ⟨b, off + j, none⟩ = some (.int .i64 z)) →
      Calls Tryd.prog 4 #[.slice ta tn tc, .slice a1 len1 cap1, .agg c2, .int .i64 z3, .string s4, .agg c5, .int .i64 z6] W (BoolQ true W) := by
    intro ta tn tc h1 h2
    rw [er, es, show (Value.string s4) = qs s4.data.toList from by simp]
    exact agreeLaw_any W ta tn tc h1 h2 K l r z3 s4.data.toList sx z6 _ ru su hl hr hs
  obtain ⟨fuel, hf⟩ := h0
  rcases open_ints Tryd.underlying35 Tryd.underlying3 cInt hf with ⟨hcs, _⟩ | ⟨a, len, cap, zs, hcs, _, hl1, hl2, hz, _, hcell, _⟩
  · have hcs' : [Value.slice a0 len0 cap0] = _ := hcs
    injection hcs' with hcs' _
    injection hcs' with e1 e2 e3
    subst e1 e2 e3
    refine (call none 0 0 (Nat.zero_le _) (fun j hj => by omega)).mono fun e W' ⟨he, bel⟩ => ?_
    subst he
    exact ⟨_, rfl, keep W' bel⟩
  · have hcs' : [Value.slice a0 len0 cap0] = _ := hcs
    injection hcs' with hcs' _
    injection hcs' with e1 e2 e3
    subst e1 e2 e3
    refine (call (some a) len0 cap0 (by omega) (fun j hj => ?_)).mono fun e W' ⟨he, bel⟩ => ?_
    · have hlz : len0 ≤ zs.length := by rw [hz]; split <;> omega
      obtain ⟨b, off, rfl, hc⟩ := ints_at hcell (by omega)
      exact ⟨b, off, _, rfl, cell_lt (hc j (by omega)), hc j (by omega)⟩
    · subst he
      exact ⟨_, rfl, keep W' bel⟩

theorem over : Rows.QueriesAgreeSaid :=
  OpenClaim.holds_of_wide 4 Tryd.f4 rfl rfl rfl rfl rfl rfl rfl ⟨rfl, rfl, rfl, rfl, rfl⟩ rfl rfl rfl rfl rfl (by kernel_rfl) Tryd.func4 (by kernel_rfl)
    (of_decide_eq_true (by kernel_rfl)) (by unfold Func.isWrapper; first | (rw [if_pos (by decide +kernel)]; kernel_rfl) | (rw [if_neg (by decide +kernel)]; exact ⟨rfl, rfl⟩))
    (fun os started H enc _ => lifted os started H enc)
end queriesAgree
/-- THE STATEMENT: the tied card. -/
theorem queriesAgree_card_holds : Rows.QueriesAgreeCardSaid :=
  Claim7.holds_tied_plain_at .later [] [.widerDeep] true Rows.queriesAgreeCard.stood.harness false
    queriesAgree.over (fun _ h => by cases h) (by kernel_rfl) (fun _ h => by cases h) queriesAgree_row_tie rfl ⟨rfl, rfl⟩ (by kernel_rfl) rfl
    (fun f fn hf hfn => by
      obtain rfl : f = 4 := Option.some.inj ((show Tryd.prog.funcNamed "flowquery/flqlaw24.QueriesAgree" = some 4 by kernel_rfl).symm.trans hf) |>.symm
      obtain rfl : fn = Tryd.f4 := (Option.some.inj (Tryd.func4.symm.trans hfn)).symm
      exact ⟨by kernel_rfl, fun j t ht => by
        rw [Tryd.params4] at ht
        rcases j with _ | _ | _ | _ | _ | _ | _ | j
        · obtain rfl : t = 35 := by simpa using ht.symm
          exact (show Tryd.prog.wantsStandIn 35 = false by kernel_rfl)
        · obtain rfl : t = 22 := by simpa using ht.symm
          exact (show Tryd.prog.wantsStandIn 22 = false by kernel_rfl)
        · obtain rfl : t = 31 := by simpa using ht.symm
          exact (show Tryd.prog.wantsStandIn 31 = false by kernel_rfl)
        · obtain rfl : t = 3 := by simpa using ht.symm
          exact (show Tryd.prog.wantsStandIn 3 = false by kernel_rfl)
        · obtain rfl : t = 9 := by simpa using ht.symm
          exact (show Tryd.prog.wantsStandIn 9 = false by kernel_rfl)
        · obtain rfl : t = 29 := by simpa using ht.symm
          exact (show Tryd.prog.wantsStandIn 29 = false by kernel_rfl)
        · obtain rfl : t = 3 := by simpa using ht.symm
          exact (show Tryd.prog.wantsStandIn 3 = false by kernel_rfl)
        · simp at ht⟩)
    (by kernel_rfl)
#print axioms queriesAgree_card_holds
end Go.Proofs.YtlchgbfpoaipgaaDoor

