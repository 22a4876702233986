/- 'flqlaw24.QueriesFinal' returns true at every input: finished queries never change, and at most the permitted number is pending. The keywords' variable holds what the program's text lays (the given tie). No condition beyond the statement's own. -/
import Derived.Test.YtlchgbfpoaipgaaDoorQrR2
import Derived.BigQuiet
import Derived.RegionTactic
import Derived.BigRegion
import Derived.Test.YtlchgbfpoaipgaaDoorQrG4
import Derived.Test.YtlchgbfpoaipgaaDoorQrS
import Derived.Test.YtlchgbfpoaipgaaDoorQrW10
import Derived.Test.YtlchgbfpoaipgaaDoorQryL
import Derived.Deep.RegionHeld3
import Derived.IntWalk
import Derived.Test.YtlchgbfpoaipgaaDoorKw
import Derived.Test.YtlchgbfpoaipgaaDoorCards
import Derived.Test.YtlchgbfpoaipgaaDoorTie
import Derived.ProofKit
import Derived.LaidMore
import Derived.OpenShut
import Derived.Carry
import Derived.Deep.Strs
import Derived.ChangeMaps5
import Derived.ChangeOld
import Derived.Stop.Joined
import Derived.SevenTiedAt
set_option linter.unusedVariables false
set_option linter.unusedSimpArgs false
/- Walks: the reference's Same of sets, at equal sets. -/
namespace Go.Proofs.YtlchgbfpoaipgaaDoor
open Go.RowKit

set_option maxHeartbeats 1000000 in
theorem rsame_any (s : QSet) (u1 u2 : Value) (w : World) (h1 : WordsAt w u1 s.words) (h2 : WordsAt w u2 s.words) : Calls Tryd.prog 40 #[setV s u1, setV s u2] w (BoolQ true w) := by
  obtain ⟨a1, c1, rfl, hm, -, -, hk1⟩ := h1.cell
  obtain ⟨a2, c2, rfl, -, -, -, hk2⟩ := h2.cell
  obtain ⟨n, hn⟩ : ∃ n, s.words.length = n := ⟨_, rfl⟩
  rw [hn] at hm ⊢
  obtain ⟨W, hW⟩ : ∃ W, (w.alloc (.cells #[.int .i64 s.width, .slice a1 n c1] 29)).alloc (.cells #[.int .i64 s.width, .slice a2 n c2] 29) = W := ⟨_, rfl⟩
  have B0 : Below w.heap.size w W := by rw [← hW]; exact ((Below.refl _ _).alloc (Nat.le_refl _) _).alloc (by simp) _
  have HB1 : W.heap[w.heap.size]? = some (.cells #[.int .i64 s.width, .slice a1 n c1] 29 (0, 0)) := by rw [← hW]; exact lies_alloc _ (heap_alloc_new _ _)
  have HB2 : W.heap[w.heap.size + 1]? = some (.cells #[.int .i64 s.width, .slice a2 n c2] 29 (0, 0)) := by rw [← hW]; exact lies_new2 _ _
  have H1 := Lib.hid HB1
  have H2 := Lib.hid HB2
  have HW := Lib.hid hW
  have BB := Lib.hid B0
  have HN := Lib.hid hn
  have HK1 := Lib.hid hk1
  have HK2 := Lib.hid hk2
  unfold maxLen at hm
  clear hW HB1 HB2 B0 hn hk1 hk2 h1 h2
  go_enter Tryd.func40, Tryd.ntmps40
  go_wp2_with fail
  rw [show (w.alloc (.cells #[.int .i64 s.width, .slice a1 n c1] 29)).alloc (.cells #[.int .i64 s.width, .slice a2 n c2] 29) = W from HW.out]
  go_loopw [5] (fun y wr => ∃ i : Nat, i ≤ n ∧ y = .int .i64 i ∧ Hid (Below W.heap.size W wr)) (fun y _ => n - (intOf y).toNat)
  case atStart => exact ⟨0, Nat.zero_le _, rfl, Below.refl _ _⟩
  case round =>
    obtain ⟨i, hi, rfl, HB⟩ := hrel
    have G1 := lies_below H1.out HB.out (lt_heap H1.out)
    have G2 := lies_below H2.out HB.out (lt_heap H2.out)
    have x0 := (lies_cells G1).1 0
    have x1 := (lies_cells G1).1 1
    have y0 := (lies_cells G2).1 0
    have y1 := (lies_cells G2).1 1
    simp only [List.getElem?_toArray, List.getElem?_cons_zero, List.getElem?_cons_succ] at x0 x1 y0 y1
    clear G1 G2
    by_cases hlt : i < n
    · obtain ⟨x, hx⟩ : ∃ x, s.words[i]? = some x := ⟨_, List.getElem?_eq_getElem (show i < s.words.length by have := HN.out; omega)⟩
      obtain ⟨b1, o1, rfl, hb1, -, hc1⟩ := HK1.out i x hx
      obtain ⟨b2, o2, rfl, hb2, -, hc2⟩ := HK2.out i x hx
      have g1 := ((BB.out.trans (HB.out.mono BB.out.size)).cell (p := ⟨b1, o1 + i, none⟩) hb1).trans hc1
      have g2 := ((BB.out.trans (HB.out.mono BB.out.size)).cell (p := ⟨b2, o2 + i, none⟩) hb2).trans hc2
      have e1 : (0 : Int) ≤ (i : Int) := by omega
      have e2 : (i : Int) < (n : Int) := by omega
      have q1 : ((x : Int) != (x : Int)) = false := by simp
      clear hc1 hc2 hx HK1 HK2
      go_wp2
      go_quiet (fail)
      go_wp2
      go_roundw
      case rel => exact ⟨i + 1, by omega, by go_num, below_drewQ HB.out _⟩
      case measure => simp [intOf]; omega
    · go_wp2
      go_ret
      exact ⟨rfl, BB.out.trans (HB.out.mono BB.out.size)⟩
end Go.Proofs.YtlchgbfpoaipgaaDoor

/- Walks: the reference's Same of tables, at equal tables. Printed by wip/gen_qrr11.py. -/
namespace Go.Proofs.YtlchgbfpoaipgaaDoor
open Go.RowKit

set_option maxHeartbeats 4000000 in
theorem rtsame_any (l : List QRec) (v1 v2 : Value) (w : World) (h1 : RecsAt w v1 l) (h2 : RecsAt w v2 l) : Calls Tryd.prog 23 #[v1, v2] w (BoolQ true w) := by
  obtain ⟨a1, c1, rfl, hm, -, -, hk1⟩ := h1.cell
  obtain ⟨a2, c2, rfl, -, -, -, hk2⟩ := h2.cell
  obtain ⟨n, hn⟩ : ∃ n, l.length = n := ⟨_, rfl⟩
  rw [hn] at hm ⊢
  have HN := Lib.hid hn
  have HK1 := Lib.hid hk1
  have HK2 := Lib.hid hk2
  unfold maxLen at hm
  clear hn hk1 hk2 h1 h2
  go_enter Tryd.func23, Tryd.ntmps23
  go_wp2_with fail
  go_loopw [5] (fun y wr => ∃ i : Nat, i ≤ n ∧ y = .int .i64 i ∧ Hid (Below w.heap.size w wr)) (fun y _ => n - (intOf y).toNat)
  case atStart => exact ⟨0, Nat.zero_le _, rfl, Below.refl _ _⟩
  case round =>
    obtain ⟨i, hi, rfl, HB⟩ := hrel
    by_cases hlt : i < n
    · obtain ⟨r, hr⟩ : ∃ r, l[i]? = some r := ⟨_, List.getElem?_eq_getElem (show i < l.length by have := HN.out; omega)⟩
      obtain ⟨un, hun⟩ : ∃ n, r.value.words.length = n := ⟨_, rfl⟩
      obtain ⟨b1, o1, u1, rfl, hb1, hug, hcsg⟩ := HK1.out i r hr
      obtain ⟨u1a, u1c, rfl, -, -⟩ := hug.cell
      rw [hun] at hcsg hug
      have g0 := (HB.out.cell (p := ⟨b1, o1 + i * 8 + 0, none⟩) hb1).trans (hcsg 0 (by omega))
      have g1 := (HB.out.cell (p := ⟨b1, o1 + i * 8 + 1, none⟩) hb1).trans (hcsg 1 (by omega))
      have g2 := (HB.out.cell (p := ⟨b1, o1 + i * 8 + 2, none⟩) hb1).trans (hcsg 2 (by omega))
      have g3 := (HB.out.cell (p := ⟨b1, o1 + i * 8 + 3, none⟩) hb1).trans (hcsg 3 (by omega))
      have g4 := (HB.out.cell (p := ⟨b1, o1 + i * 8 + 4, none⟩) hb1).trans (hcsg 4 (by omega))
      have g5 := (HB.out.cell (p := ⟨b1, o1 + i * 8 + 5, none⟩) hb1).trans (hcsg 5 (by omega))
      have g6 := (HB.out.cell (p := ⟨b1, o1 + i * 8 + 6, none⟩) hb1).trans (hcsg 6 (by omega))
      have g7 := (HB.out.cell (p := ⟨b1, o1 + i * 8 + 7, none⟩) hb1).trans (hcsg 7 (by omega))
      simp only [List.getElem?_cons_zero, List.getElem?_cons_succ, Nat.add_zero] at g0 g1 g2 g3 g4 g5 g6 g7
      have HUg := Lib.hid (hug.below HB.out)
      have lg : b1 < wr.heap.size := Nat.lt_of_lt_of_le hb1 HB.out.size
      obtain ⟨b2, o2, u2, rfl, hb2, huk, hcsk⟩ := HK2.out i r hr
      obtain ⟨u2a, u2c, rfl, -, -⟩ := huk.cell
      rw [hun] at hcsk huk
      have k0 := (HB.out.cell (p := ⟨b2, o2 + i * 8 + 0, none⟩) hb2).trans (hcsk 0 (by omega))
      have k1 := (HB.out.cell (p := ⟨b2, o2 + i * 8 + 1, none⟩) hb2).trans (hcsk 1 (by omega))
      have k2 := (HB.out.cell (p := ⟨b2, o2 + i * 8 + 2, none⟩) hb2).trans (hcsk 2 (by omega))
      have k3 := (HB.out.cell (p := ⟨b2, o2 + i * 8 + 3, none⟩) hb2).trans (hcsk 3 (by omega))
      have k4 := (HB.out.cell (p := ⟨b2, o2 + i * 8 + 4, none⟩) hb2).trans (hcsk 4 (by omega))
      have k5 := (HB.out.cell (p := ⟨b2, o2 + i * 8 + 5, none⟩) hb2).trans (hcsk 5 (by omega))
      have k6 := (HB.out.cell (p := ⟨b2, o2 + i * 8 + 6, none⟩) hb2).trans (hcsk 6 (by omega))
      have k7 := (HB.out.cell (p := ⟨b2, o2 + i * 8 + 7, none⟩) hb2).trans (hcsk 7 (by omega))
      simp only [List.getElem?_cons_zero, List.getElem?_cons_succ, Nat.add_zero] at k0 k1 k2 k3 k4 k5 k6 k7
      have HUk := Lib.hid (huk.below HB.out)
      have lk : b2 < wr.heap.size := Nat.lt_of_lt_of_le hb2 HB.out.size
      have e1 : (0 : Int) ≤ (i : Int) := by omega
      have e2 : (i : Int) < (n : Int) := by omega
      have z1 : (b1 == wr.heap.size) = false := by rw [beq_eq_false_iff_ne]; omega
      have z2 : (b2 == wr.heap.size) = false := by rw [beq_eq_false_iff_ne]; omega
      have z3 : (b1 == wr.heap.size + 1) = false := by rw [beq_eq_false_iff_ne]; omega
      have z4 : (b2 == wr.heap.size + 1) = false := by rw [beq_eq_false_iff_ne]; omega
      have z5 : (wr.heap.size == b1) = false := by rw [beq_eq_false_iff_ne]; omega
      have z6 : (wr.heap.size == b2) = false := by rw [beq_eq_false_iff_ne]; omega
      have z7 : (wr.heap.size + 1 == b1) = false := by rw [beq_eq_false_iff_ne]; omega
      have z8 : (wr.heap.size + 1 == b2) = false := by rw [beq_eq_false_iff_ne]; omega
      clear hcsg hcsk hug huk hr HK1 HK2 hun
      go_wp2
      go_region
      all_goals
        go_wp2_with (go_at_call 40; refine (rsame_any r.value (.slice u1a un u1c) (.slice u2a un u2c) _ (HUg.out.keep (SameT.trans (SameT.alloc (w := wr.drew)) SameT.alloc)) (HUk.out.keep (SameT.trans (SameT.alloc (w := wr.drew)) SameT.alloc))).mono ?_; rintro e w2 ⟨rfl, b2⟩; have B2 := Lib.hid (((HB.out.drew.alloc HB.out.size _).alloc (Nat.le_trans HB.out.size (by simp)) _).trans (b2.mono (Nat.le_trans HB.out.size (by simp; omega)))); clear b2)
        go_roundw
        case rel => exact ⟨i + 1, by omega, by go_num, B2⟩
        case measure => simp [intOf]; omega
    · go_wp2
      go_ret
      exact ⟨rfl, HB.out⟩
end Go.Proofs.YtlchgbfpoaipgaaDoor

/- The law QueriesFinal: the walk. Printed by wip/gen_qrl3.py. -/
namespace Go.Proofs.YtlchgbfpoaipgaaDoor
open Go.RowKit

theorem tvalid_to2 {B : Nat} {l : List QRec} {b : Bool} (hb : tabB l = b) (v : Value) (w : World) (KW : KwIn B w) (hB : B ≤ w.heap.size) (h : RecsAt w v l) : Calls Tryd.prog 22 #[v] w (BoolQ b w) := hb ▸ tvalid_any l v w KW hB h
/-- One row of a table. -/
theorem RecsAt.one {w : World} {b off n c : Nat} {l : List QRec} {r : QRec} {j : Nat} (h : RecsAt w (.slice (some ⟨b, off, none⟩) n c) l) (hr : l[j]? = some r) : RecsAt w (.slice (some ⟨b, off + j * 8, none⟩) 1 (c - j)) [r] := by
  obtain ⟨xss, h1, h2⟩ := h
  obtain ⟨x, hx, hxr⟩ := h2.satR hr
  have hj := (List.getElem?_eq_some_iff.1 hx).1
  have hn : xss.length = n := by
    obtain ⟨n', cap, e1, -, -, e4⟩ := h1
    rw [flatten_len 8 xss (rows_len h2)] at e1
    rcases e4 with ⟨e4, _⟩ | ⟨_, _, _, _, e4, _⟩
    · cases e4
    · injection e4 with _ e4 _
      omega
  have h3 := (h1.back j (by omega)).front 1 (by omega)
  have e : (xss.flatten.drop (j * 8)).take (1 * 8) = [x].flatten := by
    apply List.ext_getElem?
    intro i
    have hxl := rows_len h2 x (List.mem_of_getElem? hx)
    simp only [List.flatten_cons, List.flatten_nil, List.append_nil]
    rw [List.getElem?_take]
    split
    · rename_i hi
      rw [List.getElem?_drop, flatten_get 8 xss (rows_len h2) j i hj (by omega)]
      obtain ⟨_, e⟩ := List.getElem?_eq_some_iff.1 hx
      rw [e]
    · rw [List.getElem?_eq_none (by omega)]
  rw [e] at h3
  exact ⟨[x], h3, hxr, trivial⟩
/-- What stands at the head of a round. -/
structure FIn (w0 wr : World) (v : Value) (l : List QRec) : Prop where
  tape : TapeOk w0.heap.size wr w0.heap.size
  below : Below w0.heap.size w0 wr
  recs : RecsAt wr v l
  tab : tabB l = true
  pend : pend l ≤ 3
theorem FIn.next {w0 wr w2 : World} {v : Value} {l : List QRec} (h : FIn w0 wr v l) (ht : TapeOk w0.heap.size w2 w0.heap.size) (hb : But w0.heap.size wr w2) : FIn w0 w2 v l :=
  ⟨ht, h.below.trans (hb.toBelow (Nat.le_refl _) h.below.size), h.recs.but h.tape hb, h.tab, h.pend⟩
theorem FIn.after {w0 wr w2 : World} {v : Value} {l : List QRec} (h : FIn w0 wr v l) (hb : Below wr.heap.size wr w2) : FIn w0 w2 v l :=
  ⟨h.tape.below hb, h.below.trans (hb.mono h.below.size), h.recs.below hb, h.tab, h.pend⟩
theorem FIn.turn {w0 wr w2 : World} {v v2 : Value} {l m : List QRec} (h : FIn w0 wr v l) (hb : Below wr.heap.size wr w2) (hm : RecsAt w2 v2 m) (hs : FinStep 3 l m) : FIn w0 w2 v2 m :=
  ⟨h.tape.below hb, h.below.trans (hb.mono h.below.size), hm, hs.tab, hs.pend⟩
theorem FIn.kw {w0 wr : World} {v : Value} {l : List QRec} (h : FIn w0 wr v l) (K : KwIn w0.heap.size w0) : KwIn w0.heap.size wr := K.keep fun q hq => h.below.block q hq
def FinR (w0 : World) (y4 y5 : Value) (wr : World) : Prop := ∃ (i : Nat) (v : Value), i ≤ 30 ∧ v = y4 ∧ y5 = .int .i64 i ∧ Hid (∃ l, FIn w0 wr v l)
set_option maxRecDepth 100000 in
set_option maxHeartbeats 8000000 in
theorem finalLaw_any (w0 : World) (a : Option Addr) (n c : Nat) (hn : n ≤ maxLen)
    (h : ∀ j : Nat, j < n → ∃ b off z, a = some ⟨b, off, none⟩ ∧ b < w0.heap.size ∧ w0.cell? ⟨b, off + j, none⟩ = some (.int .i64 z)) (KW : KwIn w0.heap.size w0) :
    Calls Tryd.prog 5 #[.slice a n c] w0 (BoolQ true w0) := by
  have H := Lib.hid h
  have HK := Lib.hid KW
  have hud : ∀ b : Bool, (undef = Value.bool b) = False := fun b => by simp [undef]
  clear h KW
  go_enter Tryd.func5, Tryd.ntmps5
  go_wp2_with fail
  refine (new_any rfl a n c hn H.out).mono ?_
  rintro e w1 ⟨rfl, ht, hb⟩
  have I0 : Hid (∃ l, FIn w0 w1 (.slice none 0 0) l) := ⟨[], ht, hb, RecsAt.nil, tab_nil, by decide⟩
  clear ht hb
  go_wp2_with fail
  go_loopw [4, 5] (fun y4 y5 wr => FinR w0 y4 y5 wr) (fun _ y _ => 30 - (intOf y).toNat)
  case atStart => exact ⟨0, _, by omega, rfl, rfl, I0.out⟩
  case round =>
    clear I0
    obtain ⟨i, v, hi, rfl, rfl, I⟩ := hrel
    obtain ⟨l, I⟩ := I
    obtain ⟨la, lc, rfl, hlm, hlc, hlcm, -⟩ := I.recs.cell
    obtain ⟨n1, hn1⟩ : ∃ k, l.length = k := ⟨_, rfl⟩
    rw [hn1] at hlm hlc I ⊢
    have HN1 := Lib.hid hn1
    have HI := Lib.hid I
    unfold maxLen at hlm hlcm
    clear I hn1
    by_cases hlt : i < 30
    rotate_left
    · go_wp2_with fail
      refine (sane_any _ (HI.out.kw HK.out) HI.out.below.size).mono ?_
      rintro e w6 ⟨rfl, b6⟩
      have B6 := Lib.hid (HI.out.below.trans (b6.mono HI.out.below.size))
      clear b6
      go_wp2
      go_ret
      exact ⟨rfl, B6.out⟩
    go_wp2_with fail
    refine (next_pos HI.out.tape 6 (by omega) (by omega)).mono ?_
    rintro e w2 ⟨z, z1, z2, rfl, t2, b2⟩
    have J := Lib.hid (HI.out.next t2 b2)
    clear t2 b2 HI
    by_cases h0 : z = 0
    · subst h0
      go_wp2_with fail
      refine (id_any J.out.tape).mono ?_
      rintro e w3 ⟨x, rfl, t3, b3⟩
      have J3 := Lib.hid (J.out.next t3 b3)
      clear t3 b3
      go_wp2_with fail
      refine (set_any 2 (by omega) _ J3.out.tape).mono ?_
      rintro e w5 ⟨s, u, rfl, hf, hw, hu, t5, b5⟩
      have J5 := Lib.hid (J3.out.next t5 b5)
      clear t5 b5 hf hw
      go_wp2_with fail
      refine (answer_any l x s (.slice la n1 lc) u _ (J5.out.kw HK.out) J5.out.below.size J5.out.recs hu).mono ?_
      rintro e w6 ⟨v6, rfl, h6, b6⟩
      clear hu
      by_cases he : (answerQ l x s).2 = 0
      rotate_left
      · have K := Lib.hid (J5.out.after b6)
        have heb : ((answerQ l x s).2 != 0) = true := by simpa using he
        clear h6 b6 he
        go_wp2
        go_roundw
        case rel => exact ⟨i + 1, _, by omega, rfl, by go_num, _, K.out⟩
        case measure => simp [intOf]; omega
      have heb : ((answerQ l x s).2 != 0) = false := by simp [he]
      have HS : Hid (FinStep 3 l ((answerQ l x s).1)) := Lib.hid (answer_fin J5.out.pend he)
      have K := Lib.hid (J5.out.turn b6 h6 HS.out)
      have L := Lib.hid (J5.out.after b6)
      obtain ⟨ma, mc, rfl, hmm, hmc, hmcm, -⟩ := h6.cell
      obtain ⟨n2, hn2⟩ : ∃ k, ((answerQ l x s).1).length = k := ⟨_, rfl⟩
      have hle : n1 ≤ n2 := by have := HS.out.len; have := HN1.out; omega
      rw [hn2] at K hmm hmc ⊢
      have HN2 := Lib.hid hn2
      unfold maxLen at hmm hmcm
      clear h6 b6 hn2
      go_wp2_with fail
      refine (tvalid_to2 (l := (answerQ l x s).1) K.out.tab _ _ (K.out.kw HK.out) K.out.below.size K.out.recs).mono ?_
      rintro e w7 ⟨rfl, b7⟩
      have K7 := Lib.hid (K.out.after b7)
      have L7 := Lib.hid (L.out.after b7)
      clear b7 K L
      go_wp2_with fail
      refine (pending_any _ _ _ K7.out.recs).mono ?_
      rintro e w8 ⟨rfl, b8⟩
      have K8 := Lib.hid (K7.out.after b8)
      have L8 := Lib.hid (L7.out.after b8)
      clear b8 K7 L7
      obtain ⟨pn, hpn⟩ : ∃ k, pend ((answerQ l x s).1) = k := ⟨_, rfl⟩
      have hpn3 : pn ≤ 3 := by have := HS.out.pend; omega
      rw [hpn]
      have q1 : decide ((3 : Int) < (pn : Int)) = false := by simp; omega
      have q2 : decide (3 < pn) = false := by simp; omega
      have q3 : decide ((n2 : Int) < (n1 : Int)) = false := by simp; omega
      have q4 : decide (n2 < n1) = false := by simp; omega
      clear hpn
      go_wp2
      clear q1 q2 q3 q4
      go_loopw [8] (fun y wr => ∃ (j : Nat) (w9 : World), j ≤ n1 ∧ w9 = wr ∧ y = .int .i64 j ∧ Hid (Below w8.heap.size w8 w9)) (fun y _ => n1 - (intOf y).toNat)
      case atStart => exact ⟨0, _, Nat.zero_le _, rfl, rfl, Below.refl _ _⟩
      case round =>
        obtain ⟨j, w9, hj, rfl, rfl, HB⟩ := hrel
        by_cases hjl : j < n1
        · obtain ⟨r, hr⟩ : ∃ r, l[j]? = some r := ⟨_, List.getElem?_eq_getElem (show j < l.length by have := HN1.out; omega)⟩
          obtain ⟨a3, c3, e3, -, -, -, hcc⟩ := L8.out.recs.cell
          obtain ⟨lb, lo, lu, ea, hlb, hlu, hcs⟩ := hcc j r hr
          injection e3 with e31 e32 e33
          rw [← e31] at ea
          subst ea
          have g5 := (HB.out.cell (p := ⟨lb, lo + j * 8 + 5, none⟩) hlb).trans (hcs 5 (by omega))
          simp only [List.getElem?_cons_zero, List.getElem?_cons_succ] at g5
          have i1 : (0 : Int) ≤ (j : Int) := by omega
          have i2 : (j : Int) < (n1 : Int) := by omega
          by_cases hs : r.status = 1
          · have d1 : (r.status != 1) = false := by simp [hs]
            clear hcs hcc hlu hr hs e31 e32 e33
            go_wp2
            go_quiet (fail)
            go_wp2
            go_roundw
            case rel => exact ⟨j + 1, _, by omega, rfl, by go_num, below_drewQ HB.out _⟩
            case measure => simp [intOf]; omega
          · have d1 : (r.status != 1) = true := by simpa using hs
            have hmr := HS.out.keep j r hr hs
            obtain ⟨a4, c4, e4, -, -, -, hc4⟩ := K8.out.recs.cell
            obtain ⟨mb, mo, mu, ea4, hmb, -, -⟩ := hc4 j r hmr
            injection e4 with e41 e42 e43
            rw [← e41] at ea4
            subst ea4
            have R1 := Lib.hid ((L8.out.recs.below HB.out).one hr)
            have R2 := Lib.hid ((K8.out.recs.below HB.out).one hmr)
            have s1 : IntKind.i64.wrap ((j : Int) + 1) = (j : Int) + 1 := IntWalk.i64_in _ (by omega)
            have s2 : 0 ≤ (j : Int) + 1 := by omega
            have s3 : ((j : Int) + 1).toNat = j + 1 := by omega
            have s4 : (j : Int) ≤ (j : Int) + 1 := by omega
            have s5 : (j : Int) + 1 ≤ (lc : Int) := by omega
            have s6 : (j : Int) + 1 ≤ (mc : Int) := by omega
            have s7 : ¬ lc = j := by omega
            have s8 : ¬ mc = j := by omega
            have s9 : j + 1 - j = 1 := by omega
            clear hcs hcc hlu hr hs e31 e32 e33 hmr hc4 e41 e42 e43
            go_wp2
            have hlb9 : lb < w9.heap.size := Nat.lt_of_lt_of_le hlb HB.out.size
            go_region_held3 (fun w' => w'.cell? ⟨lb, lo + j * 8 + 5, none⟩ = some (.int .i64 r.status)) (go_keep) ((go_at_call 23; refine (rtsame_any [r] _ _ w9.drew (R1.out.below (Below.refl _ _).drew) (R2.out.below (Below.refl _ _).drew)).mono ?_; rintro e w10 ⟨rfl, b10⟩; have B10 := Lib.hid ((HB.out.drew).trans (b10.mono HB.out.size)); have g10 := (b10.cell (p := ⟨lb, lo + j * 8 + 5, none⟩) hlb9).trans g5; clear b10))
            all_goals
              go_wp2
              go_roundw
              case rel => exact ⟨j + 1, _, by omega, rfl, by go_num, B10.out⟩
              case measure => simp [intOf]; omega
        · have HF := Lib.hid (K8.out.after HB.out)
          go_wp2
          go_roundw
          case rel => exact ⟨i + 1, _, by omega, rfl, by go_num, _, HF.out⟩
          case measure => simp [intOf]; omega
    by_cases h1 : z = 1
    · subst h1
      go_wp2_with fail
      refine (id_any J.out.tape).mono ?_
      rintro e w3 ⟨x, rfl, t3, b3⟩
      have J3 := Lib.hid (J.out.next t3 b3)
      clear t3 b3
      go_wp2_with fail
      refine (cancel_any l x (.slice la n1 lc) _ (J3.out.kw HK.out) J3.out.below.size J3.out.recs).mono ?_
      rintro e w6 ⟨v6, rfl, h6, b6⟩
      by_cases he : (cancelQ l x).2 = 0
      rotate_left
      · have K := Lib.hid (J3.out.after b6)
        have heb : ((cancelQ l x).2 != 0) = true := by simpa using he
        clear h6 b6 he
        go_wp2
        go_roundw
        case rel => exact ⟨i + 1, _, by omega, rfl, by go_num, _, K.out⟩
        case measure => simp [intOf]; omega
      have heb : ((cancelQ l x).2 != 0) = false := by simp [he]
      have HS : Hid (FinStep 3 l ((cancelQ l x).1)) := Lib.hid (cancel_fin J3.out.pend he)
      have K := Lib.hid (J3.out.turn b6 h6 HS.out)
      have L := Lib.hid (J3.out.after b6)
      obtain ⟨ma, mc, rfl, hmm, hmc, hmcm, -⟩ := h6.cell
      obtain ⟨n2, hn2⟩ : ∃ k, ((cancelQ l x).1).length = k := ⟨_, rfl⟩
      have hle : n1 ≤ n2 := by have := HS.out.len; have := HN1.out; omega
      rw [hn2] at K hmm hmc ⊢
      have HN2 := Lib.hid hn2
      unfold maxLen at hmm hmcm
      clear h6 b6 hn2
      go_wp2_with fail
      refine (tvalid_to2 (l := (cancelQ l x).1) K.out.tab _ _ (K.out.kw HK.out) K.out.below.size K.out.recs).mono ?_
      rintro e w7 ⟨rfl, b7⟩
      have K7 := Lib.hid (K.out.after b7)
      have L7 := Lib.hid (L.out.after b7)
      clear b7 K L
      go_wp2_with fail
      refine (pending_any _ _ _ K7.out.recs).mono ?_
      rintro e w8 ⟨rfl, b8⟩
      have K8 := Lib.hid (K7.out.after b8)
      have L8 := Lib.hid (L7.out.after b8)
      clear b8 K7 L7
      obtain ⟨pn, hpn⟩ : ∃ k, pend ((cancelQ l x).1) = k := ⟨_, rfl⟩
      have hpn3 : pn ≤ 3 := by have := HS.out.pend; omega
      rw [hpn]
      have q1 : decide ((3 : Int) < (pn : Int)) = false := by simp; omega
      have q2 : decide (3 < pn) = false := by simp; omega
      have q3 : decide ((n2 : Int) < (n1 : Int)) = false := by simp; omega
      have q4 : decide (n2 < n1) = false := by simp; omega
      clear hpn
      go_wp2
      clear q1 q2 q3 q4
      go_loopw [8] (fun y wr => ∃ (j : Nat) (w9 : World), j ≤ n1 ∧ w9 = wr ∧ y = .int .i64 j ∧ Hid (Below w8.heap.size w8 w9)) (fun y _ => n1 - (intOf y).toNat)
      case atStart => exact ⟨0, _, Nat.zero_le _, rfl, rfl, Below.refl _ _⟩
      case round =>
        obtain ⟨j, w9, hj, rfl, rfl, HB⟩ := hrel
        by_cases hjl : j < n1
        · obtain ⟨r, hr⟩ : ∃ r, l[j]? = some r := ⟨_, List.getElem?_eq_getElem (show j < l.length by have := HN1.out; omega)⟩
          obtain ⟨a3, c3, e3, -, -, -, hcc⟩ := L8.out.recs.cell
          obtain ⟨lb, lo, lu, ea, hlb, hlu, hcs⟩ := hcc j r hr
          injection e3 with e31 e32 e33
          rw [← e31] at ea
          subst ea
          have g5 := (HB.out.cell (p := ⟨lb, lo + j * 8 + 5, none⟩) hlb).trans (hcs 5 (by omega))
          simp only [List.getElem?_cons_zero, List.getElem?_cons_succ] at g5
          have i1 : (0 : Int) ≤ (j : Int) := by omega
          have i2 : (j : Int) < (n1 : Int) := by omega
          by_cases hs : r.status = 1
          · have d1 : (r.status != 1) = false := by simp [hs]
            clear hcs hcc hlu hr hs e31 e32 e33
            go_wp2
            go_quiet (fail)
            go_wp2
            go_roundw
            case rel => exact ⟨j + 1, _, by omega, rfl, by go_num, below_drewQ HB.out _⟩
            case measure => simp [intOf]; omega
          · have d1 : (r.status != 1) = true := by simpa using hs
            have hmr := HS.out.keep j r hr hs
            obtain ⟨a4, c4, e4, -, -, -, hc4⟩ := K8.out.recs.cell
            obtain ⟨mb, mo, mu, ea4, hmb, -, -⟩ := hc4 j r hmr
            injection e4 with e41 e42 e43
            rw [← e41] at ea4
            subst ea4
            have R1 := Lib.hid ((L8.out.recs.below HB.out).one hr)
            have R2 := Lib.hid ((K8.out.recs.below HB.out).one hmr)
            have s1 : IntKind.i64.wrap ((j : Int) + 1) = (j : Int) + 1 := IntWalk.i64_in _ (by omega)
            have s2 : 0 ≤ (j : Int) + 1 := by omega
            have s3 : ((j : Int) + 1).toNat = j + 1 := by omega
            have s4 : (j : Int) ≤ (j : Int) + 1 := by omega
            have s5 : (j : Int) + 1 ≤ (lc : Int) := by omega
            have s6 : (j : Int) + 1 ≤ (mc : Int) := by omega
            have s7 : ¬ lc = j := by omega
            have s8 : ¬ mc = j := by omega
            have s9 : j + 1 - j = 1 := by omega
            clear hcs hcc hlu hr hs e31 e32 e33 hmr hc4 e41 e42 e43
            go_wp2
            have hlb9 : lb < w9.heap.size := Nat.lt_of_lt_of_le hlb HB.out.size
            go_region_held3 (fun w' => w'.cell? ⟨lb, lo + j * 8 + 5, none⟩ = some (.int .i64 r.status)) (go_keep) ((go_at_call 23; refine (rtsame_any [r] _ _ w9.drew (R1.out.below (Below.refl _ _).drew) (R2.out.below (Below.refl _ _).drew)).mono ?_; rintro e w10 ⟨rfl, b10⟩; have B10 := Lib.hid ((HB.out.drew).trans (b10.mono HB.out.size)); have g10 := (b10.cell (p := ⟨lb, lo + j * 8 + 5, none⟩) hlb9).trans g5; clear b10))
            all_goals
              go_wp2
              go_roundw
              case rel => exact ⟨j + 1, _, by omega, rfl, by go_num, B10.out⟩
              case measure => simp [intOf]; omega
        · have HF := Lib.hid (K8.out.after HB.out)
          go_wp2
          go_roundw
          case rel => exact ⟨i + 1, _, by omega, rfl, by go_num, _, HF.out⟩
          case measure => simp [intOf]; omega
    by_cases h2 : z = 2
    · subst h2
      go_wp2_with fail
      refine (next_pos J.out.tape 3 (by omega) (by omega)).mono ?_
      rintro e w4 ⟨q, q1, q2, rfl, t4, b4⟩
      have J4 := Lib.hid (J.out.next t4 b4)
      clear t4 b4
      go_wp2_with fail
      refine (unload_any l q (.slice la n1 lc) _ (J4.out.kw HK.out) J4.out.below.size J4.out.recs).mono ?_
      rintro e w6 ⟨v6, iv, rfl, h6, hsi, b6⟩
      clear hsi
      have HS : Hid (FinStep 3 l (unloadQ l q)) := Lib.hid (unload_fin (p := q) J4.out.tab J4.out.pend)
      have K := Lib.hid (J4.out.turn b6 h6 HS.out)
      have L := Lib.hid (J4.out.after b6)
      obtain ⟨ma, mc, rfl, hmm, hmc, hmcm, -⟩ := h6.cell
      obtain ⟨n2, hn2⟩ : ∃ k, (unloadQ l q).length = k := ⟨_, rfl⟩
      have hle : n1 ≤ n2 := by have := HS.out.len; have := HN1.out; omega
      rw [hn2] at K hmm hmc ⊢
      have HN2 := Lib.hid hn2
      unfold maxLen at hmm hmcm
      clear h6 b6 hn2
      go_wp2_with fail
      refine (tvalid_to2 (l := unloadQ l q) K.out.tab _ _ (K.out.kw HK.out) K.out.below.size K.out.recs).mono ?_
      rintro e w7 ⟨rfl, b7⟩
      have K7 := Lib.hid (K.out.after b7)
      have L7 := Lib.hid (L.out.after b7)
      clear b7 K L
      go_wp2_with fail
      refine (pending_any _ _ _ K7.out.recs).mono ?_
      rintro e w8 ⟨rfl, b8⟩
      have K8 := Lib.hid (K7.out.after b8)
      have L8 := Lib.hid (L7.out.after b8)
      clear b8 K7 L7
      obtain ⟨pn, hpn⟩ : ∃ k, pend (unloadQ l q) = k := ⟨_, rfl⟩
      have hpn3 : pn ≤ 3 := by have := HS.out.pend; omega
      rw [hpn]
      have q1 : decide ((3 : Int) < (pn : Int)) = false := by simp; omega
      have q2 : decide (3 < pn) = false := by simp; omega
      have q3 : decide ((n2 : Int) < (n1 : Int)) = false := by simp; omega
      have q4 : decide (n2 < n1) = false := by simp; omega
      clear hpn
      go_wp2
      clear q1 q2 q3 q4
      go_loopw [8] (fun y wr => ∃ (j : Nat) (w9 : World), j ≤ n1 ∧ w9 = wr ∧ y = .int .i64 j ∧ Hid (Below w8.heap.size w8 w9)) (fun y _ => n1 - (intOf y).toNat)
      case atStart => exact ⟨0, _, Nat.zero_le _, rfl, rfl, Below.refl _ _⟩
      case round =>
        obtain ⟨j, w9, hj, rfl, rfl, HB⟩ := hrel
        by_cases hjl : j < n1
        · obtain ⟨r, hr⟩ : ∃ r, l[j]? = some r := ⟨_, List.getElem?_eq_getElem (show j < l.length by have := HN1.out; omega)⟩
          obtain ⟨a3, c3, e3, -, -, -, hcc⟩ := L8.out.recs.cell
          obtain ⟨lb, lo, lu, ea, hlb, hlu, hcs⟩ := hcc j r hr
          injection e3 with e31 e32 e33
          rw [← e31] at ea
          subst ea
          have g5 := (HB.out.cell (p := ⟨lb, lo + j * 8 + 5, none⟩) hlb).trans (hcs 5 (by omega))
          simp only [List.getElem?_cons_zero, List.getElem?_cons_succ] at g5
          have i1 : (0 : Int) ≤ (j : Int) := by omega
          have i2 : (j : Int) < (n1 : Int) := by omega
          by_cases hs : r.status = 1
          · have d1 : (r.status != 1) = false := by simp [hs]
            clear hcs hcc hlu hr hs e31 e32 e33
            go_wp2
            go_quiet (fail)
            go_wp2
            go_roundw
            case rel => exact ⟨j + 1, _, by omega, rfl, by go_num, below_drewQ HB.out _⟩
            case measure => simp [intOf]; omega
          · have d1 : (r.status != 1) = true := by simpa using hs
            have hmr := HS.out.keep j r hr hs
            obtain ⟨a4, c4, e4, -, -, -, hc4⟩ := K8.out.recs.cell
            obtain ⟨mb, mo, mu, ea4, hmb, -, -⟩ := hc4 j r hmr
            injection e4 with e41 e42 e43
            rw [← e41] at ea4
            subst ea4
            have R1 := Lib.hid ((L8.out.recs.below HB.out).one hr)
            have R2 := Lib.hid ((K8.out.recs.below HB.out).one hmr)
            have s1 : IntKind.i64.wrap ((j : Int) + 1) = (j : Int) + 1 := IntWalk.i64_in _ (by omega)
            have s2 : 0 ≤ (j : Int) + 1 := by omega
            have s3 : ((j : Int) + 1).toNat = j + 1 := by omega
            have s4 : (j : Int) ≤ (j : Int) + 1 := by omega
            have s5 : (j : Int) + 1 ≤ (lc : Int) := by omega
            have s6 : (j : Int) + 1 ≤ (mc : Int) := by omega
            have s7 : ¬ lc = j := by omega
            have s8 : ¬ mc = j := by omega
            have s9 : j + 1 - j = 1 := by omega
            clear hcs hcc hlu hr hs e31 e32 e33 hmr hc4 e41 e42 e43
            go_wp2
            have hlb9 : lb < w9.heap.size := Nat.lt_of_lt_of_le hlb HB.out.size
            go_region_held3 (fun w' => w'.cell? ⟨lb, lo + j * 8 + 5, none⟩ = some (.int .i64 r.status)) (go_keep) ((go_at_call 23; refine (rtsame_any [r] _ _ w9.drew (R1.out.below (Below.refl _ _).drew) (R2.out.below (Below.refl _ _).drew)).mono ?_; rintro e w10 ⟨rfl, b10⟩; have B10 := Lib.hid ((HB.out.drew).trans (b10.mono HB.out.size)); have g10 := (b10.cell (p := ⟨lb, lo + j * 8 + 5, none⟩) hlb9).trans g5; clear b10))
            all_goals
              go_wp2
              go_roundw
              case rel => exact ⟨j + 1, _, by omega, rfl, by go_num, B10.out⟩
              case measure => simp [intOf]; omega
        · have HF := Lib.hid (K8.out.after HB.out)
          go_wp2
          go_roundw
          case rel => exact ⟨i + 1, _, by omega, rfl, by go_num, _, HF.out⟩
          case measure => simp [intOf]; omega
    have e0 : (z == 0) = false := by simpa using h0
    have e1 : (z == 1) = false := by simpa using h1
    have e2 : (z == 2) = false := by simpa using h2
    clear h0 h1 h2
    go_wp2_with fail
    refine (record_any J.out.tape).mono ?_
    rintro e w4 ⟨r, u, rfl, hu, t4, b4⟩
    have J4 := Lib.hid (J.out.next t4 b4)
    clear t4 b4
    go_wp2_with fail
    refine (submit_any l r 3 (.slice la n1 lc) u _ (J4.out.kw HK.out) J4.out.below.size J4.out.recs hu).mono ?_
    rintro e w6 ⟨v6, rfl, h6, b6⟩
    clear hu
    by_cases he : (submitQ l r 3).2 = 0
    rotate_left
    · have K := Lib.hid (J4.out.after b6)
      have heb : ((submitQ l r 3).2 != 0) = true := by simpa using he
      clear h6 b6 he
      go_wp2
      go_roundw
      case rel => exact ⟨i + 1, _, by omega, rfl, by go_num, _, K.out⟩
      case measure => simp [intOf]; omega
    have heb : ((submitQ l r 3).2 != 0) = false := by simp [he]
    have HS : Hid (FinStep 3 l ((submitQ l r 3).1)) := Lib.hid (submit_fin (most := 3) (l := l) (r := r) he)
    have K := Lib.hid (J4.out.turn b6 h6 HS.out)
    have L := Lib.hid (J4.out.after b6)
    obtain ⟨ma, mc, rfl, hmm, hmc, hmcm, -⟩ := h6.cell
    obtain ⟨n2, hn2⟩ : ∃ k, ((submitQ l r 3).1).length = k := ⟨_, rfl⟩
    have hle : n1 ≤ n2 := by have := HS.out.len; have := HN1.out; omega
    rw [hn2] at K hmm hmc ⊢
    have HN2 := Lib.hid hn2
    unfold maxLen at hmm hmcm
    clear h6 b6 hn2
    go_wp2_with fail
    refine (tvalid_to2 (l := (submitQ l r 3).1) K.out.tab _ _ (K.out.kw HK.out) K.out.below.size K.out.recs).mono ?_
    rintro e w7 ⟨rfl, b7⟩
    have K7 := Lib.hid (K.out.after b7)
    have L7 := Lib.hid (L.out.after b7)
    clear b7 K L
    go_wp2_with fail
    refine (pending_any _ _ _ K7.out.recs).mono ?_
    rintro e w8 ⟨rfl, b8⟩
    have K8 := Lib.hid (K7.out.after b8)
    have L8 := Lib.hid (L7.out.after b8)
    clear b8 K7 L7
    obtain ⟨pn, hpn⟩ : ∃ k, pend ((submitQ l r 3).1) = k := ⟨_, rfl⟩
    have hpn3 : pn ≤ 3 := by have := HS.out.pend; omega
    rw [hpn]
    have q1 : decide ((3 : Int) < (pn : Int)) = false := by simp; omega
    have q2 : decide (3 < pn) = false := by simp; omega
    have q3 : decide ((n2 : Int) < (n1 : Int)) = false := by simp; omega
    have q4 : decide (n2 < n1) = false := by simp; omega
    clear hpn
    go_wp2
    clear q1 q2 q3 q4
    go_loopw [8] (fun y wr => ∃ (j : Nat) (w9 : World), j ≤ n1 ∧ w9 = wr ∧ y = .int .i64 j ∧ Hid (Below w8.heap.size w8 w9)) (fun y _ => n1 - (intOf y).toNat)
    case atStart => exact ⟨0, _, Nat.zero_le _, rfl, rfl, Below.refl _ _⟩
    case round =>
      obtain ⟨j, w9, hj, rfl, rfl, HB⟩ := hrel
      by_cases hjl : j < n1
      · obtain ⟨r2, hr⟩ : ∃ r2, l[j]? = some r2 := ⟨_, List.getElem?_eq_getElem (show j < l.length by have := HN1.out; omega)⟩
        obtain ⟨a3, c3, e3, -, -, -, hcc⟩ := L8.out.recs.cell
        obtain ⟨lb, lo, lu, ea, hlb, hlu, hcs⟩ := hcc j r2 hr
        injection e3 with e31 e32 e33
        rw [← e31] at ea
        subst ea
        have g5 := (HB.out.cell (p := ⟨lb, lo + j * 8 + 5, none⟩) hlb).trans (hcs 5 (by omega))
        simp only [List.getElem?_cons_zero, List.getElem?_cons_succ] at g5
        have i1 : (0 : Int) ≤ (j : Int) := by omega
        have i2 : (j : Int) < (n1 : Int) := by omega
        by_cases hs : r2.status = 1
        · have d1 : (r2.status != 1) = false := by simp [hs]
          clear hcs hcc hlu hr hs e31 e32 e33
          go_wp2
          go_quiet (fail)
          go_wp2
          go_roundw
          case rel => exact ⟨j + 1, _, by omega, rfl, by go_num, below_drewQ HB.out _⟩
          case measure => simp [intOf]; omega
        · have d1 : (r2.status != 1) = true := by simpa using hs
          have hmr := HS.out.keep j r2 hr hs
          obtain ⟨a4, c4, e4, -, -, -, hc4⟩ := K8.out.recs.cell
          obtain ⟨mb, mo, mu, ea4, hmb, -, -⟩ := hc4 j r2 hmr
          injection e4 with e41 e42 e43
          rw [← e41] at ea4
          subst ea4
          have R1 := Lib.hid ((L8.out.recs.below HB.out).one hr)
          have R2 := Lib.hid ((K8.out.recs.below HB.out).one hmr)
          have s1 : IntKind.i64.wrap ((j : Int) + 1) = (j : Int) + 1 := IntWalk.i64_in _ (by omega)
          have s2 : 0 ≤ (j : Int) + 1 := by omega
          have s3 : ((j : Int) + 1).toNat = j + 1 := by omega
          have s4 : (j : Int) ≤ (j : Int) + 1 := by omega
          have s5 : (j : Int) + 1 ≤ (lc : Int) := by omega
          have s6 : (j : Int) + 1 ≤ (mc : Int) := by omega
          have s7 : ¬ lc = j := by omega
          have s8 : ¬ mc = j := by omega
          have s9 : j + 1 - j = 1 := by omega
          clear hcs hcc hlu hr hs e31 e32 e33 hmr hc4 e41 e42 e43
          go_wp2
          have hlb9 : lb < w9.heap.size := Nat.lt_of_lt_of_le hlb HB.out.size
          go_region_held3 (fun w' => w'.cell? ⟨lb, lo + j * 8 + 5, none⟩ = some (.int .i64 r2.status)) (go_keep) ((go_at_call 23; refine (rtsame_any [r2] _ _ w9.drew (R1.out.below (Below.refl _ _).drew) (R2.out.below (Below.refl _ _).drew)).mono ?_; rintro e w10 ⟨rfl, b10⟩; have B10 := Lib.hid ((HB.out.drew).trans (b10.mono HB.out.size)); have g10 := (b10.cell (p := ⟨lb, lo + j * 8 + 5, none⟩) hlb9).trans g5; clear b10))
          all_goals
            go_wp2
            go_roundw
            case rel => exact ⟨j + 1, _, by omega, rfl, by go_num, B10.out⟩
            case measure => simp [intOf]; omega
      · have HF := Lib.hid (K8.out.after HB.out)
        go_wp2
        go_roundw
        case rel => exact ⟨i + 1, _, by omega, rfl, by go_num, _, HF.out⟩
        case measure => simp [intOf]; omega
end Go.Proofs.YtlchgbfpoaipgaaDoor

/- What the tied keywords give a law's walk. -/
namespace Go.Proofs.YtlchgbfpoaipgaaDoor
open Go.ChangeShapes Go.WideShapes Go.ChangeAt Go.WideMaps Go.WideElems Go.ChangeMaps Go.Deep Go.RowKit

theorem own : ownKnob Tryd.prog.godebug = none := by kernel_rfl
theorem gKw : Tryd.prog.globalNamed "flowquery/lexer.keywords" = some 0 := by kernel_rfl
theorem tKw : (Tryd.prog.globals[0]?).map (·.type) = some 48 := by kernel_rfl
theorem cStr : Tryd.prog.cellsOf 9 = 1 := by kernel_rfl
theorem cInt : Tryd.prog.cellsOf 3 = 1 := by kernel_rfl
def laid1 : List (String × DataW Unit) := [("flowquery/lexer.keywords", Rows.laid_flowquery_lexer_keywords)]

/-- The door's own heap meets the condition. -/
theorem door_met (os : Os) (args : Array Value) : laidMetH Tryd.prog laid1 ((World.doorLaid Tryd.prog 400 os).forCall (fun _ _ => 0) ⟨#[], args, []⟩).memory :=
  laidMetH_of_parts3 (fuel := 8) (laidMet_of_run' 8 (by kernel_rfl) (by kernel_rfl)) (by kernel_rfl) (by kernel_rfl)

theorem cell_lt {w : World} {b o : Nat} {v : Value} (h : w.cell? ⟨b, o, none⟩ = some v) : b < w.heap.size := by
  rcases Nat.lt_or_ge b w.heap.size with h' | h'
  · exact h'
  · simp [World.cell?, Array.getElem?_eq_none h'] at h

/-- What the condition gives the walk. -/
theorem of_laid {W : World} (h : laidMetH Tryd.prog laid1 W) : KwIn W.heap.size W := by
  rw [MakeChecks.laidMetH_plain _ _ _ (by kernel_rfl)] at h
  obtain ⟨ps, ⟨g0, t0, cs0, f0, p0, q0, hg0, ht0, hv0, hd0, _⟩, _, _⟩ := h
  obtain rfl := Option.some.inj (gKw.symm.trans hg0)
  obtain rfl := Option.some.inj (tKw.symm.trans ht0)
  rcases open_strs Tryd.underlying48 Tryd.underlying9 cStr hd0 with ⟨_, hx⟩ | ⟨a, len, cap, m, Sx, hcs, _, hl1, hl2, hm, hx, hcell⟩
  · simp [Rows.laid_flowquery_lexer_keywords] at hx
  simp only [Prod.mk.injEq] at hx
  have hK : kws.map (fun l => (DataW.lit (.string l) : DataW Unit)) = (List.range len).map fun i => .lit (.string (Sx i).data.toList) := by
    have h1 := hx.1
    have h2 : (Rows.laid_flowquery_lexer_keywords : DataW Unit) = .slice (kws.map fun l => .lit (.string l)) [] := rfl
    rw [h2] at h1
    injection h1 with h1 _
  have hlen : len = 11 := by
    have := congrArg List.length hK
    simp at this
    rw [← this]; rfl
  have hm2 : len ≤ m := by rw [hm]; split <;> omega
  have hc0 : W.cell? ⟨0, 0, none⟩ = some (.slice (some a) len cap) := by
    have := World.var?_cell hg0 hv0 0
    rw [Array.eq_one_of_toList hcs] at this
    simpa using this
  obtain ⟨b, off, spot⟩ := a
  have h00 := (hcell 0 (by omega)).1
  have hspot : spot = none := by simpa [Addr.add] using World.cell?_spot h00
  subst hspot
  subst hlen
  refine ⟨by have := cell_lt hc0; omega, b, off, cap, ?_, hc0, fun k s hk => ⟨b, off, rfl, ?_⟩⟩
  · rw [add_plain] at h00
    exact cell_lt h00
  · have hk2 : k < 11 := by
      have := (List.getElem?_eq_some_iff.1 hk).1
      exact this
    have h1 := congrArg (·[k]?) hK
    simp only [List.getElem?_map, hk, List.getElem?_range hk2, Option.map_some, Option.some.injEq, DataW.lit.injEq, Lit.string.injEq] at h1
    have h2 := (hcell k (by omega)).1
    rw [add_plain] at h2
    rw [h2, h1]

end Go.Proofs.YtlchgbfpoaipgaaDoor

namespace Go.Proofs.YtlchgbfpoaipgaaDoor.queriesFinal
open Go.ChangeShapes Go.WideShapes Go.ChangeAt Go.WideMaps Go.WideElems Go.ChangeMaps Go.Deep Go.RowKit

set_option maxRecDepth 100000 in
set_option maxHeartbeats 1000000 in
theorem lifted (os : Os) (started : os.Started) (H : Type) (enc : TypeId × Value → H) :
    ReturnsInHanded {} Tryd.checked os 5 .any (fun w args => (Rows.queriesFinalSpec.pre enc Tryd.prog Tryd.f5 [] false w args ∧ laidMetH Tryd.prog laid1 w) ∧ sizedMet enc Tryd.prog Tryd.f5 (OpenSpec.ofChange Rows.queriesFinalSpec) false w args)
      (Rows.queriesFinalSpec.post enc Tryd.prog Tryd.f5 false true false false) := by
  refine returnsInHanded_of_change_and (C := Tryd.checked) (X := fun w _ => laidMetH Tryd.prog laid1 w) (fun _ _ _ hh h => h.of_heap hh) own started (by kernel_rfl) Tryd.func5
    (ChangeSpec.witness_shaped (enc := enc) (C := Tryd.checked) (os := os) (X := fun w _ => laidMetH Tryd.prog laid1 w) false (World.doorLaid Tryd.prog 400 os) #[.slice none 0 0] 8 rfl (World.shaped_of_RefB (by kernel_rfl) (by kernel_rfl)) (by kernel_rfl) (by kernel_rfl) (by kernel_rfl) (door_met os _)) ?_
  intro W base args ds gs before hval0 hW _ _ hL _
  have hval : ∀ (j : Nat) t v, Tryd.f5.params[j]? = some t → args[j]? = some v → Value.okWide Tryd.prog W .any base t v := hval0
  have hW' := hW
  have hlt := hW.lt
  obtain ⟨p, q, hA0, hV, rfl, hfz, hnd⟩ := hW
  have hA : DataW.TrodAll enc Tryd.prog W 0 (fun _ => true) true Tryd.f5.params.toList args.toList ds p := hA0
  rw [Tryd.params5] at hA hval
  obtain ⟨v0, d0, rfl, rfl, h0⟩ := trodAll_one hA
  obtain ⟨rfl, rfl⟩ := trodVars_none hV
  obtain ⟨a0, len0, cap0, rfl⟩ := okWide_slice Tryd.underlying35 (hval 0 35 v0 rfl rfl)
  have K := of_laid hL
  have keep : ∀ W' : World, Below W.heap.size W W' → Rows.queriesFinalSpec.post enc Tryd.prog Tryd.f5 false true false false W #[.slice a0 len0 cap0] (.bool true) W' := by
    intro W' bel
    have h0' := Below.trod (P := Tryd.prog) (by kernel_rfl) (by kernel_rfl) (by decide +kernel) h0 bel (fun x hx => hlt x (by simp [hx]))
    exact ⟨_, _, _, [], _, [], hW', trodAll_mk1 (shut_bool Tryd.underlying4 _), trodAll_mk1 h0', rfl, bel.frame _, fun h => by cases h⟩
  obtain ⟨fuel, hf⟩ := h0
  rcases open_ints Tryd.underlying35 Tryd.underlying3 cInt hf with ⟨hcs, _⟩ | ⟨a, len, cap, zs, hcs, _, hl1, hl2, hz, _, hcell, _⟩
  · have hcs' : [Value.slice a0 len0 cap0] = _ := hcs
    injection hcs' with hcs' _
    injection hcs' with e1 e2 e3
    subst e1 e2 e3
    refine (finalLaw_any W none 0 0 (Nat.zero_le _) (fun j hj => by omega) K).mono fun e W' ⟨he, bel⟩ => ?_
    subst he
    exact ⟨_, rfl, keep W' bel⟩
  · have hcs' : [Value.slice a0 len0 cap0] = _ := hcs
    injection hcs' with hcs' _
    injection hcs' with e1 e2 e3
    subst e1 e2 e3
    refine (finalLaw_any W (some a) len0 cap0 (by omega) (fun j hj => ?_) K).mono fun e W' ⟨he, bel⟩ => ?_
    · have hlz : len0 ≤ zs.length := by rw [hz]; split <;> omega
      obtain ⟨b, off, rfl, hc⟩ := ints_at hcell (by omega)
      exact ⟨b, off, _, rfl, cell_lt (hc j (by omega)), hc j (by omega)⟩
    · subst he
      exact ⟨_, rfl, keep W' bel⟩

theorem over : Rows.QueriesFinalSaid :=
  OpenClaim.holds_of_wide 5 Tryd.f5 rfl rfl rfl rfl rfl rfl rfl ⟨rfl, rfl, rfl, rfl, rfl⟩ rfl rfl rfl rfl rfl (by kernel_rfl) Tryd.func5 (by kernel_rfl)
    (of_decide_eq_true (by kernel_rfl)) (by unfold Func.isWrapper; first | (rw [if_pos (by decide +kernel)]; kernel_rfl) | (rw [if_neg (by decide +kernel)]; exact ⟨rfl, rfl⟩))
    (fun os started H enc _ => lifted os started H enc)
end Go.Proofs.YtlchgbfpoaipgaaDoor.queriesFinal
namespace Go.Proofs.YtlchgbfpoaipgaaDoor
open Go
/-- THE STATEMENT: the tied card. -/
theorem queriesFinal_card_holds : Rows.QueriesFinalCardSaid :=
  Claim7.holds_tied_plain_at .later [] [.widerDeep] true Rows.queriesFinalCard.stood.harness false
    queriesFinal.over (fun _ h => by cases h) (by kernel_rfl) (fun _ h => by cases h) queriesFinal_row_tie rfl ⟨rfl, rfl⟩ (by kernel_rfl) rfl
    (fun f fn hf hfn => by
      obtain rfl : f = 5 := Option.some.inj ((show Tryd.prog.funcNamed "flowquery/flqlaw24.QueriesFinal" = some 5 by kernel_rfl).symm.trans hf) |>.symm
      obtain rfl : fn = Tryd.f5 := (Option.some.inj (Tryd.func5.symm.trans hfn)).symm
      exact ⟨by kernel_rfl, fun j t ht => by
        rw [Tryd.params5] at ht
        rcases j with _ | j
        · obtain rfl : t = 35 := by simpa using ht.symm
          exact (show Tryd.prog.wantsStandIn 35 = false by kernel_rfl)
        · simp at ht⟩)
    (by kernel_rfl)
#print axioms queriesFinal_card_holds
end Go.Proofs.YtlchgbfpoaipgaaDoor

