/- Walks: flqref30.fair. -/
import Derived.Test.YtbgoogjhgeoapaaAuF1
set_option linter.unusedVariables false
set_option linter.unusedSimpArgs false
set_option linter.unusedSectionVars false
namespace Go.Proofs.Ytbgoogjhgeoapaa
open Go.RowKit
variable [Base]

theorem all_dropR {l : List RAcc} {i : Nat} {s : RAcc} (h : l[i]? = some s) (p : RAcc → Bool) : (l.drop i).all p = (p s && (l.drop (i + 1)).all p) := by
  obtain ⟨h1, rfl⟩ := List.getElem?_eq_some_iff.1 h
  rw [List.drop_eq_getElem_cons h1]
  rfl
theorem rbegins_eq {l : List TV} {v : Value} {w : World} (h : TurnsAt w v l) {fr to : Nat} {f t q : Int} (hf : f = fr) (ht : t = to) (hto : to ≤ l.length) {m : Nat} (hm : begins ((l.take to).drop fr) q = m) : Calls Try.prog 45 #[v, iv f, iv t, iv q] w (IntQ m w) := by
  subst hf ht hm
  exact rbegins_any l v w h fr to hto q
theorem rgone_eq {l : List TV} {v : Value} {w : World} (h : TurnsAt w v l) {to : Nat} (hto : to ≤ l.length) {q : Int} {b : Bool} (hb : goneB (l.take to) q = b) : Calls Try.prog 46 #[v, iv to, iv q] w (BoolQ b w) := by
  subst hb
  exact rgone_any l v w h to hto q
set_option maxRecDepth 100000 in
set_option maxHeartbeats 8000000 in
theorem rfair_any (l : List TV) (v : Value) (all : List RAcc) (va : Value) (w : World) (h : TurnsAt w v l) (ha : AccsAt w va all) (prev i : Nat) (hp : prev < i) (hi : i ≤ l.length) (q : Int) :
    Calls Try.prog 41 #[v, iv prev, iv i, va, iv q] w (BoolQ (fairB l prev i all q) w) := by
  obtain ⟨la, lc, rfl, hln, -, -, -⟩ := h.cell
  obtain ⟨a, c, rfl, hn, -, -, hc⟩ := ha.cell
  obtain ⟨n, hl⟩ : ∃ n, all.length = n := ⟨_, rfl⟩
  rw [hl] at hn ⊢
  have HC := Lib.hid hc
  have HL := Lib.hid hl
  have HT := Lib.hid h
  have HLN := Lib.hid hln
  have HP := Lib.hid hp
  have HI := Lib.hid hi
  have hud : ∀ b : Bool, (undef = Value.bool b) = False := fun b => by simp [undef]
  unfold maxLen at hn hln
  clear hc ha hl h
  obtain ⟨ll, hll⟩ : ∃ k, l.length = k := ⟨_, rfl⟩
  rw [hll] at hi hln HT ⊢
  have HLL := Lib.hid hll
  clear hll
  have hps : (prev : Int) + 1 ≤ 9223372036854775807 := by omega
  go_enter Try.func41, Try.ntmps41
  go_wp2_with fail
  go_loopw [11] (fun y wr => ∃ k : Nat, k ≤ n ∧ y = .int .i64 k ∧ Hid (Below w.heap.size w wr) ∧ Hid (fairB l prev i all q = (all.drop k).all fun a => fair1 l prev i q a.query)) (fun y _ => n - (intOf y).toNat)
  case atStart => exact ⟨0, Nat.zero_le _, rfl, Below.refl _ _, rfl⟩
  case round =>
    obtain ⟨k, hk, rfl, HBE, HF⟩ := hrel
    by_cases hlt : k < n
    rotate_left
    · have HE := Lib.hid (show fairB l prev i all q = true by rw [HF.out, List.drop_eq_nil_of_le (by rw [HL.out]; omega)]; rfl)
      go_wp2
      go_ret
      exact ⟨ret_boolQ HE.out.symm, HBE.out⟩
    obtain ⟨s, hs⟩ : ∃ s, all[k]? = some s := ⟨_, List.getElem?_eq_getElem (show k < all.length by have := HL.out; omega)⟩
    obtain ⟨rb, off, rfl, hrb, hcs⟩ := HC.out k s hs
    have g0 := (HBE.out.cell (p := ⟨rb, off + k * 9 + 0, none⟩) hrb).trans (hcs 0 (by omega))
    simp only [rC, List.getElem?_cons_zero, Nat.add_zero] at g0
    have hF2 := HF.out
    rw [all_dropR hs] at hF2
    have hkn : (k : Int) < (n : Int) := by omega
    obtain ⟨b, hb⟩ : ∃ b, s.query = b := ⟨_, rfl⟩
    rw [hb] at g0 hF2
    clear hcs hs hb hrb
    by_cases hq : b = q
    · have hqb : (b == q) = true := by simpa using hq
      have HF3 := Lib.hid (show fairB l prev i all q = (all.drop (k + 1)).all fun a => fair1 l prev i q a.query by rw [hF2]; unfold fair1; rw [if_pos hq, Bool.true_and])
      clear hF2 hq
      go_wp2
      go_roundw
      case rel => exact ⟨k + 1, by omega, by go_num, HBE, HF3⟩
      case measure => simp [intOf]; omega
    have hqb : (b == q) = false := by simpa using hq
    obtain ⟨nn, hnn⟩ : ∃ m, begins ((l.take i).drop (prev + 1)) b = m := ⟨_, rfl⟩
    obtain ⟨mm, hmm⟩ : ∃ m, begins ((l.take prev).drop 0) b = m := ⟨_, rfl⟩
    obtain ⟨gg, hgg⟩ : ∃ m, goneB (l.take i) b = m := ⟨_, rfl⟩
    have hF4 : fairB l prev i all q = ((!(decide (1 < nn) || (decide (nn = 0) && (decide (0 < mm) && !gg)))) && (all.drop (k + 1)).all fun a => fair1 l prev i q a.query) := by
      rw [hF2]; unfold fair1; rw [if_neg hq, hnn, hgg, ← hmm, List.drop_zero]
    have HNN := Lib.hid hnn
    have HMM := Lib.hid hmm
    have HGG := Lib.hid hgg
    have HF4 := Lib.hid hF4
    clear hnn hmm hgg hF2 hF4 hq
    go_wp2_with fail
    refine (rbegins_eq (fr := prev + 1) (to := i) (HT.out.below HBE.out) (by omega) rfl (by rw [HLL.out]; exact hi) HNN.out).mono ?_
    rintro e w2 ⟨rfl, b2⟩
    have HB2 := Lib.hid (HBE.out.trans (b2.mono HBE.out.size))
    clear b2 g0
    go_wp2_with fail
    refine (rbegins_eq (fr := 0) (to := prev) (HT.out.below HB2.out) rfl rfl (by rw [HLL.out]; omega) HMM.out).mono ?_
    rintro e w3 ⟨rfl, b3⟩
    have HB3 := Lib.hid (HB2.out.trans (b3.mono HB2.out.size))
    clear b3
    rcases (by omega : 2 ≤ nn ∨ nn = 1 ∨ nn = 0) with h2 | rfl | rfl
    · have HE := Lib.hid (show fairB l prev i all q = false by rw [HF4.out, decide_eq_true (show 1 < nn by omega)]; rfl)
      have h2i : (1 : Int) < (nn : Int) := by omega
      go_wp2
      go_ret
      exact ⟨ret_boolQ HE.out.symm, HB3.out⟩
    · have HF5 := Lib.hid (show fairB l prev i all q = (all.drop (k + 1)).all fun a => fair1 l prev i q a.query by rw [HF4.out]; rfl)
      go_wp2
      go_roundw
      case rel => exact ⟨k + 1, by omega, by go_num, HB3, HF5⟩
      case measure => simp [intOf]; omega
    · by_cases hm0 : mm = 0
      · subst hm0
        have HF5 := Lib.hid (show fairB l prev i all q = (all.drop (k + 1)).all fun a => fair1 l prev i q a.query by rw [HF4.out]; rfl)
        go_wp2
        go_roundw
        case rel => exact ⟨k + 1, by omega, by go_num, HB3, HF5⟩
        case measure => simp [intOf]; omega
      · have hm1 : (0 : Int) < (mm : Int) := by omega
        have hm2 : 0 < mm := by omega
        cases gg with
        | true =>
          have HF5 := Lib.hid (show fairB l prev i all q = (all.drop (k + 1)).all fun a => fair1 l prev i q a.query by rw [HF4.out, decide_eq_true hm2]; rfl)
          clear hm2 hm0
          have hmb : decide ((0 : Int) < (mm : Int)) = true := decide_eq_true hm1
          have HGO := Lib.hid (fun (w' : World) (h : TurnsAt w' (.slice la ll lc) l) => rgone_eq h (by rw [HLL.out]; exact hi) HGG.out)
          clear hmb hps
          go_wp2_with fail
          refine (HGO.out _ (HT.out.below HB3.out)).mono ?_
          rintro e w4 ⟨rfl, b4⟩
          have HB4 := Lib.hid (HB3.out.trans (b4.mono HB3.out.size))
          clear b4
          go_wp2
          go_roundw
          case rel => exact ⟨k + 1, by omega, by go_num, HB4, HF5⟩
          case measure => simp [intOf]; omega
        | false =>
          have HE := Lib.hid (show fairB l prev i all q = false by rw [HF4.out, decide_eq_true hm2]; rfl)
          clear hm2 hm0
          have hmb : decide ((0 : Int) < (mm : Int)) = true := decide_eq_true hm1
          have HGO := Lib.hid (fun (w' : World) (h : TurnsAt w' (.slice la ll lc) l) => rgone_eq h (by rw [HLL.out]; exact hi) HGG.out)
          clear hmb hps
          go_wp2_with fail
          refine (HGO.out _ (HT.out.below HB3.out)).mono ?_
          rintro e w4 ⟨rfl, b4⟩
          have HB4 := Lib.hid (HB3.out.trans (b4.mono HB3.out.size))
          clear b4
          go_wp2
          go_ret
          exact ⟨ret_boolQ HE.out.symm, HB4.out⟩
end Go.Proofs.Ytbgoogjhgeoapaa
