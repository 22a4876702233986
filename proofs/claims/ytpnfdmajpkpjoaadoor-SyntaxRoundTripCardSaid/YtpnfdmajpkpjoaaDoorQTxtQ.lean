/- Walks of the reference's Print and Inline. -/
import Derived.Test.YtpnfdmajpkpjoaaDoorQTxtN
set_option linter.unusedVariables false
set_option linter.unusedSimpArgs false
namespace Go.Proofs.YtpnfdmajpkpjoaaDoor
open Go.RowKit

def catT (l : List Str) : Str := (l.map fun x => x ++ [10]).flatten
theorem catT_take (l : List Str) (k : Nat) (t : Str) (h : l[k]? = some t) : catT (l.take (k + 1)) = catT (l.take k) ++ (t ++ [10]) := by
  unfold catT
  rw [List.take_add_one, h]
  simp
theorem catT_len (l : List Str) (h : ∀ x ∈ l, x.length ≤ 200) : (catT l).length ≤ l.length * 201 := flat_len _ 201 l fun x hx => by have := h x hx; simp; omega
theorem joinT_take (l : List Str) (k : Nat) (t : Str) (h : l[k]? = some t) : joinT (l.take (k + 1)) = if k = 0 then t else joinT (l.take k) ++ [59, 32] ++ t := by
  cases l with
  | nil => simp at h
  | cons x r =>
    cases k with
    | zero => simp at h; subst h; simp [joinT]
    | succ k =>
      simp only [List.getElem?_cons_succ] at h
      rw [if_neg (by omega), List.take_succ_cons, List.take_succ_cons]
      unfold joinT
      rw [List.take_add_one, h]
      simp
theorem joinT_len (l : List Str) (h : ∀ x ∈ l, x.length ≤ 200) : (joinT l).length ≤ l.length * 202 := by
  cases l with
  | nil => simp [joinT]
  | cons x r =>
    have h1 := flat_len (fun y : Str => [59, 32] ++ y) 202 r fun y hy => by have := h y (List.mem_cons_of_mem _ hy); simp; omega
    have h2 := h x List.mem_cons_self
    unfold joinT
    rw [List.length_append, List.length_cons, Nat.succ_mul]
    exact Nat.le_trans (Nat.add_le_add h2 h1) (by omega)
theorem take_mem {p : Str → Prop} {l : List Str} (h : ∀ x ∈ l, p x) (k : Nat) : ∀ x ∈ l.take k, p x := fun x hx => h x (List.mem_of_mem_take hx)

theorem valid_cells {w : World} {v : Value} {p : List PFunc} (h : FuncsAt w v p) : ∃ a n c, v = .slice a n c := by
  obtain ⟨a, c, e, _⟩ := h.cell
  exact ⟨a, _, c, e⟩

set_option maxHeartbeats 1000000 in
theorem print_any (p : List PFunc) (v : Value) (w : World) (h : FuncsAt w v p) :
    Calls Tryd.prog 22 #[.agg #[v]] w (StrPost (printT p) w) := by
  have keep : ∀ w w' : World, FuncsAt w v p → Below w.heap.size w w' → FuncsAt w' v p := fun w w' h hb => h.keep (SameT.below hb) (SameT.below hb) (SameT.below hb) (SameT.below hb)
  have KEEP := Lib.hid keep
  clear keep
  obtain ⟨a, n, c, rfl⟩ := valid_cells h
  have ba := (Below.refl w.heap.size w).alloc (Nat.le_refl _) (.cells #[.slice a n c] 34)
  have hf1 := KEEP.out _ _ h ba
  have HV := Lib.hid (valid_any p _ _ hf1)
  clear h
  cases hv : validB p
  · have e : printT p = [] := by unfold printT; rw [hv]; rfl
    rw [e]
    have hv := Lib.hid hv
    have B := Lib.hid ba
    clear hf1 e ba
    go_enter Tryd.func22, Tryd.ntmps22
    go_wp2_with fail
    refine HV.out.mono ?_
    rintro e w1 ⟨rfl, hb1⟩
    have B1 := Lib.hid (B.out.trans (hb1.mono (by simp)))
    clear hb1
    rw [hv.out]
    go_wp2
    go_ret
    exact ⟨rfl, B1.out⟩
  · have e : printT p = catT (linesT p) := by unfold printT; rw [hv]; rfl
    rw [e]
    have hlen := Lib.hid (catT_len (linesT p) (linesT_each hv))
    have hnum := linesT_len hv
    have heach := Lib.hid (linesT_each hv)
    have HF := Lib.hid hf1
    have hv := Lib.hid hv
    have B := Lib.hid ba
    clear hf1 e ba
    go_enter Tryd.func22, Tryd.ntmps22
    go_wp2_with fail
    refine HV.out.mono ?_
    rintro e w1 ⟨rfl, hb1⟩
    have B1 := Lib.hid (B.out.trans (hb1.mono (by simp)))
    have HF1 := Lib.hid (KEEP.out _ _ HF.out hb1)
    have hz := hb1.size
    simp at hz
    have hx : w1.cell? ⟨w.heap.size, 0, none⟩ = some (.slice a n c) := (hb1.cell (p := ⟨w.heap.size, 0, none⟩) (by simp)).trans (World.cell?_alloc_new _ _ _ _)
    clear hb1
    rw [hv.out]
    go_wp2_with fail
    refine (lines_any p _ _ HF1.out hv.out).mono ?_
    rintro e w2 ⟨lv, rfl, hl, hb2⟩
    have B2 := Lib.hid (B1.out.trans (hb2.mono (by omega)))
    obtain ⟨la, lc, rfl, _, hc⟩ := hl.cell
    obtain ⟨ln, hln⟩ : ∃ n, (linesT p).length = n := ⟨_, rfl⟩
    rw [hln] at hnum hlen ⊢
    have HLN := Lib.hid hln
    have HC := Lib.hid hc
    clear hb2 hl hc hln
    go_wp2
    go_loop [3, 5] (fun y x => ∃ k : Nat, k ≤ ln ∧ x = .int .i64 k ∧ y = sv (catT ((linesT p).take k))) (fun _ x => ln - (intOf x).toNat)
    case atStart => exact ⟨0, Nat.zero_le _, rfl, rfl⟩
    case round =>
      obtain ⟨k, hk, rfl, rfl⟩ := hrel
      by_cases hlt : k < ln
      · obtain ⟨t, ht⟩ : ∃ t, (linesT p)[k]? = some t := ⟨_, List.getElem?_eq_getElem (show k < (linesT p).length by have := HLN.out; omega)⟩
        obtain ⟨bb, off, rfl, hb, g⟩ := HC.out k t ht
        have hT := Lib.hid (catT_take (linesT p) k t ht)
        have htl := heach.out t (List.mem_of_getElem? ht)
        have hle := catT_len ((linesT p).take k) (take_mem heach.out k)
        have hle2 : ((linesT p).take k).length ≤ 4240 := by rw [List.length_take]; have := HLN.out; omega
        have hle3 : List.length (catT ((linesT p).take k)) ≤ 4240 * 201 := Nat.le_trans hle (Nat.mul_le_mul_right _ hle2)
        clear ht hb hle hle2
        go_wp2
        go_round
        case rel => exact ⟨k + 1, by omega, by go_num, by rw [hT.out]; exact congrArg Value.string ((congrArg _ (app_sv t [10])).trans (app_sv _ _))⟩
        case measure => simp [intOf]; omega
      · go_wp2
        go_ret
        refine ⟨?_, B2.out⟩
        rw [List.take_of_length_le (by have := HLN.out; omega)]
        rfl

set_option maxHeartbeats 1000000 in
theorem inline_any (p : List PFunc) (v : Value) (w : World) (h : FuncsAt w v p) :
    Calls Tryd.prog 21 #[.agg #[v]] w (StrPost (inlineT p) w) := by
  have keep : ∀ w w' : World, FuncsAt w v p → Below w.heap.size w w' → FuncsAt w' v p := fun w w' h hb => h.keep (SameT.below hb) (SameT.below hb) (SameT.below hb) (SameT.below hb)
  have KEEP := Lib.hid keep
  clear keep
  obtain ⟨a, n, c, rfl⟩ := valid_cells h
  have ba := (Below.refl w.heap.size w).alloc (Nat.le_refl _) (.cells #[.slice a n c] 34)
  have hf1 := KEEP.out _ _ h ba
  have HV := Lib.hid (valid_any p _ _ hf1)
  clear h
  cases hv : validB p
  · have e : inlineT p = [] := by unfold inlineT; rw [hv]; rfl
    rw [e]
    have hv := Lib.hid hv
    have B := Lib.hid ba
    clear hf1 e ba
    go_enter Tryd.func21, Tryd.ntmps21
    go_wp2_with fail
    refine HV.out.mono ?_
    rintro e w1 ⟨rfl, hb1⟩
    have B1 := Lib.hid (B.out.trans (hb1.mono (by simp)))
    clear hb1
    rw [hv.out]
    go_wp2
    go_ret
    exact ⟨rfl, B1.out⟩
  · have e : inlineT p = joinT (linesT p) := by unfold inlineT; rw [hv]; rfl
    rw [e]
    have hlen := Lib.hid (joinT_len (linesT p) (linesT_each hv))
    have hnum := linesT_len hv
    have heach := Lib.hid (linesT_each hv)
    have HF := Lib.hid hf1
    have hv := Lib.hid hv
    have B := Lib.hid ba
    clear hf1 e ba
    go_enter Tryd.func21, Tryd.ntmps21
    go_wp2_with fail
    refine HV.out.mono ?_
    rintro e w1 ⟨rfl, hb1⟩
    have B1 := Lib.hid (B.out.trans (hb1.mono (by simp)))
    have HF1 := Lib.hid (KEEP.out _ _ HF.out hb1)
    have hz := hb1.size
    simp at hz
    have hx : w1.cell? ⟨w.heap.size, 0, none⟩ = some (.slice a n c) := (hb1.cell (p := ⟨w.heap.size, 0, none⟩) (by simp)).trans (World.cell?_alloc_new _ _ _ _)
    clear hb1
    rw [hv.out]
    go_wp2_with fail
    refine (lines_any p _ _ HF1.out hv.out).mono ?_
    rintro e w2 ⟨lv, rfl, hl, hb2⟩
    have B2 := Lib.hid (B1.out.trans (hb2.mono (by omega)))
    obtain ⟨la, lc, rfl, _, hc⟩ := hl.cell
    obtain ⟨ln, hln⟩ : ∃ n, (linesT p).length = n := ⟨_, rfl⟩
    rw [hln] at hnum hlen ⊢
    have HLN := Lib.hid hln
    have HC := Lib.hid hc
    clear hb2 hl hc hln
    go_wp2
    go_loop [3, 5] (fun y x => ∃ k : Nat, k ≤ ln ∧ x = .int .i64 k ∧ y = sv (joinT ((linesT p).take k))) (fun _ x => ln - (intOf x).toNat)
    case atStart => exact ⟨0, Nat.zero_le _, rfl, rfl⟩
    case round =>
      obtain ⟨k, hk, rfl, rfl⟩ := hrel
      by_cases hlt : k < ln
      · obtain ⟨t, ht⟩ : ∃ t, (linesT p)[k]? = some t := ⟨_, List.getElem?_eq_getElem (show k < (linesT p).length by have := HLN.out; omega)⟩
        obtain ⟨bb, off, rfl, hb, g⟩ := HC.out k t ht
        have hT := Lib.hid (joinT_take (linesT p) k t ht)
        have htl := heach.out t (List.mem_of_getElem? ht)
        have hle := joinT_len ((linesT p).take k) (take_mem heach.out k)
        have hle2 : ((linesT p).take k).length ≤ 4240 := by rw [List.length_take]; have := HLN.out; omega
        have hle3 : List.length (joinT ((linesT p).take k)) ≤ 4240 * 202 := Nat.le_trans hle (Nat.mul_le_mul_right _ hle2)
        clear ht hb hle hle2
        by_cases hk0 : 0 < k
        · go_wp2
          go_round
          case rel => exact ⟨k + 1, by omega, by go_num, by rw [hT.out, if_neg (by omega)]; exact congrArg Value.string ((congrArg (· ++ _) (app_sv _ [59, 32])).trans (app_sv _ _))⟩
          case measure => simp [intOf]; omega
        · have hd : decide (0 < k) = false := decide_eq_false hk0
          have hk1 := Lib.hid (show k = 0 by omega)
          clear hk0
          go_wp2
          go_round
          case rel => exact ⟨k + 1, by omega, by go_num, by rw [hT.out, if_pos hk1.out]; refine congrArg Value.string ?_; rw [hk1.out]; exact app_sv [] t⟩
          case measure => simp [intOf]; omega
      · go_wp2
        go_ret
        refine ⟨?_, B2.out⟩
        rw [List.take_of_length_le (by have := HLN.out; omega)]
        rfl
end Go.Proofs.YtpnfdmajpkpjoaaDoor

