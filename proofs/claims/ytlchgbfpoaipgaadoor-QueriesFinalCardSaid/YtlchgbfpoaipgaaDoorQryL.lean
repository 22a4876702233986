/- What the laws on tables say: plain Lean, no program in sight. -/
import Derived.Test.YtlchgbfpoaipgaaDoorQryP
set_option linter.unusedVariables false
set_option linter.unusedSimpArgs false
namespace Go.Proofs.YtlchgbfpoaipgaaDoor

/-- A step that leaves what is finished. -/
structure FinStep (most : Nat) (l m : List QRec) : Prop where
  tab : tabB m = true
  pend : pend m ≤ most
  len : l.length ≤ m.length
  keep : ∀ (j : Nat) (r : QRec), l[j]? = some r → r.status ≠ 1 → m[j]? = some r
theorem pend_set {l : List QRec} {i : Nat} {r : QRec} (h : l[i]? = some r) {st : Int} (hst : st ≠ 1) (v : QSet) : pend (l.set i (turn st v r)) ≤ pend l := by
  unfold pend
  obtain ⟨h1, rfl⟩ := List.getElem?_eq_some_iff.1 h
  rw [List.countP_set h1]
  have h2 : decide ((turn st v l[i]).status = 1) = false := decide_eq_false (show ¬ st = 1 from hst)
  rw [h2, if_neg (c := (false = true)) (by decide)]
  omega
theorem finish_fin {most : Nat} {l : List QRec} {x : Str} {st : Int} {v : QSet} (hp : pend l ≤ most) (hst : st ≠ 1) (hs : setB v = true → statusB st v = true) (h : (finishQ l x st v).2 = 0) : FinStep most l (finishQ l x st v).1 := by
  refine ⟨finish_tab hs h, ?_, ?_, ?_⟩
  all_goals
    unfold finishQ at h ⊢
    split at h
    · exact absurd h (by decide)
    rename_i h1
    rw [if_neg h1]
    split at h
    · exact absurd h (by decide)
    rename_i h2
    rw [if_neg h2]
    obtain ⟨i, r, e1, e2, e3⟩ := findQ_some h2
    have e4 : (findQ l x).toNat = i := by omega
    rw [e4, e2] at h ⊢
    dsimp only at h ⊢
    split at h
    · exact absurd h (by decide)
    rename_i h6
    rw [if_neg h6]
  · exact Nat.le_trans (pend_set e2 hst v) hp
  · simp
  · intro j r' hj hr
    rw [List.getElem?_set]
    split
    · rename_i hij
      subst hij
      rw [e2] at hj
      injection hj with hj
      subst hj
      exact absurd (Decidable.not_not.1 h6) hr
    · exact hj
theorem answer_fin {most : Nat} {l : List QRec} {x : Str} {v : QSet} (hp : pend l ≤ most) (h : (answerQ l x v).2 = 0) : FinStep most l (answerQ l x v).1 :=
  finish_fin hp (by decide) (fun hv => by unfold statusB; rw [if_pos rfl]; exact hv) h
theorem cancel_fin {most : Nat} {l : List QRec} {x : Str} (hp : pend l ≤ most) (h : (cancelQ l x).2 = 0) : FinStep most l (cancelQ l x).1 :=
  finish_fin hp (by decide) (fun _ => by decide) h
theorem unload1_status {p : Int} {r : QRec} (h : r.status ≠ 1) : unload1 p r = r := by
  unfold unload1 hitB
  rw [if_neg (by simp [h])]
theorem pend_unload (p : Int) : ∀ l : List QRec, pend (l.map (unload1 p)) ≤ pend l
  | [] => Nat.le_refl _
  | r :: l => by
    have ih := pend_unload p l
    unfold pend at ih ⊢
    rw [List.map_cons, List.countP_cons, List.countP_cons]
    have : (if decide ((unload1 p r).status = 1) = true then 1 else 0) ≤ (if decide (r.status = 1) = true then 1 else 0) := by
      by_cases hs : r.status = 1
      · simp [hs]
        split <;> omega
      · rw [unload1_status hs]
        exact Nat.le_refl _
    omega
theorem unload_fin {most : Nat} {l : List QRec} {p : Int} (ht : tabB l = true) (hp : pend l ≤ most) : FinStep most l (unloadQ l p) := by
  unfold unloadQ
  rw [if_pos ht]
  refine ⟨tab_unload ht p, Nat.le_trans (pend_unload p l) hp, by simp, fun j r hj hr => ?_⟩
  rw [List.getElem?_map, hj]
  simp [unload1_status hr]
theorem submit_fin {most : Nat} {l : List QRec} {r : QRec} (h : (submitQ l r most).2 = 0) : FinStep most l (submitQ l r most).1 := by
  refine ⟨submit_tab h, ?_, ?_, ?_⟩
  all_goals
    unfold submitQ at h ⊢
    split at h
    · exact absurd h (by decide)
    rename_i h1
    rw [if_neg h1]
    split at h
    · exact absurd h (by decide)
    rename_i h2
    rw [if_neg h2]
    split at h
    · exact absurd h (by decide)
    rename_i h3
    rw [if_neg h3]
  · unfold pend at h3 ⊢
    rw [List.countP_append]
    have : List.countP (fun r => decide (r.status = 1)) [fresh r] ≤ 1 := by
      have := List.countP_le_length (p := fun r : QRec => decide (r.status = 1)) (l := [fresh r])
      simpa using this
    omega
  · simp
  · intro j r' hj _
    rw [List.getElem?_append_left (List.getElem?_eq_some_iff.1 hj).1]
    exact hj

/-- Decimal digits of a number below 1000. -/
def dig10 (n : Nat) : UInt8 := UInt8.ofNat (48 + n % 10)
def decF : Nat → Nat → Str
  | 0, _ => []
  | f + 1, n => (if n / 10 = 0 then [] else decF f (n / 10)) ++ [dig10 n]
def dec10 (n : Nat) : Str := decF 20 n
def hrec (i : Nat) : QRec := ⟨113 :: dec10 i, 0, 1, 0, 0, 0, ⟨0, []⟩⟩
def histQ (k : Nat) : List QRec := (List.range k).map fun i => fresh (hrec i)
theorem hist_step : ((List.range 64).all fun i => decide (submitQ (histQ i) (hrec i) 100 = (histQ (i + 1), 0))) = true := by decide +kernel
theorem hist_full : submitQ (histQ 64) (hrec 64) 100 = ([], 7) := by decide +kernel
theorem hist_pend : pend (histQ 63) = 63 ∧ pend (histQ 64) = 64 := by decide +kernel
end Go.Proofs.YtlchgbfpoaipgaaDoor
