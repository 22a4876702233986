/- The reference's accounts: plain laws of places, and rows in memory. No walk. -/
import Derived.Test.YtbgoogjhgeoapaaAuF2
set_option linter.unusedVariables false
set_option linter.unusedSimpArgs false
set_option linter.unusedSectionVars false
namespace Go.Proofs.Ytbgoogjhgeoapaa
open Go.RowKit
variable [Base]

/-- No query stands twice; four marks each. -/
structure TabR (all : List RAcc) : Prop where
  nd : all.Pairwise fun a b => a.query ≠ b.query
  may : ∀ a ∈ all, a.may.length = 4
theorem TabR.nil : TabR [] := ⟨.nil, fun a h => by cases h⟩
theorem placeR_spec (q : Int) : ∀ (l : List RAcc) (k : Nat), (placeR q k l = -1 ∧ findR l q = none ∧ ∀ a ∈ l, a.query ≠ q) ∨ ∃ j a, placeR q k l = ((k + j : Nat) : Int) ∧ l[j]? = some a ∧ findR l q = some a ∧ a.query = q
  | [], k => .inl ⟨rfl, rfl, fun a h => by cases h⟩
  | b :: l, k => by
    unfold placeR
    by_cases h : b.query = q
    · right
      exact ⟨0, b, by rw [if_pos h]; rfl, rfl, by simp [findR, h], h⟩
    · rw [if_neg h]
      rcases placeR_spec q l (k + 1) with ⟨h1, h2, h3⟩ | ⟨j, a, h1, h2, h3, h4⟩
      · left
        refine ⟨h1, ?_, fun a ha => ?_⟩
        · unfold findR at h2 ⊢
          rw [List.find?_cons, decide_eq_false h]; exact h2
        · rcases List.mem_cons.1 ha with rfl | ha
          · exact h
          · exact h3 a ha
      · right
        refine ⟨j + 1, a, by rw [h1]; congr 1; omega, by simpa using h2, ?_, h4⟩
        unfold findR at h3 ⊢
        rw [List.find?_cons, decide_eq_false h]; exact h3
/-- The account that a place holds is put anew. -/
theorem putR_set {l : List RAcc} (hn : l.Pairwise fun a b => a.query ≠ b.query) {k : Nat} {a0 a : RAcc} (hk : l[k]? = some a0) (hq : a.query = a0.query) : putR l a = l.set k a := by
  apply List.ext_getElem?
  intro i
  unfold putR
  rw [List.getElem?_map, List.getElem?_set]
  obtain ⟨h1, h2⟩ := List.getElem?_eq_some_iff.1 hk
  by_cases e : k = i
  · subst e
    rw [if_pos rfl, if_pos h1, hk]
    simp [hq]
  · rw [if_neg e]
    cases h3 : l[i]? with
    | none => rfl
    | some b =>
      obtain ⟨h4, h5⟩ := List.getElem?_eq_some_iff.1 h3
      have hne : b.query ≠ a.query := by
        rw [hq, ← h2, ← h5]
        rcases Nat.lt_or_gt_of_ne e with h6 | h6
        · exact (List.pairwise_iff_getElem.1 hn k i h1 h4 h6).symm
        · exact List.pairwise_iff_getElem.1 hn i k h4 h1 h6
      simp [hne]
theorem TabR.ensure {l : List RAcc} (h : TabR l) {q : Int} (hq : ∀ a ∈ l, a.query ≠ q) : TabR (l ++ [newR q]) := by
  refine ⟨List.pairwise_append.2 ⟨h.nd, List.pairwise_singleton _ _, fun a ha b hb => ?_⟩, fun a ha => ?_⟩
  · rw [List.mem_singleton.1 hb]; exact hq a ha
  · rcases List.mem_append.1 ha with h1 | h1
    · exact h.may a h1
    · rw [List.mem_singleton.1 h1]; rfl
theorem TabR.set {l : List RAcc} (h : TabR l) {k : Nat} {a0 a : RAcc} (hk : l[k]? = some a0) (hq : a.query = a0.query) (hm : a.may.length = 4) : TabR (l.set k a) := by
  obtain ⟨h1, h2⟩ := List.getElem?_eq_some_iff.1 hk
  have hmap : (l.set k a).map RAcc.query = l.map RAcc.query := by
    apply List.ext_getElem?
    intro i
    rw [List.getElem?_map, List.getElem?_map, List.getElem?_set]
    by_cases e : k = i
    · subst e
      rw [if_pos rfl, if_pos h1, hk]
      simp [hq]
    · rw [if_neg e]
  refine ⟨?_, fun b hb => ?_⟩
  · have h3 : (l.map RAcc.query).Pairwise (· ≠ ·) := List.pairwise_map.2 h.nd
    rw [← hmap] at h3
    exact List.pairwise_map.1 h3
  · rcases List.mem_or_eq_of_mem_set hb with h3 | rfl
    · exact h.may b h3
    · exact hm
/-! ### rows of accounts -/
theorem info_acc : (Try.prog.info? 83).map (fun i => (i.zero, i.size, i.bytes)) = some (some (Value.agg #[.int .i64 0, .int .i64 0, .int .i64 0, .bool false, .bool false, .bool false, .bool false, .bool false, .int .i64 0]), 9, 40) := by kernel_rfl
abbrev accX (l : List RAcc) : List Value := (l.map rC).flatten
theorem accX_len (l : List RAcc) : (accX l).length = l.length * 9 := by rw [flatten_len 9 _ (rC_len l), List.length_map]
theorem accX_app (a b : List RAcc) : accX (a ++ b) = accX a ++ accX b := by simp [accX]
def OwnR (B : Nat) (w : World) (v : Value) (l : List RAcc) : Prop := w.ownsRow B 83 9 v l.length (accX l)
theorem OwnR.accs {B : Nat} {w : World} {v : Value} {l : List RAcc} (h : OwnR B w v l) : AccsAt w v l := SliceAt.of_owns h
/-- A row's cells are stored one by one. -/
def setsAt (xs : List Value) : Nat → List Value → List Value
  | _, [] => xs
  | o, u :: us => setsAt (xs.set o u) (o + 1) us
theorem setsAt_app (A : List Value) : ∀ (us ys : List Value) (o : Nat), setsAt (A ++ ys) (A.length + o) us = A ++ setsAt ys o us
  | [], ys, o => rfl
  | u :: us, ys, o => by
    simp only [setsAt]
    rw [List.set_append_right _ _ (by omega), Nat.add_sub_cancel_left, Nat.add_assoc, setsAt_app A us _ (o + 1)]
theorem accX_sets {a' : RAcc} : ∀ (l : List RAcc) (k : Nat) (a : RAcc), l[k]? = some a → setsAt (accX l) (k * 9) (rC a') = accX (l.set k a')
  | [], _, _, h => by simp at h
  | b :: l, 0, a, h => by
    simp only [accX, List.map_cons, List.flatten_cons, List.set_cons_zero, Nat.zero_mul]
    simp [setsAt, rC]
  | b :: l, k + 1, a, h => by
    have ih := accX_sets (a' := a') l k a (by simpa using h)
    have e : accX (b :: l) = rC b ++ accX l := rfl
    have e2 : (k + 1) * 9 = (rC b).length + k * 9 := by simp [rC]; omega
    rw [e, e2, setsAt_app, ih]
    rfl
end Go.Proofs.Ytbgoogjhgeoapaa
