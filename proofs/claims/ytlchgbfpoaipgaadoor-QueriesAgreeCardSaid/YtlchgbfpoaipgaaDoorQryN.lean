/- Cells of a row are set. No walk. -/
import Derived.Test.YtlchgbfpoaipgaaDoorQryM
set_option linter.unusedVariables false
set_option linter.unusedSimpArgs false
set_option linter.unusedSectionVars false
namespace Go.Proofs.YtlchgbfpoaipgaaDoor
open Go.RowKit
variable [Base]

theorem flatten_set (sz : Nat) (v : Value) (j : Nat) (hj : j < sz) : ∀ (xss : List (List Value)) (k : Nat) (x : List Value), (∀ y ∈ xss, y.length = sz) → xss[k]? = some x → xss.flatten.set (k * sz + j) v = (xss.set k (x.set j v)).flatten
  | [], k, x, _, h => by simp at h
  | y :: xss, 0, x, hl, h => by
    simp only [List.getElem?_cons_zero, Option.some.injEq] at h
    subst h
    have h1 := hl y List.mem_cons_self
    simp only [List.flatten_cons, List.set_cons_zero]
    rw [List.set_append_left _ _ (by omega), Nat.zero_mul, Nat.zero_add]
  | y :: xss, k + 1, x, hl, h => by
    simp only [List.getElem?_cons_succ] at h
    have h1 := hl y List.mem_cons_self
    have h2 := flatten_set sz v j hj xss k x (fun z hz => hl z (List.mem_cons_of_mem _ hz)) h
    simp only [List.flatten_cons, List.set_cons_succ]
    have h3 : (k + 1) * sz = k * sz + sz := Nat.succ_mul k sz
    rw [List.set_append_right _ _ (by omega), ← h2]
    congr 2
    omega
theorem SliceAt.set {w : World} {T : TypeId} {sz g n c : Nat} {xs : List Value} (h : SliceAt w T sz (.slice (some ⟨g, 0, none⟩) n c) xs) (i : Nat) (v : Value) : SliceAt (w.setCell ⟨g, i, none⟩ v) T sz (.slice (some ⟨g, 0, none⟩) n c) (xs.set i v) := by
  obtain ⟨n', cap, h1, h2, h3, h4⟩ := h
  refine ⟨n', cap, by rw [List.length_set]; exact h1, h2, h3, ?_⟩
  rcases h4 with h4 | ⟨b, off, cs, fr, e1, e2, e3⟩
  · exact .inl h4
  · injection e1 with e1 e4 e5
    injection e1 with e1
    injection e1 with e6 e7
    subst e4 e5 e6 e7
    obtain ⟨U, hU, e2⟩ := e2
    refine .inr ⟨g, 0, cs.setIfInBounds i v, fr, rfl, ⟨U, hU, by simp [World.setCell, Array.getElem?_modify, e2]⟩, fun k hk => ?_⟩
    rw [List.length_set] at hk
    have h5 := e3 k hk
    rw [Nat.zero_add] at h5 ⊢
    rw [Array.getElem?_setIfInBounds, List.getElem?_set]
    by_cases hik : i = k
    · subst hik
      have h6 : i < cs.size := by
        rcases Nat.lt_or_ge i cs.size with h6 | h6
        · exact h6
        · rw [Array.getElem?_eq_none h6] at h5
          rw [List.getElem?_eq_getElem hk] at h5
          cases h5
      simp [h6, hk]
    · simp [hik, h5]
theorem All2.set {α β : Type} {R : α → β → Prop} {x : α} {y : β} (hr : R x y) : ∀ {xs : List α} {ys : List β} (k : Nat), All2 R xs ys → All2 R (xs.set k x) (ys.set k y)
  | [], [], _, _ => trivial
  | a :: xs, b :: ys, 0, ⟨_, h2⟩ => ⟨hr, h2⟩
  | a :: xs, b :: ys, k + 1, ⟨h1, h2⟩ => ⟨h1, All2.set hr k h2⟩
theorem SameT.words {w : World} {g i : Nat} {v : Value} (h : tyAt w g = some 31) : SameT 61 w (w.setCell ⟨g, i, none⟩ v) := SameT.setCell (U := 31) h (by decide)
theorem tyAt_set {w : World} {b o : Nat} {x : Value} (c : Nat) : tyAt (w.setCell ⟨b, o, none⟩ x) c = tyAt w c := by
  unfold tyAt World.setCell
  simp only [Array.getElem?_modify]
  by_cases h : b = c
  · subst h
    simp only [if_true]
    cases w.heap[b]? with
    | none => rfl
    | some o => cases o <;> rfl
  · simp only [if_neg h]
theorem tyAt_below {B b : Nat} {w w' : World} (h : Below B w w') (hb : b < B) : tyAt w' b = tyAt w b := by
  unfold tyAt
  rw [h.block b hb]
theorem rows_len {w : World} {xss : List (List Value)} {l : List QRec} (ha : All2 (RecCells w) xss l) : ∀ y ∈ xss, y.length = 8 := ha.eachR fun x f ⟨v, e, _⟩ => by rw [e]; rfl
theorem set_len {xss : List (List Value)} {sz k : Nat} {x : List Value} (h : ∀ y ∈ xss, y.length = sz) (hx : x.length = sz) : ∀ y ∈ xss.set k x, y.length = sz := by
  intro y hy
  rcases List.mem_or_eq_of_mem_set hy with h1 | rfl
  · exact h y h1
  · exact hx
/-- A row whose status and value are set. -/
theorem RecsAt.turned {w : World} {g n c i : Nat} {xss : List (List Value)} {l : List QRec} {r : QRec} {st : Int} {s : QSet} {u : Value}
    (hs : SliceAt w 31 8 (.slice (some ⟨g, 0, none⟩) n c) (((xss.flatten.set (i * 8 + 5) (.int .i64 st)).set (i * 8 + 6) (.int .i64 s.width)).set (i * 8 + 7) u))
    (ha : All2 (RecCells w) xss l) (hr : l[i]? = some r) (hu : WordsAt w u s.words) : RecsAt w (.slice (some ⟨g, 0, none⟩) n c) (l.set i (turn st s r)) := by
  obtain ⟨x, hx, u', rfl, _⟩ := ha.satR hr
  have hi := (List.getElem?_eq_some_iff.1 hx).1
  rw [flatten_set 8 _ 5 (by omega) xss i _ (rows_len ha) hx, flatten_set 8 _ 6 (by omega) _ i _ (set_len (rows_len ha) rfl) (List.getElem?_set_self hi), List.set_set,
    flatten_set 8 _ 7 (by omega) _ i _ (set_len (rows_len ha) rfl) (List.getElem?_set_self hi), List.set_set] at hs
  exact ⟨_, hs, ha.set ⟨u, rfl, hu⟩ i⟩
/-- A row of its own that is not empty: its block, its cells. -/
theorem own_pos {w : World} {base : Nat} {T : TypeId} {sz n c : Nat} {a : Option Addr} {xs : List Value} (h : w.ownsRow base T sz (.slice a n c) n xs) (hn : 0 < n) (hbs : Base.b ≤ base := by omega) :
    ∃ g, a = some ⟨g, 0, none⟩ ∧ base ≤ g ∧ g < w.heap.size ∧ tyAt w g = some T ∧ (∀ j, j < xs.length → w.cell? ⟨g, j, none⟩ = xs[j]?) ∧ ∀ j, w.frozen? ⟨g, j, none⟩ = false := by
  obtain ⟨h1, h2⟩ := h
  rcases h2 with ⟨h3, _⟩ | ⟨g, cap, cur, e, hb, hg, hn', hc, hs, ht⟩
  · injection h3 with _ h3; omega
  · injection e with e _ _
    subst e
    refine ⟨g, rfl, hb, lt_heap hg, tyAt_of hg, fun j hj => ?_, fun j => by simp [World.frozen?, hg]⟩
    have h5 : w.cell? ⟨g, j, none⟩ = cur[j]? := by simp [World.cell?, hg]
    rw [h5, ← ht, List.getElem?_take_of_lt (by omega)]
    simp
theorem cell_off {w : World} {b g o j : Nat} {u : Value} {x : Option Value} (h : b ≠ g) (hc : w.cell? ⟨b, o, none⟩ = x) : (w.setCell ⟨g, j, none⟩ u).cell? ⟨b, o, none⟩ = x :=
  (World.cell?_of_block (Below.heap_setCell _ _ _ _ h)).trans hc
theorem cell_else {w : World} {g o j : Nat} {u : Value} {x : Option Value} (h : o ≠ j) (hc : w.cell? ⟨g, o, none⟩ = x) : (w.setCell ⟨g, j, none⟩ u).cell? ⟨g, o, none⟩ = x := by
  rw [← hc]
  unfold World.cell? World.setCell
  simp only [Array.getElem?_modify, if_true]
  cases w.heap[g]? with
  | none => rfl
  | some q =>
    cases q <;> try rfl
    simp [Array.getElem?_setIfInBounds, Ne.symm h]
theorem frozen_set {w : World} {g j b o : Nat} {v : Value} : (w.setCell ⟨g, j, none⟩ v).frozen? ⟨b, o, none⟩ = w.frozen? ⟨b, o, none⟩ := by
  unfold World.frozen? World.setCell
  simp only [Array.getElem?_modify]
  by_cases h : g = b
  · subst h
    simp only [if_true]
    cases w.heap[g]? with
    | none => rfl
    | some o => cases o <;> rfl
  · simp only [if_neg h]
end Go.Proofs.YtlchgbfpoaipgaaDoor
