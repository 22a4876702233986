/- Parts of slices in memory. No program in sight. -/
import Derived.Test.YtbgoogjhgeoapaaSlc
set_option linter.unusedVariables false
set_option linter.unusedSimpArgs false
set_option linter.unusedSectionVars false
namespace Go.Proofs.Ytbgoogjhgeoapaa
open Go.RowKit
variable [Base]

theorem SliceAt.front {w : World} {T : TypeId} {sz b off n c : Nat} {xs : List Value} (h : SliceAt w T sz (.slice (some ⟨b, off, none⟩) n c) xs) (k : Nat) (hk : k ≤ n) : SliceAt w T sz (.slice (some ⟨b, off, none⟩) k c) (xs.take (k * sz)) := by
  obtain ⟨n', cap, h1, h2, h3, h4⟩ := h
  rcases h4 with ⟨⟨a', h4⟩, h0⟩ | ⟨b', off', cs, fr, e1, e2, e3⟩
  · injection h4 with h4 h6 h7
    subst h0 h6 h7
    obtain rfl : k = 0 := by omega
    have hx : xs = [] := List.length_eq_zero_iff.1 (by omega)
    exact ⟨0, 0, by simp [hx], Nat.le_refl _, Nat.zero_le _, .inl ⟨⟨_, rfl⟩, rfl⟩⟩
  · injection e1 with e1 e4 e5
    injection e1 with e1
    injection e1 with e6 e7
    subst e4 e5 e6 e7
    have hm := Nat.mul_le_mul_right sz hk
    refine ⟨k, c, by rw [List.length_take, h1]; omega, by omega, h3, .inr ⟨b, off, cs, fr, rfl, e2, fun j hj => ?_⟩⟩
    rw [List.length_take] at hj
    rw [e3 j (by omega), List.getElem?_take_of_lt (by omega)]
theorem SliceAt.back {w : World} {T : TypeId} {sz b off n c : Nat} {xs : List Value} (h : SliceAt w T sz (.slice (some ⟨b, off, none⟩) n c) xs) (k : Nat) (hk : k ≤ n) : SliceAt w T sz (.slice (some ⟨b, off + k * sz, none⟩) (n - k) (c - k)) (xs.drop (k * sz)) := by
  obtain ⟨n', cap, h1, h2, h3, h4⟩ := h
  rcases h4 with ⟨⟨a', h4⟩, h0⟩ | ⟨b', off', cs, fr, e1, e2, e3⟩
  · injection h4 with h4 h6 h7
    subst h0 h6 h7
    obtain rfl : k = 0 := by omega
    have hx : xs = [] := List.length_eq_zero_iff.1 (by omega)
    exact ⟨0, 0, by simp [hx], Nat.le_refl _, Nat.zero_le _, .inl ⟨⟨_, rfl⟩, rfl⟩⟩
  · injection e1 with e1 e4 e5
    injection e1 with e1
    injection e1 with e6 e7
    subst e4 e5 e6 e7
    refine ⟨n - k, c - k, by rw [List.length_drop, h1, Nat.sub_mul], by omega, by omega, .inr ⟨b, off + k * sz, cs, fr, rfl, e2, fun j hj => ?_⟩⟩
    rw [List.length_drop] at hj
    rw [Nat.add_assoc, e3 (k * sz + j) (by omega), List.getElem?_drop]
theorem SliceAt.backEnd {w : World} {T : TypeId} {sz b off n c o : Nat} {xs : List Value} (h : SliceAt w T sz (.slice (some ⟨b, off, none⟩) n c) xs) (k : Nat) (hk : n = k) : SliceAt w T sz (.slice (some ⟨b, o, none⟩) (n - k) (c - k)) (xs.drop (k * sz)) := by
  obtain ⟨n', cap, h1, h2, h3, h4⟩ := h
  rcases h4 with ⟨⟨a', h4⟩, h0⟩ | ⟨b', off', cs, fr, e1, e2, e3⟩
  · injection h4 with h4 h6 h7
    subst h0 h6 h7
    obtain rfl : k = 0 := by omega
    have hx : xs = [] := List.length_eq_zero_iff.1 (by omega)
    exact ⟨0, 0, by simp [hx], Nat.le_refl _, Nat.zero_le _, .inl ⟨⟨_, rfl⟩, rfl⟩⟩
  · injection e1 with e1 e4 e5
    injection e1 with e1
    injection e1 with e6 e7
    subst e4 e5 e6 e7
    subst hk
    have hx : xs.drop (n * sz) = [] := by rw [← h1]; exact List.drop_length
    rw [hx]
    refine ⟨n - n, c - n, by simp, by omega, by omega, .inr ⟨b, o, cs, fr, rfl, e2, fun j hj => ?_⟩⟩
    simp at hj
theorem oc_take {xs : List Value} (h : xs.all Value.oneCell' = true) (k : Nat) : (xs.take k).all Value.oneCell' = true := by
  rw [List.all_eq_true] at h ⊢
  exact fun x hx => h x (List.mem_of_mem_take hx)
theorem oc_drop {xs : List Value} (h : xs.all Value.oneCell' = true) (k : Nat) : (xs.drop k).all Value.oneCell' = true := by
  rw [List.all_eq_true] at h ⊢
  exact fun x hx => h x (List.mem_of_mem_drop hx)
/-- A row of the call's own stays while its block stays. -/
theorem own_keep {w w' : World} {base : Nat} {e : TypeId} {size : Nat} {v : Value} {n : Nat} {xs : List Value} (h : w.ownsRow base e size v n xs) (hb : ∀ q, q < w.heap.size → base ≤ q → w'.heap[q]? = w.heap[q]?) : w'.ownsRow base e size v n xs := by
  obtain ⟨h1, h2⟩ := h
  refine ⟨h1, ?_⟩
  rcases h2 with h2 | ⟨g, cap, cur, e1, e2, e3, e4⟩
  · exact .inl h2
  · exact .inr ⟨g, cap, cur, e1, e2, (hb g (lt_heap e3) e2).trans e3, e4⟩
theorem own_below {w w' : World} {base : Nat} {e : TypeId} {size : Nat} {v : Value} {n : Nat} {xs : List Value} (h : w.ownsRow base e size v n xs) (hb : Below w.heap.size w w') : w'.ownsRow base e size v n xs := own_keep h fun q hq _ => hb.block q hq
theorem own_base {w : World} {base base' : Nat} {e : TypeId} {size : Nat} {v : Value} {n : Nat} {xs : List Value} (h : w.ownsRow base e size v n xs) (hb : base' ≤ base) : w.ownsRow base' e size v n xs := by
  obtain ⟨h1, h2⟩ := h
  refine ⟨h1, ?_⟩
  rcases h2 with h2 | ⟨g, cap, cur, e1, e2, e3⟩
  · exact .inl h2
  · exact .inr ⟨g, cap, cur, e1, Nat.le_trans hb e2, e3⟩
end Go.Proofs.Ytbgoogjhgeoapaa
