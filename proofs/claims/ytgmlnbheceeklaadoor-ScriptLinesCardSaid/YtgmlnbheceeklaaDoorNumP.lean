/- Decimal numbers as the references read them: plain Lean, no program in sight. -/
import Derived.Test.YtgmlnbheceeklaaDoorPgmP
import Derived.Test.YtgmlnbheceeklaaDoorProg
set_option linter.unusedVariables false
set_option linter.unusedSimpArgs false
set_option linter.unusedSectionVars false
namespace Go.Proofs.YtgmlnbheceeklaaDoor

def isD (c : UInt8) : Bool := decide (48 ≤ c.toNat) && decide (c.toNat ≤ 57)
/-- The digits that t begins with, f of them at most. -/
def digRun : Nat → Str → Str
  | 0, _ => []
  | _ + 1, [] => []
  | f + 1, c :: r => if isD c = true then c :: digRun f r else []
def numVal (d : Str) : Nat := d.foldl (fun n c => 10 * n + (c.toNat - 48)) 0
/-- The number that t begins with, and its length. -/
def numS (t : Str) : Option (Nat × Nat) :=
  if digRun 9 t = [] ∨ (t.head? = some 48 ∧ 1 < (digRun 9 t).length) ∨ (t.drop (digRun 9 t).length).head?.any isD = true then none else some (numVal (digRun 9 t), (digRun 9 t).length)
/-- What 'Number' answers. -/
def numR (l : Str) (a : Nat) : Nat × Nat × Bool := match numS (l.drop a) with | none => (0, a, false) | some (n, k) => (n, a + k, true)

theorem digRun_len : ∀ (f : Nat) (t : Str), (digRun f t).length ≤ f ∧ (digRun f t).length ≤ t.length
  | 0, t => by simp [digRun]
  | f + 1, [] => by simp [digRun]
  | f + 1, c :: r => by
    unfold digRun
    split
    · have := digRun_len f r; simp; omega
    · simp
theorem digRun_at : ∀ (f : Nat) (t : Str) (j : Nat), j < (digRun f t).length → ∃ c, t[j]? = some c ∧ isD c = true ∧ (digRun f t)[j]? = some c
  | 0, t, j, h => by simp [digRun] at h
  | f + 1, [], j, h => by simp [digRun] at h
  | f + 1, c :: r, j, h => by
    unfold digRun at h ⊢
    split at h
    · rename_i hc
      rw [if_pos hc]
      rcases j with _ | j
      · exact ⟨c, rfl, hc, rfl⟩
      · obtain ⟨c', h1, h2, h3⟩ := digRun_at f r j (by simpa using h)
        exact ⟨c', by simpa using h1, h2, by simpa using h3⟩
    · simp at h
/-- Behind j digits there is one more. -/
theorem digRun_more : ∀ (f : Nat) (t : Str) (j : Nat) (c : UInt8), j ≤ (digRun f t).length → j < f → t[j]? = some c → isD c = true → j < (digRun f t).length
  | 0, t, j, c, _, h, _, _ => by omega
  | f + 1, [], j, c, _, _, h, _ => by simp at h
  | f + 1, d :: r, j, c, h1, h2, h3, h4 => by
    unfold digRun at h1 ⊢
    split at h1
    · rename_i hd
      rw [if_pos hd]
      rcases j with _ | j
      · simp
      · have := digRun_more f r j c (by simpa using h1) (by omega) (by simpa using h3) h4
        simpa using this
    · rename_i hd
      have : j = 0 := by simpa using h1
      subst this
      simp at h3
      subst h3
      exact absurd h4 hd
theorem numVal_snoc (d : Str) (c : UInt8) : numVal (d ++ [c]) = 10 * numVal d + (c.toNat - 48) := by unfold numVal; rw [List.foldl_append]; rfl
theorem numVal_nil : numVal [] = 0 := rfl
theorem numVal_take_lt : ∀ (d : Str) (j : Nat), (∀ c ∈ d, isD c = true) → j ≤ d.length → numVal (d.take j) < 10 ^ j
  | d, 0, _, _ => by simp [numVal]
  | d, j + 1, h, hj => by
    have hlt : j < d.length := by omega
    rw [List.take_add_one, List.getElem?_eq_getElem hlt, Option.toList_some, numVal_snoc, Nat.pow_succ]
    have := numVal_take_lt d j h (by omega)
    have hd := h d[j] (List.getElem_mem hlt)
    unfold isD at hd
    simp only [Bool.and_eq_true, decide_eq_true_eq] at hd
    omega
theorem digRun_all (f : Nat) (t : Str) : ∀ c ∈ digRun f t, isD c = true := by
  intro c hc
  obtain ⟨j, hj⟩ := List.mem_iff_getElem?.1 hc
  have hl := (List.getElem?_eq_some_iff.1 hj).1
  obtain ⟨c', _, h2, h3⟩ := digRun_at f t j hl
  rw [h3] at hj
  injection hj with hj
  exact hj ▸ h2
theorem ten_le9 {j : Nat} (h : j ≤ 9) : (10 : Nat) ^ j ≤ 1000000000 := by
  have h1 := Nat.pow_le_pow_right (n := 10) (by decide) h
  have h2 : (10 : Nat) ^ 9 = 1000000000 := by decide
  omega
/-- The digits' value, j of them read. -/
structure RunAt (l : Str) (a j : Nat) : Prop where
  le : j ≤ (digRun 9 (l.drop a)).length
  nine : j ≤ 9
  lt : numVal ((digRun 9 (l.drop a)).take j) < 1000000000
theorem RunAt.zero (l : Str) (a : Nat) : RunAt l a 0 := ⟨Nat.zero_le _, by omega, by simp [numVal]⟩
theorem RunAt.next {l : Str} {a j : Nat} {c : UInt8} (h : RunAt l a j) (hc : l[a + j]? = some c) (hd : isD c = true) (hj : j < 9) :
    RunAt l a (j + 1) ∧ numVal ((digRun 9 (l.drop a)).take (j + 1)) = 10 * numVal ((digRun 9 (l.drop a)).take j) + (c.toNat - 48) := by
  have h1 := digRun_more 9 (l.drop a) j c h.le hj (by rw [List.getElem?_drop]; exact hc) hd
  obtain ⟨c', h2, h3, h4⟩ := digRun_at 9 (l.drop a) j h1
  rw [List.getElem?_drop, hc] at h2
  injection h2 with h2
  subst h2
  have e : numVal ((digRun 9 (l.drop a)).take (j + 1)) = 10 * numVal ((digRun 9 (l.drop a)).take j) + (c.toNat - 48) := by
    rw [List.take_add_one, h4, Option.toList_some, numVal_snoc]
  exact ⟨⟨h1, hj, Nat.lt_of_lt_of_le (numVal_take_lt _ _ (digRun_all 9 _) h1) (ten_le9 hj)⟩, e⟩
/-- No more digits: at the end, behind nine, or at another byte. -/
theorem RunAt.done {l : Str} {a j : Nat} (h : RunAt l a j) (hs : ∀ c, l[a + j]? = some c → isD c = true → 9 ≤ j) : (digRun 9 (l.drop a)).length = j := by
  rcases Nat.lt_or_ge j (digRun 9 (l.drop a)).length with h1 | h1
  · obtain ⟨c, h2, h3, -⟩ := digRun_at 9 (l.drop a) j h1
    rw [List.getElem?_drop] at h2
    have := hs c h2 h3
    have := (digRun_len 9 (l.drop a)).1
    omega
  · have := h.le; omega
theorem numR_no1 {l : Str} {a : Nat} (h : (digRun 9 (l.drop a)).length = 0) : numR l a = (0, a, false) := by
  unfold numR numS
  rw [if_pos (.inl (List.length_eq_zero_iff.1 h))]
theorem numR_no2 {l : Str} {a j : Nat} {c : UInt8} (h : (digRun 9 (l.drop a)).length = j) (hj : 1 < j) (hc : l[a]? = some c) (h0 : c.toNat = 48) : numR l a = (0, a, false) := by
  unfold numR numS
  rw [if_pos (.inr (.inl ⟨by rw [List.head?_drop, hc]; congr 1; exact UInt8.toNat_inj.1 h0, by omega⟩))]
theorem numR_no3 {l : Str} {a j : Nat} {c : UInt8} (h : (digRun 9 (l.drop a)).length = j) (hc : l[a + j]? = some c) (hd : isD c = true) : numR l a = (0, a, false) := by
  unfold numR numS
  rw [if_pos (.inr (.inr (by rw [h, List.drop_drop, List.head?_drop, hc]; exact hd)))]
theorem numR_yes {l : Str} {a j : Nat} (h : (digRun 9 (l.drop a)).length = j) (h1 : 0 < j) (h2 : j ≤ 1 ∨ ∀ c, l[a]? = some c → c.toNat ≠ 48) (h3 : ∀ c, l[a + j]? = some c → isD c = false) : numR l a = (numVal ((digRun 9 (l.drop a)).take j), a + j, true) := by
  unfold numR numS
  rw [if_neg, h, ← h, List.take_of_length_le (Nat.le_refl _)]
  rintro (e | ⟨e, e2⟩ | e)
  · rw [e] at h; simp at h; omega
  · rw [List.head?_drop] at e
    rcases h2 with h2 | h2
    · omega
    · exact h2 _ e rfl
  · rw [h, List.drop_drop, List.head?_drop] at e
    cases hc : l[a + j]? with
    | none => rw [hc] at e; cases e
    | some c =>
      rw [hc] at e
      have e' : isD c = true := e
      rw [h3 c hc] at e'
      cases e'
end Go.Proofs.YtgmlnbheceeklaaDoor
