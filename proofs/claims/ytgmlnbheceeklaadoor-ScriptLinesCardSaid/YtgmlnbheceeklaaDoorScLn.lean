/- The lines of a text: plain Lean, no program in sight. -/
import Derived.Test.YtgmlnbheceeklaaDoorScP2
import Derived.Lib.Split
import Derived.Lib.Join
import Derived.Lib.JoinLaws
import Derived.Lib.SplitLaws
set_option linter.unusedVariables false
set_option linter.unusedSimpArgs false
set_option linter.unusedSectionVars false
namespace Go.Proofs.YtgmlnbheceeklaaDoor

/-! One byte as a separator. -/
theorem index_one : ∀ (a b : Str) (c : UInt8), c ∉ a → Lib.index (a ++ c :: b) [c] = (a.length : Int)
  | [], b, c, _ => by simp [Lib.index]
  | x :: a, b, c, h => by
    have hx : ¬ c = x := fun e => h (e ▸ List.mem_cons_self)
    have ih := index_one a b c (fun k => h (List.mem_cons_of_mem _ k))
    have e : List.isPrefixOf [c] (x :: (a ++ c :: b)) = false := by simp [List.isPrefixOf, hx]
    show Lib.index (x :: (a ++ c :: b)) [c] = _
    unfold Lib.index
    rw [if_neg (by rw [e]; simp), ih, if_neg (by simp)]
    simp
theorem index_none : ∀ (a : Str) (c : UInt8), c ∉ a → Lib.index a [c] = -1
  | [], c, _ => by simp [Lib.index]
  | x :: a, c, h => by
    have hx : ¬ c = x := fun e => h (e ▸ List.mem_cons_self)
    have ih := index_none a c (fun k => h (List.mem_cons_of_mem _ k))
    have e : List.isPrefixOf [c] (x :: a) = false := by simp [List.isPrefixOf, hx]
    unfold Lib.index
    rw [if_neg (by rw [e]; simp), ih]
    rfl
theorem split_one (c : UInt8) : ∀ (ps : List Str) (p : Str), (∀ x ∈ p :: ps, c ∉ x) → ∀ k, k = ps.length → Lib.splitK [c] 0 k (p ++ Lib.joinTail [c] ps) = p :: ps
  | [], p, _, k, hk => by subst hk; simp [Lib.splitK, Lib.joinTail]
  | q :: qs, p, h, k, hk => by
    subst hk
    have hp := h p List.mem_cons_self
    have e : Lib.joinTail [c] (q :: qs) = c :: (q ++ Lib.joinTail [c] qs) := by simp [Lib.joinTail]
    rw [e, List.length_cons]
    unfold Lib.splitK
    rw [index_one _ _ _ hp, if_neg (by simp), Int.toNat_natCast]
    rw [Nat.add_zero, List.take_left, List.length_singleton]
    rw [show (p ++ c :: (q ++ Lib.joinTail [c] qs)).drop (p.length + 1) = q ++ Lib.joinTail [c] qs by simp]
    rw [split_one c qs q (fun x hx => h x (List.mem_cons_of_mem _ hx)) _ rfl]
theorem count_join (c : UInt8) : ∀ (ps : List Str) (p : Str), (∀ x ∈ p :: ps, c ∉ x) → (p ++ Lib.joinTail [c] ps).count c = ps.length
  | [], p, h => by simp [Lib.joinTail, List.count_eq_zero.2 (h p List.mem_cons_self)]
  | q :: qs, p, h => by
    have e : Lib.joinTail [c] (q :: qs) = c :: (q ++ Lib.joinTail [c] qs) := by simp [Lib.joinTail]
    rw [e, List.count_append, List.count_eq_zero.2 (h p List.mem_cons_self), List.count_cons_self, count_join c qs q (fun x hx => h x (List.mem_cons_of_mem _ hx))]
    simp
/-- The lines. -/
def lnS : Str → List Str
  | [] => []
  | c :: r => if c = 10 then [] :: lnS r else match lnS r with | [] => [[c]] | p :: ps => (c :: p) :: ps
/-- The text without the line end at its end. -/
def trimT : Str → Str
  | [] => []
  | [c] => if c = 10 then [] else [c]
  | c :: d :: r => c :: trimT (d :: r)
theorem lnS_ne : ∀ (c : UInt8) (r : Str), lnS (c :: r) ≠ []
  | c, r => by
    unfold lnS
    split
    · simp
    · split <;> simp
theorem lnS_no : ∀ (l : Str), ∀ x ∈ lnS l, (10 : UInt8) ∉ x
  | [], x, h => by simp [lnS] at h
  | c :: r, x, h => by
    have ih := lnS_no r
    unfold lnS at h
    split at h
    · rcases List.mem_cons.1 h with rfl | h
      · simp
      · exact ih x h
    · rename_i hc
      split at h
      · rw [List.mem_singleton.1 h]
        intro k
        exact hc (List.mem_singleton.1 k).symm
      · rename_i p ps e
        rw [e] at ih
        rcases List.mem_cons.1 h with rfl | h
        · intro k
          rcases List.mem_cons.1 k with k | k
          · exact hc k.symm
          · exact ih p List.mem_cons_self k
        · exact ih x (List.mem_cons_of_mem _ h)
theorem trim_join : ∀ (l : Str), trimT l = Lib.join (lnS l) [10]
  | [] => rfl
  | [c] => by
    unfold trimT lnS
    split
    · simp [lnS, Lib.join_cons, Lib.joinTail]
    · simp [lnS, Lib.join_cons, Lib.joinTail]
  | c :: d :: r => by
    have ih := trim_join (d :: r)
    have hne := lnS_ne d r
    rw [trimT, ih, show lnS (c :: d :: r) = (if c = 10 then [] :: lnS (d :: r) else match lnS (d :: r) with | [] => [[c]] | p :: ps => (c :: p) :: ps) from rfl]
    cases h : lnS (d :: r) with
    | nil => exact absurd h hne
    | cons p ps =>
      split
      · rename_i hc
        subst hc
        simp [Lib.join_cons, Lib.joinTail]
      · simp [Lib.join_cons]
theorem trim_last : ∀ (l : Str), trimT l = if l.getLast? = some 10 then l.take (l.length - 1) else l
  | [] => rfl
  | [c] => by
    unfold trimT
    by_cases h : c = 10
    · subst h; simp
    · simp [h]
  | c :: d :: r => by
    have ih := trim_last (d :: r)
    rw [trimT, ih, List.getLast?_cons_cons]
    split <;> simp
theorem trim_suffix (l : Str) : Lib.trimSuffix l [10] = trimT l := by
  rw [trim_last]
  unfold Lib.trimSuffix Lib.hasSuffix
  rcases List.eq_nil_or_concat l with rfl | ⟨m, c, rfl⟩
  · simp
  · by_cases h : c = 10
    · subst h; simp
    · have h2 : ¬ 10 = c := fun e => h e.symm
      simp [h, h2]
theorem split_lines {l : Str} (h : l ≠ []) : Lib.splitK [10] 0 ((trimT l).count 10) (trimT l) = lnS l := by
  rcases l with _ | ⟨c, r⟩
  · exact absurd rfl h
  have h1 := lnS_no (c :: r)
  rw [trim_join]
  cases e : lnS (c :: r) with
  | nil => exact absurd e (lnS_ne c r)
  | cons p ps =>
    rw [e] at h1
    rw [Lib.join_cons, count_join 10 ps p h1, split_one 10 ps p h1 _ rfl]
theorem lnS_len : ∀ (l : Str), (lnS l).length ≤ l.length
  | [] => by simp [lnS]
  | c :: r => by
    have ih := lnS_len r
    unfold lnS
    split
    · simpa using ih
    · split
      · simp
      · rename_i p ps e
        rw [e] at ih
        simp at ih ⊢
        omega
/-- One line off the front. -/
theorem lnS_cut : ∀ (l : Str) (k : Nat), l ≠ [] → k ≤ l.length → (10 : UInt8) ∉ l.take k → (k = l.length ∨ l[k]? = some 10) → lnS l = l.take k :: lnS (l.drop (k + 1))
  | [], k, h, _, _, _ => absurd rfl h
  | c :: r, 0, _, _, _, hk => by
    rcases hk with hk | hk
    · simp at hk
    · simp at hk
      subst hk
      simp [lnS]
  | c :: r, k + 1, _, hk, hn, he => by
    have hc : c ≠ 10 := fun e => hn (by simp [e])
    rw [lnS, if_neg hc]
    by_cases hr : r = []
    · subst hr
      have : k = 0 := by simpa using hk
      subst this
      simp [lnS]
    · have ih := lnS_cut r k hr (by simpa using hk) (fun m => hn (by simp [m])) (by simpa using he)
      rw [ih]
      simp
end Go.Proofs.YtgmlnbheceeklaaDoor
