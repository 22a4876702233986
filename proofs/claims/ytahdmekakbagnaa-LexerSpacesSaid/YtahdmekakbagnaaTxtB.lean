/- Bounds on the text of valid programs: plain Lean, no program in sight. -/
import Derived.Test.YtahdmekakbagnaaTxtP
namespace Go.Proofs.Ytahdmekakbagnaa

theorem nameB_short {l : Str} (h : nameB l = true) : l.length ≤ 16 := by
  unfold nameB at h
  simp only [Bool.and_eq_true, decide_eq_true_eq] at h
  omega
theorem wordsT_bound (m : Nat) : ∀ (l : List Str), (∀ x ∈ l, x.length ≤ m) → (wordsT l).length ≤ l.length * (m + 1)
  | [], _ => by simp [wordsT]
  | x :: l, h => by
    have h1 := wordsT_bound m l fun y hy => h y (List.mem_cons_of_mem _ hy)
    have h2 := h x List.mem_cons_self
    have e : wordsT (x :: l) = (32 :: x) ++ wordsT l := rfl
    rw [e, List.length_append, List.length_cons, List.length_cons, Nat.succ_mul]
    omega
theorem namesB_bound {l : List Str} {a b : Int} {m : Nat} (h : namesB l a b = true) (hb : b = m) : (wordsT l).length ≤ m * 17 := by
  unfold namesB at h
  simp only [Bool.and_eq_true, decide_eq_true_eq, List.all_eq_true] at h
  have h1 := wordsT_bound 16 l fun x hx => nameB_short (h.1 x hx)
  have h2 : l.length ≤ m := by omega
  have := Nat.mul_le_mul_right 17 h2
  omega
theorem opB_def {op : Int} {d e : Bool} {u t : Nat} (h : opB op d e u t = true) : d = true ∨ e = true := by
  cases d
  · cases e
    · unfold opB at h
      simp at h
    · exact .inr rfl
  · exact .inl rfl
/-- What a valid statement's fields come to. -/
theorem stmtB_bound {s : PStmt} (h : stmtB s = true) : s.dfn.length ≤ 16 ∧ (wordsT s.uses).length ≤ 68 ∧ (wordsT s.targets).length ≤ 34 := by
  unfold stmtB at h
  simp only [Bool.and_eq_true] at h
  refine ⟨?_, namesB_bound (m := 4) h.1 rfl, namesB_bound (m := 2) h.2.1 rfl⟩
  rcases opB_def h.2.2 with h1 | h1
  · exact nameB_short h1
  · rw [List.isEmpty_iff.1 h1]; simp
theorem lineT_bound {s : PStmt} (h : stmtB s = true) : (lineT s).length ≤ 200 := by
  obtain ⟨h1, h2, h3⟩ := stmtB_bound h
  unfold lineT
  repeat' split
  all_goals
    simp only [List.length_append, List.length_cons, List.length_nil]
    omega
theorem flat_len {α β : Type} (g : α → List β) (m : Nat) : ∀ (l : List α), (∀ x ∈ l, (g x).length ≤ m) → ((l.map g).flatten).length ≤ l.length * m
  | [], _ => by simp
  | x :: l, h => by
    have h1 := flat_len g m l fun y hy => h y (List.mem_cons_of_mem _ hy)
    have h2 := h x List.mem_cons_self
    rw [List.map_cons, List.flatten_cons, List.length_append, List.length_cons, Nat.succ_mul]
    omega
theorem blockB_parts {b : PBlock} (h : blockB b = true) : nameB b.name = true ∧ 1 ≤ b.stmts.length ∧ b.stmts.length ≤ 32 ∧ ∀ s ∈ b.stmts, stmtB s = true := by
  unfold blockB at h
  simp only [Bool.and_eq_true, decide_eq_true_eq, List.all_eq_true] at h
  exact ⟨h.1, h.2.1, h.2.2.1, h.2.2.2⟩
theorem funcB_parts {f : PFunc} (h : funcB f = true) : nameB f.name = true ∧ 1 ≤ f.blocks.length ∧ f.blocks.length ≤ 16 ∧ ∀ b ∈ f.blocks, blockB b = true := by
  unfold funcB at h
  simp only [Bool.and_eq_true, decide_eq_true_eq, List.all_eq_true] at h
  exact ⟨h.1, h.2.1, h.2.2.1, h.2.2.2⟩
theorem validB_parts {p : List PFunc} (h : validB p = true) : 1 ≤ p.length ∧ p.length ≤ 8 ∧ ∀ f ∈ p, funcB f = true := by
  unfold validB at h
  simp only [Bool.and_eq_true, decide_eq_true_eq, List.all_eq_true] at h
  exact ⟨h.1, h.2.1, h.2.2⟩
theorem blockLines_len {b : PBlock} (h : blockB b = true) : (blockLines b).length ≤ 33 := by
  have := (blockB_parts h).2.2.1
  simp [blockLines]
  omega
theorem funcLines_len {f : PFunc} (h : funcB f = true) : (funcLines f).length ≤ 530 := by
  obtain ⟨_, _, h3, h4⟩ := funcB_parts h
  have h5 := flat_len blockLines 33 f.blocks fun b hb => blockLines_len (h4 b hb)
  have := Nat.mul_le_mul_right 33 h3
  simp only [funcLines, List.length_cons, List.length_append, List.length_nil]
  omega
theorem linesT_len {p : List PFunc} (h : validB p = true) : (linesT p).length ≤ 4240 := by
  obtain ⟨_, h3, h4⟩ := validB_parts h
  have h5 := flat_len funcLines 530 p fun f hf => funcLines_len (h4 f hf)
  have := Nat.mul_le_mul_right 530 h3
  unfold linesT
  omega
theorem linesT_each {p : List PFunc} (h : validB p = true) : ∀ x ∈ linesT p, x.length ≤ 200 := by
  obtain ⟨_, _, h4⟩ := validB_parts h
  intro x hx
  unfold linesT at hx
  obtain ⟨y, hy, hx⟩ := List.mem_flatten.1 hx
  obtain ⟨f, hf, rfl⟩ := List.mem_map.1 hy
  obtain ⟨h5, _, _, h6⟩ := funcB_parts (h4 f hf)
  rcases List.mem_cons.1 hx with rfl | hx
  · have := nameB_short h5
    simp
    omega
  rcases List.mem_append.1 hx with hx | hx
  · obtain ⟨y, hy, hx⟩ := List.mem_flatten.1 hx
    obtain ⟨b, hb, rfl⟩ := List.mem_map.1 hy
    obtain ⟨h7, _, _, h8⟩ := blockB_parts (h6 b hb)
    rcases List.mem_cons.1 hx with rfl | hx
    · have := nameB_short h7
      simp
      omega
    · obtain ⟨s, hs, rfl⟩ := List.mem_map.1 hx
      exact lineT_bound (h8 s hs)
  · simp at hx
    rw [hx]; simp
end Go.Proofs.Ytahdmekakbagnaa
