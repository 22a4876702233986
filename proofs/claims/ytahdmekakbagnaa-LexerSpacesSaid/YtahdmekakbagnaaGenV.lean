/- Drawn programs are valid: plain Lean, no program in sight. -/
import Derived.Test.YtahdmekakbagnaaTxtB
namespace Go.Proofs.Ytahdmekakbagnaa

theorem var_name : ∀ v ∈ varNames, nameB v = true := by decide
theorem func_name : ∀ v ∈ funcNames, nameB v = true := by decide
theorem block_name : ∀ v ∈ blockNames, nameB v = true := by decide
theorem names_all {l : List Str} {a b : Int} (h : ∀ x ∈ l, nameB x = true) (h1 : a ≤ (l.length : Int)) (h2 : (l.length : Int) ≤ b) : namesB l a b = true := by
  unfold namesB
  rw [List.all_eq_true.2 h, decide_eq_true h1, decide_eq_true h2]
  rfl
theorem stmt_ok {s : PStmt} (h1 : ∀ x ∈ s.uses, nameB x = true) (h2 : ∀ x ∈ s.targets, nameB x = true) (h3 : s.uses.length ≤ 4) (h4 : s.targets.length ≤ 2) (h5 : opB s.op (nameB s.dfn) s.dfn.isEmpty s.uses.length s.targets.length = true) : stmtB s = true := by
  unfold stmtB
  rw [names_all h1 (by omega) (by omega), names_all h2 (by omega) (by omega), h5]
  rfl
theorem gen_body {F : Int} {s : PStmt} (h : GenBody F s) : stmtB s = true := by
  rcases h with ⟨ho, hd, ⟨h1, h2, h3⟩, ht⟩ | ⟨ho, hd, hu, ht⟩ | ⟨ho, hd, ⟨v, hv, hu⟩, ht⟩ | ⟨ho, hd, hu, r, _, n, hn, ht⟩ | ⟨ho, hd, ⟨h1, h2⟩, ht⟩
  · refine stmt_ok (fun x hx => var_name x (h3 x hx)) (by rw [ht]; simp) (by omega) (by rw [ht]; simp) ?_
    rw [ho, hd, ht]
    simp [opB]
    omega
  · refine stmt_ok (by rw [hu]; simp) (by rw [ht]; simp) (by rw [hu]; simp) (by rw [ht]; simp) ?_
    rw [hu, ht, var_name _ hd]
    rcases ho with ho | ho <;> rw [ho] <;> rfl
  · refine stmt_ok (by rw [hu]; simpa using var_name v hv) (by rw [ht]; simp) (by rw [hu]; simp) (by rw [ht]; simp) ?_
    rw [ho, hd, hu, ht]
    rfl
  · refine stmt_ok (by rw [hu]; simp) (by rw [ht]; simpa using func_name n (List.mem_of_getElem? hn)) (by rw [hu]; simp) (by rw [ht]; simp) ?_
    rw [ho, hd, hu, ht]
    rfl
  · refine stmt_ok (fun x hx => var_name x (h2 x hx)) (by rw [ht]; simp) (by omega) (by rw [ht]; simp) ?_
    rw [ho, ht, var_name _ hd]
    rfl
theorem gen_term {K : Int} {s : PStmt} (h : GenTerm K s) : stmtB s = true := by
  rcases h with ⟨ho, hd, hu, ht⟩ | ⟨ho, hd, hu, r, _, n, hn, ht⟩ | ⟨ho, hd, ⟨v, hv, hu⟩, r, q, _, _, n, m, hn, hm, ht⟩
  · refine stmt_ok (by rw [hu]; simp) (by rw [ht]; simp) (by rw [hu]; simp) (by rw [ht]; simp) ?_
    rw [ho, hd, hu, ht]
    rfl
  · refine stmt_ok (by rw [hu]; simp) (by rw [ht]; simpa using block_name n (List.mem_of_getElem? hn)) (by rw [hu]; simp) (by rw [ht]; simp) ?_
    rw [ho, hd, hu, ht]
    rfl
  · refine stmt_ok (by rw [hu]; simpa using var_name v hv) (by rw [ht]; simpa using ⟨block_name n (List.mem_of_getElem? hn), block_name m (List.mem_of_getElem? hm)⟩) (by rw [hu]; simp) (by rw [ht]; simp) ?_
    rw [ho, hd, hu, ht]
    rfl
theorem gen_block {F K : Int} {k : Nat} {b : PBlock} (h : GenBlock F K k b) : blockB b = true := by
  obtain ⟨hn, l, t, e, hl, h1, h2⟩ := h
  unfold blockB
  rw [block_name _ (List.mem_of_getElem? hn), e, List.all_eq_true.2 (fun x hx => ?_)]
  · simp; omega
  · rcases List.mem_append.1 hx with hx | hx
    · exact gen_body (h1 x hx)
    · simp at hx; rw [hx]; exact gen_term h2
theorem gen_func {F : Int} {i : Nat} {f : PFunc} (h : GenFunc F i f) : funcB f = true := by
  obtain ⟨hn, h1, h2, h3⟩ := h
  unfold funcB
  rw [func_name _ (List.mem_of_getElem? hn), decide_eq_true h1, decide_eq_true (show f.blocks.length ≤ 16 by omega), List.all_eq_true.2 (fun x hx => ?_)]
  · rfl
  · obtain ⟨k, hk⟩ := List.mem_iff_getElem?.1 hx
    exact gen_block (h3 k x hk)
theorem gen_valid {p : List PFunc} (h : GenProg p) : validB p = true := by
  obtain ⟨h1, h2, h3⟩ := h
  unfold validB
  rw [decide_eq_true h1, decide_eq_true (show p.length ≤ 8 by omega), List.all_eq_true.2 (fun x hx => ?_)]
  · rfl
  · obtain ⟨k, hk⟩ := List.mem_iff_getElem?.1 hx
    exact gen_func (h3 k x hk)
/-- Its lines begin with a function's. -/
theorem lines_head {p : List PFunc} (h : validB p = true) : ∃ n r, linesT p = ([102, 117, 110, 99, 32] ++ n) :: r := by
  cases p with
  | nil => simp [validB] at h
  | cons f p => exact ⟨f.name, _, rfl⟩
theorem print_pos {p : List PFunc} (h : validB p = true) : 1 ≤ (printT p).length := by
  obtain ⟨n, r, e⟩ := lines_head h
  unfold printT
  rw [h, e]
  simp
theorem inline_pos {p : List PFunc} (h : validB p = true) : 1 ≤ (inlineT p).length := by
  obtain ⟨n, r, e⟩ := lines_head h
  unfold inlineT
  rw [h, e]
  simp [joinT]
end Go.Proofs.Ytahdmekakbagnaa
