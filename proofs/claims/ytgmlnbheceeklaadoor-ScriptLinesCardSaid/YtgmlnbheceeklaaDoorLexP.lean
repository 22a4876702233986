/- What the two scanners compute: plain Lean, no program in sight. -/
set_option linter.unusedVariables false
set_option linter.unusedSimpArgs false
set_option linter.unusedSectionVars false
namespace Go.Proofs.YtgmlnbheceeklaaDoor

/-- A token: kind, text, line, column. -/
structure Tok where
  kind : Int
  text : List UInt8
  line : Int
  col : Int

def isLet (c : Int) : Bool := (decide (97 ≤ c) && decide (c ≤ 122)) || (decide (65 ≤ c) && decide (c ≤ 90))
def isDig (c : Int) : Bool := decide (48 ≤ c) && decide (c ≤ 57)
def isPart (c : Int) : Bool := isLet c || isDig c || c == 95
def partB (b : UInt8) : Bool := isPart (b.toNat : Int)

/-- The result of a scan: tokens, line, column, error. -/
structure Scanned where
  toks : List Tok
  line : Int
  col : Int
  err : Int

/-- The end of a line is a token if the line has one. -/
def fin (op : Bool) (line col : Int) (acc : List Tok) : List Tok := if op then acc ++ [⟨3, [], line, col⟩] else acc

def lexF : Nat → List UInt8 → Int → Int → Bool → List Tok → Scanned
  | 0, _, _, _, _, _ => ⟨[], 0, 0, 0⟩
  | _ + 1, [], line, col, op, acc => ⟨fin op line col acc, 0, 0, 0⟩
  | n + 1, c :: r, line, col, op, acc =>
    if c.toNat = 32 ∨ c.toNat = 9 then lexF n r line (col + 1) op acc
    else if c.toNat = 59 then lexF n r line (col + 1) false (fin op line col acc)
    else if c.toNat = 35 then
      lexF n (r.dropWhile fun b => b.toNat != 10) line (col + 1 + ((r.takeWhile fun b => b.toNat != 10).length : Int)) false (fin op line col acc)
    else if c.toNat = 10 then lexF n r (line + 1) 1 false (fin op line col acc)
    else if c.toNat = 61 then lexF n r line (col + 1) true (acc ++ [⟨2, [61], line, col⟩])
    else if partB c then
      if isDig (c.toNat : Int) then ⟨[], line, col, 4⟩
      else if 16 < ((c :: r).takeWhile partB).length then ⟨[], line, col, 7⟩
      else lexF n ((c :: r).dropWhile partB) line (col + (((c :: r).takeWhile partB).length : Int)) true (acc ++ [⟨1, (c :: r).takeWhile partB, line, col⟩])
    else ⟨[], line, col, 4⟩

theorem length_dropWhile_le {α : Type} (p : α → Bool) (l : List α) : (l.dropWhile p).length ≤ l.length := by
  induction l with
  | nil => simp
  | cons x r ih =>
    rw [List.dropWhile_cons]
    split
    · simp; omega
    · simp

/-- Enough fuel is enough. -/
theorem lexF_fuel (n m : Nat) : ∀ (l : List UInt8) (line col : Int) (op : Bool) (acc : List Tok), l.length < n → l.length < m → lexF n l line col op acc = lexF m l line col op acc := by
  induction n generalizing m with
  | zero => intro l line col op acc h; omega
  | succ n ih =>
    intro l line col op acc h1 h2
    cases m with
    | zero => omega
    | succ m =>
      cases l with
      | nil => rfl
      | cons c r =>
        simp only [List.length_cons] at h1 h2
        have hd := length_dropWhile_le (fun b : UInt8 => b.toNat != 10) r
        simp only [lexF]
        split
        · exact ih m _ _ _ _ _ (by omega) (by omega)
        split
        · exact ih m _ _ _ _ _ (by omega) (by omega)
        split
        · exact ih m _ _ _ _ _ (by omega) (by omega)
        split
        · exact ih m _ _ _ _ _ (by omega) (by omega)
        split
        · exact ih m _ _ _ _ _ (by omega) (by omega)
        split
        · rename_i hp
          split
          · rfl
          split
          · rfl
          have he : (c :: r).dropWhile partB = r.dropWhile partB := by rw [List.dropWhile_cons, if_pos hp]
          have hd := length_dropWhile_le partB r
          exact ih m _ _ _ _ _ (by rw [he]; omega) (by rw [he]; omega)
        · rfl

/-- What is scanned from here on. -/
def lex (l : List UInt8) (line col : Int) (op : Bool) (acc : List Tok) : Scanned := lexF (l.length + 1) l line col op acc

theorem lex_nil (line col : Int) (op : Bool) (acc : List Tok) : lex [] line col op acc = ⟨fin op line col acc, 0, 0, 0⟩ := rfl

section
variable {c : UInt8} {r : List UInt8} {line col : Int} {op : Bool} {acc : List Tok}
theorem lex_space (h : c.toNat = 32 ∨ c.toNat = 9) : lex (c :: r) line col op acc = lex r line (col + 1) op acc := by
  unfold lex; rw [lexF, if_pos h]; exact lexF_fuel _ _ _ _ _ _ _ (by simp) (by simp)
theorem lex_semi (h : c.toNat = 59) : lex (c :: r) line col op acc = lex r line (col + 1) false (fin op line col acc) := by
  unfold lex; rw [lexF, if_neg (by omega), if_pos h]; exact lexF_fuel _ _ _ _ _ _ _ (by simp) (by simp)
theorem lex_hash (h : c.toNat = 35) : lex (c :: r) line col op acc =
    lex (r.dropWhile fun b => b.toNat != 10) line (col + 1 + ((r.takeWhile fun b => b.toNat != 10).length : Int)) false (fin op line col acc) := by
  have hd := length_dropWhile_le (fun b : UInt8 => b.toNat != 10) r
  unfold lex; rw [lexF, if_neg (by omega), if_neg (by omega), if_pos h]; exact lexF_fuel _ _ _ _ _ _ _ (by simp; omega) (by omega)
theorem lex_line (h : c.toNat = 10) : lex (c :: r) line col op acc = lex r (line + 1) 1 false (fin op line col acc) := by
  unfold lex; rw [lexF, if_neg (by omega), if_neg (by omega), if_neg (by omega), if_pos h]; exact lexF_fuel _ _ _ _ _ _ _ (by simp) (by simp)
theorem lex_equal (h : c.toNat = 61) : lex (c :: r) line col op acc = lex r line (col + 1) true (acc ++ [⟨2, [61], line, col⟩]) := by
  unfold lex; rw [lexF, if_neg (by omega), if_neg (by omega), if_neg (by omega), if_neg (by omega), if_pos h]; exact lexF_fuel _ _ _ _ _ _ _ (by simp) (by simp)
theorem part_other (h : partB c = true) : c.toNat ≠ 32 ∧ c.toNat ≠ 9 ∧ c.toNat ≠ 59 ∧ c.toNat ≠ 35 ∧ c.toNat ≠ 10 ∧ c.toNat ≠ 61 := by
  simp only [partB, isPart, isLet, isDig, Bool.or_eq_true, Bool.and_eq_true, decide_eq_true_eq, beq_iff_eq] at h
  omega
theorem lex_digit (h : partB c = true) (hd : isDig (c.toNat : Int) = true) : lex (c :: r) line col op acc = ⟨[], line, col, 4⟩ := by
  have := part_other h
  unfold lex; rw [lexF, if_neg (by omega), if_neg (by omega), if_neg (by omega), if_neg (by omega), if_neg (by omega), if_pos h, if_pos hd]
theorem lex_long (h : partB c = true) (hd : isDig (c.toNat : Int) = false) (hl : 16 < ((c :: r).takeWhile partB).length) : lex (c :: r) line col op acc = ⟨[], line, col, 7⟩ := by
  have := part_other h
  unfold lex; rw [lexF, if_neg (by omega), if_neg (by omega), if_neg (by omega), if_neg (by omega), if_neg (by omega), if_pos h, if_neg (by simp [hd]), if_pos hl]
theorem lex_word (h : partB c = true) (hd : isDig (c.toNat : Int) = false) (hl : ¬ 16 < ((c :: r).takeWhile partB).length) : lex (c :: r) line col op acc =
    lex ((c :: r).dropWhile partB) line (col + (((c :: r).takeWhile partB).length : Int)) true (acc ++ [⟨1, (c :: r).takeWhile partB, line, col⟩]) := by
  have := part_other h
  have he : (c :: r).dropWhile partB = r.dropWhile partB := by rw [List.dropWhile_cons, if_pos h]
  have hd2 := length_dropWhile_le partB r
  unfold lex; rw [lexF, if_neg (by omega), if_neg (by omega), if_neg (by omega), if_neg (by omega), if_neg (by omega), if_pos h, if_neg (by simp [hd]), if_neg hl]
  exact lexF_fuel _ _ _ _ _ _ _ (by rw [he]; simp; omega) (by rw [he]; omega)
theorem lex_other (h1 : c.toNat ≠ 32) (h2 : c.toNat ≠ 9) (h3 : c.toNat ≠ 59) (h4 : c.toNat ≠ 35) (h5 : c.toNat ≠ 10) (h6 : c.toNat ≠ 61) (h : partB c = false) :
    lex (c :: r) line col op acc = ⟨[], line, col, 4⟩ := by
  unfold lex; rw [lexF, if_neg (by omega), if_neg (by omega), if_neg (by omega), if_neg (by omega), if_neg (by omega), if_neg (by simp [h])]
end

/-- The whole of a text. -/
def scanned (l : List UInt8) : Scanned := if 4096 < l.length then ⟨[], 0, 0, 7⟩ else lex l 1 1 false []

end Go.Proofs.YtgmlnbheceeklaaDoor
