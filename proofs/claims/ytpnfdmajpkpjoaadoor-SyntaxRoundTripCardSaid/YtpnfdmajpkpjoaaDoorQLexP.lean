/- What the two scanners compute: plain Lean, no program in sight. -/

set_option linter.unusedVariables false
set_option linter.unusedSimpArgs false
namespace Go.Proofs.YtpnfdmajpkpjoaaDoor

/-- A token: kind, text, line, column. -/
structure Tok where
  kind : Int
  text : List UInt8
  line : Int
  col : Int

def isLet (c : Int) : Bool := (decide (97 ≤ c) && decide (c ≤ 122)) || (decide (65 ≤ c) && decide (c ≤ 90))
def isDig (c : Int) : Bool := decide (48 ≤ c) && decide (c ≤ 57)
def isPart (c : Int) : Bool := isLet c || isDig c || c == 95
def partB (b : UInt8) : Bool := isPart (b.toNat : Int)

/-- The result of a scan: tokens, line, column, error. -/
structure Scanned where
  toks : List Tok
  line : Int
  col : Int
  err : Int

/-- The end of a line is a token if the line has one. -/
def fin (op : Bool) (line col : Int) (acc : List Tok) : List Tok := if op then acc ++ [⟨3, [], line, col⟩] else acc

def lexF : Nat → List UInt8 → Int → Int → Bool → List Tok → Scanned
  | 0, _, _, _, _, _ => ⟨[], 0, 0, 0⟩
  | _ + 1, [], line, col, op, acc => ⟨fin op line col acc, 0, 0, 0⟩
  | n + 1, c :: r, line, col, op, acc =>
    if c.toNat = 32 ∨ c.toNat = 9 then lexF n r line (col + 1) op acc
    else if c.toNat = 59 then lexF n r line (col + 1) false (fin op line col acc)
    else if c.toNat = 35 then
      lexF n (r.dropWhile fun b => b.toNat != 10) line (col + 1 + ((r.takeWhile fun b => b.toNat != 10).length : Int)) false (fin op line col acc)
    else if c.toNat = 10 then lexF n r (line + 1) 1 false (fin op line col acc)
    else if c.toNat = 61 then lexF n r line (col + 1) true (acc ++ [⟨2, [61], line, col⟩])
    else if partB c then
      if isDig (c.toNat : Int) then ⟨[], line, col, 4⟩
      else if 16 < ((c :: r).takeWhile partB).length then ⟨[], line, col, 7⟩
      else lexF n ((c :: r).dropWhile partB) line (col + (((c :: r).takeWhile partB).length : Int)) true (acc ++ [⟨1, (c :: r).takeWhile partB, line, col⟩])
    else ⟨[], line, col, 4⟩

theorem length_dropWhile_le {α : Type} (p : α → Bool) (l : List α) : (l.dropWhile p).length ≤ l.length := by
  induction l with
  | nil => simp
  | cons x r ih =>
    rw [List.dropWhile_cons]
    split
    · simp; omega
    · simp

/-- Enough fuel is enough. -/
theorem lexF_fuel (n m : Nat) : ∀ (l : List UInt8) (line col : Int) (op : Bool) (acc : List Tok), l.length < n → l.length < m → lexF n l line col op acc = lexF m l line col op acc := by
  induction n generalizing m with
  | zero => intro l line col op acc h; omega
  | succ n ih =>
    intro l line col op acc h1 h2
    cases m with
    | zero => omega
    | succ m =>
      cases l with
      | nil => rfl
      | cons c r =>
        simp only [List.length_cons] at h1 h2
        have hd := length_dropWhile_le (fun b : UInt8 => b.toNat != 10) r
        simp only [lexF]
        split
        · exact ih m _ _ _ _ _ (by omega) (by omega)
        split
        · exact ih m _ _ _ _ _ (by omega) (by omega)
        split
        · exact ih m _ _ _ _ _ (by omega) (by omega)
        split
        · exact ih m _ _ _ _ _ (by omega) (by omega)
        split
        · exact ih m _ _ _ _ _ (by omega) (by omega)
        split
        · rename_i hp
          split
          · rfl
          split
          · rfl
          have he : (c :: r).dropWhile partB = r.dropWhile partB := by rw [List.dropWhile_cons, if_pos hp]
          have hd := length_dropWhile_le partB r
          exact ih m _ _ _ _ _ (by rw [he]; omega) (by rw [he]; omega)
        · rfl

/-- What is scanned from here on. -/
def lex (l : List UInt8) (line col : Int) (op : Bool) (acc : List Tok) : Scanned := lexF (l.length + 1) l line col op acc

theorem lex_nil (line col : Int) (op : Bool) (acc : List Tok) : lex [] line col op acc = ⟨fin op line col acc, 0, 0, 0⟩ := rfl

section
variable {c : UInt8} {r : List UInt8} {line col : Int} {op : Bool} {acc : List Tok}
theorem lex_space (h : c.toNat = 32 ∨ c.toNat = 9) : lex (c :: r) line col op acc = lex r line (col + 1) op acc := by
  unfold lex; rw [lexF, if_pos h]; exact lexF_fuel _ _ _ _ _ _ _ (by simp) (by simp)
theorem lex_semi (h : c.toNat = 59) : lex (c :: r) line col op acc = lex r line (col + 1) false (fin op line col acc) := by
  unfold lex; rw [lexF, if_neg (by omega), if_pos h]; exact lexF_fuel _ _ _ _ _ _ _ (by simp) (by simp)
theorem lex_hash (h : c.toNat = 35) : lex (c :: r) line col op acc =
    lex (r.dropWhile fun b => b.toNat != 10) line (col + 1 + ((r.takeWhile fun b => b.toNat != 10).length : Int)) false (fin op line col acc) := by
  have hd := length_dropWhile_le (fun b : UInt8 => b.toNat != 10) r
  unfold lex; rw [lexF, if_neg (by omega), if_neg (by omega), if_pos h]; exact lexF_fuel _ _ _ _ _ _ _ (by simp; omega) (by omega)
theorem lex_line (h : c.toNat = 10) : lex (c :: r) line col op acc = lex r (line + 1) 1 false (fin op line col acc) := by
  unfold lex; rw [lexF, if_neg (by omega), if_neg (by omega), if_neg (by omega), if_pos h]; exact lexF_fuel _ _ _ _ _ _ _ (by simp) (by simp)
theorem lex_equal (h : c.toNat = 61) : lex (c :: r) line col op acc = lex r line (col + 1) true (acc ++ [⟨2, [61], line, col⟩]) := by
  unfold lex; rw [lexF, if_neg (by omega), if_neg (by omega), if_neg (by omega), if_neg (by omega), if_pos h]; exact lexF_fuel _ _ _ _ _ _ _ (by simp) (by simp)
theorem part_other (h : partB c = true) : c.toNat ≠ 32 ∧ c.toNat ≠ 9 ∧ c.toNat ≠ 59 ∧ c.toNat ≠ 35 ∧ c.toNat ≠ 10 ∧ c.toNat ≠ 61 := by
  simp only [partB, isPart, isLet, isDig, Bool.or_eq_true, Bool.and_eq_true, decide_eq_true_eq, beq_iff_eq] at h
  omega
theorem lex_digit (h : partB c = true) (hd : isDig (c.toNat : Int) = true) : lex (c :: r) line col op acc = ⟨[], line, col, 4⟩ := by
  have := part_other h
  unfold lex; rw [lexF, if_neg (by omega), if_neg (by omega), if_neg (by omega), if_neg (by omega), if_neg (by omega), if_pos h, if_pos hd]
theorem lex_long (h : partB c = true) (hd : isDig (c.toNat : Int) = false) (hl : 16 < ((c :: r).takeWhile partB).length) : lex (c :: r) line col op acc = ⟨[], line, col, 7⟩ := by
  have := part_other h
  unfold lex; rw [lexF, if_neg (by omega), if_neg (by omega), if_neg (by omega), if_neg (by omega), if_neg (by omega), if_pos h, if_neg (by simp [hd]), if_pos hl]
theorem lex_word (h : partB c = true) (hd : isDig (c.toNat : Int) = false) (hl : ¬ 16 < ((c :: r).takeWhile partB).length) : lex (c :: r) line col op acc =
    lex ((c :: r).dropWhile partB) line (col + (((c :: r).takeWhile partB).length : Int)) true (acc ++ [⟨1, (c :: r).takeWhile partB, line, col⟩]) := by
  have := part_other h
  have he : (c :: r).dropWhile partB = r.dropWhile partB := by rw [List.dropWhile_cons, if_pos h]
  have hd2 := length_dropWhile_le partB r
  unfold lex; rw [lexF, if_neg (by omega), if_neg (by omega), if_neg (by omega), if_neg (by omega), if_neg (by omega), if_pos h, if_neg (by simp [hd]), if_neg hl]
  exact lexF_fuel _ _ _ _ _ _ _ (by rw [he]; simp; omega) (by rw [he]; omega)
theorem lex_other (h1 : c.toNat ≠ 32) (h2 : c.toNat ≠ 9) (h3 : c.toNat ≠ 59) (h4 : c.toNat ≠ 35) (h5 : c.toNat ≠ 10) (h6 : c.toNat ≠ 61) (h : partB c = false) :
    lex (c :: r) line col op acc = ⟨[], line, col, 4⟩ := by
  unfold lex; rw [lexF, if_neg (by omega), if_neg (by omega), if_neg (by omega), if_neg (by omega), if_neg (by omega), if_neg (by simp [h])]
end

/-- The whole of a text. -/
def scanned (l : List UInt8) : Scanned := if 4096 < l.length then ⟨[], 0, 0, 7⟩ else lex l 1 1 false []

end Go.Proofs.YtpnfdmajpkpjoaaDoor

/- Programs as data, and which of them are drawn: plain Lean, no program in sight. -/
namespace Go.Proofs.YtpnfdmajpkpjoaaDoor

abbrev Str := List UInt8
structure PStmt where
  op : Int
  dfn : Str
  uses : List Str
  targets : List Str
structure PBlock where
  name : Str
  stmts : List PStmt
structure PFunc where
  name : Str
  blocks : List PBlock

/-- x, y, z, w. -/
def varNames : List Str := [[120], [121], [122], [119]]
/-- m, f, g. -/
def funcNames : List Str := [[109], [102], [103]]
/-- a, b, c. -/
def blockNames : List Str := [[97], [98], [99]]

/-- A drawn statement that does not end a block, in a program of F functions. -/
def GenBody (F : Int) (s : PStmt) : Prop :=
  (s.op = 2 ∧ s.dfn = [] ∧ (1 ≤ s.uses.length ∧ s.uses.length ≤ 2 ∧ ∀ u ∈ s.uses, u ∈ varNames) ∧ s.targets = []) ∨
  ((s.op = 4 ∨ s.op = 6) ∧ s.dfn ∈ varNames ∧ s.uses = [] ∧ s.targets = []) ∨
  (s.op = 5 ∧ s.dfn = [] ∧ (∃ v ∈ varNames, s.uses = [v]) ∧ s.targets = []) ∨
  (s.op = 3 ∧ s.dfn = [] ∧ s.uses = [] ∧ ∃ r : Nat, (r : Int) < F ∧ ∃ n, funcNames[r]? = some n ∧ s.targets = [n]) ∨
  (s.op = 1 ∧ s.dfn ∈ varNames ∧ (s.uses.length ≤ 3 ∧ ∀ u ∈ s.uses, u ∈ varNames) ∧ s.targets = [])

/-- A drawn statement that ends a block, in a function of K blocks. -/
def GenTerm (K : Int) (s : PStmt) : Prop :=
  (s.op = 9 ∧ s.dfn = [] ∧ s.uses = [] ∧ s.targets = []) ∨
  (s.op = 7 ∧ s.dfn = [] ∧ s.uses = [] ∧ ∃ r : Nat, (r : Int) < K ∧ ∃ n, blockNames[r]? = some n ∧ s.targets = [n]) ∨
  (s.op = 8 ∧ s.dfn = [] ∧ (∃ v ∈ varNames, s.uses = [v]) ∧ ∃ r q : Nat, (r : Int) < K ∧ (q : Int) < K ∧ ∃ n m, blockNames[r]? = some n ∧ blockNames[q]? = some m ∧ s.targets = [n, m])

/-- The k-th drawn block of a function of K blocks, in a program of F functions. -/
def GenBlock (F K : Int) (k : Nat) (b : PBlock) : Prop :=
  blockNames[k]? = some b.name ∧ ∃ l t, b.stmts = l ++ [t] ∧ l.length ≤ 3 ∧ (∀ s ∈ l, GenBody F s) ∧ GenTerm K t
/-- The i-th drawn function of a program of F functions. -/
def GenFunc (F : Int) (i : Nat) (f : PFunc) : Prop :=
  funcNames[i]? = some f.name ∧ 1 ≤ f.blocks.length ∧ f.blocks.length ≤ 3 ∧ ∀ k b, f.blocks[k]? = some b → GenBlock F f.blocks.length k b
/-- A drawn program. -/
def GenProg (p : List PFunc) : Prop := 1 ≤ p.length ∧ p.length ≤ 3 ∧ ∀ i f, p[i]? = some f → GenFunc p.length i f
end Go.Proofs.YtpnfdmajpkpjoaaDoor

/- Which strings are names: plain Lean, no program in sight. -/
namespace Go.Proofs.YtpnfdmajpkpjoaaDoor

/-- The keywords. -/
def kws : List (List UInt8) := [[102, 117, 110, 99], [98, 108, 111, 99, 107], [101, 110, 100], [117, 115, 101], [99, 97, 108, 108], [115, 111, 117, 114, 99, 101], [115, 105, 110, 107], [115, 97, 110, 105, 116, 105, 122, 101], [103, 111, 116, 111], [98, 114, 97, 110, 99, 104], [114, 101, 116, 117, 114, 110]]
def firstB : List UInt8 → Bool
  | [] => false
  | c :: _ => isLet (c.toNat : Int)
def hasB (ls : List (List UInt8)) (l : List UInt8) : Bool := ls.contains l
def nameB (l : List UInt8) : Bool := firstB l && decide (l.length ≤ 16) && !(hasB kws l) && l.all partB

theorem name_nil : nameB [] = false := rfl
theorem name_long {l : List UInt8} (h : 16 < l.length) : nameB l = false := by
  have : decide (l.length ≤ 16) = false := by simp; omega
  simp [nameB, this]
theorem name_first {l : List UInt8} (h : firstB l = false) : nameB l = false := by simp [nameB, h]
theorem name_kw {l : List UInt8} (h : hasB kws l = true) : nameB l = false := by unfold nameB; rw [h]; simp
theorem name_part {l : List UInt8} (h : l.all partB = false) : nameB l = false := by unfold nameB; rw [h]; simp
theorem name_rest {l : List UInt8} (h1 : l.length ≤ 16) (h2 : firstB l = true) (h3 : hasB kws l = false) : nameB l = l.all partB := by
  unfold nameB; rw [h2, h3, decide_eq_true h1]; simp
theorem take_all (p : UInt8 → Bool) (l : List UInt8) : ((l.takeWhile p).length = l.length) ↔ l.all p = true := by
  induction l with
  | nil => simp
  | cons c r ih =>
    rw [List.takeWhile_cons]
    cases h : p c
    · simp [h]
    · simp only [if_true, List.length_cons, Nat.add_right_cancel_iff, List.all_cons, h, Bool.true_and]
      exact ih
theorem all_drop (l : List UInt8) (k : Nat) (c : UInt8) (h : l[k]? = some c) (p : UInt8 → Bool) : (l.drop k).all p = (p c && (l.drop (k + 1)).all p) := by
  obtain ⟨h1, rfl⟩ := List.getElem?_eq_some_iff.1 h
  rw [List.drop_eq_getElem_cons h1, List.all_cons]
end Go.Proofs.YtpnfdmajpkpjoaaDoor

/- The text of programs: plain Lean, no program in sight. -/
namespace Go.Proofs.YtpnfdmajpkpjoaaDoor

def namesB (l : List Str) (a b : Int) : Bool := l.all nameB && (decide (a ≤ (l.length : Int)) && decide ((l.length : Int) ≤ b))
/-- What the operation of a statement wants of its fields. -/
def opB (op : Int) (d e : Bool) (u t : Nat) : Bool :=
  if op = 1 then d && decide (t = 0)
  else if op = 2 then e && (decide (1 ≤ u) && decide (t = 0))
  else if op = 5 then e && (decide (u = 1) && decide (t = 0))
  else if op = 3 ∨ op = 7 then e && (decide (u = 0) && decide (t = 1))
  else if op = 4 ∨ op = 6 then d && (decide (u = 0) && decide (t = 0))
  else if op = 8 then e && (decide (u = 1) && decide (t = 2))
  else if op = 9 then e && (decide (u = 0) && decide (t = 0))
  else false
def stmtB (s : PStmt) : Bool := namesB s.uses 0 4 && (namesB s.targets 0 2 && opB s.op (nameB s.dfn) (s.dfn.isEmpty) s.uses.length s.targets.length)
def blockB (b : PBlock) : Bool := nameB b.name && (decide (1 ≤ b.stmts.length) && (decide (b.stmts.length ≤ 32) && b.stmts.all stmtB))
def funcB (f : PFunc) : Bool := nameB f.name && (decide (1 ≤ f.blocks.length) && (decide (f.blocks.length ≤ 16) && f.blocks.all blockB))
def validB (p : List PFunc) : Bool := decide (1 ≤ p.length) && (decide (p.length ≤ 8) && p.all funcB)

def wordsT (l : List Str) : Str := (l.map fun x => 32 :: x).flatten
def lineT (s : PStmt) : Str :=
  if s.op = 1 then s.dfn ++ [32, 61] ++ wordsT s.uses
  else if s.op = 2 then [117, 115, 101] ++ wordsT s.uses
  else if s.op = 3 then [99, 97, 108, 108] ++ wordsT s.targets
  else if s.op = 4 then [115, 111, 117, 114, 99, 101, 32] ++ s.dfn
  else if s.op = 5 then [115, 105, 110, 107] ++ wordsT s.uses
  else if s.op = 6 then [115, 97, 110, 105, 116, 105, 122, 101, 32] ++ s.dfn
  else if s.op = 7 then [103, 111, 116, 111] ++ wordsT s.targets
  else if s.op = 8 then [98, 114, 97, 110, 99, 104] ++ wordsT s.uses ++ wordsT s.targets
  else [114, 101, 116, 117, 114, 110]
def blockLines (b : PBlock) : List Str := ([98, 108, 111, 99, 107, 32] ++ b.name) :: b.stmts.map lineT
def funcLines (f : PFunc) : List Str := ([102, 117, 110, 99, 32] ++ f.name) :: ((f.blocks.map blockLines).flatten ++ [[101, 110, 100]])
def linesT (p : List PFunc) : List Str := (p.map funcLines).flatten
def printT (p : List PFunc) : Str := if validB p then ((linesT p).map fun x => x ++ [10]).flatten else []
def joinT : List Str → Str
  | [] => []
  | x :: r => x ++ (r.map fun y => [59, 32] ++ y).flatten
def inlineT (p : List PFunc) : Str := if validB p then joinT (linesT p) else []
end Go.Proofs.YtpnfdmajpkpjoaaDoor

/- Bounds on the text of valid programs: plain Lean, no program in sight. -/
namespace Go.Proofs.YtpnfdmajpkpjoaaDoor

theorem nameB_short {l : Str} (h : nameB l = true) : l.length ≤ 16 := by
  unfold nameB at h
  simp only [Bool.and_eq_true, decide_eq_true_eq] at h
  omega
theorem wordsT_bound (m : Nat) : ∀ (l : List Str), (∀ x ∈ l, x.length ≤ m) → (wordsT l).length ≤ l.length * (m + 1)
  | [], _ => by simp [wordsT]
  | x :: l, h => by
    have h1 := wordsT_bound m l fun y hy => h y (List.mem_cons_of_mem _ hy)
    have h2 := h x List.mem_cons_self
    have e : wordsT (x :: l) = (32 :: x) ++ wordsT l := rfl
    rw [e, List.length_append, List.length_cons, List.length_cons, Nat.succ_mul]
    omega
theorem namesB_bound {l : List Str} {a b : Int} {m : Nat} (h : namesB l a b = true) (hb : b = m) : (wordsT l).length ≤ m * 17 := by
  unfold namesB at h
  simp only [Bool.and_eq_true, decide_eq_true_eq, List.all_eq_true] at h
  have h1 := wordsT_bound 16 l fun x hx => nameB_short (h.1 x hx)
  have h2 : l.length ≤ m := by omega
  have := Nat.mul_le_mul_right 17 h2
  omega
theorem opB_def {op : Int} {d e : Bool} {u t : Nat} (h : opB op d e u t = true) : d = true ∨ e = true := by
  cases d
  · cases e
    · unfold opB at h
      simp at h
    · exact .inr rfl
  · exact .inl rfl
/-- What a valid statement's fields come to. -/
theorem stmtB_bound {s : PStmt} (h : stmtB s = true) : s.dfn.length ≤ 16 ∧ (wordsT s.uses).length ≤ 68 ∧ (wordsT s.targets).length ≤ 34 := by
  unfold stmtB at h
  simp only [Bool.and_eq_true] at h
  refine ⟨?_, namesB_bound (m := 4) h.1 rfl, namesB_bound (m := 2) h.2.1 rfl⟩
  rcases opB_def h.2.2 with h1 | h1
  · exact nameB_short h1
  · rw [List.isEmpty_iff.1 h1]; simp
theorem lineT_bound {s : PStmt} (h : stmtB s = true) : (lineT s).length ≤ 200 := by
  obtain ⟨h1, h2, h3⟩ := stmtB_bound h
  unfold lineT
  repeat' split
  all_goals
    simp only [List.length_append, List.length_cons, List.length_nil]
    omega
theorem flat_len {α β : Type} (g : α → List β) (m : Nat) : ∀ (l : List α), (∀ x ∈ l, (g x).length ≤ m) → ((l.map g).flatten).length ≤ l.length * m
  | [], _ => by simp
  | x :: l, h => by
    have h1 := flat_len g m l fun y hy => h y (List.mem_cons_of_mem _ hy)
    have h2 := h x List.mem_cons_self
    rw [List.map_cons, List.flatten_cons, List.length_append, List.length_cons, Nat.succ_mul]
    omega
theorem blockB_parts {b : PBlock} (h : blockB b = true) : nameB b.name = true ∧ 1 ≤ b.stmts.length ∧ b.stmts.length ≤ 32 ∧ ∀ s ∈ b.stmts, stmtB s = true := by
  unfold blockB at h
  simp only [Bool.and_eq_true, decide_eq_true_eq, List.all_eq_true] at h
  exact ⟨h.1, h.2.1, h.2.2.1, h.2.2.2⟩
theorem funcB_parts {f : PFunc} (h : funcB f = true) : nameB f.name = true ∧ 1 ≤ f.blocks.length ∧ f.blocks.length ≤ 16 ∧ ∀ b ∈ f.blocks, blockB b = true := by
  unfold funcB at h
  simp only [Bool.and_eq_true, decide_eq_true_eq, List.all_eq_true] at h
  exact ⟨h.1, h.2.1, h.2.2.1, h.2.2.2⟩
theorem validB_parts {p : List PFunc} (h : validB p = true) : 1 ≤ p.length ∧ p.length ≤ 8 ∧ ∀ f ∈ p, funcB f = true := by
  unfold validB at h
  simp only [Bool.and_eq_true, decide_eq_true_eq, List.all_eq_true] at h
  exact ⟨h.1, h.2.1, h.2.2⟩
theorem blockLines_len {b : PBlock} (h : blockB b = true) : (blockLines b).length ≤ 33 := by
  have := (blockB_parts h).2.2.1
  simp [blockLines]
  omega
theorem funcLines_len {f : PFunc} (h : funcB f = true) : (funcLines f).length ≤ 530 := by
  obtain ⟨_, _, h3, h4⟩ := funcB_parts h
  have h5 := flat_len blockLines 33 f.blocks fun b hb => blockLines_len (h4 b hb)
  have := Nat.mul_le_mul_right 33 h3
  simp only [funcLines, List.length_cons, List.length_append, List.length_nil]
  omega
theorem linesT_len {p : List PFunc} (h : validB p = true) : (linesT p).length ≤ 4240 := by
  obtain ⟨_, h3, h4⟩ := validB_parts h
  have h5 := flat_len funcLines 530 p fun f hf => funcLines_len (h4 f hf)
  have := Nat.mul_le_mul_right 530 h3
  unfold linesT
  omega
theorem linesT_each {p : List PFunc} (h : validB p = true) : ∀ x ∈ linesT p, x.length ≤ 200 := by
  obtain ⟨_, _, h4⟩ := validB_parts h
  intro x hx
  unfold linesT at hx
  obtain ⟨y, hy, hx⟩ := List.mem_flatten.1 hx
  obtain ⟨f, hf, rfl⟩ := List.mem_map.1 hy
  obtain ⟨h5, _, _, h6⟩ := funcB_parts (h4 f hf)
  rcases List.mem_cons.1 hx with rfl | hx
  · have := nameB_short h5
    simp
    omega
  rcases List.mem_append.1 hx with hx | hx
  · obtain ⟨y, hy, hx⟩ := List.mem_flatten.1 hx
    obtain ⟨b, hb, rfl⟩ := List.mem_map.1 hy
    obtain ⟨h7, _, _, h8⟩ := blockB_parts (h6 b hb)
    rcases List.mem_cons.1 hx with rfl | hx
    · have := nameB_short h7
      simp
      omega
    · obtain ⟨s, hs, rfl⟩ := List.mem_map.1 hx
      exact lineT_bound (h8 s hs)
  · simp at hx
    rw [hx]; simp
end Go.Proofs.YtpnfdmajpkpjoaaDoor

/- What the two parsers compute: plain Lean, no program in sight. -/
namespace Go.Proofs.YtpnfdmajpkpjoaaDoor

/-- Where a parser stands: the next token, the first error. -/
structure PS where
  at_ : Nat
  err : Int
def PS.fail (s : PS) (e : Int) : PS := if s.err = 0 then ⟨s.at_, e⟩ else s
def PS.next (T : List Tok) (s : PS) : Tok := if s.err = 0 then (T[s.at_]?).getD ⟨0, [], 0, 0⟩ else ⟨0, [], 0, 0⟩
def PS.step (s : PS) : PS := ⟨s.at_ + 1, s.err⟩
def isW (T : List Tok) (w : Str) (s : PS) : Bool := (s.next T).kind == 1 && (s.next T).text == w
def isN (T : List Tok) (s : PS) : Bool := (s.next T).kind == 1 && nameB (s.next T).text
def isK (T : List Tok) (k : Int) (s : PS) : Bool := (s.next T).kind == k
/-- The next token is read if ok holds. -/
def takeM (ok : Bool) (s : PS) : PS := if ok then s.step else s.fail 4
def textM (T : List Tok) (ok : Bool) (s : PS) : Str := if ok then (s.next T).text else []
def nameM (T : List Tok) (s : PS) : PS := takeM (isN T s) s
def nameV (T : List Tok) (s : PS) : Str := textM T (isN T s) s
def endM (T : List Tok) (s : PS) : PS := takeM (isK T 3 s) s
/-- Names, m at the most. -/
def namesM (T : List Tok) : Nat → List Str → PS → List Str × PS
  | 0, acc, s => (acc, if isN T s then s.fail 7 else s)
  | m + 1, acc, s => if isN T s then namesM T m (acc ++ [nameV T s]) s.step else (acc, s)
def opOf (x : Str) : Int :=
  if x = [117, 115, 101] then 2 else if x = [99, 97, 108, 108] then 3 else if x = [115, 111, 117, 114, 99, 101] then 4 else if x = [115, 105, 110, 107] then 5
  else if x = [115, 97, 110, 105, 116, 105, 122, 101] then 6 else if x = [103, 111, 116, 111] then 7 else if x = [98, 114, 97, 110, 99, 104] then 8 else if x = [114, 101, 116, 117, 114, 110] then 9 else 0
def startsB (T : List Tok) (s : PS) : Bool := isN T s || ((s.next T).kind == 1 && opOf (s.next T).text != 0)
/-- A statement, where one begins. -/
def stmtM (T : List Tok) (s : PS) : PStmt × PS :=
  if isN T s then
    let s1 := s.step
    let s2 := takeM (isK T 2 s1) s1
    let r := namesM T 4 [] s2
    (⟨1, nameV T s, r.1, []⟩, endM T r.2)
  else
    let op := opOf (s.next T).text
    let s1 := s.step
    if op = 2 then
      let r := if isN T s1 then namesM T 3 [nameV T s1] s1.step else ([], s1.fail 4)
      (⟨2, [], r.1, []⟩, endM T r.2)
    else if op = 3 ∨ op = 7 then (⟨op, [], [], [nameV T s1]⟩, endM T (nameM T s1))
    else if op = 4 ∨ op = 6 then (⟨op, nameV T s1, [], []⟩, endM T (nameM T s1))
    else if op = 5 then (⟨5, [], [nameV T s1], []⟩, endM T (nameM T s1))
    else if op = 8 then
      let s2 := nameM T s1
      let s3 := nameM T s2
      (⟨8, [], [nameV T s1], [nameV T s2, nameV T s3]⟩, endM T (nameM T s3))
    else (⟨op, [], [], []⟩, endM T s1)
def stmtsM (T : List Tok) : Nat → List PStmt → PS → List PStmt × PS
  | 0, acc, s => (acc, if startsB T s then s.fail 7 else s)
  | m + 1, acc, s => if startsB T s then stmtsM T m (acc ++ [(stmtM T s).1]) (stmtM T s).2 else (acc, s)
/-- A block's head: its name, and where its statements begin. -/
def headM (T : List Tok) (w : Str) (s : PS) : PS := endM T (nameM T (takeM (isW T w s) s))
def headV (T : List Tok) (w : Str) (s : PS) : Str := nameV T (takeM (isW T w s) s)
def kBlock : Str := [98, 108, 111, 99, 107]
def kFunc : Str := [102, 117, 110, 99]
def kEnd : Str := [101, 110, 100]
def blockM (T : List Tok) (s : PS) : PBlock × PS :=
  let s1 := headM T kBlock s
  let r := stmtsM T 32 [] (if startsB T s1 then s1 else s1.fail 4)
  (⟨headV T kBlock s, r.1⟩, r.2)
def blocksM (T : List Tok) : Nat → List PBlock → PS → List PBlock × PS
  | 0, acc, s => (acc, if isW T kBlock s then s.fail 7 else s)
  | m + 1, acc, s => if isW T kBlock s then blocksM T m (acc ++ [(blockM T s).1]) (blockM T s).2 else (acc, s)
def funcM (T : List Tok) (s : PS) : PFunc × PS :=
  let s1 := headM T kFunc s
  let r := blocksM T 16 [] (if isW T kBlock s1 then s1 else s1.fail 4)
  (⟨headV T kFunc s, r.1⟩, endM T (takeM (isW T kEnd r.2) r.2))
def funcsM (T : List Tok) : Nat → List PFunc → PS → List PFunc × PS
  | 0, acc, s => (acc, if isW T kFunc s then s.fail 7 else s)
  | m + 1, acc, s => if isW T kFunc s then funcsM T m (acc ++ [(funcM T s).1]) (funcM T s).2 else (acc, s)
def progM (T : List Tok) : List PFunc × PS :=
  let s0 : PS := ⟨0, 0⟩
  let r := funcsM T 8 [] (if isW T kFunc s0 then s0 else s0.fail 4)
  (r.1, if r.2.err = 0 ∧ r.2.at_ < T.length then r.2.fail 4 else r.2)
/-- What is parsed: the program, line, column, error. -/
structure Parsed where
  funcs : List PFunc
  line : Int
  col : Int
  err : Int
def parsed (l : List UInt8) : Parsed :=
  let S := scanned l
  if S.err ≠ 0 then ⟨[], S.line, S.col, S.err⟩ else
  let r := progM S.toks
  if r.2.err = 0 then ⟨r.1, 0, 0, 0⟩ else
  match S.toks[r.2.at_]? with
  | some t => ⟨[], t.line, t.col, r.2.err⟩
  | none => ⟨[], 0, 0, r.2.err⟩

section
variable {T : List Tok} {s : PS}
theorem next_err (h : s.err ≠ 0) : s.next T = ⟨0, [], 0, 0⟩ := by unfold PS.next; rw [if_neg h]
theorem isN_err (h : s.err ≠ 0) : isN T s = false := by unfold isN; rw [next_err h]; rfl
theorem isW_err (h : s.err ≠ 0) (w : Str) : isW T w s = false := by unfold isW; rw [next_err h]; rfl
theorem isK_err (h : s.err ≠ 0) {k : Int} (hk : k ≠ 0) : isK T k s = false := by unfold isK; rw [next_err h]; simp; omega
theorem starts_err (h : s.err ≠ 0) : startsB T s = false := by unfold startsB; rw [isN_err h, next_err h]; rfl
theorem fail_err (h : s.err ≠ 0) (e : Int) : s.fail e = s := by unfold PS.fail; rw [if_neg h]
theorem take_err (h : s.err ≠ 0) : takeM false s = s := by unfold takeM; simp [fail_err h]
/-- A token that is there. -/
theorem next_in (h : (s.next T).kind ≠ 0) : s.err = 0 ∧ ∃ t, T[s.at_]? = some t ∧ s.next T = t := by
  unfold PS.next at h ⊢
  split at h
  · rename_i h0
    refine ⟨h0, ?_⟩
    rw [if_pos h0]
    cases hT : T[s.at_]? with
    | none => rw [hT] at h; exact absurd rfl h
    | some t => exact ⟨t, rfl, rfl⟩
  · exact absurd rfl h
theorem isN_in (h : isN T s = true) : s.err = 0 ∧ ∃ t, T[s.at_]? = some t ∧ t.kind = 1 ∧ nameB t.text = true ∧ nameV T s = t.text := by
  have h2 := h
  unfold isN at h
  simp only [Bool.and_eq_true, beq_iff_eq] at h
  obtain ⟨h0, t, ht, e⟩ := next_in (T := T) (s := s) (by rw [h.1]; decide)
  rw [e] at h
  exact ⟨h0, t, ht, h.1, h.2, by unfold nameV textM; rw [h2, e]; rfl⟩
end
end Go.Proofs.YtpnfdmajpkpjoaaDoor

