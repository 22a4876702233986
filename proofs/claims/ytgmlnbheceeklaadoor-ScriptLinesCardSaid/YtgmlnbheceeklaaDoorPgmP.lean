/- Programs as data, and which of them are drawn: plain Lean, no program in sight. -/
set_option linter.unusedVariables false
set_option linter.unusedSimpArgs false
set_option linter.unusedSectionVars false
namespace Go.Proofs.YtgmlnbheceeklaaDoor

abbrev Str := List UInt8
structure PStmt where
  op : Int
  dfn : Str
  uses : List Str
  targets : List Str
structure PBlock where
  name : Str
  stmts : List PStmt
structure PFunc where
  name : Str
  blocks : List PBlock

/-- x, y, z, w. -/
def varNames : List Str := [[120], [121], [122], [119]]
/-- m, f, g. -/
def funcNames : List Str := [[109], [102], [103]]
/-- a, b, c. -/
def blockNames : List Str := [[97], [98], [99]]

/-- A drawn statement that does not end a block, in a program of F functions. -/
def GenBody (F : Int) (s : PStmt) : Prop :=
  (s.op = 2 ∧ s.dfn = [] ∧ (1 ≤ s.uses.length ∧ s.uses.length ≤ 2 ∧ ∀ u ∈ s.uses, u ∈ varNames) ∧ s.targets = []) ∨
  ((s.op = 4 ∨ s.op = 6) ∧ s.dfn ∈ varNames ∧ s.uses = [] ∧ s.targets = []) ∨
  (s.op = 5 ∧ s.dfn = [] ∧ (∃ v ∈ varNames, s.uses = [v]) ∧ s.targets = []) ∨
  (s.op = 3 ∧ s.dfn = [] ∧ s.uses = [] ∧ ∃ r : Nat, (r : Int) < F ∧ ∃ n, funcNames[r]? = some n ∧ s.targets = [n]) ∨
  (s.op = 1 ∧ s.dfn ∈ varNames ∧ (s.uses.length ≤ 3 ∧ ∀ u ∈ s.uses, u ∈ varNames) ∧ s.targets = [])

/-- A drawn statement that ends a block, in a function of K blocks. -/
def GenTerm (K : Int) (s : PStmt) : Prop :=
  (s.op = 9 ∧ s.dfn = [] ∧ s.uses = [] ∧ s.targets = []) ∨
  (s.op = 7 ∧ s.dfn = [] ∧ s.uses = [] ∧ ∃ r : Nat, (r : Int) < K ∧ ∃ n, blockNames[r]? = some n ∧ s.targets = [n]) ∨
  (s.op = 8 ∧ s.dfn = [] ∧ (∃ v ∈ varNames, s.uses = [v]) ∧ ∃ r q : Nat, (r : Int) < K ∧ (q : Int) < K ∧ ∃ n m, blockNames[r]? = some n ∧ blockNames[q]? = some m ∧ s.targets = [n, m])

/-- The k-th drawn block of a function of K blocks, in a program of F functions. -/
def GenBlock (F K : Int) (k : Nat) (b : PBlock) : Prop :=
  blockNames[k]? = some b.name ∧ ∃ l t, b.stmts = l ++ [t] ∧ l.length ≤ 3 ∧ (∀ s ∈ l, GenBody F s) ∧ GenTerm K t
/-- The i-th drawn function of a program of F functions. -/
def GenFunc (F : Int) (i : Nat) (f : PFunc) : Prop :=
  funcNames[i]? = some f.name ∧ 1 ≤ f.blocks.length ∧ f.blocks.length ≤ 3 ∧ ∀ k b, f.blocks[k]? = some b → GenBlock F f.blocks.length k b
/-- A drawn program. -/
def GenProg (p : List PFunc) : Prop := 1 ≤ p.length ∧ p.length ≤ 3 ∧ ∀ i f, p[i]? = some f → GenFunc p.length i f
end Go.Proofs.YtgmlnbheceeklaaDoor
