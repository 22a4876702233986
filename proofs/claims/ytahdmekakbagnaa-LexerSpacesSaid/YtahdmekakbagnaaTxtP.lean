/- The text of programs: plain Lean, no program in sight. -/
import Derived.Test.YtahdmekakbagnaaPgmP
import Derived.Test.YtahdmekakbagnaaNameP
namespace Go.Proofs.Ytahdmekakbagnaa

def namesB (l : List Str) (a b : Int) : Bool := l.all nameB && (decide (a ≤ (l.length : Int)) && decide ((l.length : Int) ≤ b))
/-- What the operation of a statement wants of its fields. -/
def opB (op : Int) (d e : Bool) (u t : Nat) : Bool :=
  if op = 1 then d && decide (t = 0)
  else if op = 2 then e && (decide (1 ≤ u) && decide (t = 0))
  else if op = 5 then e && (decide (u = 1) && decide (t = 0))
  else if op = 3 ∨ op = 7 then e && (decide (u = 0) && decide (t = 1))
  else if op = 4 ∨ op = 6 then d && (decide (u = 0) && decide (t = 0))
  else if op = 8 then e && (decide (u = 1) && decide (t = 2))
  else if op = 9 then e && (decide (u = 0) && decide (t = 0))
  else false
def stmtB (s : PStmt) : Bool := namesB s.uses 0 4 && (namesB s.targets 0 2 && opB s.op (nameB s.dfn) (s.dfn.isEmpty) s.uses.length s.targets.length)
def blockB (b : PBlock) : Bool := nameB b.name && (decide (1 ≤ b.stmts.length) && (decide (b.stmts.length ≤ 32) && b.stmts.all stmtB))
def funcB (f : PFunc) : Bool := nameB f.name && (decide (1 ≤ f.blocks.length) && (decide (f.blocks.length ≤ 16) && f.blocks.all blockB))
def validB (p : List PFunc) : Bool := decide (1 ≤ p.length) && (decide (p.length ≤ 8) && p.all funcB)

def wordsT (l : List Str) : Str := (l.map fun x => 32 :: x).flatten
def lineT (s : PStmt) : Str :=
  if s.op = 1 then s.dfn ++ [32, 61] ++ wordsT s.uses
  else if s.op = 2 then [117, 115, 101] ++ wordsT s.uses
  else if s.op = 3 then [99, 97, 108, 108] ++ wordsT s.targets
  else if s.op = 4 then [115, 111, 117, 114, 99, 101, 32] ++ s.dfn
  else if s.op = 5 then [115, 105, 110, 107] ++ wordsT s.uses
  else if s.op = 6 then [115, 97, 110, 105, 116, 105, 122, 101, 32] ++ s.dfn
  else if s.op = 7 then [103, 111, 116, 111] ++ wordsT s.targets
  else if s.op = 8 then [98, 114, 97, 110, 99, 104] ++ wordsT s.uses ++ wordsT s.targets
  else [114, 101, 116, 117, 114, 110]
def blockLines (b : PBlock) : List Str := ([98, 108, 111, 99, 107, 32] ++ b.name) :: b.stmts.map lineT
def funcLines (f : PFunc) : List Str := ([102, 117, 110, 99, 32] ++ f.name) :: ((f.blocks.map blockLines).flatten ++ [[101, 110, 100]])
def linesT (p : List PFunc) : List Str := (p.map funcLines).flatten
def printT (p : List PFunc) : Str := if validB p then ((linesT p).map fun x => x ++ [10]).flatten else []
def joinT : List Str → Str
  | [] => []
  | x :: r => x ++ (r.map fun y => [59, 32] ++ y).flatten
def inlineT (p : List PFunc) : Str := if validB p then joinT (linesT p) else []
end Go.Proofs.Ytahdmekakbagnaa
