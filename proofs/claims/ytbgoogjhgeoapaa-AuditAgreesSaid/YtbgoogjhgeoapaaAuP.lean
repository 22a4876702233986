/- Logs of turns, and what an audit answers: plain Lean, no program in sight. -/
set_option linter.unusedVariables false
set_option linter.unusedSimpArgs false
set_option linter.unusedSectionVars false
namespace Go.Proofs.Ytbgoogjhgeoapaa

structure TV where
  q : Int
  qu : Int
  st : Int
  co : Int
  fin : Bool
deriving DecidableEq
structure CV where
  p : Int
  pe : Int
  me : Int
  no : Int
  ed : Int
  ba : Int
  ag : Int
def btwB (n a b : Int) : Bool := decide (a ≤ n) && decide (n ≤ b)
def cnB (n : Int) : Bool := btwB n 0 1073741824
def turnB (x : TV) : Bool := cnB x.q && (btwB x.qu 0 64 && (cnB x.st && btwB x.co x.st (min (8 * x.st) 1073741824)))
def vgo : (Int → Bool) → List TV → Bool
  | _, [] => true
  | d, x :: r => turnB x && (!d x.q && vgo (fun k => if k = x.q then x.fin else d k) r)
/-- A valid log. -/
def logB (l : List TV) : Bool := decide (l.length ≤ 4096) && vgo (fun _ => false) l
/-- A valid configuration. -/
def cfgB (c : CV) : Bool := btwB c.p 1 8 && (btwB c.pe 1 16 && (btwB c.me 0 512 && (btwB c.no 1 256 && (btwB c.ed 0 1024 && (btwB c.ba 1 64 && btwB c.ag 1 1024)))))
def clampS (a : Int) : Int := min (max a 0) 1073741824
def addS (a b : Int) : Int := clampS (clampS a + clampS b)
def divS (a b : Int) : Int := if clampS b = 0 then 1073741824 else (clampS a).tdiv (clampS b)
/-- A turn's quantum. -/
def qf (base pri age per : Int) : Int := min (max (addS (addS base pri) (divS age (max per 1))) 1) 64

structure Acc where
  id : Int
  turns : Int
  may : List Bool
  df : Int
  gone : Bool
  since : Int → Int
structure Aud where
  known : List Acc
  last : Int
  op : Bool
def newAcc (q : Int) : Acc := ⟨q, 0, [true, true, true, true], 0, false, fun _ => 0⟩
def accOf (l : List Acc) (q : Int) : Option Acc := l.find? fun a => decide (a.id = q)
def ensure (l : List Acc) (q : Int) : List Acc := match accOf l q with | some _ => l | none => l ++ [newAcc q]
def getAcc (l : List Acc) (q : Int) : Acc := match accOf l q with | some a => a | none => newAcc q
def putAcc (l : List Acc) (a : Acc) : List Acc := l.map fun y => if y.id = a.id then a else y
def goneAcc (l : List Acc) (q : Int) : List Acc := l.map fun y => if y.id = q then { y with gone := true } else y
def leaveB (x : TV) : Bool := decide (x.qu = 0) && (decide (x.st = 0) && x.fin)
def mayQ (c : CV) (a : Acc) (qu : Int) : List Bool := (List.range 4).map fun p => a.may.getD p false && decide (qu = qf c.ba (p : Int) a.turns c.ag)
/-- Entry a begins a turn: the account y of another query forbids it. -/
def badB (a y : Acc) : Bool := decide (y.id ≠ a.id) && (decide (y.turns ≠ 0) && (decide (0 < a.turns) && (decide (1 < a.since y.id) || (decide (a.since y.id = 0) && !y.gone))))
def bump (f : Int → Int) (q : Int) : Int → Int := fun k => if k = q then f k + 1 else f k
def bumpAcc (q : Int) (y : Acc) : Acc := if y.id = q ∨ y.turns = 0 then y else { y with since := bump y.since q }
def beginA (c : CV) (l : List Acc) (x : TV) : Option (List Acc) :=
  let a := getAcc l x.q
  if (mayQ c a x.qu).any id = false then none
  else if l.any (badB a) then none
  else some (putAcc (l.map (bumpAcc x.q)) { a with may := mayQ c a x.qu, turns := a.turns + 1, since := fun _ => 0 })
/-- An entry's cost. -/
def spendA (l : List Acc) (x : TV) : Option Aud :=
  let a := getAcc l x.q
  if 0 < x.st ∧ a.df + x.qu ≤ 0 then none
  else if a.df + x.qu - x.co < -7 then none
  else some ⟨putAcc l { a with df := a.df + x.qu - x.co, gone := x.fin }, x.q, !x.fin && decide (0 < a.df + x.qu - x.co)⟩
def entryA (c : CV) (s : Aud) (x : TV) : Option Aud :=
  let l := ensure s.known x.q
  if leaveB x then some ⟨goneAcc l x.q, s.last, s.op && decide (x.q ≠ s.last)⟩
  else if 0 < x.qu then (if s.op then none else match beginA c l x with | none => none | some l' => spendA l' x)
  else if s.op = false ∨ x.q ≠ s.last then none else spendA l x
def auditGo (c : CV) : Aud → Nat → List TV → Int × Int
  | _, i, [] => ((i : Int), 0)
  | s, i, x :: r => match entryA c s x with | none => ((i : Int), 15) | some s' => auditGo c s' (i + 1) r
/-- What an audit answers: an entry's number and an error. -/
def auditT (c : CV) (l : List TV) : Int × Int := if cfgB c = false ∨ logB l = false then (0, 1) else auditGo c ⟨[], 0, false⟩ 0 l

/-- The greatest difference of two queries' costs. -/
def shareGo (a b : Int) : List TV → Int → Int → Bool → Int
  | [], most, _, _ => most
  | x :: r, most, sum, ins =>
    if x.q = a ∧ x.fin = true then most
    else if x.q = a ∧ ins = false then shareGo a b r (max most sum) sum true
    else if x.q = a then shareGo a b r (max most (max (sum - x.co) 0)) (max (sum - x.co) 0) ins
    else if x.q = b ∧ ins = true then shareGo a b r (max most (sum + x.co)) (sum + x.co) ins
    else shareGo a b r (max most sum) sum ins
def shareT (l : List TV) (a b : Int) : Int := if a = b ∨ logB l = false then 0 else shareGo a b l 0 0 false

/-! ### what the reference answers -/
def begins (l : List TV) (q : Int) : Nat := l.countP fun x => decide (x.q = q) && decide (0 < x.qu)
def goneB (l : List TV) (q : Int) : Bool := l.any fun x => decide (x.q = q) && x.fin
structure RAcc where
  query : Int
  df : Int
  turns : Int
  fin : Bool
  may : List Bool
  seen : Int
deriving DecidableEq
/-- Rule 4 at entry i, for one account. -/
def fair1 (l : List TV) (prev i : Nat) (q b : Int) : Bool :=
  if b = q then true else
  !(decide (1 < begins ((l.take i).drop (prev + 1)) b) || (decide (begins ((l.take i).drop (prev + 1)) b = 0) && (decide (0 < begins (l.take prev) b) && !goneB (l.take i) b)))
def fairB (l : List TV) (prev i : Nat) (all : List RAcc) (q : Int) : Bool := all.all fun a => fair1 l prev i q a.query
def findR (l : List RAcc) (q : Int) : Option RAcc := l.find? fun a => decide (a.query = q)
def newR (q : Int) : RAcc := ⟨q, 0, 0, false, [true, true, true, true], -1⟩
def ensureR (l : List RAcc) (q : Int) : List RAcc := match findR l q with | some _ => l | none => l ++ [newR q]
def getR (l : List RAcc) (q : Int) : RAcc := match findR l q with | some a => a | none => newR q
def putR (l : List RAcc) (a : RAcc) : List RAcc := l.map fun y => if y.query = a.query then a else y
def mayR (c : CV) (a : RAcc) (qu : Int) : List Bool := (List.range 4).map fun p => a.may.getD p false && decide (qf c.ba (p : Int) a.turns c.ag = qu)
/-- An account behind the quantum of an entry. -/
def turnR (c : CV) (l : List TV) (i : Nat) (all : List RAcc) (op : Int) (t : TV) (a : RAcc) : Option RAcc :=
  if 0 < t.qu then
    if 0 ≤ op ∨ (mayR c a t.qu).any id = false ∨ (0 ≤ a.seen ∧ fairB l a.seen.toNat i all t.q = false) then none
    else some { a with may := mayR c a t.qu, turns := a.turns + 1, seen := (i : Int), df := a.df + t.qu }
  else if op ≠ t.q then none else some a
def entryR (c : CV) (l : List TV) (i : Nat) (all0 : List RAcc) (op : Int) (t : TV) : Option (List RAcc × Int) :=
  let all := ensureR all0 t.q
  if leaveB t then some (all, if op = t.q then -1 else op)
  else match turnR c l i all op t (getR all t.q) with
  | none => none
  | some a =>
    if (0 < t.st ∧ a.df ≤ 0) ∨ a.df - t.co < -7 then none
    else some (putR all { a with df := a.df - t.co }, if t.fin = false ∧ 0 < a.df - t.co then t.q else -1)
def auditRGo (c : CV) (l : List TV) : List RAcc → Int → Nat → List TV → Int × Int
  | _, _, i, [] => ((i : Int), 0)
  | all, op, i, t :: r => match entryR c l i all op t with | none => ((i : Int), 15) | some s => auditRGo c l s.1 s.2 (i + 1) r
def auditR (c : CV) (l : List TV) : Int × Int := if cfgB c = false ∨ logB l = false then (0, 1) else auditRGo c l [] (-1) 0 l
end Go.Proofs.Ytbgoogjhgeoapaa
