/- A part of the proof. -/
import Derived.Test.YtipnhmdibkkifaaGreatDoorRows
import Derived.Maps.RangeWalk
import Derived.Maps.OwnOps
import Derived.DeepKeys4
import Derived.WalkKit
import Derived.Laws.BitsLemmas
import Derived.Laws.Bits64
import Derived.Test.YtipnhmdibkkifaaGreatDoorNu00
import Derived.WalkSpells
import Derived.WalkLawsBesides
import Derived.Deep.QuietTactic
import Derived.BigQuiet
import Derived.Laws.Shifts
import Derived.Laws.MakeOwn
import Derived.Test.YtipnhmdibkkifaaGreatDoorNu01
set_option linter.unusedVariables false
set_option linter.unusedSimpArgs false
set_option linter.unusedVariables false
set_option linter.unusedSimpArgs false
set_option linter.unusedSectionVars false
namespace Go.Proofs.YtipnhmdibkkifaaGreatDoor
open Go.RowKit
structure Enc (α : Type) where
  R : Value → Option (DataW Unit × List MemPlace)
  val : α → Value
  en : α → DataW Unit
  z0 : α
  read : ∀ a, R (val a) = some (en a, [])
  inv : ∀ v y, R v = some y → ∃ a, v = val a ∧ y = (en a, [])
  inj : ∀ a b, en a = en b → a = b
structure KeyE (P : Program) (K : TypeId) (κ : Type) where
  enc : κ → Value
  ok : κ → Prop
  keyed : Maps.Keyed P K
  of : ∀ k, ok k → ∃ l, keyOf P K (enc k) = some l
  inj : ∀ a b, enc a = enc b → a = b
section
variable {α κ : Type} [DecidableEq κ] {P : Program} {K : TypeId}
def MapG (Ky : KeyE P K κ) (E : Enc α) (w : World) (b n : Nat) (f : κ → α) (there : κ → Bool) : Prop :=
  ∃ D, w.ownsMap P K E.R b n D ∧ ∀ k, Ky.ok k → ∀ l, keyOf P K (Ky.enc k) = some l → D.atKey l (E.en E.z0) = E.en (f k) ∧ Maps.has D l = there k
variable {Ky : KeyE P K κ}
theorem MapG.lt {E : Enc α} {w : World} {b n : Nat} {f : κ → α} {th : κ → Bool} (h : MapG Ky E w b n f th) : b < w.heap.size := by
  obtain ⟨D, h1, _⟩ := h
  exact h1.lt
theorem MapG.isMap {E : Enc α} {w : World} {b n : Nat} {f : κ → α} {th : κ → Bool} (h : MapG Ky E w b n f th) : ∃ es c, w.heap[b]? = some (.map es c) := by
  obtain ⟨D, ⟨es, c, h1, _⟩, _⟩ := h
  exact ⟨es, c, h1⟩
theorem MapG.block {E : Enc α} {w w' : World} {b n : Nat} {f : κ → α} {th : κ → Bool} (h : MapG Ky E w b n f th) (hb : w'.heap[b]? = w.heap[b]?) : MapG Ky E w' b n f th := by
  obtain ⟨D, ⟨es, clock, h1, h2⟩, h3⟩ := h
  exact ⟨D, ⟨es, clock, hb.trans h1, h2⟩, h3⟩
theorem MapG.below {E : Enc α} {w w' : World} {b n : Nat} {f : κ → α} {th : κ → Bool} (h : MapG Ky E w b n f th) (hb : Below w.heap.size w w') : MapG Ky E w' b n f th := h.block (hb.block b h.lt)
theorem MapG.made (Ky : KeyE P K κ) (E : Enc α) (w : World) : MapG Ky E (w.alloc (.map #[] 0)) w.heap.size 0 (fun _ => E.z0) (fun _ => false) :=
  ⟨.map [], World.ownsMap_made w P K E.R, fun k _ l _ => ⟨rfl, rfl⟩⟩
theorem MapG.congr {E : Enc α} {w : World} {b n : Nat} {f g : κ → α} {th th' : κ → Bool} (h : MapG Ky E w b n f th) (hf : ∀ k, f k = g k) (ht : ∀ k, th k = th' k) : MapG Ky E w b n g th' := by
  rw [← funext hf, ← funext ht]; exact h
theorem MapG.look {E : Enc α} {w : World} {b n : Nat} {f : κ → α} {th : κ → Bool} {t e : TypeId} (h : MapG Ky E w b n f th) (ht : P.underlying t = some (.map K e)) (hz : (zeroValue e).run P w = .ok (E.val E.z0) w)
    {k : κ} (wk : Ky.ok k) : (Instr.lookup t (.map (some b)) (Ky.enc k) false).run P w = .ok (E.val (f k)) w := by
  obtain ⟨D, h1, h2⟩ := h
  obtain ⟨l, hl⟩ := Ky.of k wk
  obtain ⟨v, ps, hr, hv⟩ := h1.lookup Ky.keyed ht hz (E.read E.z0) hl
  obtain ⟨a, rfl, ha⟩ := E.inv _ _ hv
  rw [(h2 k wk l hl).1, Prod.mk.injEq] at ha
  rw [E.inj _ _ ha.1]
  exact hr
theorem MapG.store {E : Enc α} {w : World} {b n : Nat} {f : κ → α} {th : κ → Bool} {t e : TypeId} (h : MapG Ky E w b n f th) (ht : P.underlying t = some (.map K e)) (hn : n < maxLen)
    {k : κ} (wk : Ky.ok k) (x : α) : ∃ w', (Instr.mapUpdate t (.map (some b)) (Ky.enc k) (E.val x)).run P w = .ok () w' ∧ MapG Ky E w' b (n + 1) (fun q => if q = k then x else f q) (fun q => decide (q = k) || th q) ∧ w.grownBy w' (some b) := by
  obtain ⟨D, h1, h2⟩ := h
  obtain ⟨l, hl⟩ := Ky.of k wk
  obtain ⟨w', hr, h4, h5⟩ := h1.update Ky.keyed ht hn hl (E.read x)
  have hkey : WideAt.IsKeyLit l := Ky.keyed.key hl
  refine ⟨w', hr, ⟨_, h4, fun q wq m hm => ?_⟩, h5⟩
  by_cases e : q = k
  · subst e
    rw [hl] at hm
    injection hm with hm
    subst hm
    refine ⟨?_, ?_⟩
    · show _ = E.en (if q = q then x else f q)
      rw [if_pos rfl]
      exact Maps.atKey_put_same h1.isMap hkey _ _
    · simp only [decide_true, Bool.true_or]
      exact Maps.has_put_same h1.isMap hkey _
  · have hne : m ≠ l := fun he => e (Ky.inj _ _ (Ky.keyed.inj (he ▸ hm) hl))
    refine ⟨?_, ?_⟩
    · show _ = E.en (if q = k then x else f q)
      rw [if_neg e, ← (h2 q wq m hm).1]
      exact Maps.atKey_put_other hne _ _
    · show _ = (decide (q = k) || th q)
      rw [← (h2 q wq m hm).2, decide_eq_false e, Bool.false_or]
      exact Maps.has_put_other hne _
end
def boolR (v : Value) : Option (DataW Unit × List MemPlace) := match v with | .bool b => some (.lit (.bool b), []) | _ => none
def intR (v : Value) : Option (DataW Unit × List MemPlace) := match v with | .int .i64 b => some (.lit (.int .i64 b), []) | _ => none
theorem boolR_inv (v : Value) (y : DataW Unit × List MemPlace) (h : boolR v = some y) : ∃ a, v = .bool a ∧ y = (.lit (.bool a), []) := by
  unfold boolR at h
  split at h
  · cases h; exact ⟨_, rfl, rfl⟩
  · cases h
theorem intR_inv (v : Value) (y : DataW Unit × List MemPlace) (h : intR v = some y) : ∃ a, v = .int .i64 a ∧ y = (.lit (.int .i64 a), []) := by
  unfold intR at h
  split at h
  · cases h; exact ⟨_, rfl, rfl⟩
  · cases h
def boolEnc : Enc Bool := ⟨boolR, .bool, fun b => .lit (.bool b), false, fun _ => rfl, boolR_inv, fun a b h => by cases h; rfl⟩
def intEnc : Enc Int := ⟨intR, .int .i64, fun b => .lit (.int .i64 b), 0, fun _ => rfl, intR_inv, fun a b h => by cases h; rfl⟩
def strKey {P : Program} {K : TypeId} (hk : P.underlying K = some .string) : KeyE P K (List UInt8) where
  enc := fun s => .string ⟨s.toArray⟩
  ok := fun s => s.length ≤ maxLen
  keyed := Maps.string_keyed hk
  of := fun s hs => ⟨_, WideMaps.keyOf_string_mk hk (s := ⟨s.toArray⟩) (by simpa [ByteArray.size] using hs)⟩
  inj := fun a b h => by injection h with h; injection h with h; simpa using congrArg Array.toList h
section
variable {α κ : Type} [DecidableEq κ] {P : Program} {w : World} {ops : Array Oper} {rest : List Oper} {o : Oper} {a : Act} {Q : Exit → Act → World → Prop} {K : TypeId} {Ky : KeyE P K κ}
theorem wpList_storeG (E : Enc α) (hg : o.guard = none) (m x v : Operand) (t : TypeId) (hop : o.op = Op.mapUpdate t m x v) {e : TypeId} (ht : P.underlying t = some (.map K e)) {b n : Nat} {f : κ → α} {th : κ → Bool}
    (hm : a.eval m = .map (some b)) (h : MapG Ky E w b n f th) (hn : n < maxLen) {k : κ} (hx : a.eval x = Ky.enc k) (wk : Ky.ok k) (y : α) (hv : a.eval v = E.val y)
    (hK : ∀ w', MapG Ky E w' b (n + 1) (fun q => if q = k then y else f q) (fun q => decide (q = k) || th q) → w.grownBy w' (some b) → wpList P ops Q rest (a.put o.dst undef) w') : wpList P ops Q (o :: rest) a w := by
  refine wpList_plain hg fun K' hK' => ?_
  obtain ⟨w', hr, h1, h2⟩ := h.store ht hn wk y
  unfold Oper.wp
  simp [execOp, hop, hm, hx, hv, hr, Result.andThen]
  exact hK' _ _ (hK w' h1 h2)
end
end Go.Proofs.YtipnhmdibkkifaaGreatDoor
set_option linter.unusedVariables false
set_option linter.unusedSimpArgs false
set_option linter.unusedSectionVars false
namespace Go.Proofs.YtipnhmdibkkifaaGreatDoor
open Go.RowKit
variable [Base]
theorem tyAt_set {w : World} {b o : Nat} {x : Value} (c : Nat) : tyAt (w.setCell ⟨b, o, none⟩ x) c = tyAt w c := by
  unfold tyAt World.setCell
  simp only [Array.getElem?_modify]
  by_cases h : b = c
  · subst h
    simp only [if_true]
    cases w.heap[b]? with
    | none => rfl
    | some o => cases o <;> rfl
  · simp only [if_neg h]
end Go.Proofs.YtipnhmdibkkifaaGreatDoor
set_option linter.unusedVariables false
set_option linter.unusedSimpArgs false
set_option linter.unusedSectionVars false
namespace Go.Proofs.YtipnhmdibkkifaaGreatDoor
def pop : Nat → Nat → Nat
  | 0, _ => 0
  | n + 1, x => x % 2 + pop n (x / 2)
def repB : Nat → Nat → Nat
  | 0, _ => 0
  | n + 1, c => c + 256 * repB n c
def s1 (b : Nat) : Nat := (b / 2 &&& 85) + (b &&& 85)
def s2 (b : Nat) : Nat := (b / 4 &&& 51) + (b &&& 51)
def A1 (n x : Nat) : Nat := (x / 2 &&& repB n 85) + (x &&& repB n 85)
end Go.Proofs.YtipnhmdibkkifaaGreatDoor
set_option linter.unusedVariables false
set_option linter.unusedSimpArgs false
set_option linter.unusedSectionVars false
namespace Go.Proofs.YtipnhmdibkkifaaGreatDoor
def termB (op : Int) : Bool := op == 7 || op == 8 || op == 9
def dfnB (op : Int) : Bool := op == 1 || op == 4 || op == 6
def dupGo : List Str → List Str → Int → Int
  | _, [], _ => -1
  | seen, x :: r, i => if seen.contains x then i else dupGo (seen ++ [x]) r (i + 1)
def dupI (l : List Str) : Int := dupGo [] l 0
def fNames (p : List PFunc) : List Str := p.map PFunc.name
def bNames (f : PFunc) : List Str := f.blocks.map PBlock.name
def stmtE (fs bs : List Str) (s : PStmt) (last : Bool) : Int :=
  if termB s.op != last then 4 else if s.targets.all (fun t => (if s.op == 3 then fs else bs).contains t) then 0 else 5
def firstE : Int → Int → Int := fun a b => if a = 0 then b else a
def stmtsE (fs bs : List Str) : List PStmt → Int
  | [] => 0
  | s :: r => firstE (stmtE fs bs s r.isEmpty) (stmtsE fs bs r)
def blocksE (fs bs : List Str) : List PBlock → Int
  | [] => 0
  | b :: r => firstE (stmtsE fs bs b.stmts) (blocksE fs bs r)
def funcE (fs : List Str) (f : PFunc) : Int := if 0 ≤ dupI (bNames f) then 6 else blocksE fs (bNames f) f.blocks
def funcsE (fs : List Str) : List PFunc → Int
  | [] => 0
  | f :: r => firstE (funcE fs f) (funcsE fs r)
def stmtsP (p : List PFunc) : List PStmt := (p.map fun f => (f.blocks.map PBlock.stmts).flatten).flatten
def noteP (out : List Str) (n : Str) : List Str := if n.isEmpty || out.contains n then out else out ++ [n]
def noteS (out : List Str) (s : PStmt) : List Str := (s.dfn :: s.uses).foldl noteP out
def varsP (p : List PFunc) : List Str := if validB p then (stmtsP p).foldl noteS [] else []
def nodeC (s : PStmt) : Int := if s.op = 3 then 2 else 1
def edgeC (s : PStmt) : Int := if s.op = 3 then 3 else if s.op = 8 then 2 else 1
def sumI (l : List Int) : Int := l.foldl (· + ·) 0
def nodesN (p : List PFunc) : Int := if validB p then 2 * (p.length : Int) + sumI ((stmtsP p).map nodeC) else 0
def edgesN (p : List PFunc) : Int := if validB p then (p.length : Int) + sumI ((stmtsP p).map edgeC) else 0
def checkE (p : List PFunc) : Int :=
  if validB p = false then 1
  else if 0 ≤ dupI (fNames p) then 6
  else if funcsE (fNames p) p ≠ 0 then funcsE (fNames p) p
  else if 64 < (varsP p).length ∨ 256 < nodesN p ∨ 1024 < edgesN p then 7 else 0
structure PNode where
  kind : Int
  fn : Int
  bl : Int
  st : Int
deriving DecidableEq
def stmtN (i k n : Nat) (s : PStmt) : List PNode := ⟨3, i, k, n⟩ :: (if s.op = 3 then [⟨4, i, k, n⟩] else [])
def stmtsN (i k : Nat) : List PStmt → Nat → List PNode
  | [], _ => []
  | s :: r, n => stmtN i k n s ++ stmtsN i k r (n + 1)
def blocksN (i : Nat) : List PBlock → Nat → List PNode
  | [], _ => []
  | b :: r, k => stmtsN i k b.stmts 0 ++ blocksN i r (k + 1)
def funcN (i : Nat) (f : PFunc) : List PNode := ⟨1, i, -1, -1⟩ :: (blocksN i f.blocks 0 ++ [⟨2, i, -1, -1⟩])
def funcsN : List PFunc → Nat → List PNode
  | [], _ => []
  | f :: r, i => funcN i f ++ funcsN r (i + 1)
def nodesP (p : List PFunc) : List PNode := if checkE p = 0 then funcsN p 0 else []
def idxI {α : Type} [DecidableEq α] (l : List α) (x : α) : Int := if x ∈ l then ((l.idxOf x : Nat) : Int) else -1
def stmtP (p : List PFunc) (n : PNode) : Option PStmt := (p[n.fn.toNat]?).bind fun f => (f.blocks[n.bl.toNat]?).bind fun b => b.stmts[n.st.toNat]?
def insN (n : PNode) : Bool := n.kind == 3 || n.kind == 4
end Go.Proofs.YtipnhmdibkkifaaGreatDoor
set_option linter.unusedVariables false
set_option linter.unusedSimpArgs false
set_option linter.unusedSectionVars false
namespace Go.Proofs.YtipnhmdibkkifaaGreatDoor
def blkI (f : PFunc) (x : Str) : Int := idxI (bNames f) x
def fnI (p : List PFunc) (x : Str) : Int := idxI (fNames p) x
def tgt (s : PStmt) : Str := s.targets.headD []
def fnOf (p : List PFunc) (i : Int) : PFunc := (p[i.toNat]?).getD ⟨[], []⟩
def stmtD (p : List PFunc) (n : PNode) : PStmt := (stmtP p n).getD ⟨0, [], [], []⟩
def nextN (p : List PFunc) (l : List PNode) (n : PNode) : List PNode :=
  if n.kind = 1 then [⟨3, n.fn, 0, 0⟩]
  else if n.kind = 2 then l.filter fun k => k.kind == 4 && tgt (stmtD p k) == (fnOf p n.fn).name
  else if (stmtD p n).op = 9 then [⟨2, n.fn, -1, -1⟩]
  else if (stmtD p n).op = 3 ∧ n.kind = 3 then [⟨1, fnI p (tgt (stmtD p n)), -1, -1⟩]
  else if (stmtD p n).op = 7 ∨ (stmtD p n).op = 8 then (stmtD p n).targets.map fun t => ⟨3, n.fn, blkI (fnOf p n.fn) t, 0⟩
  else [⟨3, n.fn, n.bl, n.st + 1⟩]
def edgesAt (p : List PFunc) (n : PNode) : List (PNode × PNode) :=
  if n.kind = 1 then [(n, ⟨3, n.fn, 0, 0⟩)]
  else if n.kind = 3 then
    if (stmtD p n).op = 7 ∨ (stmtD p n).op = 8 then (stmtD p n).targets.map fun t => (n, ⟨3, n.fn, blkI (fnOf p n.fn) t, 0⟩)
    else if (stmtD p n).op = 9 then [(n, ⟨2, n.fn, -1, -1⟩)]
    else if (stmtD p n).op = 3 then [(n, ⟨1, fnI p (tgt (stmtD p n)), -1, -1⟩), (⟨2, fnI p (tgt (stmtD p n)), -1, -1⟩, ⟨4, n.fn, n.bl, n.st⟩), (⟨4, n.fn, n.bl, n.st⟩, ⟨3, n.fn, n.bl, n.st + 1⟩)]
    else [(n, ⟨3, n.fn, n.bl, n.st + 1⟩)]
  else []
def edgesL (p : List PFunc) (l : List PNode) : List (PNode × PNode) := (l.map (edgesAt p)).flatten
def IsN (p : List PFunc) (n : PNode) : Prop := ∃ i f, p[i]? = some f ∧ (n = ⟨1, (i : Nat), -1, -1⟩ ∨ n = ⟨2, (i : Nat), -1, -1⟩ ∨ ∃ k b j s, f.blocks[k]? = some b ∧ b.stmts[j]? = some s ∧ (n = ⟨3, (i : Nat), (k : Nat), (j : Nat)⟩ ∨ (s.op = 3 ∧ n = ⟨4, (i : Nat), (k : Nat), (j : Nat)⟩)))
theorem mem_stmtN {i k j : Nat} {s : PStmt} {n : PNode} : n ∈ stmtN i k j s ↔ n = ⟨3, i, k, j⟩ ∨ (s.op = 3 ∧ n = ⟨4, i, k, j⟩) := by
  unfold stmtN
  by_cases h : s.op = 3 <;> simp [h]
theorem mem_stmtsN {i k : Nat} {n : PNode} : ∀ (l : List PStmt) (m : Nat), n ∈ stmtsN i k l m ↔ ∃ j s, l[j]? = some s ∧ n ∈ stmtN i k (m + j) s
  | [], m => by simp [stmtsN]
  | x :: r, m => by
    unfold stmtsN
    rw [List.mem_append, mem_stmtsN r (m + 1)]
    constructor
    · rintro (h | ⟨j, s, h1, h2⟩)
      · exact ⟨0, x, rfl, h⟩
      · exact ⟨j + 1, s, h1, by rw [show m + (j + 1) = m + 1 + j by omega]; exact h2⟩
    · rintro ⟨j, s, h1, h2⟩
      cases j with
      | zero => simp at h1; subst h1; exact .inl h2
      | succ j => exact .inr ⟨j, s, by simpa using h1, by rw [show m + 1 + j = m + (j + 1) by omega]; exact h2⟩
theorem mem_blocksN {i : Nat} {n : PNode} : ∀ (l : List PBlock) (m : Nat), n ∈ blocksN i l m ↔ ∃ k b, l[k]? = some b ∧ n ∈ stmtsN i (m + k) b.stmts 0
  | [], m => by simp [blocksN]
  | x :: r, m => by
    unfold blocksN
    rw [List.mem_append, mem_blocksN r (m + 1)]
    constructor
    · rintro (h | ⟨j, s, h1, h2⟩)
      · exact ⟨0, x, rfl, h⟩
      · exact ⟨j + 1, s, h1, by rw [show m + (j + 1) = m + 1 + j by omega]; exact h2⟩
    · rintro ⟨j, s, h1, h2⟩
      cases j with
      | zero => simp at h1; subst h1; exact .inl h2
      | succ j => exact .inr ⟨j, s, by simpa using h1, by rw [show m + 1 + j = m + (j + 1) by omega]; exact h2⟩
theorem mem_funcsN {n : PNode} : ∀ (l : List PFunc) (m : Nat), n ∈ funcsN l m ↔ ∃ i f, l[i]? = some f ∧ n ∈ funcN (m + i) f
  | [], m => by simp [funcsN]
  | x :: r, m => by
    unfold funcsN
    rw [List.mem_append, mem_funcsN r (m + 1)]
    constructor
    · rintro (h | ⟨j, s, h1, h2⟩)
      · exact ⟨0, x, rfl, h⟩
      · exact ⟨j + 1, s, h1, by rw [show m + (j + 1) = m + 1 + j by omega]; exact h2⟩
    · rintro ⟨j, s, h1, h2⟩
      cases j with
      | zero => simp at h1; subst h1; exact .inl h2
      | succ j => exact .inr ⟨j, s, by simpa using h1, by rw [show m + 1 + j = m + (j + 1) by omega]; exact h2⟩
theorem mem_nodes {p : List PFunc} {n : PNode} : n ∈ funcsN p 0 ↔ IsN p n := by
  rw [mem_funcsN]
  unfold IsN funcN
  constructor
  · rintro ⟨i, f, h1, h2⟩
    refine ⟨i, f, h1, ?_⟩
    simp only [Nat.zero_add] at h2
    rcases List.mem_cons.1 h2 with h2 | h2
    · exact .inl h2
    · rcases List.mem_append.1 h2 with h2 | h2
      · obtain ⟨k, b, h3, h4⟩ := (mem_blocksN _ _).1 h2
        obtain ⟨j, s, h5, h6⟩ := (mem_stmtsN _ _).1 h4
        simp only [Nat.zero_add] at h6
        exact .inr (.inr ⟨k, b, j, s, h3, h5, mem_stmtN.1 h6⟩)
      · exact .inr (.inl (by simpa using h2))
  · rintro ⟨i, f, h1, h2⟩
    refine ⟨i, f, h1, ?_⟩
    simp only [Nat.zero_add]
    rcases h2 with h2 | h2 | ⟨k, b, j, s, h3, h5, h6⟩
    · exact List.mem_cons.2 (.inl h2)
    · exact List.mem_cons.2 (.inr (List.mem_append.2 (.inr (by simp [h2]))))
    · refine List.mem_cons.2 (.inr (List.mem_append.2 (.inl ((mem_blocksN _ _).2 ⟨k, b, h3, (mem_stmtsN _ _).2 ⟨j, s, h5, ?_⟩⟩))))
      simp only [Nat.zero_add]
      exact mem_stmtN.2 h6
theorem nodup_stmtsN {i k : Nat} : ∀ (l : List PStmt) (m : Nat), (stmtsN i k l m).Nodup
  | [], m => List.nodup_nil
  | x :: r, m => by
    unfold stmtsN
    refine List.nodup_append.2 ⟨?_, nodup_stmtsN r (m + 1), ?_⟩
    · unfold stmtN
      by_cases h : x.op = 3 <;> simp [h]
    · intro a ha b hb e
      subst e
      obtain ⟨j, s, _, h2⟩ := (mem_stmtsN _ _).1 hb
      rw [mem_stmtN] at ha h2
      rcases ha with rfl | ⟨_, rfl⟩ <;> rcases h2 with h2 | ⟨_, h2⟩ <;> injection h2 <;> omega
theorem nodup_blocksN {i : Nat} : ∀ (l : List PBlock) (m : Nat), (blocksN i l m).Nodup
  | [], m => List.nodup_nil
  | x :: r, m => by
    unfold blocksN
    refine List.nodup_append.2 ⟨nodup_stmtsN _ _, nodup_blocksN r (m + 1), ?_⟩
    intro a ha b hb e
    subst e
    obtain ⟨k, c, _, h2⟩ := (mem_blocksN _ _).1 hb
    obtain ⟨j, s, _, h3⟩ := (mem_stmtsN _ _).1 h2
    obtain ⟨j', s', _, h4⟩ := (mem_stmtsN _ _).1 ha
    rw [mem_stmtN] at h3 h4
    rcases h4 with rfl | ⟨_, rfl⟩ <;> rcases h3 with h3 | ⟨_, h3⟩ <;> injection h3 <;> omega
theorem mem_funcN_fn {i : Nat} {f : PFunc} {n : PNode} (h : n ∈ funcN i f) : n.fn = i := by
  unfold funcN at h
  rcases List.mem_cons.1 h with rfl | h
  · rfl
  · rcases List.mem_append.1 h with h | h
    · obtain ⟨k, b, _, h4⟩ := (mem_blocksN _ _).1 h
      obtain ⟨j, s, _, h6⟩ := (mem_stmtsN _ _).1 h4
      rcases mem_stmtN.1 h6 with rfl | ⟨_, rfl⟩ <;> rfl
    · simp at h; subst h; rfl
theorem nodup_funcN (i : Nat) (f : PFunc) : (funcN i f).Nodup := by
  unfold funcN
  have hk : ∀ n, n ∈ blocksN i f.blocks 0 → n.kind = 3 ∨ n.kind = 4 := fun n h => by
    obtain ⟨k, b, _, h4⟩ := (mem_blocksN _ _).1 h
    obtain ⟨j, s, _, h6⟩ := (mem_stmtsN _ _).1 h4
    rcases mem_stmtN.1 h6 with rfl | ⟨_, rfl⟩
    · exact .inl rfl
    · exact .inr rfl
  refine List.nodup_cons.2 ⟨fun h => ?_, List.nodup_append.2 ⟨nodup_blocksN _ _, by simp, ?_⟩⟩
  · rcases List.mem_append.1 h with h | h
    · rcases hk _ h with h | h <;> simp at h
    · simp at h
  · intro a ha b hb e
    subst e
    simp at hb
    subst hb
    rcases hk _ ha with h | h <;> simp at h
theorem nodup_nodes : ∀ (l : List PFunc) (m : Nat), (funcsN l m).Nodup
  | [], m => List.nodup_nil
  | x :: r, m => by
    unfold funcsN
    refine List.nodup_append.2 ⟨nodup_funcN _ _, nodup_nodes r (m + 1), ?_⟩
    intro a ha b hb e
    subst e
    obtain ⟨i, f, _, h2⟩ := (mem_funcsN _ _).1 hb
    have h3 := mem_funcN_fn h2
    have h4 := mem_funcN_fn ha
    omega
theorem dupGo_nodup : ∀ (l seen : List Str) (i : Int), 0 ≤ i → ¬ (0 ≤ dupGo seen l i) → (∀ x ∈ l, x ∉ seen) ∧ l.Nodup
  | [], seen, i, _, _ => ⟨(fun x h => by cases h), List.nodup_nil⟩
  | x :: r, seen, i, hi, h => by
    unfold dupGo at h
    by_cases hx : seen.contains x = true
    · rw [if_pos hx] at h; omega
    · rw [if_neg hx] at h
      obtain ⟨h1, h2⟩ := dupGo_nodup r (seen ++ [x]) (i + 1) (by omega) h
      have hx' : x ∉ seen := by simpa using hx
      refine ⟨fun y hy => ?_, List.nodup_cons.2 ⟨fun hm => ?_, h2⟩⟩
      · rcases List.mem_cons.1 hy with rfl | hy
        · exact hx'
        · exact fun hm => h1 y hy (List.mem_append.2 (.inl hm))
      · exact h1 x hm (by simp)
theorem dupI_nodup {l : List Str} (h : ¬ 0 ≤ dupI l) : l.Nodup := (dupGo_nodup l [] 0 (by omega) h).2
theorem first_zero {a b : Int} (h : firstE a b = 0) : a = 0 ∧ b = 0 := by
  unfold firstE at h
  split at h
  · exact ⟨by assumption, h⟩
  · exact absurd h (by assumption)
theorem stmtsE_zero {fs bs : List Str} : ∀ (l : List PStmt), stmtsE fs bs l = 0 → ∀ j s, l[j]? = some s → stmtE fs bs s (decide (j + 1 = l.length)) = 0
  | [], _, j, s, hj => by simp at hj
  | x :: r, h, j, s, hj => by
    unfold stmtsE at h
    obtain ⟨h1, h2⟩ := first_zero h
    cases j with
    | zero =>
      simp at hj
      subst hj
      rw [← h1]
      congr 1
      cases r <;> simp
    | succ j =>
      rw [← stmtsE_zero r h2 j s (by simpa using hj)]
      congr 1
      simp
theorem blocksE_zero {fs bs : List Str} : ∀ (l : List PBlock), blocksE fs bs l = 0 → ∀ b ∈ l, stmtsE fs bs b.stmts = 0
  | [], _, b, hb => by cases hb
  | x :: r, h, b, hb => by
    unfold blocksE at h
    obtain ⟨h1, h2⟩ := first_zero h
    rcases List.mem_cons.1 hb with rfl | hb
    · exact h1
    · exact blocksE_zero r h2 b hb
theorem funcsE_zero {fs : List Str} : ∀ (l : List PFunc), funcsE fs l = 0 → ∀ f ∈ l, funcE fs f = 0
  | [], _, b, hb => by cases hb
  | x :: r, h, b, hb => by
    unfold funcsE at h
    obtain ⟨h1, h2⟩ := first_zero h
    rcases List.mem_cons.1 hb with rfl | hb
    · exact h1
    · exact funcsE_zero r h2 b hb
structure Ckd (p : List PFunc) : Prop where
  valid : validB p = true
  funcs : (fNames p).Nodup
  blocks : ∀ f ∈ p, (bNames f).Nodup
  stmts : ∀ f ∈ p, ∀ b ∈ f.blocks, ∀ j s, b.stmts[j]? = some s → stmtE (fNames p) (bNames f) s (decide (j + 1 = b.stmts.length)) = 0
  vars : (varsP p).length ≤ 64
  nodes : nodesN p ≤ 256
  edges : edgesN p ≤ 1024
theorem check_ckd {p : List PFunc} (h : checkE p = 0) : Ckd p := by
  unfold checkE at h
  split at h
  · cases h
  rename_i hv
  split at h
  · cases h
  rename_i hd
  split at h
  · rename_i hn; exact absurd h hn
  rename_i hf
  split at h
  · cases h
  rename_i hs
  have hf' : funcsE (fNames p) p = 0 := by simpa using hf
  have hfe : ∀ f ∈ p, (bNames f).Nodup ∧ blocksE (fNames p) (bNames f) f.blocks = 0 := fun f hm => by
    have h1 := funcsE_zero p hf' f hm
    unfold funcE at h1
    split at h1
    · cases h1
    · rename_i h2; exact ⟨dupI_nodup h2, h1⟩
  refine ⟨by simpa using hv, dupI_nodup hd, fun f hm => (hfe f hm).1, fun f hm b hb => stmtsE_zero _ (blocksE_zero _ (hfe f hm).2 b hb), ?_, ?_, ?_⟩ <;> omega
end Go.Proofs.YtipnhmdibkkifaaGreatDoor
