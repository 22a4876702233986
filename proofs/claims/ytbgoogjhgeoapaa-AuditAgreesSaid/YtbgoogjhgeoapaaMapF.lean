/- Maps keyed by int that a call has made, as functions of the key. No walk. -/
import Derived.Maps.RangeWalk
import Derived.Maps.OwnOps
import Derived.Test.YtbgoogjhgeoapaaRows
import Derived.WalkKit
set_option linter.unusedVariables false
set_option linter.unusedSimpArgs false
set_option linter.unusedSectionVars false
namespace Go.Proofs.Ytbgoogjhgeoapaa
open Go.RowKit

/-- How elements read: mk's values, en's data; z0 is the zero value. -/
structure Enc (α : Type) where
  R : Value → Option (DataW Unit × List MemPlace)
  val : α → Value
  en : α → DataW Unit
  z0 : α
  read : ∀ a, R (val a) = some (en a, [])
  inv : ∀ v y, R v = some y → ∃ a, v = val a ∧ y = (en a, [])
  inj : ∀ a b, en a = en b → a = b
abbrev kl (k : Int) : Lit := .int .i64 k
abbrev Wf (k : Int) : Prop := (Lit.int .i64 k).wf = true
theorem wf_small {k : Int} (h : -9223372036854775808 ≤ k ∧ k ≤ 9223372036854775807) : Wf k := WalkArith.wf_i64 (by omega)

section
variable {α : Type} {P : Program} {K : TypeId}
/-- Block b is a map of at most n entries that reads as f; a key is there just if 'there' says so. -/
def MapF (P : Program) (K : TypeId) (E : Enc α) (w : World) (b n : Nat) (f : Int → α) (there : Int → Bool) : Prop :=
  ∃ D, w.ownsMap P K E.R b n D ∧ (∀ k, Wf k → D.atKey (kl k) (E.en E.z0) = E.en (f k)) ∧ ∀ k, Wf k → Maps.has D (kl k) = there k

theorem MapF.lt {E : Enc α} {w : World} {b n : Nat} {f : Int → α} {th : Int → Bool} (h : MapF P K E w b n f th) : b < w.heap.size := by
  obtain ⟨D, h1, _⟩ := h
  exact h1.lt
theorem MapF.isMap {E : Enc α} {w : World} {b n : Nat} {f : Int → α} {th : Int → Bool} (h : MapF P K E w b n f th) : ∃ es c, w.heap[b]? = some (.map es c) := by
  obtain ⟨D, ⟨es, c, h1, _⟩, _⟩ := h
  exact ⟨es, c, h1⟩
theorem MapF.mono {E : Enc α} {w : World} {b n n' : Nat} {f : Int → α} {th : Int → Bool} (h : MapF P K E w b n f th) (hn : n ≤ n') : MapF P K E w b n' f th := by
  obtain ⟨D, h1, h2⟩ := h
  exact ⟨D, h1.mono hn, h2⟩
theorem MapF.block {E : Enc α} {w w' : World} {b n : Nat} {f : Int → α} {th : Int → Bool} (h : MapF P K E w b n f th) (hb : w'.heap[b]? = w.heap[b]?) : MapF P K E w' b n f th := by
  obtain ⟨D, ⟨es, clock, h1, h2⟩, h3⟩ := h
  exact ⟨D, ⟨es, clock, hb.trans h1, h2⟩, h3⟩
theorem MapF.made (E : Enc α) (w : World) : MapF P K E (w.alloc (.map #[] 0)) w.heap.size 0 (fun _ => E.z0) (fun _ => false) :=
  ⟨.map [], World.ownsMap_made w P K E.R, fun k _ => rfl, fun k _ => rfl⟩
theorem MapF.congr {E : Enc α} {w : World} {b n : Nat} {f g : Int → α} {th th' : Int → Bool} (h : MapF P K E w b n f th) (hf : ∀ k, f k = g k) (ht : ∀ k, th k = th' k) : MapF P K E w b n g th' := by
  rw [← funext hf, ← funext ht]; exact h

theorem MapF.look {E : Enc α} {w : World} {b n : Nat} {f : Int → α} {th : Int → Bool} {t e : TypeId} (h : MapF P K E w b n f th) (hk : P.underlying K = some (.int .i64)) (ht : P.underlying t = some (.map K e)) (hz : (zeroValue e).run P w = .ok (E.val E.z0) w)
    {k : Int} (wk : Wf k) : (Instr.lookup t (.map (some b)) (.int .i64 k) false).run P w = .ok (E.val (f k)) w := by
  obtain ⟨D, h1, h2, _⟩ := h
  obtain ⟨v, ps, hr, hv⟩ := h1.lookup (Maps.int_keyed hk) ht hz (E.read E.z0) (Maps.keyOf_int_mk hk wk)
  obtain ⟨a, rfl, ha⟩ := E.inv _ _ hv
  rw [h2 k wk, Prod.mk.injEq] at ha
  rw [E.inj _ _ ha.1]
  exact hr
theorem MapF.store {E : Enc α} {w : World} {b n : Nat} {f : Int → α} {th : Int → Bool} {t e : TypeId} (h : MapF P K E w b n f th) (hk : P.underlying K = some (.int .i64)) (ht : P.underlying t = some (.map K e)) (hn : n < maxLen)
    {k : Int} (wk : Wf k) (x : α) : ∃ w', (Instr.mapUpdate t (.map (some b)) (.int .i64 k) (E.val x)).run P w = .ok () w' ∧ MapF P K E w' b (n + 1) (fun q => if q = k then x else f q) (fun q => decide (q = k) || th q) ∧ w.grownBy w' (some b) := by
  obtain ⟨D, h1, h2, h3⟩ := h
  obtain ⟨w', hr, h4, h5⟩ := h1.update (Maps.int_keyed hk) ht hn (Maps.keyOf_int_mk hk wk) (E.read x)
  have hkey : WideAt.IsKeyLit (kl k) := trivial
  refine ⟨w', hr, ⟨_, h4, fun q wq => ?_, fun q wq => ?_⟩, h5⟩
  · by_cases e : q = k
    · subst e
      show _ = E.en (if q = q then x else f q)
      rw [if_pos rfl]
      exact Maps.atKey_put_same h1.isMap hkey _ _
    · show _ = E.en (if q = k then x else f q)
      rw [if_neg e, ← h2 q wq]
      exact Maps.atKey_put_other (fun h => e (by cases h; rfl)) _ _
  · by_cases e : q = k
    · subst e
      simp only [decide_true, Bool.true_or]
      exact Maps.has_put_same h1.isMap hkey _
    · show _ = (decide (q = k) || th q)
      rw [← h3 q wq, decide_eq_false e, Bool.false_or]
      exact Maps.has_put_other (fun h => e (by cases h; rfl)) _
end

def boolR (v : Value) : Option (DataW Unit × List MemPlace) := match v with | .bool b => some (.lit (.bool b), []) | _ => none
def intR (v : Value) : Option (DataW Unit × List MemPlace) := match v with | .int .i64 b => some (.lit (.int .i64 b), []) | _ => none
theorem boolR_inv (v : Value) (y : DataW Unit × List MemPlace) (h : boolR v = some y) : ∃ a, v = .bool a ∧ y = (.lit (.bool a), []) := by
  unfold boolR at h
  split at h
  · cases h; exact ⟨_, rfl, rfl⟩
  · cases h
theorem intR_inv (v : Value) (y : DataW Unit × List MemPlace) (h : intR v = some y) : ∃ a, v = .int .i64 a ∧ y = (.lit (.int .i64 a), []) := by
  unfold intR at h
  split at h
  · cases h; exact ⟨_, rfl, rfl⟩
  · cases h
def boolEnc : Enc Bool := ⟨boolR, .bool, fun b => .lit (.bool b), false, fun _ => rfl, boolR_inv, fun a b h => by cases h; rfl⟩
def intEnc : Enc Int := ⟨intR, .int .i64, fun b => .lit (.int .i64 b), 0, fun _ => rfl, intR_inv, fun a b h => by cases h; rfl⟩
def ptrV : Option Nat → Value
  | none => .pointer none
  | some p => .pointer (some ⟨p, 0, none⟩)
def ptrD : Option Nat → DataW Unit
  | none => .agg []
  | some p => .lit (.int .i64 (p : Int))
def ptrR (v : Value) : Option (DataW Unit × List MemPlace) :=
  match v with
  | .pointer none => some (.agg [], [])
  | .pointer (some ⟨p, 0, none⟩) => some (.lit (.int .i64 p), [])
  | _ => none
theorem ptrR_inv (v : Value) (y : DataW Unit × List MemPlace) (h : ptrR v = some y) : ∃ a, v = ptrV a ∧ y = (ptrD a, []) := by
  unfold ptrR at h
  split at h
  · cases h; exact ⟨none, rfl, rfl⟩
  · cases h; exact ⟨some _, rfl, rfl⟩
  · cases h
theorem ptrD_inj (a b : Option Nat) (h : ptrD a = ptrD b) : a = b := by
  cases a <;> cases b <;> simp [ptrD] at h ⊢
  omega
def ptrEnc : Enc (Option Nat) := ⟨ptrR, ptrV, ptrD, none, fun o => by cases o <;> rfl, ptrR_inv, ptrD_inj⟩

section
variable {α : Type} {P : Program} {w : World} {ops : Array Oper} {rest : List Oper} {o : Oper} {a : Act} {Q : Exit → Act → World → Prop} {K : TypeId}
/-- 'm[k]' at the operation. -/
theorem wpList_lookF (E : Enc α) (hg : o.guard = none) (m x : Operand) (t : TypeId) (hop : o.op = Op.lookup t m x false) {e : TypeId} (hk : P.underlying K = some (.int .i64)) (ht : P.underlying t = some (.map K e))
    (hz : (zeroValue e).run P w = .ok (E.val E.z0) w) {b n : Nat} {f : Int → α} {th : Int → Bool} (hm : a.eval m = .map (some b)) (h : MapF P K E w b n f th) {k : Int} (hx : a.eval x = .int .i64 k) (wk : Wf k)
    (hK : wpList P ops Q rest (a.put o.dst (E.val (f k))) w) : wpList P ops Q (o :: rest) a w := by
  refine wpList_plain hg fun K' hK' => ?_
  unfold Oper.wp
  simp only [execOp, hop, hm, hx]
  simp [h.look hk ht hz wk, Result.andThen]
  exact hK' _ _ hK
/-- 'm[k] = v' at the operation. -/
theorem wpList_storeF (E : Enc α) (hg : o.guard = none) (m x v : Operand) (t : TypeId) (hop : o.op = Op.mapUpdate t m x v) {e : TypeId} (hk : P.underlying K = some (.int .i64)) (ht : P.underlying t = some (.map K e)) {b n : Nat} {f : Int → α} {th : Int → Bool}
    (hm : a.eval m = .map (some b)) (h : MapF P K E w b n f th) (hn : n < maxLen) {k : Int} (hx : a.eval x = .int .i64 k) (wk : Wf k) (y : α) (hv : a.eval v = E.val y)
    (hK : ∀ w', MapF P K E w' b (n + 1) (fun q => if q = k then y else f q) (fun q => decide (q = k) || th q) → w.grownBy w' (some b) → wpList P ops Q rest (a.put o.dst undef) w') : wpList P ops Q (o :: rest) a w := by
  refine wpList_plain hg fun K' hK' => ?_
  obtain ⟨w', hr, h1, h2⟩ := h.store hk ht hn wk y
  unfold Oper.wp
  simp [execOp, hop, hm, hx, hv, hr, Result.andThen]
  exact hK' _ _ (hK w' h1 h2)
end
end Go.Proofs.Ytbgoogjhgeoapaa
