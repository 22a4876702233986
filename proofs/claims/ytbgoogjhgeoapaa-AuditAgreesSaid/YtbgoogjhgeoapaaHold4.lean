/- An append and a fresh block at a step of a drawn region taken in one order. No program in sight. -/
import Derived.Test.YtbgoogjhgeoapaaHold3
import Derived.Test.YtbgoogjhgeoapaaSlc
set_option linter.unusedVariables false
set_option linter.unusedSimpArgs false
set_option linter.unusedSectionVars false
namespace Go.Proofs.Ytbgoogjhgeoapaa
variable [Base]
open Go

section
variable {P : Program} {ops : Array Oper} {Q : Exit → Act → World → Prop} {md : Region.Mode} {S : World → Prop}
/-- The one operation that may come up, by its own law. -/
theorem wpAnyT_oper {st : Nat} (i : Nat) {oi : Oper} {fuel : Nat} {listed : Array Bool} {a : Act} {w : World} (hi : ops[i]? = some oi)
    (hr : Region.ready md ops listed = [i]) (hwant : Region.wanted oi (yielded ops a.tmps) = true)
    (h : oi.wp P a w (fun a' w' => (i ≠ st → S w') ∧ wpAnyT P md ops Q S st fuel (listed.setIfInBounds i true) a' w') Q) : wpAnyT P md ops Q S st (fuel + 1) listed a w := by
  refine wpAnyT_all hr (by simp) fun j hj => ?_
  obtain rfl : j = i := by simpa using hj
  unfold wpOp
  rw [hi]
  show if Region.wanted oi (yielded ops a.tmps) then _ else _
  rw [if_pos hwant]
  exact .inl h
/-- An append of a slice. -/
theorem wpAnyT_append {st : Nat} (i : Nat) (d : Option Tmp) {oi : Oper} {fuel : Nat} {listed : Array Bool} {a : Act} {w : World} (hi : ops[i]? = some oi)
    (hr : Region.ready md ops listed = [i]) (hwant : Region.wanted oi (yielded ops a.tmps) = true) (hd : oi.dst = d) (s x : Operand) (t : TypeId)
    (ho : oi.op = .call { callee := .builtin .append, args := #[s, x], argTypes := #[t, t] })
    (base : Nat) (e : TypeId) (z : Value) (size bytes : Nat) (ht : P.underlying t = some (.slice e)) (hin : (P.info? e).map (fun i => (i.zero, i.size, i.bytes)) = some (some z, size, bytes))
    (hzs : z.cells.size = size) (hsz : 0 < size) (v : Value) (n : Nat) (xs : List Value) (hown : w.ownsRow base e size v n xs) (hs : a.eval s = v)
    (u : Value) (m : Nat) (ys : List Value) (hx : a.eval x = u) (hsl : SliceAt w e size u ys) (hm : ys.length = m * size) (h1 : ys.all Value.oneCell' = true)
    (h63 : n + m ≤ maxLen) (hbytes : (n + m) * bytes ≤ 140737488355328) (hbase : base ≤ w.heap.size)
    (h : ∀ g c w', w'.ownsRow base e size (.slice g (n + m) c) (n + m) (xs ++ ys) → w.grownBy w' v.ownBlock → (i ≠ st → S w') ∧ wpAnyT P md ops Q S st fuel (listed.setIfInBounds i true) (a.put d (.slice g (n + m) c)) w') :
    wpAnyT P md ops Q S st (fuel + 1) listed a w := by
  subst hd
  exact wpAnyT_oper i hi hr hwant (wp_append_sl s x t ho base e z size bytes ht hin hzs hsz v n xs hown hs u m ys hx hsl hm h1 h63 hbytes hbase h)
end
end Go.Proofs.Ytbgoogjhgeoapaa
