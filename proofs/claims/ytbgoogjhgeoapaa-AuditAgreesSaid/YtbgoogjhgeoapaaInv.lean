/- A region that draws its order, by an invariant: one step for each operation, not one for each order. No program in sight. -/
import Derived.Test.YtbgoogjhgeoapaaHold2
set_option linter.unusedVariables false
set_option linter.unusedSimpArgs false
set_option linter.unusedSectionVars false
namespace Go.Proofs.Ytbgoogjhgeoapaa
open Go

section
variable {P : Program} {ops : Array Oper} {Q : Exit → Act → World → Prop} {md : Region.Mode}
/-- What an operation waits for stands ahead of it. -/
def lowOk (md : Region.Mode) (ops : Array Oper) : Bool := (List.range ops.size).all fun k => match ops[k]? with | some o => o.after.all (fun e => !Region.binds md e || decide (e.on < k)) | none => true
theorem count_set {l : List Bool} : ∀ {i : Nat}, l[i]? = some false → (l.set i true).count false + 1 = l.count false := by
  induction l with
  | nil => intro i h; simp at h
  | cons b l ih =>
    intro i h
    cases i with
    | zero => simp at h; subst h; simp
    | succ i =>
      have := ih (by simpa using h)
      simp only [List.set_cons_succ, List.count_cons]
      omega
theorem getD_true_false {listed : Array Bool} {i : Nat} (h : listed.getD i true = false) : listed.toList[i]? = some false := by
  rcases Nat.lt_or_ge i listed.size with h' | h'
  · simp [h'] at h ⊢; exact h
  · simp [Array.getElem?_eq_none h'] at h
/-- The first that has not come up may come up. -/
theorem least_ready (hlow : lowOk md ops = true) {listed : Array Bool} (hs : listed.size = ops.size) (hr : Region.ready md ops listed = []) : ∀ k, k < ops.size → listed.getD k false = true := by
  intro k
  induction k using Nat.strongRecOn with
  | _ k ih =>
    intro hk
    cases h : listed.getD k false with
    | true => rfl
    | false =>
      exfalso
      have hk' : k < listed.size := by omega
      have hmem : k ∈ Region.ready md ops listed := by
        rw [mem_ready]
        refine ⟨?_, ops[k], Array.getElem?_eq_getElem hk, fun e he hb => ?_⟩
        · simp [hk'] at h ⊢; exact h
        · have h1 := List.all_eq_true.1 hlow k (List.mem_range.2 hk)
          rw [Array.getElem?_eq_getElem hk] at h1
          have h2 := (Array.all_eq_true'.1 h1) e he
          rw [hb] at h2
          simp at h2
          exact ih e.on h2 (by omega)
      rw [hr] at hmem
      cases hmem
theorem wpAny_inv {I : Array Bool → Act → World → Prop} (hlow : lowOk md ops = true)
    (hstep : ∀ listed a w i, listed.size = ops.size → I listed a w → i ∈ Region.ready md ops listed → wpOp P ops Q i (fun a' w' => I (listed.setIfInBounds i true) a' w') a w)
    (hend : ∀ listed a w, I listed a w → (∀ k, k < ops.size → listed.getD k false = true) → Q .normal a w) :
    ∀ (fuel : Nat) (listed : Array Bool) (a : Act) (w : World), listed.size = ops.size → listed.toList.count false ≤ fuel → I listed a w → wpAny P md ops Q fuel listed a w
  | 0, listed, a, w, hs, hc, hI => by
    have hr : Region.ready md ops listed = [] := by
      rcases List.eq_nil_or_concat (Region.ready md ops listed) with h | ⟨l, i, h⟩
      · exact h
      · have hi : i ∈ Region.ready md ops listed := by rw [h]; simp
        have h1 := getD_true_false (mem_ready.1 hi).1
        have h2 := count_set h1
        omega
    exact ⟨hr, hend _ _ _ hI (least_ready hlow hs hr)⟩
  | fuel + 1, listed, a, w, hs, hc, hI => by
    refine ⟨fun hr => hend _ _ _ hI (least_ready hlow hs hr), fun i hi => wpOp_mono (fun a' w' h' => ?_) (hstep listed a w i hs hI hi)⟩
    have h1 := getD_true_false (mem_ready.1 hi).1
    have h2 := count_set h1
    exact wpAny_inv hlow hstep hend fuel _ a' w' (by simpa using hs) (by rw [Array.toList_setIfInBounds]; omega) h'
/-- The rule. -/
theorem wp_region_inv {id : Nat} {a : Act} {w : World} (hm : P.follows .mixedOrders = true) {I : Array Bool → Act → World → Prop} (hlow : lowOk .any ops = true)
    (h0 : I (Array.replicate ops.size false) a (w.drewN 1))
    (hstep : ∀ listed a w i, listed.size = ops.size → I listed a w → i ∈ Region.ready .any ops listed → wpOp P ops Q i (fun a' w' => I (listed.setIfInBounds i true) a' w') a w)
    (hend : ∀ listed a w, I listed a w → (∀ k, k < ops.size → listed.getD k false = true) → Q .normal a w) : (Code.region id ops true).wp P Q a w := by
  refine wp_region_any hm (wpAny_inv hlow hstep hend _ _ _ _ (by simp) ?_ h0)
  simp
/-- An operation that has come up waits for what has come up. -/
theorem ready_dep {listed : Array Bool} {i k : Nat} (hi : i ∈ Region.ready md ops listed) (hw : waits md ops i k = true) : listed.getD k false = true := by
  obtain ⟨_, o, ho, hall⟩ := mem_ready.1 hi
  unfold waits at hw
  rw [ho] at hw
  obtain ⟨e, he, hb⟩ := Array.any_eq_true'.1 hw
  simp only [Bool.and_eq_true, beq_iff_eq] at hb
  have := hall e he hb.1
  rwa [hb.2] at this
theorem ready_lt {listed : Array Bool} {i : Nat} (hi : i ∈ Region.ready md ops listed) : i < ops.size := by
  obtain ⟨_, o, ho, _⟩ := mem_ready.1 hi
  exact (Array.getElem?_eq_some_iff.1 ho).1
theorem ready_un {listed : Array Bool} {i : Nat} (hi : i ∈ Region.ready md ops listed) : listed.getD i false = false := listed_false (mem_ready.1 hi).1
theorem wpOp_value {K : Act → World → Prop} (i : Nat) (d : Option Tmp) (v : Value) (w' : World) {oi : Oper} {a : Act} {w : World} (hi : ops[i]? = some oi)
    (hwant : Region.wanted oi (yielded ops a.tmps) = true) (hrun : (execOp a.eval oi).run P w = .ok (.value v) w') (hd : oi.dst = d) (h : K (a.put d v) w') : wpOp P ops Q i K a w := by
  subst hd
  unfold wpOp
  rw [hi]
  show if Region.wanted oi (yielded ops a.tmps) then _ else _
  rw [if_pos hwant]
  left
  unfold Oper.wp
  rw [hrun, Oper.upon_value]
  exact h
theorem wpOp_skip {K : Act → World → Prop} (i : Nat) (d : Option Tmp) (w' : World) {oi : Oper} {a : Act} {w : World} (hi : ops[i]? = some oi)
    (hwant : Region.wanted oi (yielded ops a.tmps) = true) (hrun : (execOp a.eval oi).run P w = .ok .skip w') (hd : oi.dst = d) (h : K (a.put d undef) w') : wpOp P ops Q i K a w := by
  subst hd
  unfold wpOp
  rw [hi]
  show if Region.wanted oi (yielded ops a.tmps) then _ else _
  rw [if_pos hwant]
  left
  unfold Oper.wp
  rw [hrun, Oper.upon_skip]
  exact h
theorem wpOp_call {K : Act → World → Prop} (i : Nat) (d : Option Tmp) (fn : FuncId) (vals : Array Value) {oi : Oper} {a : Act} {w : World} (hi : ops[i]? = some oi)
    (hwant : Region.wanted oi (yielded ops a.tmps) = true) (hrun : (execOp a.eval oi).run P w = .ok (.enter fn vals) w) (hd : oi.dst = d)
    (hc : Calls P fn vals w fun e w' => ∃ v, e = .returned v ∧ K (a.put d v) w') : wpOp P ops Q i K a w := by
  subst hd
  unfold wpOp
  rw [hi]
  show if Region.wanted oi (yielded ops a.tmps) then _ else _
  rw [if_pos hwant]
  left
  unfold Oper.wp
  rw [hrun, Oper.upon_enter]
  refine hc.mono ?_
  rintro e w' ⟨v, rfl, h⟩
  exact h
theorem getD_set_cases {listed : Array Bool} {i k : Nat} (h : (listed.setIfInBounds i true).getD k false = true) : k = i ∨ listed.getD k false = true := by
  by_cases e : k = i
  · exact .inl e
  · rw [getD_set_ne false (Ne.symm e)] at h; exact .inr h
end
end Go.Proofs.Ytbgoogjhgeoapaa
