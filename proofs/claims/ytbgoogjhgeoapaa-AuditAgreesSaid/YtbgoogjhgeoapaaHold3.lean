/- An operation of a drawn region that its guard bars: passed over. No program in sight. -/
import Derived.Test.YtbgoogjhgeoapaaHold2
set_option linter.unusedVariables false
set_option linter.unusedSimpArgs false
set_option linter.unusedSectionVars false
namespace Go.Proofs.Ytbgoogjhgeoapaa
open Go

theorem put_mk (t : Array Value) (d : List Deferred) (i : Nat) (v : Value) : Act.put ⟨t, d⟩ (some i) v = ⟨t.setIfInBounds i v, d⟩ := rfl
theorem put_no (a : Act) (v : Value) : Act.put a none v = a := rfl
section
variable {P : Program} {ops : Array Oper} {Q : Exit → Act → World → Prop} {md : Region.Mode} {S : World → Prop}
theorem wpAnyT_skip {st : Nat} (i : Nat) (d : Option Tmp) {oi : Oper} {fuel : Nat} {listed : Array Bool} {a : Act} {w : World} (hi : ops[i]? = some oi)
    (hs : Region.noSelect ops = true) (hf : Region.free md ops listed i = true) (hr : (Region.ready md ops listed).contains i = true) (hw : waits md ops st i = true)
    (hQ : ∀ c a w, Q (.panic c) (a.put oi.dst undef) w → Q (.panic c) a w) (hS : S w) (hwant : Region.wanted oi (yielded ops a.tmps) = false) (hd : oi.dst = d)
    (h : wpAnyT P md ops Q S st fuel (listed.setIfInBounds i true) (a.put d undef) w) : wpAnyT P md ops Q S st (fuel + 1) listed a w :=
  wpAnyT_take hi hs hf hr hw hQ (.inr ⟨hwant, rfl⟩) hS (hd ▸ h)
/-- The operation st waits for i by way of others. -/
def chainOk (md : Region.Mode) (ops : Array Oper) (st : Nat) : Nat → List Nat → Bool
  | i, [] => waits md ops st i
  | i, c :: r => waits md ops c i && chainOk md ops st c r
theorem chain_no {st : Nat} {listed : Array Bool} : ∀ (cs : List Nat) (i : Nat), chainOk md ops st i cs = true → listed.getD i true = false → (∀ c ∈ cs, listed.getD c true = false) → (∀ c ∈ cs, c ∉ Region.ready md ops listed) ∧ st ∉ Region.ready md ops listed
  | [], i, h, hi, _ => ⟨(fun c hc => by cases hc), fun hr => not_ready_of_waits h (listed_false hi) hr⟩
  | c :: r, i, h, hi, hc => by
    unfold chainOk at h
    simp only [Bool.and_eq_true] at h
    have h1 := chain_no r c h.2 (hc c (by simp)) (fun d hd => hc d (by simp [hd]))
    refine ⟨fun d hd => ?_, h1.2⟩
    rcases List.mem_cons.1 hd with rfl | hd
    · exact fun hr => not_ready_of_waits h.1 (listed_false hi) hr
    · exact h1.1 d hd
/-- 'wpAnyT_first' where st waits by way of others that are still to come. -/
theorem wpAnyT_firstC {st i : Nat} {oi : Oper} {v : Value} (cs : List Nat) (hi : ops[i]? = some oi) (hsel : ∀ (j : Nat) (o : Oper) cs b, ops[j]? = some o → o.op ≠ .select cs b) (hw : chainOk md ops st i cs = true)
    (hQ : ∀ c a w, Q (.panic c) (a.put oi.dst v) w → Q (.panic c) a w) :
    ∀ (fuel : Nat) (listed : Array Bool) (a : Act) (w : World),
      (∀ j oj, ops[j]? = some oj → j ≠ i → listed.getD j true = false → (∀ e ∈ oj.after, Region.binds md e = true → e.on ≠ i) → oi.apart ops oj = true) →
      (∀ c ∈ cs, listed.getD c true = false) →
      i ∈ Region.ready md ops listed → YieldsIf P ops S oi v a → S w →
      wpAnyT P md ops Q S st fuel (listed.setIfInBounds i true) (a.put oi.dst v) w → wpAnyT P md ops Q S st (fuel + 1) listed a w := by
  intro fuel
  induction fuel with
  | zero =>
    intro listed a w _ _ hr hy hS H
    refine ⟨fun h => (by rw [h] at hr; cases hr), fun j hj => ?_⟩
    by_cases hji : j = i
    · subst hji; exact hy.wpOp hi hS ⟨fun _ => hS, H⟩
    · have := ready_mono hj hji
      rw [H.1] at this
      cases this
  | succ fuel ih =>
    intro listed a w hfree hcs hr hy hS H
    refine ⟨fun h => (by rw [h] at hr; cases hr), fun j hj => ?_⟩
    by_cases hji : j = i
    · subst hji; exact hy.wpOp hi hS ⟨fun _ => hS, H⟩
    · have hiun := listed_false (mem_ready.1 hr).1
      have hno := chain_no cs i hw (mem_ready.1 hr).1 hcs
      have hjst : j ≠ st := fun h => hno.2 (h ▸ hj)
      have hjc : ∀ c ∈ cs, j ≠ c := fun c hc h => hno.1 c hc (h ▸ hj)
      obtain ⟨hjun, oj, hoj, hall⟩ := mem_ready.1 hj
      have hnot : ∀ e ∈ oj.after, Region.binds md e = true → e.on ≠ i := fun e he hb heq => by
        have h1 := hall e he hb
        rw [heq, hiun] at h1
        cases h1
      have hstep := wpOp_putIf hoj (hfree j oj hoj hji hjun hnot) (fun cs b => hsel i oi cs b hi) (fun cs b => hsel j oj cs b hoj) hQ hy (H.2 j (ready_mono hj hji))
      refine wpOp_mono (fun a' w' h3 => ⟨h3.2.1, ih (listed.setIfInBounds j true) a' w' ?_ ?_ (ready_mono hr (Ne.symm hji)) h3.1 (h3.2.1 hjst) ?_⟩) hstep
      · intro k ok hk hki hun hno
        refine hfree k ok hk hki ?_ hno
        by_cases hjk : j = k
        · subst hjk; exact hjun
        · rw [getD_set_ne true hjk] at hun; exact hun
      · intro c hc
        rw [getD_set_ne true (hjc c hc)]
        exact hcs c hc
      · rw [Array.setIfInBounds_comm _ _ hji]
        exact h3.2.2
theorem wpAnyT_pureC {st : Nat} (i : Nat) (d : Option Tmp) (cs : List Nat) (v : Value) {oi : Oper} {fuel : Nat} {listed : Array Bool} {a : Act} {w : World} (hi : ops[i]? = some oi)
    (hs : Region.noSelect ops = true) (hf : Region.free md ops listed i = true) (hr : (Region.ready md ops listed).contains i = true) (hw : (chainOk md ops st i cs && cs.all fun c => !listed.getD c true) = true)
    (hQ : ∀ c a w, Q (.panic c) (a.put oi.dst v) w → Q (.panic c) a w) (hS : S w) (hwant : Region.wanted oi (yielded ops a.tmps) = true)
    (hd : oi.dst = d) (hrun : ∀ w, S w → (execOp a.eval oi).run P w = .ok (.value v) w)
    (h : wpAnyT P md ops Q S st fuel (listed.setIfInBounds i true) (a.put d v) w) : wpAnyT P md ops Q S st (fuel + 1) listed a w := by
  subst hd
  simp only [Bool.and_eq_true, List.all_eq_true, Bool.not_eq_true'] at hw
  exact wpAnyT_firstC cs hi (Region.noSelect_spec hs) hw.1 hQ fuel listed a w (Region.free_spec hi hf) hw.2 (by simpa using hr) (.inl ⟨hwant, hrun⟩) hS h
theorem wpAnyT_pureD {st : Nat} (i : Nat) (d : Option Tmp) (v : Value) {oi : Oper} {fuel : Nat} {listed : Array Bool} {a : Act} {w : World} (hi : ops[i]? = some oi)
    (hs : Region.noSelect ops = true) (hf : Region.free md ops listed i = true) (hr : (Region.ready md ops listed).contains i = true) (hw : waits md ops st i = true)
    (hQ : ∀ c a w, Q (.panic c) (a.put oi.dst v) w → Q (.panic c) a w) (hS : S w) (hwant : Region.wanted oi (yielded ops a.tmps) = true)
    (hd : oi.dst = d) (hrun : ∀ w, S w → (execOp a.eval oi).run P w = .ok (.value v) w)
    (h : wpAnyT P md ops Q S st fuel (listed.setIfInBounds i true) (a.put d v) w) : wpAnyT P md ops Q S st (fuel + 1) listed a w := by
  subst hd
  exact wpAnyT_pure i v hi hs hf hr hw hQ hS hwant hrun h
/-- The one operation that may come up is a call: by its contract. -/
theorem wpAnyT_call {st : Nat} (i : Nat) (d : Option Tmp) (fn : FuncId) (vals : Array Value) {oi : Oper} {fuel : Nat} {listed : Array Bool} {a : Act} {w : World} (hi : ops[i]? = some oi)
    (hr : Region.ready md ops listed = [i]) (hwant : Region.wanted oi (yielded ops a.tmps) = true) (hrun : (execOp a.eval oi).run P w = .ok (.enter fn vals) w) (hd : oi.dst = d)
    (hc : Calls P fn vals w fun e w' => ∃ v, e = .returned v ∧ (i ≠ st → S w') ∧ wpAnyT P md ops Q S st fuel (listed.setIfInBounds i true) (a.put d v) w') : wpAnyT P md ops Q S st (fuel + 1) listed a w := by
  subst hd
  refine wpAnyT_all hr (by simp) fun j hj => ?_
  obtain rfl : j = i := by simpa using hj
  unfold wpOp
  rw [hi]
  show if Region.wanted oi (yielded ops a.tmps) then _ else _
  rw [if_pos hwant]
  left
  unfold Oper.wp
  rw [hrun, Oper.upon_enter]
  refine hc.mono ?_
  rintro e w' ⟨v, rfl, h1, h2⟩
  exact ⟨h1, h2⟩
/-- The one operation that may come up leaves nothing in its slot and another world. -/
theorem wpAnyT_step {st : Nat} (i : Nat) (d : Option Tmp) (w' : World) {oi : Oper} {fuel : Nat} {listed : Array Bool} {a : Act} {w : World} (hi : ops[i]? = some oi)
    (hr : Region.ready md ops listed = [i]) (hwant : Region.wanted oi (yielded ops a.tmps) = true) (hrun : (execOp a.eval oi).run P w = .ok .skip w') (hd : oi.dst = d)
    (hS : i ≠ st → S w') (h : wpAnyT P md ops Q S st fuel (listed.setIfInBounds i true) (a.put d undef) w') : wpAnyT P md ops Q S st (fuel + 1) listed a w := by
  subst hd
  refine wpAnyT_all hr (by simp) fun j hj => ?_
  obtain rfl : j = i := by simpa using hj
  unfold wpOp
  rw [hi]
  show if Region.wanted oi (yielded ops a.tmps) then _ else _
  rw [if_pos hwant]
  left
  unfold Oper.wp
  rw [hrun, Oper.upon_skip]
  exact ⟨hS, h⟩
/-- .. or leaves a value. -/
theorem wpAnyT_value {st : Nat} (i : Nat) (d : Option Tmp) (v : Value) (w' : World) {oi : Oper} {fuel : Nat} {listed : Array Bool} {a : Act} {w : World} (hi : ops[i]? = some oi)
    (hr : Region.ready md ops listed = [i]) (hwant : Region.wanted oi (yielded ops a.tmps) = true) (hrun : (execOp a.eval oi).run P w = .ok (.value v) w') (hd : oi.dst = d)
    (hS : i ≠ st → S w') (h : wpAnyT P md ops Q S st fuel (listed.setIfInBounds i true) (a.put d v) w') : wpAnyT P md ops Q S st (fuel + 1) listed a w := by
  subst hd
  refine wpAnyT_all hr (by simp) fun j hj => ?_
  obtain rfl : j = i := by simpa using hj
  unfold wpOp
  rw [hi]
  show if Region.wanted oi (yielded ops a.tmps) then _ else _
  rw [if_pos hwant]
  left
  unfold Oper.wp
  rw [hrun, Oper.upon_value]
  exact ⟨hS, h⟩
end
end Go.Proofs.Ytbgoogjhgeoapaa
