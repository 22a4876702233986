/- The logs that a ring writes, plain. No walk. -/
import Derived.Test.YtbgoogjhgeoapaaAuRp
set_option linter.unusedVariables false
set_option linter.unusedSimpArgs false
set_option linter.unusedSectionVars false
namespace Go.Proofs.Ytbgoogjhgeoapaa
open Go.RowKit
variable [Base]

def preT (s : SV) (ts : List TV) : List TV := if ts = [] then [⟨s.id, 0, 0, 0, false⟩] else ts
def setLast (l : List TV) (co : Int) (fin : Bool) : List TV := match l.getLast? with | none => l | some x => l.dropLast ++ [⟨x.q, x.qu, 1, co, fin⟩]
/-- What the rounds of the drawn log make: the ring, the log, the next query. -/
inductive LogI (c : CV) : Nat → RV → List TV → Nat → Prop
  | start : LogI c 0 ⟨c.ba, c.ag, [], 0, false⟩ [] 0
  | skip {k : Nat} {r : RV} {l : List TV} {n : Nat} : LogI c k r l n → LogI c (k + 1) r l n
  | add {k : Nat} {r : RV} {l : List TV} {n : Nat} {p : Int} : LogI c k r l n → r.ss.length < 4 → 0 ≤ p → p ≤ 3 → LogI c (k + 1) (addR r n p) l (n + 1)
  | leave {k : Nat} {r : RV} {l : List TV} {n i : Nat} {s : SV} : LogI c k r l n → r.ss[i]? = some s → LogI c (k + 1) (remR r i) (l ++ [⟨s.id, 0, 0, 0, true⟩]) n
  | turn {k : Nat} {r r1 : RV} {l ts : List TV} {n : Nat} {s : SV} {co : Int} {fin : Bool} : LogI c k r l n → PickI r r1 ts → r1.op = true → r1.ss[r1.at_]? = some s → 1 ≤ co → co ≤ 8 → LogI c (k + 1) (spendR r1 s co fin) (setLast (l ++ preT s ts) co fin) n
theorem setLast_snoc (l : List TV) (x : TV) (co : Int) (fin : Bool) : setLast (l ++ [x]) co fin = l ++ [⟨x.q, x.qu, 1, co, fin⟩] := by
  unfold setLast
  simp
theorem setLast_len (l : List TV) (co : Int) (fin : Bool) : (setLast l co fin).length = l.length := by
  rcases List.eq_nil_or_concat l with rfl | ⟨a, x, rfl⟩
  · rfl
  · rw [List.concat_eq_append, setLast_snoc]; simp
/-- What stands behind each round. -/
structure LogF (c : CV) (k : Nat) (r : RV) (l : List TV) (n : Nat) : Prop where
  ok : RingOk r
  ba : r.ba = c.ba
  pe : r.pe = c.ag
  len : r.ss.length ≤ 4
  nk : n ≤ k
  ids : ∀ s ∈ r.ss, 0 ≤ s.id ∧ s.id < n
  ll : l.length ≤ 31 * k
theorem mem_ids {l l' : List SV} {n : Int} (h : l'.map SV.id = l.map SV.id) (hl : ∀ s ∈ l, 0 ≤ s.id ∧ s.id < n) : ∀ s ∈ l', 0 ≤ s.id ∧ s.id < n := by
  intro s hs
  have h1 : s.id ∈ l'.map SV.id := List.mem_map.2 ⟨s, hs, rfl⟩
  rw [h] at h1
  obtain ⟨t, ht, e⟩ := List.mem_map.1 h1
  rw [← e]; exact hl t ht
theorem remR_mem {r : RV} {i : Nat} : ∀ s ∈ (remR r i).ss, s ∈ r.ss := by
  intro s hs
  rcases List.mem_append.1 hs with h | h
  · exact List.mem_of_mem_take h
  · exact List.mem_of_mem_drop h
theorem remR_len {r : RV} {i : Nat} (h : i < r.ss.length) : (remR r i).ss.length = r.ss.length - 1 := by
  show (r.ss.take i ++ r.ss.drop (i + 1)).length = _
  simp; omega
theorem addR_mem {r : RV} {id p : Int} : ∀ s ∈ (addR r id p).ss, s ∈ r.ss ∨ s.id = id := by
  intro s hs
  rcases List.mem_append.1 hs with h | h
  · exact .inl (List.mem_of_mem_take h)
  · rcases List.mem_cons.1 h with h | h
    · exact .inr (by rw [h])
    · exact .inl (List.mem_of_mem_drop h)
theorem addR_len {r : RV} (h : RingOk r) {id p : Int} : (addR r id p).ss.length = r.ss.length + 1 := by
  have hat := h.at_
  have hpl : posR r ≤ r.ss.length := by unfold posR; split <;> omega
  show (r.ss.take (posR r) ++ (⟨id, p, 0, 0⟩ :: r.ss.drop (posR r)) : List SV).length = _
  simp; omega
theorem spendR_ids {r : RV} {s : SV} (hs : r.ss[r.at_]? = some s) {co : Int} {fin : Bool} {n : Int} (hl : ∀ s ∈ r.ss, 0 ≤ s.id ∧ s.id < n) : (∀ t ∈ (spendR r s co fin).ss, 0 ≤ t.id ∧ t.id < n) ∧ (spendR r s co fin).ss.length ≤ r.ss.length ∧ (spendR r s co fin).ba = r.ba ∧ (spendR r s co fin).pe = r.pe := by
  have hlt := (List.getElem?_eq_some_iff.1 hs).1
  unfold spendR
  split
  · exact ⟨fun t ht => hl t (remR_mem t ht), by rw [remR_len hlt]; omega, rfl, rfl⟩
  · split
    · exact ⟨mem_ids (map_set_id (s' := payS s co) hs rfl) hl, by unfold payR; simp, rfl, rfl⟩
    · refine ⟨?_, by unfold overR payR; simp, rfl, rfl⟩
      unfold overR payR
      simp only [List.set_set]
      exact mem_ids (map_set_id (s' := overS (payS s co)) hs rfl) hl
theorem cnB_of {n : Nat} (h : n ≤ 1073741824) : cnB (n : Int) = true := by unfold cnB btwB; simp; omega
theorem preT_len (s : SV) (ts : List TV) : (preT s ts).length ≤ ts.length + 1 := by unfold preT; split <;> simp_all
theorem LogI.facts {c : CV} (hc : 1 ≤ c.ba ∧ c.ba ≤ 64) (hc2 : 1 ≤ c.ag ∧ c.ag ≤ 1024) {k : Nat} {r : RV} {l : List TV} {n : Nat} (h : LogI c k r l n) (hk : k ≤ 1000) : LogF c k r l n := by
  induction h with
  | start => exact ⟨⟨hc, hc2, by simp, .inr ⟨rfl, rfl⟩, (by intro h; cases h), .nil, (by intro s hs; cases hs), (by intro i s hs; simp at hs)⟩, rfl, rfl, by simp, Nat.le_refl _, (by intro s hs; cases hs), by simp⟩
  | skip _ ih =>
    have ih := ih (by omega)
    exact ⟨ih.ok, ih.ba, ih.pe, ih.len, by have := ih.nk; omega, ih.ids, by have := ih.ll; omega⟩
  | @add k r l n p _ h1 h2 h3 ih =>
    have ih := ih (by omega)
    have hnk := ih.nk
    refine ⟨addR_ok ih.ok (fun s hs => by have := ih.ids s hs; omega) (cnB_of (by omega)) h2 h3 (by omega), ih.ba, ih.pe, by rw [addR_len ih.ok]; omega, by omega, fun s hs => ?_, by have := ih.ll; omega⟩
    rcases addR_mem s hs with h4 | h4
    · have := ih.ids s h4; omega
    · omega
  | @leave k r l n i s _ hs ih =>
    have ih := ih (by omega)
    have hlt := (List.getElem?_eq_some_iff.1 hs).1
    exact ⟨remR_ok ih.ok hs, ih.ba, ih.pe, by rw [remR_len hlt]; have := ih.len; omega, by have := ih.nk; omega, fun t ht => ih.ids t (remR_mem t ht), by have := ih.ll; simp; omega⟩
  | @turn k r r1 l ts n s co fin _ hp ho hs h1 h2 ih =>
    have ih := ih (by omega)
    obtain ⟨f1, f2, f3, f4, f5, f6, f7⟩ := hp.facts ih.ok
    have hl7 := lackS_le ih.ok.lows
    have hl4 := ih.len
    obtain ⟨g1, g2, g3, g4⟩ := spendR_ids (co := co) (fin := fin) hs (mem_ids f5 ih.ids)
    refine ⟨spendR_ok f1 ho hs h1 h2 fin, by rw [g3, f2, ih.ba], by rw [g4, f3, ih.pe], by omega, by have := ih.nk; omega, g1, ?_⟩
    rw [setLast_len, List.length_append]
    have h3 := preT_len s ts
    have h4 := ih.ll
    omega
end Go.Proofs.Ytbgoogjhgeoapaa
