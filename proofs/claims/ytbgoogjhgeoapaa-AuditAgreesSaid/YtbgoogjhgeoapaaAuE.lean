/- What the audit answers is what the reference answers, at every valid log. Plain Lean. -/
import Derived.Test.YtbgoogjhgeoapaaAuP
set_option linter.unusedVariables false
set_option linter.unusedSimpArgs false
set_option linter.unusedSectionVars false
namespace Go.Proofs.Ytbgoogjhgeoapaa

/-- The audit's account and the reference's, behind the entries pre. -/
structure RelA (pre : List TV) (a : Acc) (r : RAcc) : Prop where
  id : a.id = r.query
  df : a.df = r.df
  turns : a.turns = r.turns
  may : a.may = r.may
  gone : a.gone = goneB pre a.id
  tb : a.turns = (begins pre a.id : Int)
  seen : (r.seen = -1 ∧ a.turns = 0) ∨ ∃ k : Nat, r.seen = (k : Int) ∧ 0 < a.turns ∧ (∃ x, pre[k]? = some x ∧ x.q = a.id) ∧ ∀ b, b ≠ a.id → a.since b = (begins (pre.drop (k + 1)) b : Int)
def Rls (pre : List TV) : List Acc → List RAcc → Prop
  | [], [] => True
  | a :: as, r :: rs => RelA pre a r ∧ Rls pre as rs
  | _, _ => False

theorem begins_snoc (l : List TV) (x : TV) (b : Int) : begins (l ++ [x]) b = begins l b + (if x.q = b ∧ 0 < x.qu then 1 else 0) := by
  unfold begins
  rw [List.countP_append]
  congr 1
  by_cases h1 : x.q = b <;> by_cases h2 : 0 < x.qu <;> simp [h1, h2]
theorem goneB_snoc (l : List TV) (x : TV) (b : Int) : goneB (l ++ [x]) b = (goneB l b || (decide (x.q = b) && x.fin)) := by
  unfold goneB
  simp [List.any_append]
theorem begins_fresh {l : List TV} {b : Int} (h : ∀ x ∈ l, x.q ≠ b) : begins l b = 0 := by
  unfold begins
  rw [List.countP_eq_zero]
  intro x hx
  simp [h x hx]
theorem goneB_fresh {l : List TV} {b : Int} (h : ∀ x ∈ l, x.q ≠ b) : goneB l b = false := by
  unfold goneB
  rw [List.any_eq_false]
  intro x hx
  simp [h x hx]

theorem Rls.mono {pre pre' : List TV} {f : Acc → Acc} {g : RAcc → RAcc} (h : ∀ a r, RelA pre a r → RelA pre' (f a) (g r)) : ∀ {as : List Acc} {rs : List RAcc}, Rls pre as rs → Rls pre' (as.map f) (rs.map g)
  | [], [], _ => trivial
  | _ :: _, _ :: _, ⟨h1, h2⟩ => ⟨h _ _ h1, Rls.mono h h2⟩
theorem Rls.find {pre : List TV} (q : Int) : ∀ {as : List Acc} {rs : List RAcc}, Rls pre as rs → (accOf as q = none ∧ findR rs q = none) ∨ ∃ a r, accOf as q = some a ∧ findR rs q = some r ∧ RelA pre a r ∧ a.id = q
  | [], [], _ => .inl ⟨rfl, rfl⟩
  | a :: as, r :: rs, ⟨h1, h2⟩ => by
    by_cases e : a.id = q
    · refine .inr ⟨a, r, ?_, ?_, h1, e⟩
      · simp [accOf, e]
      · simp [findR, ← h1.id, e]
    · have e' : r.query ≠ q := h1.id ▸ e
      rcases Rls.find q h2 with ⟨h3, h4⟩ | ⟨b, s, h3, h4, h5⟩
      · exact .inl ⟨by simpa [accOf, e] using h3, by simpa [findR, e'] using h4⟩
      · exact .inr ⟨b, s, by simpa [accOf, e] using h3, by simpa [findR, e'] using h4, h5⟩
theorem Rls.snoc {pre : List TV} {a : Acc} {r : RAcc} (hr : RelA pre a r) : ∀ {as : List Acc} {rs : List RAcc}, Rls pre as rs → Rls pre (as ++ [a]) (rs ++ [r])
  | [], [], _ => ⟨hr, trivial⟩
  | _ :: _, _ :: _, ⟨h1, h2⟩ => ⟨h1, Rls.snoc hr h2⟩
theorem accOf_snoc {as : List Acc} {a : Acc} (h : accOf as a.id = none) : accOf (as ++ [a]) a.id = some a := by
  unfold accOf at h ⊢
  rw [List.find?_append, h]
  simp
theorem findR_snoc {rs : List RAcc} {r : RAcc} (h : findR rs r.query = none) : findR (rs ++ [r]) r.query = some r := by
  unfold findR at h ⊢
  rw [List.find?_append, h]
  simp

/-- An account of a query of which there's none yet. -/
theorem rel_new {pre : List TV} {q : Int} (h : ∀ x ∈ pre, x.q ≠ q) : RelA pre (newAcc q) (newR q) :=
  ⟨rfl, rfl, rfl, rfl, (goneB_fresh h).symm, by simp [newAcc, begins_fresh h], .inl ⟨rfl, rfl⟩⟩

/-- Behind 'ensure' both lists have the query. -/
theorem ensure_rel {pre : List TV} {as : List Acc} {rs : List RAcc} (h : Rls pre as rs) (hk : ∀ x ∈ pre, (accOf as x.q).isSome) (q : Int) :
    Rls pre (ensure as q) (ensureR rs q) ∧ (accOf (ensure as q) q).isSome ∧ (∀ x ∈ pre, (accOf (ensure as q) x.q).isSome) ∧ RelA pre (getAcc (ensure as q) q) (getR (ensureR rs q) q) ∧ (getAcc (ensure as q) q).id = q := by
  rcases h.find q with ⟨h1, h2⟩ | ⟨a, r, h1, h2, h3, h4⟩
  · have hf : ∀ x ∈ pre, x.q ≠ q := by
      intro x hx e
      have := hk x hx
      rw [e, h1] at this
      cases this
    have e1 : ensure as q = as ++ [newAcc q] := by simp [ensure, h1]
    have e2 : ensureR rs q = rs ++ [newR q] := by simp [ensureR, h2]
    have e3 : accOf (as ++ [newAcc q]) q = some (newAcc q) := accOf_snoc (a := newAcc q) h1
    have e4 : findR (rs ++ [newR q]) q = some (newR q) := findR_snoc (r := newR q) h2
    rw [e1, e2]
    refine ⟨h.snoc (rel_new hf), by rw [e3]; rfl, ?_, ?_, ?_⟩
    · intro x hx
      have := hk x hx
      unfold accOf at this ⊢
      rw [List.find?_append]
      cases hh : List.find? (fun a => decide (a.id = x.q)) as
      · rw [hh] at this; cases this
      · rfl
    · simp only [getAcc, getR, e3, e4]
      exact rel_new hf
    · simp only [getAcc, e3]
      rfl
  · have e1 : ensure as q = as := by simp [ensure, h1]
    have e2 : ensureR rs q = rs := by simp [ensureR, h2]
    rw [e1, e2]
    refine ⟨h, by rw [h1]; rfl, hk, ?_, ?_⟩
    · simpa only [getAcc, getR, h1, h2] using h3
    · simpa only [getAcc, h1] using h4

theorem accOf_map {f : Acc → Acc} (hf : ∀ a, (f a).id = a.id) (l : List Acc) (q : Int) : accOf (l.map f) q = (accOf l q).map f := by
  unfold accOf
  rw [List.find?_map]
  congr 1
  congr 1
  funext a
  simp [hf]
theorem accOf_id {l : List Acc} {q : Int} {a : Acc} (h : accOf l q = some a) : a.id = q := by
  have := List.find?_some h
  simpa using this
theorem putAcc_id (a : Acc) (y : Acc) : (if y.id = a.id then a else y).id = y.id := by
  split
  · rename_i h; exact h.symm
  · rfl
theorem getAcc_put {l : List Acc} {a : Acc} (h : (accOf l a.id).isSome) : getAcc (putAcc l a) a.id = a := by
  unfold getAcc putAcc
  rw [accOf_map (putAcc_id a)]
  cases hh : accOf l a.id with
  | none => rw [hh] at h; cases h
  | some y => simp [accOf_id hh]
theorem putAcc_put (l : List Acc) (a b : Acc) (h : a.id = b.id) : putAcc (putAcc l a) b = putAcc l b := by
  unfold putAcc
  rw [List.map_map]
  congr 1
  funext y
  simp only [Function.comp]
  by_cases e : y.id = a.id
  · simp [e, h]
  · simp [e]
theorem isSome_map {f : Acc → Acc} (hf : ∀ a, (f a).id = a.id) {l : List Acc} {q : Int} (h : (accOf l q).isSome) : (accOf (l.map f) q).isSome := by
  rw [accOf_map hf]
  simpa using h
theorem bumpAcc_id (q : Int) (y : Acc) : (bumpAcc q y).id = y.id := by
  unfold bumpAcc
  split <;> rfl

/-- An account that an entry leaves alone. -/
theorem rel_other {pre : List TV} {a : Acc} {r : RAcc} {x : TV} (h : RelA pre a r) (hq : a.id ≠ x.q) (hqu : ¬ 0 < x.qu) : RelA (pre ++ [x]) a r := by
  refine ⟨h.id, h.df, h.turns, h.may, ?_, ?_, ?_⟩
  · rw [goneB_snoc, h.gone]; simp [Ne.symm hq]
  · rw [begins_snoc, h.tb]; simp [hqu]
  · rcases h.seen with h1 | ⟨k, h1, h2, ⟨y, hy, hyq⟩, h3⟩
    · exact .inl h1
    · have hk : k < pre.length := (List.getElem?_eq_some_iff.1 hy).1
      refine .inr ⟨k, h1, h2, ⟨y, by rw [List.getElem?_append_left hk]; exact hy, hyq⟩, fun b hb => ?_⟩
      rw [List.drop_append_of_le_length (by omega), begins_snoc, h3 b hb]
      simp [hqu]
/-- An account where another query begins a turn. -/
theorem rel_bump {pre : List TV} {a : Acc} {r : RAcc} {x : TV} (h : RelA pre a r) (hq : a.id ≠ x.q) (hqu : 0 < x.qu) : RelA (pre ++ [x]) (bumpAcc x.q a) r := by
  have hid := bumpAcc_id x.q a
  have ht : (bumpAcc x.q a).turns = a.turns := by unfold bumpAcc; split <;> rfl
  have hd : (bumpAcc x.q a).df = a.df := by unfold bumpAcc; split <;> rfl
  have hm : (bumpAcc x.q a).may = a.may := by unfold bumpAcc; split <;> rfl
  have hg : (bumpAcc x.q a).gone = a.gone := by unfold bumpAcc; split <;> rfl
  refine ⟨hid.trans h.id, hd.trans h.df, ht.trans h.turns, hm.trans h.may, ?_, ?_, ?_⟩
  · rw [goneB_snoc, hg, hid, h.gone]; simp [Ne.symm hq]
  · rw [begins_snoc, ht, hid, h.tb]; simp [Ne.symm hq]
  · rw [ht, hid]
    rcases h.seen with h1 | ⟨k, h1, h2, ⟨y, hy, hyq⟩, h3⟩
    · exact .inl h1
    · have hk : k < pre.length := (List.getElem?_eq_some_iff.1 hy).1
      refine .inr ⟨k, h1, h2, ⟨y, by rw [List.getElem?_append_left hk]; exact hy, hyq⟩, fun b hb => ?_⟩
      rw [List.drop_append_of_le_length (by omega), begins_snoc]
      have e : bumpAcc x.q a = { a with since := bump a.since x.q } := by
        unfold bumpAcc
        rw [if_neg]
        rintro (e | e)
        · exact hq e
        · omega
      rw [e]
      show bump a.since x.q b = _
      unfold bump
      by_cases hbq : b = x.q
      · rw [if_pos hbq, h3 b hb, if_pos ⟨hbq.symm, hqu⟩]
        omega
      · rw [if_neg hbq, h3 b hb, if_neg (fun e => hbq e.1.symm)]
        omega

theorem bad_fair {pre rest : List TV} {a y : Acc} {ra ry : RAcc} (ha : RelA pre a ra) (hy : RelA pre y ry) {k : Nat} (hk : ra.seen = (k : Int)) : badB a y = !fair1 (pre ++ rest) k pre.length a.id ry.query := by
  rcases ha.seen with ⟨h1, _⟩ | ⟨k', h1, h2, ⟨x, hx, hxq⟩, h3⟩
  · omega
  have hkk : k' = k := by omega
  subst hkk
  have hlt : k' < pre.length := (List.getElem?_eq_some_iff.1 hx).1
  unfold badB fair1
  rw [← hy.id]
  by_cases e : y.id = a.id
  · simp [e]
  · have e1 : (pre ++ rest).take pre.length = pre := by simp
    have e2 : (pre ++ rest).take k' = pre.take k' := List.take_append_of_le_length (by omega)
    have e3 : y.turns = ((begins (pre.take k') y.id + begins (pre.drop (k' + 1)) y.id : Nat) : Int) := by
      rw [hy.tb]
      congr 1
      have hsplit : pre = pre.take k' ++ (x :: pre.drop (k' + 1)) := by
        rw [← List.take_append_drop k' pre]
        congr 1
        · simp
        · simp only [List.take_append_drop]
          have := List.drop_eq_getElem_cons hlt
          rw [this]
          congr 1
          exact (List.getElem?_eq_some_iff.1 hx).2
      have hxb : begins [x] y.id = 0 := begins_fresh (by simp [hxq, Ne.symm e])
      have : begins pre y.id = begins (pre.take k') y.id + begins (x :: pre.drop (k' + 1)) y.id := by
        conv => lhs; rw [hsplit]
        unfold begins
        rw [List.countP_append]
      rw [this]
      have e4 : begins (x :: pre.drop (k' + 1)) y.id = begins [x] y.id + begins (pre.drop (k' + 1)) y.id := by
        unfold begins
        rw [← List.countP_append]
        rfl
      rw [e4, hxb]
      omega
    rw [e1, e2, ← hy.gone, h3 y.id e, e3]
    simp only [if_neg e]
    generalize begins (pre.take k') y.id = m
    generalize begins (pre.drop (k' + 1)) y.id = n
    cases y.gone <;> simp [e, h2] <;> by_cases c1 : n = 0 <;> by_cases c2 : 1 < n <;> by_cases c3 : m = 0 <;> simp [c1, c2, c3] <;> omega

theorem any_fair {pre rest : List TV} {a : Acc} {ra : RAcc} (ha : RelA pre a ra) {k : Nat} (hk : ra.seen = (k : Int)) : ∀ {as : List Acc} {rs : List RAcc}, Rls pre as rs → as.any (badB a) = !fairB (pre ++ rest) k pre.length rs a.id
  | [], [], _ => rfl
  | y :: as, ry :: rs, ⟨h1, h2⟩ => by
    have h3 := any_fair (rest := rest) ha hk h2
    have h4 := bad_fair (rest := rest) ha h1 hk
    unfold fairB at h3 ⊢
    rw [List.any_cons, List.all_cons, h3, h4]
    simp
theorem any_none {a : Acc} (ha : ¬ 0 < a.turns) (as : List Acc) : as.any (badB a) = false := by
  rw [List.any_eq_false]
  intro y _
  unfold badB
  simp [ha]
theorem mayR_eq (c : CV) {a : Acc} {r : RAcc} (h1 : a.turns = r.turns) (h2 : a.may = r.may) (qu : Int) : mayR c r qu = mayQ c a qu := by
  unfold mayR mayQ
  rw [h1, h2]
  congr 1
  funext p
  congr 1
  simp [eq_comm]

structure RelS (pre : List TV) (s : Aud) (all : List RAcc) (op : Int) : Prop where
  rel : Rls pre s.known all
  all : ∀ x ∈ pre, (accOf s.known x.q).isSome
  op : (s.op = true ∧ op = s.last ∧ 0 ≤ op) ∨ (s.op = false ∧ op = -1)

theorem turnB_q {x : TV} (h : turnB x = true) : 0 ≤ x.q ∧ 0 ≤ x.qu := by
  unfold turnB cnB btwB at h
  simp only [Bool.and_eq_true, decide_eq_true_eq] at h
  exact ⟨h.1.1, h.2.1.1⟩

theorem all_snoc {pre : List TV} {x : TV} {l : List Acc} (h : ∀ y ∈ pre, (accOf l y.q).isSome) (hx : (accOf l x.q).isSome) : ∀ y ∈ pre ++ [x], (accOf l y.q).isSome := by
  intro y hy
  rcases List.mem_append.1 hy with h1 | h1
  · exact h y h1
  · rw [List.mem_singleton.1 h1]; exact hx
theorem all_map {pre : List TV} {f : Acc → Acc} (hf : ∀ a, (f a).id = a.id) {l : List Acc} (h : ∀ y ∈ pre, (accOf l y.q).isSome) : ∀ y ∈ pre, (accOf (l.map f) y.q).isSome :=
  fun y hy => isSome_map hf (h y hy)

/-- The costs of an entry, on both sides. -/
theorem spend_rel {pre : List TV} {x : TV} {l : List Acc} {rs : List RAcc} {a : Acc} {ra : RAcc}
    (hl : ∀ y r, RelA pre y r → y.id ≠ x.q → RelA (pre ++ [x]) (if 0 < x.qu then bumpAcc x.q y else y) r) (h : Rls pre l rs) (hall : ∀ y ∈ pre ++ [x], (accOf l y.q).isSome)
    (ha : RelA (pre ++ [x]) { a with df := a.df + x.qu - x.co, gone := x.fin } { ra with df := ra.df - x.co }) (hq : a.id = x.q) (hq0 : 0 ≤ x.q) (hd : ra.df = a.df + x.qu)
    (l' : List Acc) (hg : getAcc l' x.q = a) (hput : ∀ b : Acc, b.id = x.q → putAcc l' b = putAcc (l.map fun y => if 0 < x.qu then bumpAcc x.q y else y) b) :
    (spendA l' x = none ∧ ((0 < x.st ∧ ra.df ≤ 0) ∨ ra.df - x.co < -7)) ∨
    (∃ s', spendA l' x = some s' ∧ ¬ ((0 < x.st ∧ ra.df ≤ 0) ∨ ra.df - x.co < -7) ∧ RelS (pre ++ [x]) s' (putR rs { ra with df := ra.df - x.co }) (if x.fin = false ∧ 0 < ra.df - x.co then x.q else -1)) := by
  have hid : ∀ y : Acc, (if 0 < x.qu then bumpAcc x.q y else y).id = y.id := fun y => by split; exact bumpAcc_id _ _; rfl
  have hpp := hput { a with df := a.df + x.qu - x.co, gone := x.fin } hq
  unfold spendA
  simp only [hg, hd]
  by_cases c1 : 0 < x.st ∧ a.df + x.qu ≤ 0
  · left; exact ⟨by rw [if_pos c1], .inl c1⟩
  by_cases c2 : a.df + x.qu - x.co < -7
  · left; exact ⟨by rw [if_neg c1, if_pos c2], .inr c2⟩
  right
  rw [if_neg c1, if_neg c2]
  refine ⟨_, rfl, by rintro (h1 | h1); exact c1 h1; exact c2 h1, ?_, ?_, ?_⟩
  · show Rls (pre ++ [x]) (putAcc l' _) _
    rw [hpp]
    unfold putAcc putR
    rw [List.map_map]
    refine h.mono ?_
    intro y r hy
    simp only [Function.comp, hid]
    have ei : ra.query = x.q := by have := ha.id; simp only at this; rw [← this, hq]
    by_cases e : y.id = x.q
    · have e' : r.query = ra.query := by rw [← hy.id, e, ei]
      have e2 : y.id = a.id := e.trans hq.symm
      rw [if_pos e2, if_pos e', ← hd]
      rw [← hd] at ha
      exact ha
    · have e' : ¬ r.query = ra.query := by rw [← hy.id, ei]; exact e
      have e2 : ¬ y.id = a.id := fun h => e (h.trans hq)
      rw [if_neg e2, if_neg e']
      exact hl y r hy e
  · show ∀ y ∈ pre ++ [x], (accOf (putAcc l' _) y.q).isSome
    rw [hpp]
    exact all_map (putAcc_id _) (all_map hid hall)
  · show ((!x.fin && decide (0 < a.df + x.qu - x.co)) = true ∧ _ = x.q ∧ _) ∨ _
    by_cases c3 : x.fin = false ∧ 0 < a.df + x.qu - x.co
    · left
      rw [if_pos c3]
      exact ⟨by rw [c3.1]; simpa using c3.2, rfl, hq0⟩
    · right
      rw [if_neg c3]
      refine ⟨?_, rfl⟩
      cases hfin : x.fin
      · simp only [Bool.not_false, Bool.true_and, decide_eq_false_iff_not]
        exact fun h => c3 ⟨hfin, h⟩
      · rfl

theorem entry_rel {pre rest : List TV} {c : CV} {s : Aud} {all : List RAcc} {op : Int} {x : TV} (h : RelS pre s all op) (hx : turnB x = true) (hg : goneB pre x.q = false) :
    (entryA c s x = none ∧ entryR c (pre ++ rest) pre.length all op x = none) ∨
    ∃ s' r', entryA c s x = some s' ∧ entryR c (pre ++ rest) pre.length all op x = some r' ∧ RelS (pre ++ [x]) s' r'.1 r'.2 := by
  obtain ⟨hq0, hqu0⟩ := turnB_q hx
  obtain ⟨h1, h2, h3, h4, h5⟩ := ensure_rel h.rel h.all x.q
  unfold entryA entryR
  generalize ensure s.known x.q = l at *
  generalize ensureR all x.q = rs at *
  generalize hga : getAcc l x.q = a at *
  generalize hgr : getR rs x.q = ra at *
  have hag : a.gone = false := by rw [h4.gone, h5, hg]
  by_cases hlv : leaveB x = true
  · right
    have hlv' := hlv
    unfold leaveB at hlv'
    simp only [Bool.and_eq_true, decide_eq_true_eq] at hlv'
    obtain ⟨e1, e2, e3⟩ := hlv'
    simp only [hlv, if_true]
    refine ⟨_, _, rfl, rfl, ?_, ?_, ?_⟩
    · show Rls (pre ++ [x]) (goneAcc l x.q) rs
      have e := h1.mono (pre' := pre ++ [x]) (f := fun y => if y.id = x.q then { y with gone := true } else y) (g := id) (fun y r hy => ?_)
      · unfold goneAcc; simpa using e
      · by_cases e : y.id = x.q
        · show RelA _ (if y.id = x.q then { y with gone := true } else y) r
          rw [if_pos e]
          refine ⟨hy.id, hy.df, hy.turns, hy.may, ?_, ?_, ?_⟩
          · show true = goneB (pre ++ [x]) y.id
            rw [goneB_snoc, e3, e]; simp
          · show y.turns = (begins (pre ++ [x]) y.id : Int)
            rw [begins_snoc, hy.tb, if_neg (fun h => by omega)]; rfl
          · rcases hy.seen with h1 | ⟨k, h1, h2, ⟨z, hz, hzq⟩, h3⟩
            · exact .inl h1
            · have hk : k < pre.length := (List.getElem?_eq_some_iff.1 hz).1
              refine .inr ⟨k, h1, h2, ⟨z, by rw [List.getElem?_append_left hk]; exact hz, hzq⟩, fun b hb => ?_⟩
              rw [List.drop_append_of_le_length (by omega), begins_snoc, if_neg (fun h => by omega)]
              exact h3 b hb
        · show RelA _ (if y.id = x.q then { y with gone := true } else y) r
          rw [if_neg e]
          exact rel_other hy e (by omega)
    · refine all_map (f := fun y => if y.id = x.q then { y with gone := true } else y) (fun y => ?_) (all_snoc h3 h2)
      split <;> rfl
    · rcases h.op with ⟨h6, h7, h8⟩ | ⟨h6, h7⟩
      · by_cases e : x.q = s.last
        · right; simp [e, h7]
        · left
          have : ¬ op = x.q := by rw [h7]; exact fun e' => e e'.symm
          have h9 : 0 ≤ s.last := h7 ▸ h8
          refine ⟨by simp [h6, e], ?_, ?_⟩ <;> rw [if_neg this] <;> assumption
      · right
        have : ¬ op = x.q := by omega
        simp [h6, h7]
  have hlv : leaveB x = false := by simpa using hlv
  simp only [hlv, Bool.false_eq_true, if_false, hgr]
  have hall := all_snoc h3 h2
  have hacc : accOf l x.q = some a := by
    cases hh : accOf l x.q with
    | none => rw [hh] at h2; cases h2
    | some y => rw [← hga, getAcc, hh]
  by_cases hqu : 0 < x.qu
  · simp only [hqu, if_true, turnR, beginA, hga, mayR_eq c h4.turns h4.may]
    rcases h.op with ⟨h6, h7, h8⟩ | ⟨h6, h7⟩
    · left; simp [h6, h8]
    have hop : ¬ (0 : Int) ≤ op := by omega
    by_cases hm : (mayQ c a x.qu).any id = false
    · left; simp [h6, hm]
    have hbad : l.any (badB a) = true ↔ (0 ≤ ra.seen ∧ fairB (pre ++ rest) ra.seen.toNat pre.length rs x.q = false) := by
      rcases h4.seen with ⟨h8, h9⟩ | ⟨k, h8, h9, -⟩
      · rw [any_none (by omega)]
        simp [h8]
      · rw [any_fair (rest := rest) h4 h8 h1, h8, h5]
        simp
    by_cases hb : l.any (badB a) = true
    · left
      have hb' := hbad.1 hb
      simp [h6, hm, hb, hb']
    have hb' : ¬ (0 ≤ ra.seen ∧ fairB (pre ++ rest) ra.seen.toNat pre.length rs x.q = false) := fun e => hb (hbad.2 e)
    have hno : ¬ (0 ≤ op ∨ (mayQ c a x.qu).any id = false ∨ (0 ≤ ra.seen ∧ fairB (pre ++ rest) ra.seen.toNat pre.length rs x.q = false)) := by
      rintro (e | e | e)
      · exact hop e
      · exact hm e
      · exact hb' e
    have hno' : (0 ≤ op ∨ (mayQ c a x.qu).any id = false ∨ (0 ≤ ra.seen ∧ fairB (pre ++ rest) ra.seen.toNat pre.length rs x.q = false)) = False := eq_false hno
    rw [if_neg hno]
    simp only [h6, hm, hb, if_false]
    have hid : ∀ y : Acc, (bumpAcc x.q y).id = y.id := bumpAcc_id x.q
    have hsm : (accOf (l.map (bumpAcc x.q)) x.q).isSome := isSome_map hid h2
    have := spend_rel (pre := pre) (x := x) (l := l) (rs := rs) (a := { a with may := mayQ c a x.qu, turns := a.turns + 1, since := fun _ => 0 }) (ra := { ra with may := mayQ c a x.qu, turns := ra.turns + 1, seen := (pre.length : Int), df := ra.df + x.qu })
      (fun y r hy e => by rw [if_pos hqu]; exact rel_bump hy e hqu) h1 hall ?_ h5 hq0 (by simp [h4.df]) (putAcc (l.map (bumpAcc x.q)) { a with may := mayQ c a x.qu, turns := a.turns + 1, since := fun _ => 0 }) ?_ ?_
    · rcases this with ⟨h8, h9⟩ | ⟨s', h8, h9, h10⟩
      · left; refine ⟨by simp [h8], ?_⟩
        rw [if_pos h9]
      · right; refine ⟨s', _, by simp [h8], by rw [if_neg h9], h10⟩
    · refine ⟨h4.id, ?_, ?_, rfl, ?_, ?_, .inr ⟨pre.length, rfl, ?_, ⟨x, by simp, h5.symm⟩, fun b _ => ?_⟩⟩
      · show a.df + x.qu - x.co = ra.df + x.qu - x.co
        rw [h4.df]
      · show a.turns + 1 = ra.turns + 1
        rw [h4.turns]
      · show x.fin = goneB (pre ++ [x]) a.id
        rw [goneB_snoc, h5, hg]; simp
      · show a.turns + 1 = (begins (pre ++ [x]) a.id : Int)
        rw [begins_snoc, h4.tb, if_pos ⟨h5.symm, hqu⟩]; omega
      · show 0 < a.turns + 1
        have := h4.tb; omega
      · show (0 : Int) = _
        simp [begins]
    · rw [← h5]
      exact getAcc_put (a := { a with may := mayQ c a x.qu, turns := a.turns + 1, since := fun _ => 0 }) (by show (accOf _ a.id).isSome; rw [h5]; exact hsm)
    · intro b hbq
      simp only [hqu, if_true]
      exact putAcc_put _ _ _ (by rw [hbq]; exact h5)
  · have hqu' : x.qu = 0 := by omega
    simp only [hqu, if_false, turnR]
    have hop : (s.op = false ∨ x.q ≠ s.last) ↔ op ≠ x.q := by
      rcases h.op with ⟨h6, h7, h8⟩ | ⟨h6, h7⟩
      · simp only [h6, h7]
        constructor
        · rintro (e | e)
          · cases e
          · exact fun e' => e e'.symm
        · exact fun e => .inr fun e' => e e'.symm
      · simp only [h6, h7, true_or, true_iff]
        omega
    by_cases hc : s.op = false ∨ x.q ≠ s.last
    · left; simp only [if_pos hc, if_pos (hop.1 hc)]; exact ⟨trivial, trivial⟩
    simp only [if_neg hc, if_neg (fun e => hc (hop.2 e))]
    have := spend_rel (pre := pre) (x := x) (l := l) (rs := rs) (a := a) (ra := ra)
      (fun y r hy e => by rw [if_neg hqu]; exact rel_other hy e hqu) h1 hall ?_ h5 hq0 (by rw [h4.df, hqu']; omega) l hga ?_
    · rcases this with ⟨h8, h9⟩ | ⟨s', h8, h9, h10⟩
      · left; refine ⟨h8, ?_⟩
        rw [if_pos h9]
      · right; refine ⟨s', _, h8, by rw [if_neg h9], h10⟩
    · refine ⟨h4.id, ?_, h4.turns, h4.may, ?_, ?_, ?_⟩
      · show a.df + x.qu - x.co = ra.df - x.co
        rw [h4.df, hqu']; omega
      · show x.fin = goneB (pre ++ [x]) a.id
        rw [goneB_snoc, h5, hg]; simp
      · show a.turns = (begins (pre ++ [x]) a.id : Int)
        rw [begins_snoc, h4.tb, if_neg (fun h => hqu h.2)]; rfl
      · rcases h4.seen with h1 | ⟨k, h1, h2, ⟨z, hz, hzq⟩, h3⟩
        · exact .inl h1
        · have hk : k < pre.length := (List.getElem?_eq_some_iff.1 hz).1
          refine .inr ⟨k, h1, h2, ⟨z, by rw [List.getElem?_append_left hk]; exact hz, hzq⟩, fun b hb => ?_⟩
          show a.since b = _
          rw [List.drop_append_of_le_length (by omega), begins_snoc, if_neg (fun h => hqu h.2)]
          exact h3 b hb
    · intro b _
      simp [hqu]

theorem go_eq (c : CV) : ∀ (rest pre : List TV) (s : Aud) (all : List RAcc) (op : Int) (d : Int → Bool), RelS pre s all op → (∀ k, d k = goneB pre k) → vgo d rest = true →
    auditGo c s pre.length rest = auditRGo c (pre ++ rest) all op pre.length rest
  | [], pre, s, all, op, d, _, _, _ => rfl
  | x :: rest, pre, s, all, op, d, h, hd, hv => by
    unfold vgo at hv
    simp only [Bool.and_eq_true, Bool.not_eq_true'] at hv
    obtain ⟨h1, h2, h3⟩ := hv
    unfold auditGo auditRGo
    rcases entry_rel (rest := x :: rest) (c := c) h h1 (by rw [← hd]; exact h2) with ⟨e1, e2⟩ | ⟨s', r', e1, e2, e3⟩
    · rw [e1, e2]
    · rw [e1, e2]
      have := go_eq c rest (pre ++ [x]) s' r'.1 r'.2 _ e3 (fun k => ?_) h3
      · simpa using this
      · rw [goneB_snoc, ← hd]
        by_cases e : k = x.q
        · subst e; simp [h2]
        · simp [e, Ne.symm e]
/-- The audit answers what the reference answers. -/
theorem audit_eq (c : CV) (l : List TV) : auditT c l = auditR c l := by
  unfold auditT auditR
  split
  · rfl
  · rename_i h
    have hl : logB l = true := by
      cases e : logB l
      · exact absurd (.inr e) h
      · rfl
    unfold logB at hl
    simp only [Bool.and_eq_true] at hl
    exact go_eq c l [] ⟨[], 0, false⟩ [] (-1) _ ⟨trivial, (by intro x hx; cases hx), .inr ⟨rfl, rfl⟩⟩ (fun k => rfl) hl.2

/-! ### what stands ahead of the refused entry is accepted -/
theorem go_prefix (c : CV) : ∀ (l : List TV) (s : Aud) (i : Nat), ∃ k, k ≤ l.length ∧ ((auditGo c s i l = (((i + k : Nat) : Int), 0) ∧ k = l.length) ∨ (auditGo c s i l = (((i + k : Nat) : Int), 15) ∧ k < l.length ∧ auditGo c s i (l.take (k + 1)) = (((i + k : Nat) : Int), 15))) ∧ auditGo c s i (l.take k) = (((i + k : Nat) : Int), 0)
  | [], s, i => ⟨0, Nat.le_refl _, .inl ⟨rfl, rfl⟩, rfl⟩
  | x :: l, s, i => by
    cases e : entryA c s x with
    | none => exact ⟨0, Nat.zero_le _, .inr ⟨by simp [auditGo, e], by simp, by simp [auditGo, e]⟩, rfl⟩
    | some s' =>
      obtain ⟨k, h1, h2, h3⟩ := go_prefix c l s' (i + 1)
      have ea : i + 1 + k = i + (k + 1) := by omega
      refine ⟨k + 1, by simp; omega, ?_, ?_⟩
      · rcases h2 with ⟨h2, h4⟩ | ⟨h2, h4, h5⟩
        · left; exact ⟨by rw [auditGo, e, ← ea]; exact h2, by simp [h4]⟩
        · right; exact ⟨by rw [auditGo, e, ← ea]; exact h2, by simp; omega, by rw [List.take_succ_cons, auditGo, e, ← ea]; exact h5⟩
      · rw [List.take_succ_cons, auditGo, e, ← ea]; exact h3
theorem vgo_take (d : Int → Bool) : ∀ (l : List TV) (d : Int → Bool) (k : Nat), vgo d l = true → vgo d (l.take k) = true
  | [], _, _, _ => by simp [vgo]
  | x :: l, d, 0, _ => by simp [vgo]
  | x :: l, d, k + 1, h => by
    unfold vgo at h
    simp only [Bool.and_eq_true] at h
    rw [List.take_succ_cons]
    unfold vgo
    simp only [Bool.and_eq_true]
    exact ⟨h.1, h.2.1, vgo_take d l _ k h.2.2⟩
theorem logB_take (l : List TV) (k : Nat) (h : logB l = true) : logB (l.take k) = true := by
  unfold logB at h ⊢
  simp only [Bool.and_eq_true, decide_eq_true_eq] at h ⊢
  exact ⟨by rw [List.length_take]; omega, vgo_take (fun _ => false) _ _ _ h.2⟩
end Go.Proofs.Ytbgoogjhgeoapaa
