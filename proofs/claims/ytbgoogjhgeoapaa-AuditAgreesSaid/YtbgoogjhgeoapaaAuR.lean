/- The audit accepts what a ring does. Plain Lean, no program in sight. -/
import Derived.Test.YtbgoogjhgeoapaaAuE
set_option linter.unusedVariables false
set_option linter.unusedSimpArgs false
set_option linter.unusedSectionVars false
namespace Go.Proofs.Ytbgoogjhgeoapaa

/-- A seat, with how many turns it has begun. -/
structure CSeat where
  id : Int
  pri : Int
  turns : Int
  df : Int
abbrev AOf (s : Aud) (q : Int) : Acc := getAcc s.known q

theorem getAcc_id (l : List Acc) (q : Int) : (getAcc l q).id = q := by
  unfold getAcc
  cases h : accOf l q with
  | none => rfl
  | some a => exact accOf_id h
theorem getAcc_map {f : Acc → Acc} (hf : ∀ a, (f a).id = a.id) (hn : ∀ q, f (newAcc q) = newAcc q) (l : List Acc) (q : Int) : getAcc (l.map f) q = f (getAcc l q) := by
  unfold getAcc
  rw [accOf_map hf]
  cases accOf l q with
  | none => exact (hn q).symm
  | some a => rfl
theorem getAcc_bump (l : List Acc) (x q : Int) : getAcc (l.map (bumpAcc x)) q = bumpAcc x (getAcc l q) :=
  getAcc_map (bumpAcc_id x) (fun q => by unfold bumpAcc; rw [if_pos (.inr rfl)]) l q
theorem getAcc_put_ne (l : List Acc) {a : Acc} {q : Int} (h : q ≠ a.id) : getAcc (putAcc l a) q = getAcc l q := by
  unfold getAcc putAcc
  rw [accOf_map (putAcc_id a)]
  cases hh : accOf l q with
  | none => rfl
  | some y =>
    have := accOf_id hh
    simp only [Option.map_some]
    rw [if_neg (by rw [this]; exact h)]
theorem getAcc_ensure (l : List Acc) (p q : Int) : getAcc (ensure l p) q = getAcc l q := by
  unfold ensure
  cases h : accOf l p with
  | some a => rfl
  | none =>
    unfold getAcc
    by_cases e : q = p
    · subst e
      have : accOf (l ++ [newAcc q]) q = some (newAcc q) := accOf_snoc (a := newAcc q) h
      rw [this, h]
    · have : accOf (l ++ [newAcc p]) q = accOf l q := by
        unfold accOf
        rw [List.find?_append]
        have : List.find? (fun a => decide (a.id = q)) [newAcc p] = none := by simp [newAcc, Ne.symm e]
        rw [this]
        cases List.find? (fun a => decide (a.id = q)) l <;> rfl
      rw [this]
theorem isSome_ensure (l : List Acc) (q : Int) : (accOf (ensure l q) q).isSome := by
  unfold ensure
  cases h : accOf l q with
  | some a => simp [h]
  | none =>
    have : accOf (l ++ [newAcc q]) q = some (newAcc q) := accOf_snoc (a := newAcc q) h
    simp [this]
theorem mem_ensure {l : List Acc} {q : Int} {y : Acc} (h : y ∈ ensure l q) : y ∈ l ∨ y = newAcc q := by
  unfold ensure at h
  split at h
  · exact .inl h
  · rcases List.mem_append.1 h with h | h
    · exact .inl h
    · exact .inr (List.mem_singleton.1 h)
/-- No id stands twice. -/
def Uq (l : List Acc) : Prop := ∀ y ∈ l, accOf l y.id = some y
theorem Uq.ensure {l : List Acc} (h : Uq l) (q : Int) : Uq (ensure l q) := by
  intro y hy
  rcases mem_ensure hy with h1 | h1
  · have := h y h1
    unfold Go.Proofs.Ytbgoogjhgeoapaa.ensure
    split
    · exact this
    · unfold accOf at this ⊢
      rw [List.find?_append, this]
      rfl
  · subst h1
    unfold Go.Proofs.Ytbgoogjhgeoapaa.ensure at hy ⊢
    cases hh : accOf l q with
    | some a =>
      rw [hh] at hy
      simp only at hy ⊢
      exact h _ hy
    | none => exact accOf_snoc (a := newAcc q) hh
theorem Uq.map {f : Acc → Acc} (hf : ∀ a, (f a).id = a.id) {l : List Acc} (h : Uq l) : Uq (l.map f) := by
  intro y hy
  obtain ⟨z, hz, rfl⟩ := List.mem_map.1 hy
  rw [accOf_map hf, hf, h z hz]
  rfl
theorem Uq.get {l : List Acc} (h : Uq l) {y : Acc} (hy : y ∈ l) : getAcc l y.id = y := by
  unfold getAcc
  rw [h y hy]

structure Inv (cyc : List CSeat) (op : Bool) (next : Int) (s : Aud) (d : Int → Bool) : Prop where
  nd : cyc.Pairwise fun a b => a.id ≠ b.id
  sv : ∀ t ∈ cyc, 0 ≤ t.id ∧ t.id < next ∧ 0 ≤ t.pri ∧ t.pri ≤ 3 ∧ 0 ≤ t.turns ∧ -7 ≤ t.df ∧ d t.id = false
  ac : ∀ t ∈ cyc, (AOf s t.id).df = t.df ∧ (AOf s t.id).turns = t.turns ∧ (AOf s t.id).may.getD t.pri.toNat false = true
  oe : s.op = op
  last : op = true → ∃ cs t, cyc = cs ++ [t] ∧ s.last = t.id ∧ 0 < t.df ∧ 0 < t.turns
  pair : cyc.Pairwise fun q n => 0 < q.turns → 0 < n.turns → (AOf s q.id).since n.id = 1 ∧ (AOf s n.id).since q.id = 0
  fresh : ∀ q ∈ cyc, ∀ n ∈ cyc, q.id ≠ n.id → 0 < q.turns → n.turns = 0 → (AOf s q.id).since n.id = 0
  dead : ∀ y ∈ s.known, (∃ t ∈ cyc, t.id = y.id) ∨ (y.gone = true ∧ ∀ q ∈ cyc, 0 < q.turns → (AOf s q.id).since y.id ≤ 1)
  uq : Uq s.known
  kn : ∀ y ∈ s.known, y.id < next
  high : ∀ q ∈ cyc, 0 < q.turns → ∀ k, next ≤ k → (AOf s q.id).since k = 0
  dn : ∀ k, d k = true → k < next

theorem Inv.start : Inv [] false 0 ⟨[], 0, false⟩ (fun _ => false) :=
  ⟨.nil, (by intro t h; cases h), (by intro t h; cases h), rfl, (by intro h; cases h), .nil, (by intro q h; cases h), (by intro y h; cases h), (by intro y h; cases h), (by intro y h; cases h), (by intro y h; cases h), (by intro k h; cases h)⟩

theorem accOf_high {cyc : List CSeat} {op : Bool} {next : Int} {s : Aud} {d : Int → Bool} (h : Inv cyc op next s d) {k : Int} (hk : next ≤ k) : AOf s k = newAcc k := by
  unfold AOf getAcc
  cases e : accOf s.known k with
  | none => rfl
  | some y =>
    have h1 := accOf_id e
    have h2 := h.kn y (List.mem_of_find?_eq_some e)
    omega

def seat0 (id pri : Int) : CSeat := ⟨id, pri, 0, 0⟩
/-- Where a new seat is put. -/
theorem Inv.insert {xs ys : List CSeat} {op : Bool} {next : Int} {s : Aud} {d : Int → Bool} (h : Inv (xs ++ ys) op next s d) (pri : Int) (hn : 0 ≤ next) (hp : 0 ≤ pri ∧ pri ≤ 3) (hys : op = true → ys ≠ []) :
    Inv (xs ++ seat0 next pri :: ys) op (next + 1) s d := by
  have hA := accOf_high h (Int.le_refl next)
  have hlt : ∀ t ∈ xs ++ ys, t.id < next := fun t ht => (h.sv t ht).2.1
  have hmem : ∀ t, t ∈ xs ++ seat0 next pri :: ys → t ∈ xs ++ ys ∨ t = seat0 next pri := by
    intro t ht
    rcases List.mem_append.1 ht with h1 | h1
    · exact .inl (List.mem_append.2 (.inl h1))
    · rcases List.mem_cons.1 h1 with h1 | h1
      · exact .inr h1
      · exact .inl (List.mem_append.2 (.inr h1))
  have hpw : ∀ {R : CSeat → CSeat → Prop}, (xs ++ ys).Pairwise R → (∀ t ∈ xs ++ ys, R t (seat0 next pri) ∧ R (seat0 next pri) t) → (xs ++ seat0 next pri :: ys).Pairwise R := by
    intro R h1 h2
    obtain ⟨p1, p2, p3⟩ := List.pairwise_append.1 h1
    refine List.pairwise_append.2 ⟨p1, List.pairwise_cons.2 ⟨fun t ht => (h2 t (by simp [ht])).2, p2⟩, fun a ha b hb => ?_⟩
    rcases List.mem_cons.1 hb with rfl | hb
    · exact (h2 a (by simp [ha])).1
    · exact p3 a ha b hb
  refine ⟨hpw h.nd fun t ht => ⟨?_, ?_⟩, fun t ht => ?_, fun t ht => ?_, h.oe, fun ho => ?_, hpw h.pair fun t ht => ⟨?_, ?_⟩, fun q hq n hn' hne hqt hnt => ?_, fun y hy => ?_, h.uq, fun y hy => ?_, fun q hq hqt k hk => ?_, fun k hk => ?_⟩
  · have := hlt t ht; show t.id ≠ next; omega
  · have := hlt t ht; show next ≠ t.id; omega
  · rcases hmem t ht with h1 | rfl
    · obtain ⟨a1, a2, a3, a4, a5, a6, a7⟩ := h.sv t h1
      exact ⟨a1, by omega, a3, a4, a5, a6, a7⟩
    · refine ⟨hn, by show next < next + 1; omega, hp.1, hp.2, Int.le_refl 0, by show (-7 : Int) ≤ 0; decide, ?_⟩
      cases e : d (seat0 next pri).id
      · rfl
      · have := h.dn _ e
        have : next < next := this
        omega
  · rcases hmem t ht with h1 | rfl
    · exact h.ac t h1
    · show (AOf s next).df = 0 ∧ (AOf s next).turns = 0 ∧ _
      rw [show AOf s (seat0 next pri).id = newAcc next from hA, show AOf s next = newAcc next from hA]
      refine ⟨rfl, rfl, ?_⟩
      have : pri.toNat < 4 := by omega
      show [true, true, true, true].getD pri.toNat false = true
      rcases (by omega : pri.toNat = 0 ∨ pri.toNat = 1 ∨ pri.toNat = 2 ∨ pri.toNat = 3) with e | e | e | e <;> rw [e] <;> rfl
  · obtain ⟨cs, t, e1, e2, e3⟩ := h.last ho
    have hy := hys ho
    obtain ⟨zs, z, rfl⟩ : ∃ zs z, ys = zs ++ [z] := ⟨_, _, (List.dropLast_concat_getLast hy).symm⟩
    have e4 : xs ++ zs = cs ∧ z = t := by
      have : (xs ++ zs) ++ [z] = cs ++ [t] := by rw [List.append_assoc]; exact e1
      obtain ⟨q1, q2⟩ := List.append_inj' this rfl
      exact ⟨q1, by simpa using q2⟩
    exact ⟨xs ++ seat0 next pri :: zs, t, by simp [e4.2], e2, e3⟩
  · intro _ h2; exact absurd h2 (Int.lt_irrefl 0)
  · intro h1; exact absurd h1 (Int.lt_irrefl 0)
  · rcases hmem q hq with h1 | rfl
    · rcases hmem n hn' with h2 | rfl
      · exact h.fresh q h1 n h2 hne hqt hnt
      · exact h.high q h1 hqt next (Int.le_refl _)
    · exact absurd hqt (Int.lt_irrefl 0)
  · rcases h.dead y hy with ⟨t, ht, e⟩ | ⟨e1, e2⟩
    · refine .inl ⟨t, ?_, e⟩
      rcases List.mem_append.1 ht with h1 | h1
      · simp [h1]
      · simp [h1]
    · refine .inr ⟨e1, fun q hq hqt => ?_⟩
      rcases hmem q hq with h1 | rfl
      · exact e2 q h1 hqt
      · exact absurd hqt (Int.lt_irrefl 0)
  · have := h.kn y hy; omega
  · rcases hmem q hq with h1 | rfl
    · exact h.high q h1 hqt k (by omega)
    · exact absurd hqt (Int.lt_irrefl 0)
  · have := h.dn k hk; omega

/-- A seat is taken away; the account's mark is set. -/
theorem Inv.leave {xs ys : List CSeat} {t : CSeat} {op : Bool} {next : Int} {s : Aud} {d : Int → Bool} (c : CV) (h : Inv (xs ++ t :: ys) op next s d) :
    ∃ s', entryA c s ⟨t.id, 0, 0, 0, true⟩ = some s' ∧ Inv (xs ++ ys) (op && decide (ys ≠ [])) next s' (fun k => if k = t.id then true else d k) := by
  have hne : ∀ u ∈ xs ++ ys, u.id ≠ t.id := by
    obtain ⟨p1, p2, p3⟩ := List.pairwise_append.1 h.nd
    intro u hu
    rcases List.mem_append.1 hu with h1 | h1
    · exact p3 u h1 t (by simp)
    · exact ((List.pairwise_cons.1 p2).1 u h1).symm
  have hsub : List.Sublist (xs ++ ys) (xs ++ t :: ys) := List.Sublist.append (List.Sublist.refl _) (List.sublist_cons_self _ _)
  have hin : ∀ u ∈ xs ++ ys, u ∈ xs ++ t :: ys := fun u hu => hsub.subset hu
  refine ⟨_, by unfold entryA; simp only [leaveB, decide_true, Bool.and_self, if_true]; rfl, ?_⟩
  have hget : ∀ u ∈ xs ++ ys, getAcc (goneAcc (ensure s.known t.id) t.id) u.id = AOf s u.id := by
    intro u hu
    unfold goneAcc
    show _ = getAcc s.known u.id
    rw [← getAcc_ensure s.known t.id u.id]
    generalize ensure s.known t.id = l
    unfold getAcc
    rw [accOf_map (fun y => by split <;> rfl)]
    cases e : accOf l u.id with
    | none => rfl
    | some y =>
      have := accOf_id e
      simp only [Option.map_some]
      rw [if_neg (by rw [this]; exact hne u hu)]
  have hmk : ∀ y ∈ goneAcc (ensure s.known t.id) t.id, (y ∈ s.known ∧ y.id ≠ t.id) ∨ (y.id = t.id ∧ y.gone = true) := by
    intro y hy
    obtain ⟨z, hz, rfl⟩ := List.mem_map.1 hy
    by_cases e : z.id = t.id
    · right; simp [e]
    · left
      rw [if_neg e]
      rcases mem_ensure hz with h1 | h1
      · exact ⟨h1, e⟩
      · exact absurd (by rw [h1]; rfl) e
  refine ⟨h.nd.sublist hsub, fun u hu => ?_, fun u hu => ?_, ?_, fun ho => ?_, ?_, fun q hq n hn hqn hqt hnt => ?_, fun y hy => ?_, ?_, fun y hy => ?_, fun q hq hqt k hk => ?_, fun k hk => ?_⟩
  · obtain ⟨a1, a2, a3, a4, a5, a6, a7⟩ := h.sv u (hin u hu)
    exact ⟨a1, a2, a3, a4, a5, a6, by rw [if_neg (hne u hu)]; exact a7⟩
  · show (getAcc _ u.id).df = _ ∧ (getAcc _ u.id).turns = _ ∧ (getAcc _ u.id).may.getD _ _ = _
    rw [hget u hu]
    exact h.ac u (hin u hu)
  · show (s.op && decide (t.id ≠ s.last)) = _
    rw [h.oe]
    cases op with
    | false => rfl
    | true =>
      obtain ⟨cs, z, e1, e2, e3⟩ := h.last rfl
      simp only [Bool.true_and]
      congr 1
      rw [e2]
      by_cases e : ys = []
      · subst e
        have : t = z := by
          have := (List.append_inj' e1 rfl).2
          simpa using this
        simp [this]
      · obtain ⟨zs, w, rfl⟩ : ∃ zs w, ys = zs ++ [w] := ⟨_, _, (List.dropLast_concat_getLast e).symm⟩
        have hw : w = z := by
          have : (xs ++ t :: zs) ++ [w] = cs ++ [z] := by rw [← e1]; simp
          simpa using (List.append_inj' this rfl).2
        have h2 := hne w (by simp)
        rw [hw] at h2
        exact propext ⟨fun _ => e, fun _ e3 => h2 e3.symm⟩
  · simp only [Bool.and_eq_true, decide_eq_true_eq] at ho
    obtain ⟨cs, z, e1, e2, e3⟩ := h.last ho.1
    obtain ⟨zs, w, rfl⟩ : ∃ zs w, ys = zs ++ [w] := ⟨_, _, (List.dropLast_concat_getLast ho.2).symm⟩
    have : w = z := by
      have : (xs ++ t :: zs) ++ [w] = cs ++ [z] := by rw [← e1]; simp
      simpa using (List.append_inj' this rfl).2
    exact ⟨xs ++ zs, z, by simp [this], e2, e3⟩
  · refine (h.pair.sublist hsub).imp_of_mem ?_
    intro a b ha hb hab
    show 0 < a.turns → 0 < b.turns → (getAcc _ a.id).since b.id = 1 ∧ (getAcc _ b.id).since a.id = 0
    rw [hget a ha, hget b hb]
    exact hab
  · show (getAcc _ q.id).since n.id = 0
    rw [hget q hq]
    exact h.fresh q (hin q hq) n (hin n hn) hqn hqt hnt
  · rcases hmk y hy with ⟨h1, h2⟩ | ⟨h1, h2⟩
    · rcases h.dead y h1 with ⟨u, hu, e⟩ | ⟨e1, e2⟩
      · left
        refine ⟨u, ?_, e⟩
        rcases List.mem_append.1 hu with h3 | h3
        · simp [h3]
        · rcases List.mem_cons.1 h3 with h3 | h3
          · exact absurd (by rw [← e, h3]) h2
          · simp [h3]
      · right
        refine ⟨e1, fun q hq hqt => ?_⟩
        show (getAcc _ q.id).since y.id ≤ 1
        rw [hget q hq]
        exact e2 q (hin q hq) hqt
    · right
      refine ⟨h2, fun q hq hqt => ?_⟩
      show (getAcc _ q.id).since y.id ≤ 1
      rw [hget q hq, h1]
      by_cases ht : 0 < t.turns
      · obtain ⟨p1, p2, p3⟩ := List.pairwise_append.1 h.pair
        rcases List.mem_append.1 hq with h3 | h3
        · rw [(p3 q h3 t (by simp) hqt ht).1]; decide
        · rw [((List.pairwise_cons.1 p2).1 q h3 ht hqt).2]; decide
      · have := (h.sv t (by simp)).2.2.2.2.1
        rw [h.fresh q (hin q hq) t (by simp) (hne q hq) hqt (by omega)]; decide
  · exact (h.uq.ensure _).map (fun y => by split <;> rfl)
  · rcases hmk y hy with ⟨h1, h2⟩ | ⟨h1, h2⟩
    · exact h.kn y h1
    · rw [h1]; exact (h.sv t (by simp)).2.1
  · show (getAcc _ q.id).since k = 0
    rw [hget q hq]
    exact h.high q (hin q hq) hqt k hk
  · by_cases e : k = t.id
    · rw [e]; exact (h.sv t (by simp)).2.1
    · rw [if_neg e] at hk; exact h.dn k hk

/-- What stands of the others while the seat t has its turn. -/
structure Rest (cs : List CSeat) (t : CSeat) (next : Int) (s : Aud) (d : Int → Bool) : Prop where
  nd : cs.Pairwise fun a b => a.id ≠ b.id
  ne : ∀ u ∈ cs, u.id ≠ t.id
  sv : ∀ u ∈ cs, 0 ≤ u.id ∧ u.id < next ∧ 0 ≤ u.pri ∧ u.pri ≤ 3 ∧ 0 ≤ u.turns ∧ -7 ≤ u.df ∧ d u.id = false
  svt : 0 ≤ t.id ∧ t.id < next ∧ 0 ≤ t.pri ∧ t.pri ≤ 3 ∧ 0 ≤ t.turns
  ac : ∀ u ∈ cs, (AOf s u.id).df = u.df ∧ (AOf s u.id).turns = u.turns ∧ (AOf s u.id).may.getD u.pri.toNat false = true
  pair : cs.Pairwise fun q n => 0 < q.turns → 0 < n.turns → (AOf s q.id).since n.id = 1 ∧ (AOf s n.id).since q.id = 0
  fresh : ∀ q ∈ cs, ∀ n ∈ cs, q.id ≠ n.id → 0 < q.turns → n.turns = 0 → (AOf s q.id).since n.id = 0
  dead : ∀ y ∈ s.known, (∃ u ∈ cs, u.id = y.id) ∨ y.id = t.id ∨ (y.gone = true ∧ ∀ q ∈ cs, 0 < q.turns → (AOf s q.id).since y.id ≤ 1)
  uq : Uq s.known
  kn : ∀ y ∈ s.known, y.id < next
  high : ∀ q ∈ cs, 0 < q.turns → ∀ k, next ≤ k → (AOf s q.id).since k = 0
  dn : ∀ k, d k = true → k < next
theorem Inv.rest1 {cs : List CSeat} {t : CSeat} {op : Bool} {next : Int} {s : Aud} {d : Int → Bool} (h : Inv (t :: cs) op next s d) : Rest cs t next s d := by
  obtain ⟨n1, n2⟩ := List.pairwise_cons.1 h.nd
  obtain ⟨a1, a2, a3, a4, a5, a6, a7⟩ := h.sv t (by simp)
  refine ⟨n2, fun u hu => (n1 u hu).symm, fun u hu => h.sv u (by simp [hu]), ⟨a1, a2, a3, a4, a5⟩, fun u hu => h.ac u (by simp [hu]), (List.pairwise_cons.1 h.pair).2,
    fun q hq n hn => h.fresh q (by simp [hq]) n (by simp [hn]), fun y hy => ?_, h.uq, h.kn, fun q hq => h.high q (by simp [hq]), h.dn⟩
  rcases h.dead y hy with ⟨u, hu, e⟩ | ⟨e1, e2⟩
  · rcases List.mem_cons.1 hu with h1 | h1
    · exact .inr (.inl (by rw [← e, h1]))
    · exact .inl ⟨u, h1, e⟩
  · exact .inr (.inr ⟨e1, fun q hq => e2 q (by simp [hq])⟩)
theorem Inv.rest2 {cs : List CSeat} {t : CSeat} {op : Bool} {next : Int} {s : Aud} {d : Int → Bool} (h : Inv (cs ++ [t]) op next s d) : Rest cs t next s d := by
  obtain ⟨n1, n2, n3⟩ := List.pairwise_append.1 h.nd
  obtain ⟨a1, a2, a3, a4, a5, a6, a7⟩ := h.sv t (by simp)
  refine ⟨n1, fun u hu => n3 u hu t (by simp), fun u hu => h.sv u (by simp [hu]), ⟨a1, a2, a3, a4, a5⟩, fun u hu => h.ac u (by simp [hu]), (List.pairwise_append.1 h.pair).1,
    fun q hq n hn => h.fresh q (by simp [hq]) n (by simp [hn]), fun y hy => ?_, h.uq, h.kn, fun q hq => h.high q (by simp [hq]), h.dn⟩
  rcases h.dead y hy with ⟨u, hu, e⟩ | ⟨e1, e2⟩
  · rcases List.mem_append.1 hu with h1 | h1
    · exact .inl ⟨u, h1, e⟩
    · exact .inr (.inl (by rw [← e, List.mem_singleton.1 h1]))
  · exact .inr (.inr ⟨e1, fun q hq => e2 q (by simp [hq])⟩)

/-- Behind an entry of the seat t: its account is a, the others stand but for their counts of t's turns. -/
theorem Rest.behind {cs : List CSeat} {t : CSeat} {next : Int} {s s' : Aud} {d : Int → Bool} (h : Rest cs t next s d) (a : Acc) (df : Int) (tu : Int) (fin : Bool)
    (hA : ∀ u ∈ cs, (AOf s' u.id).df = (AOf s u.id).df ∧ (AOf s' u.id).turns = (AOf s u.id).turns ∧ (AOf s' u.id).may = (AOf s u.id).may)
    (h2 : ∀ u ∈ cs, 0 < u.turns → ∀ k, k ≠ t.id → (AOf s' u.id).since k = (AOf s u.id).since k) (h3 : ∀ u ∈ cs, 0 < u.turns → (AOf s' u.id).since t.id = 1)
    (hat : AOf s' t.id = a) (hadf : a.df = df) (hatu : a.turns = tu) (hpos : 0 < tu) (hmay : a.may.getD t.pri.toNat false = true) (hz : ∀ n ∈ cs, a.since n.id = 0) (hhi : ∀ k, next ≤ k → a.since k = 0)
    (hdd : ∀ y ∈ s.known, y.gone = true → y.id ≠ t.id → a.since y.id ≤ 1)
    (hk : ∀ y ∈ s'.known, y.id ≠ t.id → ∃ z ∈ s.known, z.id = y.id ∧ z.gone = y.gone) (hg : a.gone = fin) (huq : Uq s'.known)
    (hdf : -7 ≤ df) (hop : s'.op = (!fin && decide (0 < df))) (hlast : s'.last = t.id) :
    Inv (if fin then cs else cs ++ [⟨t.id, t.pri, tu, df⟩]) (!fin && decide (0 < df)) next s' (fun k => if k = t.id then fin else d k) := by
  obtain ⟨t1, t2, t3, t4, t5⟩ := h.svt
  have hsv : ∀ u ∈ cs, 0 ≤ u.id ∧ u.id < next ∧ 0 ≤ u.pri ∧ u.pri ≤ 3 ∧ 0 ≤ u.turns ∧ -7 ≤ u.df ∧ (if u.id = t.id then fin else d u.id) = false := by
    intro u hu
    obtain ⟨a1, a2, a3, a4, a5, a6, a7⟩ := h.sv u hu
    exact ⟨a1, a2, a3, a4, a5, a6, by rw [if_neg (h.ne u hu)]; exact a7⟩
  have hac : ∀ u ∈ cs, (AOf s' u.id).df = u.df ∧ (AOf s' u.id).turns = u.turns ∧ (AOf s' u.id).may.getD u.pri.toNat false = true := by
    intro u hu
    obtain ⟨e1, e2, e3⟩ := hA u hu
    rw [e1, e2, e3]
    exact h.ac u hu
  have hpair : cs.Pairwise fun q n => 0 < q.turns → 0 < n.turns → (AOf s' q.id).since n.id = 1 ∧ (AOf s' n.id).since q.id = 0 :=
    h.pair.imp_of_mem fun {q n} hq hn hp c1 c2 => by rw [h2 q hq c1 _ (h.ne n hn), h2 n hn c2 _ (h.ne q hq)]; exact hp c1 c2
  have hfresh : ∀ q ∈ cs, ∀ n ∈ cs, q.id ≠ n.id → 0 < q.turns → n.turns = 0 → (AOf s' q.id).since n.id = 0 :=
    fun q hq n hn c1 c2 c3 => by rw [h2 q hq c2 _ (h.ne n hn)]; exact h.fresh q hq n hn c1 c2 c3
  have hhigh : ∀ q ∈ cs, 0 < q.turns → ∀ k, next ≤ k → (AOf s' q.id).since k = 0 :=
    fun q hq c1 k hk => by rw [h2 q hq c1 _ (by omega)]; exact h.high q hq c1 k hk
  have hkn : ∀ y ∈ s'.known, y.id < next := by
    intro y hy
    by_cases e : y.id = t.id
    · omega
    · obtain ⟨z, hz, e1, _⟩ := hk y hy e
      have := h.kn z hz
      omega
  have hdead : ∀ y ∈ s'.known, (∃ u ∈ cs, u.id = y.id) ∨ (y.id = t.id ∧ y.gone = fin) ∨ (y.gone = true ∧ (∀ q ∈ cs, 0 < q.turns → (AOf s' q.id).since y.id ≤ 1) ∧ a.since y.id ≤ 1) := by
    intro y hy
    by_cases e : y.id = t.id
    · right; left
      have := huq.get hy
      rw [e] at this
      refine ⟨e, ?_⟩
      rw [← hg, ← hat, AOf, this]
    · obtain ⟨z, hz, e1, e2⟩ := hk y hy e
      rcases h.dead z hz with ⟨u, hu, e3⟩ | e3 | ⟨e3, e4⟩
      · exact .inl ⟨u, hu, e3.trans e1⟩
      · exact absurd (e1.symm.trans e3) e
      · refine .inr (.inr ⟨e2 ▸ e3, fun q hq c1 => ?_, ?_⟩)
        · rw [h2 q hq c1 _ e, ← e1]; exact e4 q hq c1
        · rw [← e1]; exact hdd z hz e3 (by rw [e1]; exact e)
  have hdn : ∀ k, (if k = t.id then fin else d k) = true → k < next := by
    intro k hk
    by_cases e : k = t.id
    · omega
    · rw [if_neg e] at hk; exact h.dn k hk
  cases fin with
  | true =>
    simp only [if_true]
    refine ⟨h.nd, hsv, hac, hop, fun e => (by cases e), hpair, hfresh, fun y hy => ?_, huq, hkn, hhigh, hdn⟩
    rcases hdead y hy with e | ⟨e1, e2⟩ | ⟨e1, e2, _⟩
    · exact .inl e
    · exact .inr ⟨e2, fun q hq c1 => by rw [e1, h3 q hq c1]; decide⟩
    · exact .inr ⟨e1, e2⟩
  | false =>
    simp only [Bool.false_eq_true, if_false] at hop hdead ⊢
    have hm : ∀ u, u ∈ cs ++ [(⟨t.id, t.pri, tu, df⟩ : CSeat)] → u ∈ cs ∨ u = ⟨t.id, t.pri, tu, df⟩ := by
      intro u hu
      rcases List.mem_append.1 hu with h1 | h1
      · exact .inl h1
      · exact .inr (List.mem_singleton.1 h1)
    have hpw : ∀ {R : CSeat → CSeat → Prop}, cs.Pairwise R → (∀ u ∈ cs, R u ⟨t.id, t.pri, tu, df⟩) → (cs ++ [(⟨t.id, t.pri, tu, df⟩ : CSeat)]).Pairwise R := by
      intro R r1 r2
      refine List.pairwise_append.2 ⟨r1, List.pairwise_singleton _ _, fun u hu v hv => ?_⟩
      rw [List.mem_singleton.1 hv]
      exact r2 u hu
    refine ⟨hpw h.nd fun u hu => h.ne u hu, fun u hu => ?_, fun u hu => ?_, hop, fun e => ⟨cs, _, rfl, hlast, ?_, hpos⟩, hpw hpair fun u hu c1 _ => ⟨h3 u hu c1, ?_⟩, fun q hq n hn c1 c2 c3 => ?_, fun y hy => ?_, huq, hkn, fun q hq c1 k hk => ?_, hdn⟩
    · rcases hm u hu with h1 | rfl
      · exact hsv u h1
      · exact ⟨t1, t2, t3, t4, Int.le_of_lt hpos, hdf, by rw [if_pos rfl]⟩
    · rcases hm u hu with h1 | rfl
      · exact hac u h1
      · show (AOf s' t.id).df = df ∧ (AOf s' t.id).turns = tu ∧ (AOf s' t.id).may.getD t.pri.toNat false = true
        rw [hat]
        exact ⟨hadf, hatu, hmay⟩
    · simpa using e
    · show (AOf s' t.id).since u.id = 0
      rw [hat]; exact hz u hu
    · rcases hm q hq with h1 | rfl
      · rcases hm n hn with h4 | rfl
        · exact hfresh q h1 n h4 c1 c2 c3
        · have : tu = 0 := c3
          omega
      · rcases hm n hn with h4 | rfl
        · show (AOf s' t.id).since n.id = 0
          rw [hat]; exact hz n h4
        · exact absurd rfl c1
    · rcases hdead y hy with ⟨u, hu, e⟩ | ⟨e1, e2⟩ | ⟨e1, e2, e3⟩
      · exact .inl ⟨u, by simp [hu], e⟩
      · exact .inl ⟨⟨t.id, t.pri, tu, df⟩, by simp, e1.symm⟩
      · refine .inr ⟨e1, fun q hq c1 => ?_⟩
        rcases hm q hq with h1 | rfl
        · exact e2 q h1 c1
        · show (AOf s' t.id).since y.id ≤ 1
          rw [hat]; exact e3
    · rcases hm q hq with h1 | rfl
      · exact hhigh q h1 c1 k hk
      · show (AOf s' t.id).since k = 0
        rw [hat]; exact hhi k hk

/-- The head begins a turn. -/
theorem Inv.begin {cs : List CSeat} {t : CSeat} {next : Int} {s : Aud} {d : Int → Bool} (c : CV) (h : Inv (t :: cs) false next s d) {qu st co : Int} {fin : Bool}
    (hq : qu = qf c.ba t.pri t.turns c.ag) (hq0 : 0 < qu) (hst : 0 < st → 0 < t.df + qu) (hco : -7 ≤ t.df + qu - co) :
    ∃ s', entryA c s ⟨t.id, qu, st, co, fin⟩ = some s' ∧ Inv (if fin then cs else cs ++ [⟨t.id, t.pri, t.turns + 1, t.df + qu - co⟩]) (!fin && decide (0 < t.df + qu - co)) next s' (fun k => if k = t.id then fin else d k) := by
  have hr := h.rest1
  obtain ⟨a1, a2, a3⟩ := h.ac t (by simp)
  obtain ⟨t1, t2, t3, t4, t5⟩ := hr.svt
  have hlv : leaveB ⟨t.id, qu, st, co, fin⟩ = false := by
    unfold leaveB
    have : ¬ qu = 0 := by omega
    simp [this]
  obtain ⟨a, ha⟩ : ∃ a, AOf s t.id = a := ⟨_, rfl⟩
  rw [ha] at a1 a2 a3
  have hge : getAcc (ensure s.known t.id) t.id = a := by rw [getAcc_ensure]; exact ha
  have hid : a.id = t.id := by rw [← ha]; exact getAcc_id _ _
  have hmay : (mayQ c a qu).getD t.pri.toNat false = true := by
    have hlt : t.pri.toNat < 4 := by omega
    have e : (mayQ c a qu)[t.pri.toNat]? = some (a.may.getD t.pri.toNat false && decide (qu = qf c.ba ((t.pri.toNat : Nat) : Int) a.turns c.ag)) := by
      unfold mayQ
      rw [List.getElem?_map, List.getElem?_range hlt]
      rfl
    rw [List.getD_eq_getElem?_getD, e, a3, a2, Int.toNat_of_nonneg t3, ← hq]
    simp
  have hany : (mayQ c a qu).any id = true := by
    rw [List.any_eq_true]
    cases e : (mayQ c a qu)[t.pri.toNat]? with
    | none => rw [List.getD_eq_getElem?_getD, e] at hmay; cases hmay
    | some b =>
      rw [List.getD_eq_getElem?_getD, e] at hmay
      exact ⟨b, List.mem_of_getElem? e, hmay⟩
  have hsince : ∀ u ∈ cs, 0 < u.turns → (AOf s u.id).since t.id = 0 := by
    intro u hu hut
    by_cases ht : 0 < t.turns
    · exact ((List.pairwise_cons.1 h.pair).1 u hu ht hut).2
    · exact h.fresh u (by simp [hu]) t (by simp) (hr.ne u hu) hut (by omega)
  have hbad : (ensure s.known t.id).any (badB a) = false := by
    rw [List.any_eq_false]
    intro y hy hb
    unfold badB at hb
    simp only [Bool.and_eq_true, decide_eq_true_eq, Bool.or_eq_true, Bool.not_eq_true'] at hb
    obtain ⟨b1, b2, b3, b4⟩ := hb
    rw [hid] at b1
    rcases mem_ensure hy with h1 | h1
    · rcases h.dead y h1 with ⟨u, hu, e⟩ | ⟨e1, e2⟩
      · rcases List.mem_cons.1 hu with h2 | h2
        · exact b1 (by rw [← e, h2])
        · have hyu : AOf s u.id = y := by rw [e]; exact h.uq.get h1
          have hut : 0 < u.turns := by
            have := (h.ac u hu).2.1
            rw [hyu] at this
            have := (h.sv u hu).2.2.2.2.1
            omega
          have := ((List.pairwise_cons.1 h.pair).1 u h2 (by omega) hut).1
          rw [ha, e] at this
          rw [this] at b4
          rcases b4 with b4 | b4
          · exact absurd b4 (by decide)
          · exact absurd b4.1 (by decide)
      · have := e2 t (by simp) (by omega)
        rw [ha] at this
        rcases b4 with b4 | b4
        · omega
        · rw [e1] at b4; exact absurd b4.2 (by decide)
    · rw [h1] at b1; exact b1 rfl
  -- the account behind the entry
  obtain ⟨a', ha'⟩ : ∃ a', ({ a with may := mayQ c a qu, turns := a.turns + 1, since := fun _ => 0 } : Acc) = a' := ⟨_, rfl⟩
  have hid' : a'.id = t.id := by rw [← ha']; exact hid
  have hbg : beginA c (ensure s.known t.id) ⟨t.id, qu, st, co, fin⟩ = some (putAcc ((ensure s.known t.id).map (bumpAcc t.id)) a') := by
    unfold beginA
    simp only [hge, hany, hbad, ha']
    simp
  have hsome : (accOf ((ensure s.known t.id).map (bumpAcc t.id)) a'.id).isSome := by
    rw [hid']; exact isSome_map (bumpAcc_id _) (isSome_ensure _ _)
  have hga : getAcc (putAcc ((ensure s.known t.id).map (bumpAcc t.id)) a') t.id = a' := by have h := getAcc_put hsome; rw [hid'] at h; exact h
  have hadf : a'.df = t.df := by rw [← ha']; exact a1
  have hsp : spendA (putAcc ((ensure s.known t.id).map (bumpAcc t.id)) a') ⟨t.id, qu, st, co, fin⟩ =
      some ⟨putAcc (putAcc ((ensure s.known t.id).map (bumpAcc t.id)) a') { a' with df := t.df + qu - co, gone := fin }, t.id, !fin && decide (0 < t.df + qu - co)⟩ := by
    unfold spendA
    simp only [hga, hadf]
    rw [if_neg (fun e => by have := hst e.1; omega), if_neg (by omega)]
  refine ⟨_, by unfold entryA; simp only [hlv, Bool.false_eq_true, if_false, hq0, if_true, h.oe, hbg, hsp]; rfl, ?_⟩
  rw [putAcc_put _ a' _ (show a'.id = ({ a' with df := t.df + qu - co, gone := fin } : Acc).id from rfl)]
  have hget : ∀ q, q ≠ t.id → getAcc (putAcc ((ensure s.known t.id).map (bumpAcc t.id)) { a' with df := t.df + qu - co, gone := fin }) q = bumpAcc t.id (AOf s q) := by
    intro q hqn
    rw [getAcc_put_ne _ (by show q ≠ a'.id; rw [hid']; exact hqn), getAcc_bump, getAcc_ensure]
  refine hr.behind { a' with df := t.df + qu - co, gone := fin } _ _ fin ?_ ?_ ?_ ?_ rfl ?_ ?_ ?_ ?_ ?_ ?_ ?_ rfl ?_ hco rfl rfl
  · intro u hu
    show (getAcc _ u.id).df = _ ∧ (getAcc _ u.id).turns = _ ∧ (getAcc _ u.id).may = _
    rw [hget u.id (hr.ne u hu)]
    unfold bumpAcc
    split <;> exact ⟨rfl, rfl, rfl⟩
  · intro u hu hut k hk
    show (getAcc _ u.id).since k = _
    rw [hget u.id (hr.ne u hu)]
    unfold bumpAcc
    split
    · rfl
    · show bump _ _ k = _
      unfold bump
      rw [if_neg hk]
  · intro u hu hut
    show (getAcc _ u.id).since t.id = _
    rw [hget u.id (hr.ne u hu)]
    unfold bumpAcc
    rw [if_neg]
    · show bump _ _ t.id = _
      unfold bump
      rw [if_pos rfl, hsince u hu hut]; rfl
    · rw [getAcc_id]
      rintro (e | e)
      · exact hr.ne u hu e
      · have := (hr.ac u hu).2.1
        omega
  · show getAcc _ t.id = _
    have hg2 := getAcc_put (l := (ensure s.known t.id).map (bumpAcc t.id)) (a := { a' with df := t.df + qu - co, gone := fin }) hsome
    exact (congrArg (getAcc _) hid'.symm).trans hg2
  · show a'.turns = t.turns + 1
    rw [← ha', ← a2]
  · omega
  · show a'.may.getD t.pri.toNat false = true
    rw [← ha']; exact hmay
  · intro n _; show a'.since n.id = 0; rw [← ha']
  · intro k _; show a'.since k = 0; rw [← ha']
  · intro y _ _ _; show a'.since y.id ≤ 1; rw [← ha']; exact Int.zero_le_ofNat 1
  · intro y hy hyn
    obtain ⟨z, hz, rfl⟩ := List.mem_map.1 hy
    obtain ⟨z', hz', rfl⟩ := List.mem_map.1 hz
    have e0 : ¬ (bumpAcc t.id z').id = a'.id := by
      intro e
      apply hyn
      show (if (bumpAcc t.id z').id = a'.id then _ else _ : Acc).id = t.id
      rw [if_pos e]; exact hid'
    have e1 : (if (bumpAcc t.id z').id = ({ a' with df := t.df + qu - co, gone := fin } : Acc).id then { a' with df := t.df + qu - co, gone := fin } else bumpAcc t.id z') = bumpAcc t.id z' := if_neg e0
    rw [e1] at hyn ⊢
    have hzid := bumpAcc_id t.id z'
    rcases mem_ensure hz' with h1 | h1
    · exact ⟨z', h1, hzid.symm, by unfold bumpAcc; split <;> rfl⟩
    · exact absurd (by rw [hzid, h1]; rfl) hyn
  · exact ((h.uq.ensure _).map (bumpAcc_id _)).map (putAcc_id _)

/-- The open seat goes on. -/
theorem Inv.more {cs : List CSeat} {t : CSeat} {next : Int} {s : Aud} {d : Int → Bool} (c : CV) (h : Inv (cs ++ [t]) true next s d) {st co : Int} {fin : Bool}
    (hst : 0 < st) (hco : -7 ≤ t.df - co) :
    ∃ s', entryA c s ⟨t.id, 0, st, co, fin⟩ = some s' ∧ Inv (if fin then cs else cs ++ [⟨t.id, t.pri, t.turns, t.df - co⟩]) (!fin && decide (0 < t.df - co)) next s' (fun k => if k = t.id then fin else d k) := by
  have hr := h.rest2
  obtain ⟨a1, a2, a3⟩ := h.ac t (by simp)
  obtain ⟨zs, z, e1, e2, e3, e4⟩ := h.last rfl
  have ez : t = z := by simpa using (List.append_inj' e1 rfl).2
  subst ez
  have hlv : leaveB ⟨t.id, 0, st, co, fin⟩ = false := by
    unfold leaveB
    have : ¬ st = 0 := by omega
    simp [this]
  obtain ⟨a, ha⟩ : ∃ a, AOf s t.id = a := ⟨_, rfl⟩
  rw [ha] at a1 a2 a3
  have hge : getAcc (ensure s.known t.id) t.id = a := by rw [getAcc_ensure]; exact ha
  have hid : a.id = t.id := by rw [← ha]; exact getAcc_id _ _
  have hsp : spendA (ensure s.known t.id) ⟨t.id, 0, st, co, fin⟩ = some ⟨putAcc (ensure s.known t.id) { a with df := t.df - co, gone := fin }, t.id, !fin && decide (0 < t.df - co)⟩ := by
    unfold spendA
    simp only [hge, a1, Int.add_zero]
    rw [if_neg (fun e => by omega), if_neg (by omega)]
  refine ⟨_, by unfold entryA; simp only [hlv, Bool.false_eq_true, if_false, Int.lt_irrefl, h.oe, e2, ne_eq, not_true_eq_false, or_self, hsp, reduceCtorEq]; rfl, ?_⟩
  have hsome : (accOf (ensure s.known t.id) t.id).isSome := isSome_ensure _ _
  have hget : ∀ q, q ≠ t.id → getAcc (putAcc (ensure s.known t.id) { a with df := t.df - co, gone := fin }) q = AOf s q := by
    intro q hqn
    rw [getAcc_put_ne _ (by show q ≠ a.id; rw [hid]; exact hqn), getAcc_ensure]
  obtain ⟨p1, p2, p3⟩ := List.pairwise_append.1 h.pair
  refine hr.behind { a with df := t.df - co, gone := fin } _ t.turns fin ?_ ?_ ?_ ?_ rfl a2 e4 a3 ?_ ?_ ?_ ?_ rfl ?_ hco rfl rfl
  · intro u hu
    show (getAcc _ u.id).df = _ ∧ (getAcc _ u.id).turns = _ ∧ (getAcc _ u.id).may = _
    rw [hget u.id (hr.ne u hu)]
    exact ⟨rfl, rfl, rfl⟩
  · intro u hu hut k hk
    show (getAcc _ u.id).since k = _
    rw [hget u.id (hr.ne u hu)]
  · intro u hu hut
    show (getAcc _ u.id).since t.id = _
    rw [hget u.id (hr.ne u hu)]
    exact (p3 u hu t (by simp) hut e4).1
  · show getAcc _ t.id = _
    have hg2 := getAcc_put (l := ensure s.known t.id) (a := { a with df := t.df - co, gone := fin }) (by show (accOf _ a.id).isSome; rw [hid]; exact hsome)
    exact (congrArg (getAcc _) hid.symm).trans hg2
  · intro n hn
    show a.since n.id = 0
    rw [← ha]
    by_cases hnt : 0 < n.turns
    · exact (p3 n hn t (by simp) hnt e4).2
    · have := (hr.sv n hn).2.2.2.2.1
      exact h.fresh t (by simp) n (by simp [hn]) (hr.ne n hn).symm e4 (by omega)
  · intro k hk
    show a.since k = 0
    rw [← ha]
    exact h.high t (by simp) e4 k hk
  · intro y hy hyg hyn
    show a.since y.id ≤ 1
    rw [← ha]
    rcases h.dead y hy with ⟨u, hu, e⟩ | ⟨e1, e2⟩
    · rcases List.mem_append.1 hu with h1 | h1
      · have : (AOf s t.id).since u.id = 0 := by
          by_cases hnt : 0 < u.turns
          · exact (p3 u h1 t (by simp) hnt e4).2
          · have := (hr.sv u h1).2.2.2.2.1
            exact h.fresh t (by simp) u (by simp [h1]) (hr.ne u h1).symm e4 (by omega)
        rw [← e, this]; decide
      · exact absurd (by rw [← e, List.mem_singleton.1 h1]) hyn
    · exact e2 t (by simp) e4
  · intro y hy hyn
    obtain ⟨z', hz', rfl⟩ := List.mem_map.1 hy
    have e0 : ¬ z'.id = a.id := by
      intro e
      apply hyn
      show (if z'.id = a.id then _ else _ : Acc).id = t.id
      rw [if_pos e]; exact hid
    have e1 : (if z'.id = ({ a with df := t.df - co, gone := fin } : Acc).id then { a with df := t.df - co, gone := fin } else z') = z' := if_neg e0
    rw [e1] at hyn ⊢
    rcases mem_ensure hz' with h1 | h1
    · exact ⟨z', h1, rfl, rfl⟩
    · exact absurd (by rw [h1]; rfl) hyn
  · exact (h.uq.ensure _).map (putAcc_id _)
end Go.Proofs.Ytbgoogjhgeoapaa
