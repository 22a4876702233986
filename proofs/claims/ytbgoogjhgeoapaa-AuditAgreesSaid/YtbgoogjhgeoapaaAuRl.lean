/- The audit accepts the log of a ring. Plain Lean, no walk. -/
import Derived.Test.YtbgoogjhgeoapaaAuRq
set_option linter.unusedVariables false
set_option linter.unusedSimpArgs false
set_option linter.unusedSectionVars false
namespace Go.Proofs.Ytbgoogjhgeoapaa
open Go.RowKit
variable [Base]

def runA (c : CV) : Aud → List TV → Option Aud
  | s, [] => some s
  | s, x :: r => match entryA c s x with | none => none | some s' => runA c s' r
def dfold : (Int → Bool) → List TV → Int → Bool
  | d, [] => d
  | d, x :: r => dfold (fun k => if k = x.q then x.fin else d k) r
theorem runA_snoc (c : CV) (x : TV) : ∀ (l : List TV) (s : Aud), runA c s (l ++ [x]) = match runA c s l with | none => none | some s' => entryA c s' x
  | [], s => by simp only [List.nil_append, runA]; cases entryA c s x <;> rfl
  | y :: l, s => by
    simp only [List.cons_append, runA]
    cases entryA c s y with
    | none => rfl
    | some s' => exact runA_snoc c x l s'
theorem dfold_snoc (x : TV) : ∀ (l : List TV) (d : Int → Bool), dfold d (l ++ [x]) = fun k => if k = x.q then x.fin else dfold d l k
  | [], d => rfl
  | y :: l, d => dfold_snoc x l _
theorem vgo_snoc (x : TV) : ∀ (l : List TV) (d : Int → Bool), vgo d (l ++ [x]) = (vgo d l && (turnB x && !(dfold d l x.q)))
  | [], d => by simp [vgo, dfold]
  | y :: l, d => by
    simp only [List.cons_append, vgo, dfold, vgo_snoc x l]
    simp only [Bool.and_assoc]
theorem auditGo_run (c : CV) : ∀ (l : List TV) (s s' : Aud) (i : Nat), runA c s l = some s' → auditGo c s i l = (((i + l.length : Nat) : Int), 0)
  | [], _, _, _, _ => rfl
  | x :: l, s, s', i, h => by
    simp only [runA] at h
    cases e : entryA c s x with
    | none => rw [e] at h; cases h
    | some s1 =>
      rw [e] at h
      have := auditGo_run c l s1 s' (i + 1) h
      simp only [auditGo, e, this, List.length_cons]
      congr 2; omega
/-- The audit has read l. -/
structure Okl (c : CV) (l : List TV) (s : Aud) (d : Int → Bool) : Prop where
  run : runA c ⟨[], 0, false⟩ l = some s
  val : vgo (fun _ => false) l = true
  dd : d = dfold (fun _ => false) l
theorem Okl.snoc {c : CV} {l : List TV} {s s' : Aud} {d : Int → Bool} (h : Okl c l s d) {x : TV} (hx : turnB x = true) (hd : d x.q = false) (he : entryA c s x = some s') : Okl c (l ++ [x]) s' (fun k => if k = x.q then x.fin else d k) := by
  obtain ⟨h1, h2, rfl⟩ := h
  refine ⟨by rw [runA_snoc, h1]; exact he, by rw [vgo_snoc, h2, hx, hd]; rfl, by rw [dfold_snoc]⟩

def csS (s : SV) : CSeat := ⟨s.id, s.pri, s.age, s.df⟩
def csO (s : SV) : CSeat := ⟨s.id, s.pri, s.age + 1, s.df⟩
def cycOf (r : RV) : List CSeat := if r.op = true then (r.ss.drop (r.at_ + 1) ++ r.ss.take r.at_).map csS ++ ((r.ss.drop r.at_).take 1).map csO else (r.ss.drop r.at_ ++ r.ss.take r.at_).map csS
theorem cyc_mk (ba pe : Int) (P Q : List SV) (h : SV) (op : Bool) (a : Nat) (ha : a = P.length) : cycOf ⟨ba, pe, P ++ h :: Q, a, op⟩ = if op = true then (Q ++ P).map csS ++ [csO h] else csS h :: (Q ++ P).map csS := by
  subst ha
  unfold cycOf
  simp only
  have e1 : (P ++ h :: Q).drop (P.length + 1) = Q := by
    rw [show P ++ h :: Q = (P ++ [h]) ++ Q by simp, show P.length + 1 = (P ++ [h]).length by simp]; exact List.drop_left
  have e2 : (P ++ h :: Q).take P.length = P := List.take_left
  have e3 : (P ++ h :: Q).drop P.length = h :: Q := List.drop_left
  rw [e1, e2, e3]
  simp
theorem cyc_zero (ba pe : Int) (S : List SV) : cycOf ⟨ba, pe, S, 0, false⟩ = S.map csS := by simp [cycOf]
/-- The ring behind the removal of the seat At, or behind its end: the next one is at, cyclically. -/
theorem cyc_next (ba pe : Int) (P Q : List SV) (a : Nat) (ha : a = if Q = [] then 0 else P.length) : cycOf ⟨ba, pe, P ++ Q, a, false⟩ = (Q ++ P).map csS := by
  subst ha
  cases Q with
  | nil => simp [cycOf]
  | cons q Q => rw [if_neg (by simp), cyc_mk ba pe P Q q false _ rfl]; simp
theorem ring_split {r : RV} (h : RingOk r) {s : SV} (hs : r.ss[r.at_]? = some s) : ∃ P Q, r.ss = P ++ s :: Q ∧ r.at_ = P.length := by
  obtain ⟨h1, h2⟩ := List.getElem?_eq_some_iff.1 hs
  refine ⟨r.ss.take r.at_, r.ss.drop (r.at_ + 1), ?_, by simp; omega⟩
  conv => lhs; rw [← List.take_append_drop r.at_ r.ss, List.drop_eq_getElem_cons h1, h2]
def AgesOk (l : List SV) (m : Nat) : Prop := ∀ s ∈ l, 0 ≤ s.age ∧ s.age ≤ m
theorem AgesOk.mono {l : List SV} {m n : Nat} (h : AgesOk l m) (hm : m ≤ n) : AgesOk l n := fun s hs => ⟨(h s hs).1, by have := (h s hs).2; omega⟩
theorem addS_one {a : Int} (h : 0 ≤ a ∧ a ≤ 1000000) : addS a 1 = a + 1 := by unfold addS clampS; omega
/-- What stands of a ring, its log and the audit's state. -/
structure St (c : CV) (r : RV) (l : List TV) (n : Nat) (s : Aud) (d : Int → Bool) : Prop where
  ok : Okl c l s d
  inv : Inv (cycOf r) r.op n s d
  age : AgesOk r.ss l.length
theorem turnB_begin {q qu : Int} (h : cnB q = true) (h1 : 1 ≤ qu) (h2 : qu ≤ 64) : turnB ⟨q, qu, 0, 0, false⟩ = true := by
  unfold turnB; simp only [h]; unfold btwB cnB btwB; simp; omega
theorem turnB_pay {q qu co : Int} {fin : Bool} (h : cnB q = true) (h1 : 0 ≤ qu) (h2 : qu ≤ 64) (h3 : 1 ≤ co) (h4 : co ≤ 8) : turnB ⟨q, qu, 1, co, fin⟩ = true := by
  unfold turnB; simp only [h]; unfold btwB cnB btwB; simp; omega
theorem turnB_leave {q : Int} (h : cnB q = true) : turnB ⟨q, 0, 0, 0, true⟩ = true := by
  unfold turnB; simp only [h]; unfold btwB cnB btwB; simp; omega
theorem set_mid (P Q : List SV) (s s' : SV) : (P ++ s :: Q).set P.length s' = P ++ s' :: Q := by simp
theorem inv_if {a b : List CSeat} {o o' : Bool} {n : Int} {s : Aud} {d : Int → Bool} (h : Inv a o n s d) (e : b = a) (eo : o' = o) : Inv b o' n s d := by subst e; subst eo; exact h
/-- A turn that ends where it began. -/
theorem St.close {c : CV} {r : RV} {l : List TV} {n : Nat} {s0 : Aud} {d : Int → Bool} (h : St c r l n s0 d) (hr : RingOk r) (hb : r.ba = c.ba) (hp : r.pe = c.ag) (hl : l.length ≤ 1000000) {s : SV} (hs : r.ss[r.at_]? = some s) (ho : r.op = false) (hq : s.df + qfR r s ≤ 0) :
    ∃ s1 d1, St c (closeR r s (qfR r s)) (l ++ [turnOf s (qfR r s)]) n s1 d1 := by
  obtain ⟨P, Q, e1, e2⟩ := ring_split hr hs
  obtain ⟨ba, pe, ss, at_, op⟩ := r
  simp only at hb hp e1 e2 hs ho
  subst hb hp e1 e2 ho
  have hinv := h.inv
  rw [cyc_mk _ _ P Q s false _ rfl] at hinv
  simp only [Bool.false_eq_true, if_false] at hinv
  have hrng := qf_range c.ba s.pri s.age c.ag
  have hlow := hr.low hs (.inl rfl)
  have hage := h.age s (by simp)
  obtain ⟨q, hqe⟩ : ∃ q, qf c.ba s.pri s.age c.ag = q := ⟨_, rfl⟩
  have hqr : qfR ⟨c.ba, c.ag, P ++ s :: Q, P.length, false⟩ s = q := hqe
  rw [hqr] at hq ⊢
  rw [hqe] at hrng
  obtain ⟨s1, h1, h2⟩ := hinv.begin c (qu := q) (st := 0) (co := 0) (fin := false) hqe.symm (by omega) (by intro h; exact absurd h (by decide)) (by show -7 ≤ s.df + q - 0; omega)
  have hcn := (seatB_parts (hr.seat hs)).1
  refine ⟨s1, _, h.ok.snoc (x := turnOf s q) (turnB_begin hcn hrng.1 hrng.2) (hinv.sv (csS s) (by simp)).2.2.2.2.2.2 h1, ?_, ?_⟩
  · have e : cycOf (closeR ⟨c.ba, c.ag, P ++ s :: Q, P.length, false⟩ s q) = (Q ++ P).map csS ++ [⟨s.id, s.pri, s.age + 1, s.df + q - 0⟩] := by
      unfold closeR overR openR
      simp only [List.set_set, set_mid]
      rw [show P ++ overS (upS s q) :: Q = (P ++ [overS (upS s q)]) ++ Q by simp, cyc_next _ _ (P ++ [overS (upS s q)]) Q]
      · simp [csS, overS, upS, addS_one (show 0 ≤ s.age ∧ s.age ≤ 1000000 by omega)]
      · cases Q <;> simp
    refine inv_if h2 (by rw [e]; rfl) ?_
    have hf : ¬ 0 < s.df + q - 0 := by omega
    show false = (!false && decide (0 < s.df + q - 0))
    simp [hf]; omega
  · intro x hx
    have hx' : x ∈ P ++ overS (upS s q) :: Q := by
      have e : (closeR ⟨c.ba, c.ag, P ++ s :: Q, P.length, false⟩ s q).ss = P ++ overS (upS s q) :: Q := by unfold closeR overR openR; simp only [List.set_set, set_mid]
      rw [e] at hx; exact hx
    rw [List.length_append, List.length_singleton]
    rcases List.mem_append.1 hx' with h3 | h3
    · have := h.age x (by simp [h3]); omega
    · rcases List.mem_cons.1 h3 with h3 | h3
      · have e4 : x.age = addS s.age 1 := by rw [h3]; rfl
        rw [e4, addS_one (by omega)]; omega
      · have := h.age x (by simp [h3]); omega
/-- An entry that spends: the ring behind it. -/
theorem spend_cyc (c : CV) (P Q : List SV) (s : SV) (co : Int) (fin : Bool) (hage : 0 ≤ s.age ∧ s.age ≤ 1000000) :
    cycOf (spendR ⟨c.ba, c.ag, P ++ s :: Q, P.length, true⟩ s co fin) = (if fin then (Q ++ P).map csS else (Q ++ P).map csS ++ [⟨s.id, s.pri, s.age + 1, s.df - co⟩]) ∧ (spendR ⟨c.ba, c.ag, P ++ s :: Q, P.length, true⟩ s co fin).op = (!fin && decide (0 < s.df - co)) := by
  unfold spendR
  cases fin with
  | true =>
    simp only [if_true]
    have e1 : remR ⟨c.ba, c.ag, P ++ s :: Q, P.length, true⟩ P.length = ⟨c.ba, c.ag, P ++ Q, if Q = [] then 0 else P.length, false⟩ := by
      unfold remR
      simp only [Nat.lt_irrefl, if_false, if_true]
      have e2 : (P ++ s :: Q).drop (P.length + 1) = Q := by
        rw [show P ++ s :: Q = (P ++ [s]) ++ Q by simp, show P.length + 1 = (P ++ [s]).length by simp]; exact List.drop_left
      rw [List.take_left, e2]
      congr 1
      · cases Q <;> simp
      · simp
    rw [e1, cyc_next _ _ P Q _ rfl]
    exact ⟨rfl, rfl⟩
  | false =>
    simp only [Bool.false_eq_true, if_false]
    by_cases hp : 0 < s.df - co
    · rw [if_pos hp]
      unfold payR
      simp only [set_mid]
      rw [cyc_mk _ _ P Q _ true _ rfl]
      exact ⟨rfl, by simp; omega⟩
    · rw [if_neg hp]
      unfold overR payR
      simp only [List.set_set, set_mid]
      rw [show P ++ overS (payS s co) :: Q = (P ++ [overS (payS s co)]) ++ Q by simp, cyc_next _ _ (P ++ [overS (payS s co)]) Q]
      · refine ⟨?_, by simp; omega⟩
        simp [csS, overS, payS, addS_one hage]
      · cases Q <;> simp
theorem spend_ages {r : RV} {s : SV} (hs : r.ss[r.at_]? = some s) {co : Int} {fin : Bool} {m : Nat} (h : AgesOk r.ss m) (hm : m ≤ 1000000) : AgesOk (spendR r s co fin).ss (m + 1) := by
  have hs' : s ∈ r.ss := List.mem_of_getElem? hs
  have ha := h s hs'
  intro x hx
  unfold spendR at hx
  split at hx
  · have := h x (remR_mem x hx); omega
  · split at hx
    · unfold payR at hx
      rcases List.mem_or_eq_of_mem_set hx with h3 | rfl
      · have := h x h3; omega
      · show 0 ≤ s.age ∧ s.age ≤ _; omega
    · unfold overR payR at hx
      simp only [List.set_set] at hx
      rcases List.mem_or_eq_of_mem_set hx with h3 | rfl
      · have := h x h3; omega
      · have e4 : (overS (payS s co)).age = addS s.age 1 := rfl
        rw [e4, addS_one (by omega)]; omega
theorem PickI.st {c : CV} {r0 r : RV} {ts : List TV} (h : PickI r0 r ts) (hr : RingOk r0) (hb : r0.ba = c.ba) (hp : r0.pe = c.ag) {l : List TV} {n : Nat} (hl : l.length + 200 ≤ 1000000) (hlen : r0.ss.length ≤ 16)
    (h0 : ∃ s d, St c r0 l n s d) (ho : r.op = false) : ∃ s d, St c r (l ++ ts) n s d := by
  induction h with
  | start => simpa using h0
  | @close r ts s hpi ho' hs hq ih =>
    obtain ⟨s1, d1, hst⟩ := ih ho'
    have hf := hpi.facts hr
    have h7 := lackS_le hr.lows
    have h8 := hf.2.2.2.2.2.2
    obtain ⟨s2, d2, h2⟩ := hst.close hf.1 (hf.2.1.trans hb) (hf.2.2.1.trans hp) (by rw [List.length_append]; omega) hs ho' hq
    exact ⟨s2, d2, by rw [← List.append_assoc]; exact h2⟩
  | opens => cases ho
/-- A new seat. -/
theorem St.add {c : CV} {r : RV} {l : List TV} {n : Nat} {s0 : Aud} {d : Int → Bool} (h : St c r l n s0 d) (hr : RingOk r) {p : Int} (h1 : 0 ≤ p) (h2 : p ≤ 3) : St c (addR r n p) l (n + 1) s0 d := by
  have hn : (0 : Int) ≤ (n : Int) := Int.natCast_nonneg n
  refine ⟨h.ok, ?_, fun x hx => ?_⟩
  · have hc : ((n + 1 : Nat) : Int) = (n : Int) + 1 := by omega
    rw [hc]
    rcases hr.at_ with hat | ⟨hat, hlen⟩
    · obtain ⟨P, Q, e1, e2⟩ := ring_split hr (List.getElem?_eq_getElem hat)
      generalize r.ss[r.at_] = t at e1
      obtain ⟨ba, pe, ss, at_, op⟩ := r
      simp only at e1 e2
      subst e1 e2
      have hinv := h.inv
      rw [cyc_mk _ _ P Q t op _ rfl] at hinv
      by_cases hc : P.length ≠ 0 ∨ op = true
      · have e : addR ⟨ba, pe, P ++ t :: Q, P.length, op⟩ n p = ⟨ba, pe, (P ++ [⟨n, p, 0, 0⟩]) ++ t :: Q, P.length + 1, op⟩ := by
          unfold addR posR
          simp only [if_pos hc]
          rw [List.take_left, List.drop_left]
          simp
        rw [e, cyc_mk ba pe (P ++ [SV.mk n p 0 0]) Q t op (P.length + 1) (by simp)]
        cases op with
        | true =>
          simp only [if_true] at hinv ⊢
          have := Inv.insert (xs := (Q ++ P).map csS) (ys := [csO t]) (by simpa using hinv) p hn ⟨h1, h2⟩ (fun _ => by simp)
          simpa [seat0, csS] using this
        | false =>
          simp only [Bool.false_eq_true, if_false] at hinv ⊢
          have := Inv.insert (xs := csS t :: (Q ++ P).map csS) (ys := []) (by simpa using hinv) p hn ⟨h1, h2⟩ (fun h => by cases h)
          simpa [seat0, csS] using this
      · have hP : P = [] := by
          cases P with
          | nil => rfl
          | cons a b => exact absurd (.inl (by simp)) hc
        have hop : op = false := by
          cases op with
          | false => rfl
          | true => exact absurd (.inr rfl) hc
        subst hP hop
        have e : addR ⟨ba, pe, [] ++ t :: Q, ([] : List SV).length, false⟩ n p = ⟨ba, pe, [] ++ t :: (Q ++ [⟨n, p, 0, 0⟩]), 0, false⟩ := by
          unfold addR posR
          simp
        rw [e, cyc_mk ba pe [] (Q ++ [SV.mk n p 0 0]) t false 0 rfl]
        simp only [Bool.false_eq_true, if_false] at hinv ⊢
        have := Inv.insert (xs := csS t :: (Q ++ []).map csS) (ys := []) (by simpa using hinv) p hn ⟨h1, h2⟩ (fun h => by cases h)
        simpa [seat0, csS] using this
    · have hop : r.op = false := by cases e : r.op with | false => rfl | true => exact absurd hlen (hr.op e)
      obtain ⟨ba, pe, ss, at_, op⟩ := r
      simp only at hat hlen hop
      subst hat hop
      have hss : ss = [] := List.length_eq_zero_iff.1 hlen
      subst hss
      have hinv := h.inv
      rw [cyc_zero] at hinv
      have e : addR ⟨ba, pe, [], 0, false⟩ n p = ⟨ba, pe, [⟨n, p, 0, 0⟩], 0, false⟩ := by unfold addR posR; simp
      rw [e, cyc_zero]
      have := Inv.insert (xs := []) (ys := []) (by simpa using hinv) p hn ⟨h1, h2⟩ (fun h => by cases h)
      simpa [seat0, csS] using this
  · rcases List.mem_append.1 hx with h3 | h3
    · exact h.age x (List.mem_of_mem_take h3)
    · rcases List.mem_cons.1 h3 with h3 | h3
      · rw [h3]; exact ⟨Int.le_refl _, Int.natCast_nonneg _⟩
      · exact h.age x (List.mem_of_mem_drop h3)
theorem split_at {P : List SV} {i : Nat} {s : SV} (h : P[i]? = some s) : ∃ A B, P = A ++ s :: B ∧ i = A.length := by
  obtain ⟨h1, h2⟩ := List.getElem?_eq_some_iff.1 h
  refine ⟨P.take i, P.drop (i + 1), ?_, by simp; omega⟩
  conv => lhs; rw [← List.take_append_drop i P, List.drop_eq_getElem_cons h1, h2]
theorem take_drop_mid (A B : List SV) (s : SV) : (A ++ s :: B).take A.length = A ∧ (A ++ s :: B).drop (A.length + 1) = B := by
  refine ⟨List.take_left, ?_⟩
  rw [show A ++ s :: B = (A ++ [s]) ++ B by simp, show A.length + 1 = (A ++ [s]).length by simp]; exact List.drop_left
/-- A seat leaves. -/
theorem St.leave {c : CV} {r : RV} {l : List TV} {n i : Nat} {s0 : Aud} {d : Int → Bool} (h : St c r l n s0 d) (hr : RingOk r) {s : SV} (hs : r.ss[i]? = some s) : ∃ s1 d1, St c (remR r i) (l ++ [⟨s.id, 0, 0, 0, true⟩]) n s1 d1 := by
  have hil := (List.getElem?_eq_some_iff.1 hs).1
  have hcn := (seatB_parts (hr.seat hs)).1
  have hages : AgesOk (remR r i).ss (l ++ [(⟨s.id, 0, 0, 0, true⟩ : TV)]).length := fun x hx => by
    have := h.age x (remR_mem x hx)
    rw [List.length_append, List.length_singleton]; omega
  have hat : r.at_ < r.ss.length := by rcases hr.at_ with h1 | ⟨_, h1⟩; exact h1; omega
  obtain ⟨P, Q, e1, e2⟩ := ring_split hr (List.getElem?_eq_getElem hat)
  generalize r.ss[r.at_] = t at e1
  obtain ⟨ba, pe, ss, at_, op⟩ := r
  simp only at e1 e2 hs hil
  subst e1 e2
  have hinv := h.inv
  rw [cyc_mk _ _ P Q t op _ rfl] at hinv
  have fin : ∀ (xs ys : List CSeat) (u : CSeat), u.id = s.id → (if op = true then (Q ++ P).map csS ++ [csO t] else csS t :: (Q ++ P).map csS) = xs ++ u :: ys → cycOf (remR ⟨ba, pe, P ++ t :: Q, P.length, op⟩ i) = xs ++ ys → (remR ⟨ba, pe, P ++ t :: Q, P.length, op⟩ i).op = (op && decide (ys ≠ [])) →
      ∃ s1 d1, St c (remR ⟨ba, pe, P ++ t :: Q, P.length, op⟩ i) (l ++ [⟨s.id, 0, 0, 0, true⟩]) n s1 d1 := by
    intro xs ys u hu k1 k2 k3
    have hinv' := hinv
    rw [k1] at hinv'
    have hd := (hinv'.sv u (by simp)).2.2.2.2.2.2
    rw [hu] at hd
    obtain ⟨s1, j1, j2⟩ := hinv'.leave c
    rw [hu] at j1 j2
    exact ⟨s1, _, h.ok.snoc (x := ⟨s.id, 0, 0, 0, true⟩) (turnB_leave hcn) hd j1, inv_if j2 k2 k3, hages⟩
  rcases Nat.lt_trichotomy i P.length with hi | hi | hi
  · have hs2 : P[i]? = some s := by rwa [List.getElem?_append_left hi] at hs
    obtain ⟨A, B, rfl, rfl⟩ := split_at hs2
    have e : remR ⟨ba, pe, (A ++ s :: B) ++ t :: Q, (A ++ s :: B).length, op⟩ A.length = ⟨ba, pe, (A ++ B) ++ t :: Q, (A ++ B).length, op⟩ := by
      unfold remR
      simp only [if_pos hi]
      have h1 := take_drop_mid A (B ++ t :: Q) s
      have h2 : (A ++ s :: B) ++ t :: Q = A ++ s :: (B ++ t :: Q) := by simp
      rw [h2, h1.1, h1.2]
      congr 1
      · simp
      · simp
      · have : decide (A.length ≠ (A ++ s :: B).length) = true := by simp
        rw [this, Bool.and_true]
    cases op with
    | true =>
      refine fin ((Q ++ A).map csS) (B.map csS ++ [csO t]) (csS s) rfl (by simp) ?_ (by rw [e]; simp)
      rw [e, cyc_mk _ _ (A ++ B) Q t true _ rfl]; simp
    | false =>
      refine fin (csS t :: (Q ++ A).map csS) (B.map csS) (csS s) rfl (by simp) ?_ (by rw [e]; simp)
      rw [e, cyc_mk _ _ (A ++ B) Q t false _ rfl]; simp
  · subst hi
    have hts : t = s := by
      rw [List.getElem?_append_right (Nat.le_refl _), Nat.sub_self] at hs
      simpa using hs
    subst hts
    have e : remR ⟨ba, pe, P ++ t :: Q, P.length, op⟩ P.length = ⟨ba, pe, P ++ Q, if Q = [] then 0 else P.length, false⟩ := by
      unfold remR
      have h1 := take_drop_mid P Q t
      simp only [Nat.lt_irrefl, if_false, if_true]
      rw [h1.1, h1.2]
      congr 1
      · cases Q <;> simp
      · simp
    cases op with
    | true =>
      refine fin ((Q ++ P).map csS) [] (csO t) rfl (by simp) ?_ (by rw [e]; simp)
      rw [e, cyc_next _ _ P Q _ rfl]; simp
    | false =>
      refine fin [] ((Q ++ P).map csS) (csS t) rfl (by simp) ?_ (by rw [e]; rfl)
      rw [e, cyc_next _ _ P Q _ rfl]; simp
  · have hs2 : Q[i - (P.length + 1)]? = some s := by
      rw [show P ++ t :: Q = (P ++ [t]) ++ Q by simp, List.getElem?_append_right (by simp; omega)] at hs
      simpa using hs
    obtain ⟨A, B, rfl, hia⟩ := split_at hs2
    have hi2 : i = (P ++ t :: A).length := by simp; omega
    have e : remR ⟨ba, pe, P ++ t :: (A ++ s :: B), P.length, op⟩ i = ⟨ba, pe, P ++ t :: (A ++ B), P.length, op⟩ := by
      unfold remR
      simp only [if_neg (show ¬ i < P.length by omega), if_neg (show ¬ i = P.length by omega)]
      have h1 := take_drop_mid (P ++ t :: A) B s
      have h2 : P ++ t :: (A ++ s :: B) = (P ++ t :: A) ++ s :: B := by simp
      rw [h2, hi2, h1.1, h1.2]
      congr 1
      · simp
      · have : decide ((P ++ t :: A).length ≠ P.length) = true := by simp
        rw [this, Bool.and_true]
    cases op with
    | true =>
      refine fin (A.map csS) ((B ++ P).map csS ++ [csO t]) (csS s) rfl (by simp) ?_ (by rw [e]; simp)
      rw [e, cyc_mk _ _ P (A ++ B) t true _ rfl]; simp
    | false =>
      refine fin (csS t :: A.map csS) ((B ++ P).map csS) (csS s) rfl (by simp) ?_ (by rw [e]; rfl)
      rw [e, cyc_mk _ _ P (A ++ B) t false _ rfl]; simp
/-- What Pick has done at last. -/
theorem PickI.last {r0 r1 : RV} {ts : List TV} (h : PickI r0 r1 ts) : (r1 = r0 ∧ ts = []) ∨ (∃ r t0 s, PickI r0 r t0 ∧ r.op = false ∧ r.ss[r.at_]? = some s ∧ ((r1 = openR r s (qfR r s) ∧ 0 < s.df + qfR r s) ∨ r1 = closeR r s (qfR r s)) ∧ ts = t0 ++ [turnOf s (qfR r s)]) := by
  cases h with
  | start => exact .inl ⟨rfl, rfl⟩
  | close h1 h2 h3 h4 => exact .inr ⟨_, _, _, h1, h2, h3, .inr rfl, rfl⟩
  | opens h1 h2 h3 h4 => exact .inr ⟨_, _, _, h1, h2, h3, .inl ⟨rfl, h4⟩, rfl⟩
/-- A turn that spends. -/
theorem St.turn {c : CV} {r r1 : RV} {l ts : List TV} {n : Nat} {s0 : Aud} {d : Int → Bool} (h : St c r l n s0 d) (hr : RingOk r) (hb : r.ba = c.ba) (hp : r.pe = c.ag) (hl : l.length + 400 ≤ 1000000) (hpi : PickI r r1 ts) (ho : r1.op = true) {s : SV} (hs : r1.ss[r1.at_]? = some s) {co : Int} (h1 : 1 ≤ co) (h2 : co ≤ 8) {fin : Bool} :
    ∃ s1 d1, St c (spendR r1 s co fin) (setLast (l ++ preT s ts) co fin) n s1 d1 := by
  have hf := hpi.facts hr
  have h7 := lackS_le hr.lows
  have h8 := hr.len
  have hseat := seatB_parts (hf.1.seat hs)
  rcases hpi.last with ⟨rfl, rfl⟩ | ⟨r', t0, s', k1, k2, k3, k4, rfl⟩
  · have hhigh := hr.high hs ho
    obtain ⟨P, Q, e1, e2⟩ := ring_split hr hs
    have hages := spend_ages hs (co := co) (fin := fin) h.age (by omega)
    obtain ⟨ba, pe, ss, at_, op⟩ := r1
    simp only at e1 e2 hb hp ho hs
    subst e1 e2 hb hp ho
    have hage := h.age s (by simp)
    have hinv := h.inv
    rw [cyc_mk _ _ P Q s true _ rfl] at hinv
    simp only [if_true] at hinv
    obtain ⟨s1, j1, j2⟩ := hinv.more c (st := 1) (co := co) (fin := fin) (by decide) (by show -7 ≤ s.df - co; omega)
    have hsp := spend_cyc c P Q s co fin (by omega)
    have e3 : setLast (l ++ preT s []) co fin = l ++ [⟨s.id, 0, 1, co, fin⟩] := by
      rw [show preT s [] = [⟨s.id, 0, 0, 0, false⟩] from rfl, setLast_snoc]
    rw [e3]
    refine ⟨s1, _, h.ok.snoc (x := ⟨s.id, 0, 1, co, fin⟩) (turnB_pay hseat.1 (by decide) (by decide) h1 h2) (hinv.sv (csO s) (by simp)).2.2.2.2.2.2 j1, ?_, ?_⟩
    · exact inv_if j2 hsp.1 hsp.2
    · rw [List.length_append, List.length_singleton]; exact hages
  · rcases k4 with ⟨rfl, k5⟩ | rfl
    · have hf' := k1.facts hr
      obtain ⟨s1, d1, hst⟩ := k1.st (c := c) hr hb hp (l := l) (n := n) (by omega) h8 ⟨_, _, h⟩ k2
      have hlow := hf'.1.low k3 (.inl k2)
      have hrng := qf_range r'.ba s'.pri s'.age r'.pe
      obtain ⟨q, hq⟩ : ∃ q, qfR r' s' = q := ⟨_, rfl⟩
      have hqe : qf r'.ba s'.pri s'.age r'.pe = q := hq
      rw [hq] at hs k5 ho hf ⊢
      rw [hqe] at hrng
      have hss : s = upS s' q := by
        have h3 : (r'.ss.set r'.at_ (upS s' q))[r'.at_]? = some s := hs
        rw [List.getElem?_set_self (List.getElem?_eq_some_iff.1 k3).1] at h3
        exact (Option.some.inj h3).symm
      subst hss
      have hcn := (seatB_parts (hf'.1.seat k3)).1
      have hages0 : AgesOk (openR r' s' q).ss (l ++ t0).length := fun x hx => by
        rcases List.mem_or_eq_of_mem_set hx with h3 | rfl
        · exact hst.age x h3
        · exact hst.age s' (List.mem_of_getElem? k3)
      have h9 := hf'.2.2.2.2.2.2
      have hages := spend_ages hs (co := co) (fin := fin) hages0 (by rw [List.length_append]; omega)
      obtain ⟨P, Q, e1, e2⟩ := ring_split hf'.1 k3
      obtain ⟨ba, pe, ss, at_, op⟩ := r'
      have hb' := hf'.2.1.trans hb
      have hp' := hf'.2.2.1.trans hp
      simp only at e1 e2 hb' hp' k2 hqe
      subst e1 e2 hb' hp' k2
      have hage := hst.age s' (by simp)
      have hinv := hst.inv
      rw [cyc_mk _ _ P Q s' false _ rfl] at hinv
      simp only [Bool.false_eq_true, if_false] at hinv
      obtain ⟨s2, j1, j2⟩ := hinv.begin c (qu := q) (st := 1) (co := co) (fin := fin) hqe.symm (by omega) (fun _ => by show 0 < s'.df + q; exact k5) (by show -7 ≤ s'.df + q - co; omega)
      have hll : (l ++ t0).length ≤ 1000000 := by rw [List.length_append]; omega
      have hsp := spend_cyc c P Q (upS s' q) co fin (by show 0 ≤ s'.age ∧ s'.age ≤ 1000000; omega)
      have eo : openR ⟨c.ba, c.ag, P ++ s' :: Q, P.length, false⟩ s' q = ⟨c.ba, c.ag, P ++ upS s' q :: Q, P.length, true⟩ := by unfold openR; simp only [set_mid]
      have e3 : setLast (l ++ preT (upS s' q) (t0 ++ [turnOf s' q])) co fin = (l ++ t0) ++ [⟨s'.id, q, 1, co, fin⟩] := by
        rw [show preT (upS s' q) (t0 ++ [turnOf s' q]) = t0 ++ [turnOf s' q] from if_neg (by simp), ← List.append_assoc, setLast_snoc]
        rfl
      rw [e3, eo]
      rw [eo] at hages
      refine ⟨s2, _, hst.ok.snoc (x := ⟨s'.id, q, 1, co, fin⟩) (turnB_pay hcn (by omega) hrng.2 h1 h2) (hinv.sv (csS s') (by simp)).2.2.2.2.2.2 j1, ?_, ?_⟩
      · exact inv_if j2 hsp.1 hsp.2
      · rw [List.length_append, List.length_singleton]; exact hages
    · exact absurd ho (by unfold closeR overR; simp)
theorem LogI.st {c : CV} (hc : 1 ≤ c.ba ∧ c.ba ≤ 64) (hc2 : 1 ≤ c.ag ∧ c.ag ≤ 1024) {k : Nat} {r : RV} {l : List TV} {n : Nat} (h : LogI c k r l n) (hk : k ≤ 1000) : ∃ s d, St c r l n s d := by
  induction h with
  | start => exact ⟨_, _, ⟨rfl, rfl, rfl⟩, by rw [cyc_zero]; exact Inv.start, fun x hx => by cases hx⟩
  | skip _ ih => exact ih (by omega)
  | add hlog h1 h2 h3 ih =>
    obtain ⟨s, d, h⟩ := ih (by omega)
    exact ⟨s, d, h.add (hlog.facts hc hc2 (by omega)).ok h2 h3⟩
  | leave hlog hs ih =>
    obtain ⟨s, d, h⟩ := ih (by omega)
    exact h.leave (hlog.facts hc hc2 (by omega)).ok hs
  | turn hlog hp ho hs h1 h2 ih =>
    obtain ⟨s, d, h⟩ := ih (by omega)
    have hf := hlog.facts hc hc2 (by omega)
    exact h.turn hf.ok hf.ba hf.pe (by have := hf.ll; omega) hp ho hs h1 h2
/-- The audit accepts the drawn log. -/
theorem audit_ring {c : CV} (hc : cfgB c = true) {r : RV} {l : List TV} {n : Nat} (h : LogI c 25 r l n) : auditT c l = ((l.length : Int), 0) := by
  have hc1 : (1 ≤ c.ba ∧ c.ba ≤ 64) ∧ 1 ≤ c.ag ∧ c.ag ≤ 1024 := by
    have h1 := hc
    unfold cfgB btwB at h1
    simp only [Bool.and_eq_true, decide_eq_true_eq] at h1
    omega
  obtain ⟨s, d, h1⟩ := h.st hc1.1 hc1.2 (by decide)
  have hf := h.facts hc1.1 hc1.2 (by decide)
  have hlb : logB l = true := by
    unfold logB
    rw [h1.ok.val, Bool.and_true, decide_eq_true_eq]
    have := hf.ll; omega
  unfold auditT
  rw [if_neg (by rw [hc, hlb]; simp), auditGo_run c l _ _ 0 h1.ok.run, Nat.zero_add]
end Go.Proofs.Ytbgoogjhgeoapaa
