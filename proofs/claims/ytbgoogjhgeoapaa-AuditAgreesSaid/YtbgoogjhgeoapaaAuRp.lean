/- Rings and the logs that they write, plain: what Pick does, what keeps a ring valid. No walk. -/
import Derived.Test.YtbgoogjhgeoapaaAuG5
import Derived.Test.YtbgoogjhgeoapaaAuR
set_option linter.unusedVariables false
set_option linter.unusedSimpArgs false
set_option linter.unusedSectionVars false
namespace Go.Proofs.Ytbgoogjhgeoapaa
open Go.RowKit
variable [Base]

def qfR (r : RV) (s : SV) : Int := qf r.ba s.pri s.age r.pe
def upS (s : SV) (q : Int) : SV := ⟨s.id, s.pri, s.age, s.df + q⟩
def openR (r : RV) (s : SV) (q : Int) : RV := ⟨r.ba, r.pe, r.ss.set r.at_ (upS s q), r.at_, true⟩
def closeR (r : RV) (s : SV) (q : Int) : RV := overR (openR r s q) (upS s q)
def turnOf (s : SV) (q : Int) : TV := ⟨s.id, q, 0, 0, false⟩
/-- What Pick's rounds make of a ring. -/
inductive PickI (r0 : RV) : RV → List TV → Prop
  | start : PickI r0 r0 []
  | close {r : RV} {ts : List TV} {s : SV} : PickI r0 r ts → r.op = false → r.ss[r.at_]? = some s → s.df + qfR r s ≤ 0 → PickI r0 (closeR r s (qfR r s)) (ts ++ [turnOf s (qfR r s)])
  | opens {r : RV} {ts : List TV} {s : SV} : PickI r0 r ts → r.op = false → r.ss[r.at_]? = some s → 0 < s.df + qfR r s → PickI r0 (openR r s (qfR r s)) (ts ++ [turnOf s (qfR r s)])

theorem qf_range (a b c d : Int) : 1 ≤ qf a b c d ∧ qf a b c d ≤ 64 := by unfold qf; omega
theorem addS_range (a b : Int) : 0 ≤ addS a b ∧ addS a b ≤ 1073741824 := by unfold addS clampS; omega
theorem seatB_mk {s : SV} (h1 : cnB s.id = true) (h2 : 0 ≤ s.pri) (h3 : s.pri ≤ 3) (h4 : cnB s.age = true) : seatB s = true := by
  unfold seatB btwB
  simp [h1, h2, h3, h4]
theorem nd_map {l l' : List SV} (h : l'.map SV.id = l.map SV.id) (hp : l.Pairwise fun a b => a.id ≠ b.id) : l'.Pairwise fun a b => a.id ≠ b.id := by
  have h1 : (l.map SV.id).Pairwise (· ≠ ·) := List.pairwise_map.2 hp
  rw [← h] at h1
  exact List.pairwise_map.1 h1
theorem map_set_id {l : List SV} {k : Nat} {s s' : SV} (hs : l[k]? = some s) (hid : s'.id = s.id) : (l.set k s').map SV.id = l.map SV.id := by
  obtain ⟨h1, h2⟩ := List.getElem?_eq_some_iff.1 hs
  apply List.ext_getElem?
  intro i
  rw [List.getElem?_map, List.getElem?_map, List.getElem?_set]
  by_cases e : k = i
  · subst e
    rw [if_pos rfl, if_pos h1, hs]
    simp [hid]
  · rw [if_neg e]
theorem RingOk.seat {r : RV} (h : RingOk r) {i : Nat} {s : SV} (hs : r.ss[i]? = some s) : seatB s = true := h.ok s (List.mem_of_getElem? hs)
theorem RingOk.low {r : RV} (h : RingOk r) {i : Nat} {s : SV} (hs : r.ss[i]? = some s) (hn : r.op = false ∨ i ≠ r.at_) : -7 ≤ s.df ∧ s.df ≤ 0 := by
  have := h.df i s hs
  unfold dfOk at this
  rcases hn with hn | hn
  · rw [hn, Bool.false_and] at this; simpa using this
  · rw [decide_eq_false hn, Bool.and_false] at this; simpa using this
theorem RingOk.high {r : RV} (h : RingOk r) {s : SV} (hs : r.ss[r.at_]? = some s) (ho : r.op = true) : 1 ≤ s.df ∧ s.df ≤ 64 := by
  have := h.df _ s hs
  unfold dfOk at this
  rw [ho, decide_eq_true rfl] at this
  simpa using this
theorem RingOk.set {r : RV} (h : RingOk r) {s s' : SV} (hs : r.ss[r.at_]? = some s) (hid : s'.id = s.id) (hok : seatB s' = true) (at' : Nat) (op' : Bool) (hat : at' < r.ss.length)
    (hdf : dfOk op' (decide (r.at_ = at')) s'.df) (ho : ∀ i, i ≠ r.at_ → op' = false ∨ i ≠ at') : RingOk ⟨r.ba, r.pe, r.ss.set r.at_ s', at', op'⟩ := by
  obtain ⟨h1, h2⟩ := List.getElem?_eq_some_iff.1 hs
  refine ⟨h.ba, h.pe, by simpa using h.len, .inl (by simpa using hat), fun _ => by show List.length _ ≠ 0; rw [List.length_set]; omega, nd_map (map_set_id hs hid) h.nd, fun x hx => ?_, fun i x hx => ?_⟩
  · rcases List.mem_or_eq_of_mem_set hx with h3 | rfl
    · exact h.ok x h3
    · exact hok
  · simp only [List.getElem?_set] at hx
    by_cases e : r.at_ = i
    · rw [if_pos e, if_pos h1] at hx
      obtain rfl := Option.some.inj hx
      rw [← e]; exact hdf
    · rw [if_neg e] at hx
      have hl := h.low hx (.inr (Ne.symm e))
      unfold dfOk
      rcases ho i (Ne.symm e) with h3 | h3
      · rw [h3, Bool.false_and]; simpa using hl
      · rw [decide_eq_false h3, Bool.and_false]; simpa using hl
theorem upS_ok {s : SV} {q : Int} (h : seatB s = true) : seatB (upS s q) = true := h
theorem RingOk.opens {r : RV} (h : RingOk r) {s : SV} (hs : r.ss[r.at_]? = some s) (ho : r.op = false) (hq : 0 < s.df + qfR r s) : RingOk (openR r s (qfR r s)) := by
  have hl := h.low hs (.inl ho)
  have hr := qf_range r.ba s.pri s.age r.pe
  refine h.set (s' := upS s (qfR r s)) hs rfl (upS_ok (h.seat hs)) r.at_ true (List.getElem?_eq_some_iff.1 hs).1 ?_ (fun i hi => .inr hi)
  unfold dfOk upS
  rw [decide_eq_true rfl]
  simp only [Bool.and_self, if_true]
  unfold qfR at *
  omega
theorem overS_ok {s : SV} (h : seatB s = true) : seatB (overS s) = true := by
  obtain ⟨h1, ⟨h2, h3⟩, h4⟩ := seatB_parts h
  have := addS_range s.age 1
  exact seatB_mk h1 h2 h3 (by unfold cnB btwB overS; simp; omega)
/-- The end of an open seat's turn. -/
theorem over_ok {r : RV} (h : RingOk r) {s s' : SV} (hs : r.ss[r.at_]? = some s) (hid : s'.id = s.id) (hok : seatB s' = true) (hd : -7 ≤ s'.df ∧ s'.df ≤ 0) (op : Bool) : RingOk (overR ⟨r.ba, r.pe, r.ss.set r.at_ s', r.at_, op⟩ s') := by
  obtain ⟨h1, h2⟩ := List.getElem?_eq_some_iff.1 hs
  unfold overR
  simp only [List.set_set, List.length_set]
  refine h.set hs (by exact hid) (overS_ok hok) _ _ (by split <;> omega) ?_ (fun i hi => .inl rfl)
  unfold dfOk
  rw [Bool.false_and]
  simpa [overS] using hd
theorem RingOk.closes {r : RV} (h : RingOk r) {s : SV} (hs : r.ss[r.at_]? = some s) (ho : r.op = false) (hq : s.df + qfR r s ≤ 0) : RingOk (closeR r s (qfR r s)) := by
  have hl := h.low hs (.inl ho)
  have hr := qf_range r.ba s.pri s.age r.pe
  refine over_ok (s' := upS s (qfR r s)) h hs rfl (upS_ok (h.seat hs)) ?_ true
  unfold upS qfR at *
  simp only
  omega
/-- What all deficits lack. -/
def lackS (l : List SV) : Nat := (l.map fun s => (-s.df).toNat).sum
theorem lackS_set {s s' : SV} : ∀ {l : List SV} {k : Nat}, l[k]? = some s → lackS (l.set k s') + (-s.df).toNat = lackS l + (-s'.df).toNat
  | [], k, h => by simp at h
  | t :: l, 0, h => by
    simp at h
    subst h
    simp [lackS]; omega
  | t :: l, k + 1, h => by
    have := lackS_set (s' := s') (l := l) (k := k) (by simpa using h)
    simp only [lackS, List.set_cons_succ, List.map_cons, List.sum_cons] at this ⊢
    omega
theorem lackS_le : ∀ {l : List SV}, (∀ s ∈ l, -7 ≤ s.df) → lackS l ≤ 7 * l.length
  | [], _ => Nat.zero_le _
  | t :: l, h => by
    have h1 := lackS_le (l := l) (fun s hs => h s (by simp [hs]))
    have h2 := h t (by simp)
    simp only [lackS, List.map_cons, List.sum_cons, List.length_cons] at h1 ⊢
    omega
theorem RingOk.lows {r : RV} (h : RingOk r) : ∀ s ∈ r.ss, -7 ≤ s.df := by
  intro s hs
  obtain ⟨i, hi, e⟩ := List.getElem_of_mem hs
  have h1 := h.df i s (by rw [List.getElem?_eq_getElem hi, e])
  unfold dfOk at h1
  split at h1 <;> omega
/-- What stands behind Pick's rounds. -/
theorem PickI.facts {r0 r : RV} {ts : List TV} (h : PickI r0 r ts) (hr : RingOk r0) :
    RingOk r ∧ r.ba = r0.ba ∧ r.pe = r0.pe ∧ r.ss.length = r0.ss.length ∧ r.ss.map SV.id = r0.ss.map SV.id ∧ (r.op = false → ts.length + lackS r.ss ≤ lackS r0.ss) ∧ ts.length ≤ lackS r0.ss + 1 := by
  induction h with
  | start => exact ⟨hr, rfl, rfl, rfl, rfl, (fun _ => by simp), by simp⟩
  | @close r ts s hp ho hs hq ih =>
    obtain ⟨i1, i2, i3, i4, i5, i6, i7⟩ := ih
    have hl := i1.low hs (.inl ho)
    have hrr := qf_range r.ba s.pri s.age r.pe
    have hk := lackS_set (s' := overS (upS s (qfR r s))) hs
    have hc := i6 ho
    have e : (closeR r s (qfR r s)).ss = r.ss.set r.at_ (overS (upS s (qfR r s))) := by unfold closeR overR openR; simp only [List.set_set]
    have hd : (overS (upS s (qfR r s))).df = s.df + qfR r s := rfl
    have hq1 : 1 ≤ qfR r s := hrr.1
    refine ⟨i1.closes hs ho hq, i2, i3, by rw [e, List.length_set, i4], by rw [e, map_set_id (s' := overS (upS s (qfR r s))) hs rfl, i5], fun _ => ?_, ?_⟩
    · rw [e, List.length_append, List.length_singleton]; omega
    · rw [List.length_append, List.length_singleton]; omega
  | @opens r ts s hp ho hs hq ih =>
    obtain ⟨i1, i2, i3, i4, i5, i6, i7⟩ := ih
    have hc := i6 ho
    refine ⟨i1.opens hs ho hq, i2, i3, by unfold openR; rw [List.length_set, i4], by unfold openR; rw [map_set_id (s' := upS s (qfR r s)) hs rfl, i5], (fun h => by cases h), ?_⟩
    rw [List.length_append, List.length_singleton]; omega
/-- A ring behind a turn's cost. -/
def payS (s : SV) (co : Int) : SV := ⟨s.id, s.pri, s.age, s.df - co⟩
def payR (r : RV) (s : SV) (co : Int) : RV := ⟨r.ba, r.pe, r.ss.set r.at_ (payS s co), r.at_, true⟩
def spendR (r : RV) (s : SV) (co : Int) (fin : Bool) : RV := if fin then remR r r.at_ else if 0 < s.df - co then payR r s co else overR (payR r s co) (payS s co)
theorem remR_ok {r : RV} (h : RingOk r) {i : Nat} {s : SV} (hs : r.ss[i]? = some s) : RingOk (remR r i) := by
  obtain ⟨h1, h2⟩ := List.getElem?_eq_some_iff.1 hs
  have hat := h.at_
  have hsub : List.Sublist (r.ss.take i ++ r.ss.drop (i + 1)) r.ss := by
    conv => rhs; rw [← List.take_append_drop i r.ss]
    exact List.Sublist.append (List.Sublist.refl _) (List.drop_sublist_drop_left _ (Nat.le_succ i))
  have hlen : (r.ss.take i ++ r.ss.drop (i + 1)).length = r.ss.length - 1 := by simp; omega
  refine ⟨h.ba, h.pe, ?_, ?_, ?_, h.nd.sublist hsub, fun x hx => h.ok x (hsub.subset hx), fun k x hx => ?_⟩
  · show (r.ss.take i ++ r.ss.drop (i + 1)).length ≤ 16
    have := h.len; omega
  · show (if i < r.at_ then r.at_ - 1 else if i = r.at_ then (if r.ss.length ≤ r.at_ + 1 then 0 else r.at_) else r.at_) < (r.ss.take i ++ r.ss.drop (i + 1)).length ∨ ((if i < r.at_ then r.at_ - 1 else if i = r.at_ then (if r.ss.length ≤ r.at_ + 1 then 0 else r.at_) else r.at_) = 0 ∧ (r.ss.take i ++ r.ss.drop (i + 1)).length = 0)
    rw [hlen]
    split
    · omega
    · split
      · split <;> omega
      · omega
  · intro ho
    show (r.ss.take i ++ r.ss.drop (i + 1)).length ≠ 0
    rw [hlen]
    simp only [remR, Bool.and_eq_true, decide_eq_true_eq] at ho
    omega
  · show dfOk (r.op && decide (i ≠ r.at_)) (decide (k = (if i < r.at_ then r.at_ - 1 else if i = r.at_ then (if r.ss.length ≤ r.at_ + 1 then 0 else r.at_) else r.at_))) x.df
    have hx' : r.ss[if k < i then k else k + 1]? = some x := by
      have : (remR r i).ss[k]? = (r.ss.take i ++ r.ss.drop (i + 1))[k]? := rfl
      rw [this, List.getElem?_append] at hx
      have hti : (r.ss.take i).length = i := by simp; omega
      rw [hti] at hx
      split at hx
      · rename_i hk
        rw [if_pos hk]
        rwa [List.getElem?_take_of_lt hk] at hx
      · rename_i hk
        rw [if_neg hk]
        rw [List.getElem?_drop] at hx
        rwa [show i + 1 + (k - i) = k + 1 by omega] at hx
    have hdf := h.df _ x hx'
    have hk : ¬ (r.op = true ∧ i ≠ r.at_) ∨ (decide ((if k < i then k else k + 1) = r.at_) = decide (k = (if i < r.at_ then r.at_ - 1 else if i = r.at_ then (if r.ss.length ≤ r.at_ + 1 then 0 else r.at_) else r.at_))) := by
      by_cases hh : r.op = true ∧ i ≠ r.at_
      · right
        congr 1
        apply propext
        rcases Nat.lt_or_ge k i with h3 | h3
        · rw [if_pos h3]
          split
          · omega
          · rw [if_neg hh.2]
        · rw [if_neg (by omega)]
          split
          · omega
          · rw [if_neg hh.2]; omega
      · exact .inl hh
    rcases hk with hk | hk
    · have e : (r.op && decide (i ≠ r.at_)) = false := by
        cases e1 : r.op with
        | false => rfl
        | true =>
          have : i = r.at_ := by
            by_cases e2 : i = r.at_
            · exact e2
            · exact absurd ⟨e1, e2⟩ hk
          simp [this]
      rw [e]
      unfold dfOk at hdf ⊢
      rw [Bool.false_and, if_neg (by decide)]
      by_cases e1 : r.op = true
      · have hia : i = r.at_ := by
          by_cases e2 : i = r.at_
          · exact e2
          · exact absurd ⟨e1, e2⟩ hk
        rw [if_neg] at hdf
        · exact hdf
        · have : ¬ ((if k < i then k else k + 1) = r.at_) := by split <;> omega
          simp [this]
      · simp only [Bool.not_eq_true] at e1
        rw [e1, Bool.false_and, if_neg (by decide)] at hdf
        exact hdf
    · rw [← hk]
      unfold dfOk at hdf ⊢
      by_cases e1 : i = r.at_
      · subst e1
        rw [if_neg (by simp)]
        have : ¬ ((if k < r.at_ then k else k + 1) = r.at_) := by split <;> omega
        rw [if_neg (by simp [this])] at hdf
        exact hdf
      · rw [show decide (i ≠ r.at_) = true by simp [e1], Bool.and_true]
        exact hdf
theorem spendR_ok {r : RV} (h : RingOk r) (ho : r.op = true) {s : SV} (hs : r.ss[r.at_]? = some s) {co : Int} (h1 : 1 ≤ co) (h2 : co ≤ 8) (fin : Bool) : RingOk (spendR r s co fin) := by
  have hh := h.high hs ho
  unfold spendR
  split
  · exact remR_ok h hs
  · split
    · rename_i h3
      refine h.set (s' := payS s co) hs rfl (show seatB s = true from h.seat hs) r.at_ true (List.getElem?_eq_some_iff.1 hs).1 ?_ (fun i hi => .inr hi)
      unfold dfOk payS
      rw [decide_eq_true rfl]
      simp only [Bool.and_self, if_true]
      omega
    · rename_i h3
      exact over_ok (s' := payS s co) h hs rfl (show seatB s = true from h.seat hs) (by show -7 ≤ s.df - co ∧ s.df - co ≤ 0; omega) true
theorem addR_ok {r : RV} (h : RingOk r) {id pri : Int} (hid : ∀ s ∈ r.ss, s.id ≠ id) (hcn : cnB id = true) (hp1 : 0 ≤ pri) (hp2 : pri ≤ 3) (hn : r.ss.length < 16) : RingOk (addR r id pri) := by
  have hat := h.at_
  have hpl : posR r ≤ r.ss.length := by unfold posR; split <;> omega
  have hpo : posR r = r.at_ ∧ (r.at_ ≠ 0 ∨ r.op = true) ∨ posR r = r.ss.length ∧ r.at_ = 0 ∧ r.op = false := by
    by_cases e : r.at_ ≠ 0 ∨ r.op = true
    · exact .inl ⟨if_pos e, e⟩
    · refine .inr ⟨if_neg e, ?_, ?_⟩
      · by_cases e1 : r.at_ = 0
        · exact e1
        · exact absurd (.inl e1) e
      · cases e1 : r.op with
        | false => rfl
        | true => exact absurd (.inr e1) e
  have hlen : (r.ss.take (posR r) ++ (⟨id, pri, 0, 0⟩ :: r.ss.drop (posR r)) : List SV).length = r.ss.length + 1 := by simp; omega
  have hmem : ∀ x, x ∈ (r.ss.take (posR r) ++ (⟨id, pri, 0, 0⟩ :: r.ss.drop (posR r)) : List SV) → x ∈ r.ss ∨ x = ⟨id, pri, 0, 0⟩ := by
    intro x hx
    rcases List.mem_append.1 hx with h1 | h1
    · exact .inl (List.mem_of_mem_take h1)
    · rcases List.mem_cons.1 h1 with h1 | h1
      · exact .inr h1
      · exact .inl (List.mem_of_mem_drop h1)
  refine ⟨h.ba, h.pe, (by show List.length _ ≤ 16; simp only [addR]; rw [hlen]; omega), ?_, (fun _ => by show List.length _ ≠ 0; simp only [addR]; rw [hlen]; omega), ?_, fun x hx => ?_, fun k x hx => ?_⟩
  · left
    show (if r.at_ ≠ 0 ∨ r.op = true then r.at_ + 1 else r.at_) < List.length _
    simp only [addR]
    rw [hlen]
    rcases hpo with ⟨e1, e2⟩ | ⟨e1, e2, e3⟩
    · rw [if_pos e2]; have := h.op; rcases hat with h1 | ⟨h1, h2⟩; omega; rcases e2 with e2 | e2; exact absurd h1 e2; exact absurd h2 (this e2)
    · rw [if_neg (by rw [e2, e3]; simp)]; omega
  · show List.Pairwise _ (r.ss.take (posR r) ++ (⟨id, pri, 0, 0⟩ :: r.ss.drop (posR r)))
    have hp : (r.ss.take (posR r) ++ r.ss.drop (posR r)).Pairwise fun a b => a.id ≠ b.id := by rw [List.take_append_drop]; exact h.nd
    obtain ⟨p1, p2, p3⟩ := List.pairwise_append.1 hp
    refine List.pairwise_append.2 ⟨p1, List.pairwise_cons.2 ⟨fun t ht => (hid t (List.mem_of_mem_drop ht)).symm, p2⟩, fun a ha b hb => ?_⟩
    rcases List.mem_cons.1 hb with rfl | hb
    · exact hid a (List.mem_of_mem_take ha)
    · exact p3 a ha b hb
  · rcases hmem x hx with h1 | rfl
    · exact h.ok x h1
    · exact seatB_mk hcn hp1 hp2 rfl
  · show dfOk r.op (decide (k = (if r.at_ ≠ 0 ∨ r.op = true then r.at_ + 1 else r.at_))) x.df
    have hx1 : (r.ss.take (posR r) ++ (⟨id, pri, 0, 0⟩ :: r.ss.drop (posR r)) : List SV)[k]? = some x := hx
    rw [List.getElem?_append] at hx1
    have hti : (r.ss.take (posR r)).length = posR r := by simp; omega
    rw [hti] at hx1
    have hz : dfOk r.op false (0 : Int) := by unfold dfOk; simp
    rcases Nat.lt_trichotomy k (posR r) with hk | hk | hk
    · rw [if_pos hk, List.getElem?_take_of_lt hk] at hx1
      have hd := h.low hx1 (by rcases hpo with ⟨e1, e2⟩ | ⟨e1, e2, e3⟩; exact .inr (by omega); exact .inl e3)
      unfold dfOk
      rw [if_neg]
      · exact hd
      · rcases hpo with ⟨e1, e2⟩ | ⟨e1, e2, e3⟩
        · rw [if_pos e2, decide_eq_false (by omega), Bool.and_false]; decide
        · rw [e3, Bool.false_and]; decide
    · rw [if_neg (by omega), hk, Nat.sub_self] at hx1
      obtain rfl := Option.some.inj (show some (⟨id, pri, 0, 0⟩ : SV) = some x from hx1)
      rcases hpo with ⟨e1, e2⟩ | ⟨e1, e2, e3⟩
      · rw [if_pos e2, decide_eq_false (by omega)]; exact hz
      · rw [e3]; unfold dfOk; simp
    · rw [if_neg (by omega)] at hx1
      obtain ⟨m, hm⟩ : ∃ m, k - posR r = m + 1 := ⟨k - posR r - 1, by omega⟩
      rw [hm, List.getElem?_cons_succ, List.getElem?_drop] at hx1
      have hkk : posR r + m = k - 1 := by omega
      rw [hkk] at hx1
      have hd := h.df _ x hx1
      rcases hpo with ⟨e1, e2⟩ | ⟨e1, e2, e3⟩
      · rw [if_pos e2]
        have : decide (k = r.at_ + 1) = decide (k - 1 = r.at_) := by congr 1; apply propext; omega
        rw [this]; exact hd
      · have := (List.getElem?_eq_some_iff.1 hx1).1
        omega
end Go.Proofs.Ytbgoogjhgeoapaa
