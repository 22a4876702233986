/- Tables of queries: plain Lean, no program in sight. -/
import Derived.Test.YtlchgbfpoaipgaaDoorBitP
import Derived.Test.YtlchgbfpoaipgaaDoorNameP
import Derived.Test.YtlchgbfpoaipgaaDoorPgmP
set_option linter.unusedVariables false
set_option linter.unusedSimpArgs false
set_option linter.unusedSectionVars false
namespace Go.Proofs.YtlchgbfpoaipgaaDoor

structure QRec where
  id : Str
  prog : Int
  kind : Int
  node : Int
  prio : Int
  status : Int
  value : QSet
deriving DecidableEq
def zeroSet : QSet := ⟨0, []⟩
def zeroB (s : QSet) : Bool := decide (s.width = 0) && s.words.isEmpty
def betweenB (n a b : Int) : Bool := decide (a ≤ n) && decide (n ≤ b)
/-- A record that is valid by itself. -/
def statusB (st : Int) (v : QSet) : Bool := if st = 2 then setB v else (decide (st = 1 ∨ st = 3 ∨ st = 4) && zeroB v)
def recB (r : QRec) : Bool := nameB r.id && (betweenB r.prog 0 1073741824 && (betweenB r.node 0 1073741824 && (betweenB r.kind 1 4 && (betweenB r.prio 0 3 && statusB r.status r.value))))
def findFrom (x : Str) : Nat → List QRec → Int
  | _, [] => -1
  | k, r :: l => if r.id = x then (k : Int) else findFrom x (k + 1) l
def findQ (l : List QRec) (x : Str) : Int := findFrom x 0 l
def validFrom (all : List QRec) : Nat → List QRec → Bool
  | _, [] => true
  | k, r :: l => recB r && (decide (findQ all r.id = (k : Int)) && validFrom all (k + 1) l)
/-- A valid table. -/
def tabB (l : List QRec) : Bool := decide (l.length ≤ 64) && validFrom l 0 l
def pend (l : List QRec) : Nat := l.countP fun r => decide (r.status = 1)

abbrev Res := List QRec × Int
def fresh (r : QRec) : QRec := { r with status := 1, value := zeroSet }
def submitQ (l : List QRec) (r : QRec) (most : Int) : Res :=
  if tabB l = false ∨ recB (fresh r) = false then ([], 1) else if 0 ≤ findQ l r.id then ([], 6) else if most ≤ (pend l : Int) ∨ 64 ≤ l.length then ([], 7) else (l ++ [fresh r], 0)
def turn (st : Int) (v : QSet) (r : QRec) : QRec := { r with status := st, value := v }
def finishQ (l : List QRec) (x : Str) (st : Int) (v : QSet) : Res :=
  if tabB l = false ∨ setB v = false then ([], 1) else if findQ l x < 0 then ([], 8) else
  match l[(findQ l x).toNat]? with
  | some r => if r.status ≠ 1 then ([], 10) else (l.set (findQ l x).toNat (turn st v r), 0)
  | none => ([], 0)
def answerQ (l : List QRec) (x : Str) (v : QSet) : Res := finishQ l x 2 v
def cancelQ (l : List QRec) (x : Str) : Res := finishQ l x 3 zeroSet
def forgetQ (l : List QRec) (x : Str) : Res :=
  if tabB l = false then ([], 1) else if findQ l x < 0 then ([], 8) else
  match l[(findQ l x).toNat]? with
  | some r => if r.status = 1 then ([], 11) else (l.eraseIdx (findQ l x).toNat, 0)
  | none => ([], 0)
def hitB (p : Int) (r : QRec) : Bool := decide (r.prog = p) && decide (r.status = 1)
def unload1 (p : Int) (r : QRec) : QRec := if hitB p r then { r with status := 4 } else r
def unloadQ (l : List QRec) (p : Int) : List QRec := if tabB l then l.map (unload1 p) else l
def unloadIds (l : List QRec) (p : Int) : List Str := if tabB l then (l.filter (hitB p)).map (·.id) else []

theorem findFrom_ge (x : Str) : ∀ (l : List QRec) (k : Nat), findFrom x k l = -1 ∨ (k : Int) ≤ findFrom x k l ∧ findFrom x k l < k + l.length
  | [], k => .inl rfl
  | r :: l, k => by
    unfold findFrom
    split
    · right; simp only [List.length_cons]; omega
    · rcases findFrom_ge x l (k + 1) with h | h
      · exact .inl h
      · right; simp only [List.length_cons]; omega
theorem findFrom_none (x : Str) : ∀ (l : List QRec) (k : Nat), findFrom x k l < 0 ↔ ∀ r ∈ l, r.id ≠ x
  | [], k => by simp [findFrom]
  | r :: l, k => by
    unfold findFrom
    split
    · rename_i h
      constructor
      · intro h2; omega
      · intro h2; exact absurd h (h2 r List.mem_cons_self)
    · rename_i h
      rw [findFrom_none x l (k + 1)]
      simp [h]
theorem findFrom_at (x : Str) : ∀ (l : List QRec) (k i : Nat), findFrom x k l = ((k + i : Nat) : Int) ↔ ∃ r, l[i]? = some r ∧ r.id = x ∧ ∀ j, j < i → ∀ r', l[j]? = some r' → r'.id ≠ x
  | [], k, i => by simp [findFrom]; omega
  | r :: l, k, i => by
    unfold findFrom
    split
    · rename_i h
      constructor
      · intro h2
        obtain rfl : i = 0 := by omega
        exact ⟨r, rfl, h, fun j hj => by omega⟩
      · rintro ⟨r', h1, h2, h3⟩
        have : i = 0 := by
          rcases Nat.eq_zero_or_pos i with h0 | h0
          · exact h0
          · exact absurd h (h3 0 h0 r rfl)
        subst this
        simp
    · rename_i h
      cases i with
      | zero =>
        constructor
        · intro h2
          rcases findFrom_ge x l (k + 1) with h3 | h3
          · omega
          · omega
        · rintro ⟨r', h1, h2, _⟩
          simp at h1
          subst h1
          exact absurd h2 h
      | succ i =>
        rw [show k + (i + 1) = (k + 1) + i from by omega, findFrom_at x l (k + 1) i]
        constructor
        · rintro ⟨r', h1, h2, h3⟩
          refine ⟨r', h1, h2, fun j hj r'' hr => ?_⟩
          cases j with
          | zero => simp at hr; subst hr; exact h
          | succ j => exact h3 j (by omega) r'' hr
        · rintro ⟨r', h1, h2, h3⟩
          exact ⟨r', h1, h2, fun j hj r'' hr => h3 (j + 1) (by omega) r'' hr⟩
theorem findQ_at {l : List QRec} {x : Str} {i : Nat} : findQ l x = (i : Int) ↔ ∃ r, l[i]? = some r ∧ r.id = x ∧ ∀ j, j < i → ∀ r', l[j]? = some r' → r'.id ≠ x := by
  have h := findFrom_at x l 0 i
  rw [Nat.zero_add] at h
  exact h
theorem findQ_none {l : List QRec} {x : Str} : findQ l x < 0 ↔ ∀ r ∈ l, r.id ≠ x := findFrom_none x l 0
theorem findQ_some {l : List QRec} {x : Str} (h : ¬ findQ l x < 0) : ∃ (i : Nat) (r : QRec), findQ l x = (i : Int) ∧ l[i]? = some r ∧ r.id = x := by
  obtain ⟨i, hi⟩ := Int.eq_ofNat_of_zero_le (show 0 ≤ findQ l x by omega)
  obtain ⟨r, h1, h2, _⟩ := findQ_at.1 hi
  exact ⟨i, r, hi, h1, h2⟩
theorem validFrom_iff (all : List QRec) : ∀ (l : List QRec) (k : Nat), validFrom all k l = true ↔ ∀ i r, l[i]? = some r → recB r = true ∧ findQ all r.id = ((k + i : Nat) : Int)
  | [], k => by simp [validFrom]
  | r :: l, k => by
    unfold validFrom
    rw [Bool.and_eq_true, Bool.and_eq_true, decide_eq_true_eq, validFrom_iff all l (k + 1)]
    constructor
    · rintro ⟨h1, h2, h3⟩ i r' hr
      cases i with
      | zero => simp at hr; subst hr; exact ⟨h1, h2⟩
      | succ i =>
        obtain ⟨h4, h5⟩ := h3 i r' hr
        exact ⟨h4, by rw [h5]; congr 1; omega⟩
    · intro h
      refine ⟨(h 0 r rfl).1, (h 0 r rfl).2, fun i r' hr => ?_⟩
      obtain ⟨h4, h5⟩ := h (i + 1) r' hr
      exact ⟨h4, by rw [h5]; congr 1; omega⟩
/-- No two records have one name. -/
def Apart (l : List QRec) : Prop := ∀ (i j : Nat) (r r' : QRec), l[i]? = some r → l[j]? = some r' → r.id = r'.id → i = j
theorem tabB_iff {l : List QRec} : tabB l = true ↔ l.length ≤ 64 ∧ (∀ r ∈ l, recB r = true) ∧ Apart l := by
  unfold tabB
  rw [Bool.and_eq_true, decide_eq_true_eq, validFrom_iff]
  constructor
  · rintro ⟨h1, h2⟩
    refine ⟨h1, fun r hr => ?_, fun i j r r' hi hj e => ?_⟩
    · obtain ⟨i, hi⟩ := List.mem_iff_getElem?.1 hr
      exact (h2 i r hi).1
    · have e1 := (h2 i r hi).2
      have e2 := (h2 j r' hj).2
      rw [e, e2] at e1
      omega
  · rintro ⟨h1, h2, h3⟩
    refine ⟨h1, fun i r hi => ⟨h2 r (List.mem_of_getElem? hi), ?_⟩⟩
    rw [Nat.zero_add, findQ_at]
    exact ⟨r, hi, rfl, fun j hj r' hr e => by have := h3 j i r' r hr hi e; omega⟩
theorem tab_nil : tabB [] = true := by decide
/-- A table keeps its names. -/
theorem Apart.ids {l m : List QRec} (h : Apart l) (e : m.map (·.id) = l.map (·.id)) : Apart m := by
  intro i j r r' hi hj he
  have e1 := congrArg (·[i]?) e
  have e2 := congrArg (·[j]?) e
  simp only [List.getElem?_map, hi, hj, Option.map_some] at e1 e2
  cases h1 : l[i]? with
  | none => simp [h1] at e1
  | some a =>
    cases h2 : l[j]? with
    | none => simp [h2] at e2
    | some b =>
      simp [h1] at e1
      simp [h2] at e2
      exact h i j a b h1 h2 (by rw [← e1, ← e2, he])
theorem set_ids {l : List QRec} {i : Nat} {r r' : QRec} (h : l[i]? = some r) (e : r'.id = r.id) : (l.set i r').map (·.id) = l.map (·.id) := by
  apply List.ext_getElem?
  intro j
  rw [List.getElem?_map, List.getElem?_map, List.getElem?_set]
  have hlt := (List.getElem?_eq_some_iff.1 h).1
  by_cases hj : i = j
  · subst hj
    rw [h]
    simp [hlt, e]
  · simp [hj]
theorem recB_parts {r : QRec} (h : recB r = true) : nameB r.id = true ∧ betweenB r.prog 0 1073741824 = true ∧ betweenB r.node 0 1073741824 = true ∧ betweenB r.kind 1 4 = true ∧ betweenB r.prio 0 3 = true ∧ statusB r.status r.value = true := by
  unfold recB at h
  simp only [Bool.and_eq_true] at h
  exact ⟨h.1, h.2.1, h.2.2.1, h.2.2.2.1, h.2.2.2.2.1, h.2.2.2.2.2⟩
theorem recB_turn {r : QRec} (h : recB r = true) {st : Int} {v : QSet} (hs : statusB st v = true) : recB (turn st v r) = true := by
  obtain ⟨h1, h2, h3, h4, h5, _⟩ := recB_parts h
  unfold recB turn
  simp only [h1, h2, h3, h4, h5, hs, Bool.and_self]
theorem tab_set {l : List QRec} {i : Nat} {r : QRec} (h : tabB l = true) (hi : l[i]? = some r) {st : Int} {v : QSet} (hs : statusB st v = true) : tabB (l.set i (turn st v r)) = true := by
  obtain ⟨h1, h2, h3⟩ := tabB_iff.1 h
  refine tabB_iff.2 ⟨by simpa using h1, fun x hx => ?_, h3.ids (set_ids hi rfl)⟩
  rcases List.mem_or_eq_of_mem_set hx with hx | rfl
  · exact h2 x hx
  · exact recB_turn (h2 r (List.mem_of_getElem? hi)) hs
theorem tab_submit {l : List QRec} {r : QRec} (h : tabB l = true) (hr : recB r = true) (hf : findQ l r.id < 0) (hl : l.length < 64) : tabB (l ++ [r]) = true := by
  obtain ⟨h1, h2, h3⟩ := tabB_iff.1 h
  have hn := findQ_none.1 hf
  refine tabB_iff.2 ⟨by simp; omega, fun x hx => ?_, ?_⟩
  · rcases List.mem_append.1 hx with hx | hx
    · exact h2 x hx
    · simp at hx; rw [hx]; exact hr
  · intro i j a b hi hj e
    rw [List.getElem?_append] at hi hj
    split at hi
    · split at hj
      · exact h3 i j a b hi hj e
      · have : b = r := by
          have := List.mem_of_getElem? hj
          simpa using this
        subst this
        exact absurd e (hn a (List.mem_of_getElem? hi))
    · have ha : a = r := by
        have := List.mem_of_getElem? hi
        simpa using this
      have hi1 := (List.getElem?_eq_some_iff.1 hi).1
      split at hj
      · subst ha
        exact absurd e.symm (hn b (List.mem_of_getElem? hj))
      · have hj1 := (List.getElem?_eq_some_iff.1 hj).1
        simp at hi1 hj1
        omega
theorem tab_erase {l : List QRec} (h : tabB l = true) (i : Nat) : tabB (l.eraseIdx i) = true := by
  obtain ⟨h1, h2, h3⟩ := tabB_iff.1 h
  refine tabB_iff.2 ⟨Nat.le_trans (List.length_eraseIdx_le l i) h1, fun x hx => h2 x (List.mem_of_mem_eraseIdx hx), ?_⟩
  intro a b x y ha hb e
  rw [List.getElem?_eraseIdx] at ha hb
  split at ha <;> split at hb
  · exact h3 a b x y ha hb e
  · have := h3 _ _ x y ha hb e; omega
  · have := h3 _ _ x y ha hb e; omega
  · have := h3 _ _ x y ha hb e; omega
theorem unload1_id (p : Int) (r : QRec) : (unload1 p r).id = r.id := by unfold unload1; split <;> rfl
theorem tab_unload {l : List QRec} (h : tabB l = true) (p : Int) : tabB (l.map (unload1 p)) = true := by
  obtain ⟨h1, h2, h3⟩ := tabB_iff.1 h
  refine tabB_iff.2 ⟨by simpa using h1, fun x hx => ?_, h3.ids ?_⟩
  · obtain ⟨r, hr, rfl⟩ := List.mem_map.1 hx
    have hb := h2 r hr
    unfold unload1
    split
    · rename_i hh
      unfold hitB at hh
      simp only [Bool.and_eq_true, decide_eq_true_eq] at hh
      obtain ⟨g1, g2, g3, g4, g5, g6⟩ := recB_parts hb
      have hz : statusB 4 r.value = true := by
        rw [hh.2] at g6
        simpa [statusB] using g6
      have e : turn 4 r.value r = { r with status := 4 } := rfl
      rw [← e]
      exact recB_turn hb hz
    · exact hb
  · rw [List.map_map]
    exact List.map_congr_left fun r _ => unload1_id p r
theorem fresh_rec {r : QRec} (h : recB (fresh r) = true) : (fresh r).id = r.id := rfl
/-- What the operations make of a valid table is valid. -/
theorem submit_tab {l : List QRec} {r : QRec} {most : Int} (h : (submitQ l r most).2 = 0) : tabB (submitQ l r most).1 = true := by
  unfold submitQ at h ⊢
  split at h
  · exact absurd h (by decide)
  rename_i h1
  rw [if_neg h1]
  split at h
  · exact absurd h (by decide)
  rename_i h2
  rw [if_neg h2]
  split at h
  · exact absurd h (by decide)
  rename_i h3
  rw [if_neg h3]
  have h4 : tabB l = true := by
    cases hb : tabB l
    · exact absurd (.inl hb) h1
    · rfl
  have h5 : recB (fresh r) = true := by
    cases hb : recB (fresh r)
    · exact absurd (.inr hb) h1
    · rfl
  exact tab_submit h4 h5 (by show findQ l r.id < 0; omega) (by omega)
theorem finish_tab {l : List QRec} {x : Str} {st : Int} {v : QSet} (hs : setB v = true → statusB st v = true) (h : (finishQ l x st v).2 = 0) : tabB (finishQ l x st v).1 = true := by
  unfold finishQ at h ⊢
  split at h
  · exact absurd h (by decide)
  rename_i h1
  rw [if_neg h1]
  split at h
  · exact absurd h (by decide)
  rename_i h2
  rw [if_neg h2]
  have h4 : tabB l = true := by
    cases hb : tabB l
    · exact absurd (.inl hb) h1
    · rfl
  have h5 : setB v = true := by
    cases hb : setB v
    · exact absurd (.inr hb) h1
    · rfl
  obtain ⟨i, r, e1, e2, e3⟩ := findQ_some h2
  have e4 : (findQ l x).toNat = i := by omega
  rw [e4, e2] at h ⊢
  dsimp only at h ⊢
  split at h
  · exact absurd h (by decide)
  rename_i h6
  rw [if_neg h6]
  exact tab_set h4 e2 (hs h5)
theorem answer_tab {l : List QRec} {x : Str} {v : QSet} (h : (answerQ l x v).2 = 0) : tabB (answerQ l x v).1 = true := finish_tab (fun hv => by unfold statusB; rw [if_pos rfl]; exact hv) h
theorem cancel_tab {l : List QRec} {x : Str} (h : (cancelQ l x).2 = 0) : tabB (cancelQ l x).1 = true := finish_tab (fun _ => by decide) h
theorem forget_tab {l : List QRec} {x : Str} (h : (forgetQ l x).2 = 0) : tabB (forgetQ l x).1 = true := by
  unfold forgetQ at h ⊢
  split at h
  · exact absurd h (by decide)
  rename_i h1
  rw [if_neg h1]
  split at h
  · exact absurd h (by decide)
  rename_i h2
  rw [if_neg h2]
  have h4 : tabB l = true := by
    cases hb : tabB l
    · exact absurd hb h1
    · rfl
  obtain ⟨i, r, e1, e2, e3⟩ := findQ_some h2
  have e4 : (findQ l x).toNat = i := by omega
  rw [e4, e2] at h ⊢
  dsimp only at h ⊢
  split at h
  · exact absurd h (by decide)
  rename_i h6
  rw [if_neg h6]
  exact tab_erase h4 i
theorem unload_tab {l : List QRec} {p : Int} (h : tabB l = true) : tabB (unloadQ l p) = true := by
  unfold unloadQ
  rw [if_pos h]
  exact tab_unload h p
end Go.Proofs.YtlchgbfpoaipgaaDoor
