/- Sets of bits, their bits one by one: plain Lean, no program in sight. -/
import Derived.Test.YtmanmlankfoflaaDoorBsP
import Derived.Test.YtmanmlankfoflaaDoorPopP
set_option linter.unusedVariables false
set_option linter.unusedSimpArgs false
set_option linter.unusedSectionVars false
namespace Go.Proofs.YtmanmlankfoflaaDoor
variable [Base]

theorem bit_ext {l m : List Nat} (hl : l.length = m.length) (h1 : wordsOk l) (h2 : wordsOk m) (h : ∀ b, b < 64 * l.length → bitOf l b = bitOf m b) : l = m := by
  refine List.ext_getElem hl fun i hi hj => ?_
  refine Nat.eq_of_testBit_eq fun k => ?_
  by_cases hk : k < 64
  · have h3 := h (64 * i + k) (by omega)
    unfold bitOf at h3
    rw [show (64 * i + k) / 64 = i by omega, show (64 * i + k) % 64 = k by omega] at h3
    simpa [List.getD_eq_getElem?_getD, hi, hj] using h3
  · have e : ∀ x, x < 18446744073709551616 → x.testBit k = false := fun x hx => Nat.testBit_lt_two_pow (Nat.lt_of_lt_of_le hx (Nat.pow_le_pow_right (n := 2) (by decide) (show 64 ≤ k by omega)))
    rw [e _ (h1 _ (List.getElem_mem _)), e _ (h2 _ (List.getElem_mem _))]
theorem bit_out {l : List Nat} {b : Nat} (h : 64 * l.length ≤ b) : bitOf l b = false := by
  unfold bitOf
  rw [List.getD_eq_getElem?_getD, List.getElem?_eq_none (by omega)]
  simp
theorem bit_zero (k b : Nat) : bitOf (List.replicate k 0) b = false := by
  unfold bitOf
  rw [List.getD_eq_getElem?_getD, List.getElem?_replicate]
  split <;> simp
theorem bit_put {l : List Nat} {k b : Nat} (hk : k / 64 < l.length) : bitOf (l.set (k / 64) (l.getD (k / 64) 0 ||| 2 ^ (k % 64))) b = (bitOf l b || decide (b = k)) := by
  unfold bitOf
  rw [List.getD_eq_getElem?_getD, List.getD_eq_getElem?_getD, List.getElem?_set]
  by_cases h : k / 64 = b / 64
  · rw [if_pos h, if_pos (by omega)]
    simp only [Option.getD_some]
    rw [Nat.testBit_or, Nat.testBit_two_pow, ← h, List.getD_eq_getElem?_getD]
    congr 1
    rw [Bool.eq_iff_iff]
    simp only [decide_eq_true_eq]
    omega
  · rw [if_neg h]
    have : ¬ b = k := by intro e; subst e; exact h rfl
    simp [this, List.getD_eq_getElem?_getD]
/-- A set that is valid, in bits. -/
theorem valid_form {s : QSet} (h : setB s = true) (hw : wordsOk s.words) : FormS s := by
  unfold setB at h
  simp only [Bool.and_eq_true] at h
  exact ⟨h.1, h.2.1, hw⟩
theorem valid_tail {s : QSet} (h : setB s = true) (hw : wordsOk s.words) {b : Nat} (hb : s.width ≤ b) : bitOf s.words b = false := by
  have h' := h
  unfold setB at h
  simp only [Bool.and_eq_true] at h
  have h0 : 0 ≤ s.width := by
    have := h.1
    unfold rangedB at this
    simp only [Bool.and_eq_true, decide_eq_true_eq] at this
    exact this.1
  rcases Nat.lt_or_ge b (64 * s.words.length) with hl | hl
  · exact (tail_bits hw h0 h.2.1).1 h.2.2 b hb hl
  · exact bit_out hl
theorem valid_of {s : QSet} (h : FormS s) (ht : ∀ b : Nat, s.width ≤ b → bitOf s.words b = false) : setB s = true := by
  unfold setB
  obtain ⟨h1, h2, h3⟩ := h
  have h0 : 0 ≤ s.width := by
    unfold rangedB at h1
    simp only [Bool.and_eq_true, decide_eq_true_eq] at h1
    exact h1.1
  rw [h1, h2, (tail_bits h3 h0 h2).2 fun b hb _ => ht b hb]
  rfl
theorem set_ext {s t : QSet} (hw : s.width = t.width) (hs : FormS s) (ht : FormS t) (h : ∀ b : Nat, bitOf s.words b = bitOf t.words b) : s = t := by
  obtain ⟨m, e1, _, e2⟩ := form_len hs
  obtain ⟨n, e3, _, e4⟩ := form_len ht
  have hmn : m = n := by omega
  cases s
  cases t
  simp only [QSet.mk.injEq] at *
  exact ⟨hw, bit_ext (by rw [e2, e4, hmn]) hs.2.2 ht.2.2 fun b _ => h b⟩
theorem put_bit {s : QSet} (hf : FormS s) {k : Nat} (hk : (k : Int) < s.width) (b : Nat) : bitOf (putS s k).words b = (bitOf s.words b || decide (b = k)) := by
  obtain ⟨m, e1, _, e2⟩ := form_len hf
  exact bit_put (by rw [e2]; unfold wordsN; omega)
theorem empty_bit (m b : Nat) : bitOf (emptyS m).words b = false := bit_zero _ _
theorem empty_ok {m : Nat} (h : m ≤ 256) : setB (emptyS m) = true := valid_of (form_empty h) fun b _ => empty_bit m b
theorem put_ok {s : QSet} (h : setB s = true) (hw : wordsOk s.words) {k : Nat} (hk : (k : Int) < s.width) : setB (putS s k) = true := by
  refine valid_of (form_put (valid_form h hw) k) fun b hb => ?_
  rw [put_bit (valid_form h hw) hk, valid_tail h hw hb]
  have : ¬ b = k := by
    have hb' : s.width ≤ (b : Int) := hb
    omega
  simp [this]
/-- The set of the first bits. -/
def fullTo (m i : Nat) : QSet := (List.range i).foldl putS (emptyS m)
theorem fullTo_succ (m i : Nat) : fullTo m (i + 1) = putS (fullTo m i) i := by unfold fullTo; rw [List.range_succ, List.foldl_append]; rfl
theorem fullTo_form {m : Nat} (h : m ≤ 256) : ∀ i, FormS (fullTo m i) ∧ (fullTo m i).width = m
  | 0 => ⟨form_empty h, rfl⟩
  | i + 1 => by
    rw [fullTo_succ]
    exact ⟨form_put (fullTo_form h i).1 i, (fullTo_form h i).2⟩
theorem fullTo_bit {m : Nat} (h : m ≤ 256) : ∀ i, i ≤ m → ∀ b, bitOf (fullTo m i).words b = decide (b < i)
  | 0, _, b => by rw [show fullTo m 0 = emptyS m from rfl, empty_bit]; simp
  | i + 1, hi, b => by
    have hf := fullTo_form h i
    rw [fullTo_succ, put_bit hf.1 (by rw [hf.2]; omega), fullTo_bit h i (by omega) b]
    rw [Bool.eq_iff_iff]
    simp
    omega
/-- The set of given members: what both sides answer. -/
def ofGo (m : Nat) : List Int → QSet → QSet × Int
  | [], s => (s, 0)
  | b :: l, s => if b < 0 ∨ (m : Int) ≤ b then (⟨0, []⟩, 3) else ofGo m l (putS s b.toNat)
def ofS (w : Int) (l : List Int) : QSet × Int := if 0 ≤ w ∧ w ≤ 256 then ofGo w.toNat l (emptyS w.toNat) else (⟨0, []⟩, 3)
/-- Two sets word by word. -/
def zipS (f : Nat → Nat → Nat) (s t : QSet) : QSet := ⟨s.width, List.zipWith f s.words t.words⟩
theorem zip_bit {f : Nat → Nat → Nat} {g : Bool → Bool → Bool} (hfg : ∀ a b k, (f a b).testBit k = g (a.testBit k) (b.testBit k)) {l m : List Nat} (hl : l.length = m.length) (h0 : g false false = false) (b : Nat) : bitOf (List.zipWith f l m) b = g (bitOf l b) (bitOf m b) := by
  unfold bitOf
  simp only [List.getD_eq_getElem?_getD, List.getElem?_zipWith]
  rcases Nat.lt_or_ge (b / 64) l.length with h | h
  · rw [List.getElem?_eq_getElem h, List.getElem?_eq_getElem (by omega)]
    exact hfg _ _ _
  · rw [List.getElem?_eq_none h, List.getElem?_eq_none (by omega)]
    simp [h0]
theorem bit_or (a b k : Nat) : (a ||| b).testBit k = (a.testBit k || b.testBit k) := Nat.testBit_or ..
theorem bit_and (a b k : Nat) : (a &&& b).testBit k = (a.testBit k && b.testBit k) := Nat.testBit_and ..
/-- 'x &^ y' of words. -/
def clr (a b : Nat) : Nat := a ^^^ (a &&& b)
theorem bit_clr (a b k : Nat) : (clr a b).testBit k = (a.testBit k && !b.testBit k) := by
  unfold clr
  rw [Nat.testBit_xor, Nat.testBit_and]
  cases a.testBit k <;> cases b.testBit k <;> rfl
theorem clr_lt {a b : Nat} (ha : a < 18446744073709551616) : clr a b < 18446744073709551616 := by
  unfold clr
  exact Nat.xor_lt_two_pow (n := 64) ha (Nat.lt_of_le_of_lt Nat.and_le_left ha)
theorem and_lt {a b : Nat} (ha : a < 18446744073709551616) : a &&& b < 18446744073709551616 := Nat.lt_of_le_of_lt Nat.and_le_left ha
theorem zip_form {f : Nat → Nat → Nat} (hf : ∀ a b, a < 18446744073709551616 → b < 18446744073709551616 → f a b < 18446744073709551616) {s t : QSet} (hs : FormS s) (ht : FormS t) (hw : s.width = t.width) : FormS (zipS f s t) ∧ s.words.length = t.words.length := by
  obtain ⟨m, e1, _, e2⟩ := form_len hs
  obtain ⟨n, e3, _, e4⟩ := form_len ht
  have hmn : m = n := by omega
  have hl : s.words.length = t.words.length := by rw [e2, e4, hmn]
  refine ⟨⟨hs.1, ?_, ?_⟩, hl⟩
  · have := hs.2.1
    unfold lensB zipS at *
    simp only [List.length_zipWith, ← hl, Nat.min_self]
    exact this
  · intro x hx
    obtain ⟨i, hi⟩ := List.mem_iff_getElem?.1 hx
    rw [zipS, List.getElem?_zipWith] at hi
    cases h1 : s.words[i]? with
    | none => simp [h1] at hi
    | some a =>
      cases h2 : t.words[i]? with
      | none => simp [h1, h2] at hi
      | some b =>
        simp [h1, h2] at hi
        rw [← hi]
        exact hf a b (hs.2.2 a (List.mem_of_getElem? h1)) (ht.2.2 b (List.mem_of_getElem? h2))
/-- What the reference builds bit by bit. -/
def mixTo (g : Bool → Bool → Bool) (m : Nat) (s t : QSet) (i : Nat) : QSet := (List.range i).foldl (fun a k => if g (bitOf s.words k) (bitOf t.words k) = true then putS a k else a) (emptyS m)
theorem mixTo_succ (g : Bool → Bool → Bool) (m : Nat) (s t : QSet) (i : Nat) : mixTo g m s t (i + 1) = if g (bitOf s.words i) (bitOf t.words i) = true then putS (mixTo g m s t i) i else mixTo g m s t i := by
  unfold mixTo; rw [List.range_succ, List.foldl_append]; rfl
theorem mixTo_form {g : Bool → Bool → Bool} {m : Nat} {s t : QSet} (h : m ≤ 256) : ∀ i, FormS (mixTo g m s t i) ∧ (mixTo g m s t i).width = m
  | 0 => ⟨form_empty h, rfl⟩
  | i + 1 => by
    rw [mixTo_succ]
    split
    · exact ⟨form_put (mixTo_form h i).1 i, (mixTo_form h i).2⟩
    · exact mixTo_form h i
theorem mixTo_bit {g : Bool → Bool → Bool} {m : Nat} {s t : QSet} (h : m ≤ 256) : ∀ i, i ≤ m → ∀ b, bitOf (mixTo g m s t i).words b = (decide (b < i) && g (bitOf s.words b) (bitOf t.words b))
  | 0, _, b => by rw [show mixTo g m s t 0 = emptyS m from rfl, empty_bit]; simp
  | i + 1, hi, b => by
    have hf := mixTo_form (g := g) (s := s) (t := t) h i
    have ih := mixTo_bit (g := g) (s := s) (t := t) h i (by omega) b
    rw [mixTo_succ]
    split
    · rename_i hg
      rw [put_bit hf.1 (by rw [hf.2]; omega), ih]
      by_cases hb : b = i
      · subst hb; simp [hg]
      · have e : decide (b < i + 1) = decide (b < i) := by rw [Bool.eq_iff_iff]; simp; omega
        simp [hb, e]
    · rename_i hg
      rw [ih]
      by_cases hb : b = i
      · subst hb
        simp [hg]
      · have e : decide (b < i + 1) = decide (b < i) := by rw [Bool.eq_iff_iff]; simp; omega
        rw [e]
theorem mix_zip {f : Nat → Nat → Nat} {g : Bool → Bool → Bool} (hfg : ∀ a b k, (f a b).testBit k = g (a.testBit k) (b.testBit k)) (hlt : ∀ a b, a < 18446744073709551616 → b < 18446744073709551616 → f a b < 18446744073709551616) (h0 : g false false = false)
    {s t : QSet} {m : Nat} (hm : s.width = m) (hs : setB s = true) (ht : setB t = true) (ws : wordsOk s.words) (wt : wordsOk t.words) (hw : s.width = t.width) : mixTo g m s t m = zipS f s t := by
  have fs := valid_form hs ws
  have ft := valid_form ht wt
  obtain ⟨m', e1, e2, _⟩ := form_len fs
  have hmm : m = m' := by omega
  have hz := zip_form hlt fs ft hw
  have hf := mixTo_form (g := g) (m := m) (s := s) (t := t) (by omega) m
  refine set_ext (by rw [hf.2]; exact hm.symm) hf.1 hz.1 fun b => ?_
  rw [mixTo_bit (by omega) m (Nat.le_refl _) b, show (zipS f s t).words = List.zipWith f s.words t.words from rfl, zip_bit hfg hz.2 h0]
  by_cases hb : b < m
  · simp [hb]
  · rw [valid_tail hs ws (b := b) (by omega), valid_tail ht wt (b := b) (by omega)]
    simp [hb, h0]
theorem zip_ok {f : Nat → Nat → Nat} {g : Bool → Bool → Bool} (hfg : ∀ a b k, (f a b).testBit k = g (a.testBit k) (b.testBit k)) (hlt : ∀ a b, a < 18446744073709551616 → b < 18446744073709551616 → f a b < 18446744073709551616) (h0 : g false false = false)
    {s t : QSet} (hs : setB s = true) (ht : setB t = true) (ws : wordsOk s.words) (wt : wordsOk t.words) (hw : s.width = t.width) : setB (zipS f s t) = true := by
  have fs := valid_form hs ws
  have ft := valid_form ht wt
  have hz := zip_form hlt fs ft hw
  refine valid_of hz.1 fun b hb => ?_
  rw [show (zipS f s t).words = List.zipWith f s.words t.words from rfl, zip_bit hfg hz.2 h0, valid_tail hs ws (b := b) hb, valid_tail ht wt (b := b) (by rw [← hw]; exact hb), h0]
end Go.Proofs.YtmanmlankfoflaaDoor
