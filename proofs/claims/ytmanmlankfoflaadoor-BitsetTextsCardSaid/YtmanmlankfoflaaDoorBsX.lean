/- Walks: the program's merge, Union, Inter, Diff. Printed by wip/gen_bsx.py. -/
import Derived.Test.YtmanmlankfoflaaDoorBsRF
import Derived.Test.YtmanmlankfoflaaDoorBsH
import Derived.BigQuiet
import Derived.RegionTactic
import Derived.BigRegion
import Derived.Deep.RegionHeld3
set_option linter.unusedVariables false
set_option linter.unusedSimpArgs false
set_option linter.unusedSectionVars false
namespace Go.Proofs.YtmanmlankfoflaaDoor
open Go.RowKit
variable [Base]

def mergeS (f : Nat → Nat → Nat) (s t : QSet) : QSet × Int := if setB s = false ∨ setB t = false then (zeroS, 1) else if s.width ≠ t.width then (zeroS, 2) else (zipS f s t, 0)
/-- What a closure of two words computes. -/
def FunQ (fn : FuncId) (f : Nat → Nat → Nat) : Prop := ∀ (x y : Nat) (w : World), x < 18446744073709551616 → y < 18446744073709551616 → f x y < 18446744073709551616 ∧ Calls Tryd.prog fn #[uv x, uv y] w fun e w' => e = .returned (uv (f x y)) ∧ w = w'
/-- The words so far. -/
def zipTo (f : Nat → Nat → Nat) (s t : QSet) (i : Nat) : List Nat := (List.zipWith f s.words t.words).take i ++ List.replicate (s.words.length - i) 0
structure XIn (w v wr : World) (r c g m : Nat) (d : Int) (l : List Nat) : Prop where
  below : Below w.heap.size w wr
  keep : Below v.heap.size v wr
  res : wr.heap[r]? = some (.cells #[.int .i64 0, .slice none 0 0] 25 (0, 0))
  cur : wr.heap[c]? = some (.cells #[.int .i64 d, .slice (some ⟨g, 0, none⟩) (wordsN m) (wordsN m)] 25 (0, 0))
  own : wr.heap[g]? = some (.cells (l.map uv).toArray 62 (0, 0))
  old : w.heap.size ≤ r ∧ w.heap.size ≤ c ∧ w.heap.size ≤ g ∧ r ≠ c ∧ r ≠ g ∧ c ≠ g ∧ v.heap.size ≤ g
theorem XIn.drew {w v wr : World} {r c g m : Nat} {d : Int} {l : List Nat} (h : XIn w v wr r c g m d l) (n : Nat) : XIn w v (wr.drewN n) r c g m d l := ⟨below_drewQ h.below n, below_drewQ h.keep n, h.res, h.cur, h.own, h.old⟩
theorem XIn.put {w v wr : World} {r c g m : Nat} {d : Int} {l : List Nat} (h : XIn w v wr r c g m d l) (i y : Nat) : XIn w v (wr.setCell ⟨g, i, none⟩ (uv y)) r c g m d (l.set i y) := by
  obtain ⟨o1, o2, o3, o4, o5, o6, o7⟩ := h.old
  have hg := h.own
  refine ⟨h.below.setCell (p := ⟨g, i, none⟩) o3 _, h.keep.setCell (p := ⟨g, i, none⟩) o7 _, ?_, ?_, ?_, h.old⟩
  · rw [Below.heap_setCell _ _ _ _ (by show r ≠ g; omega)]; exact h.res
  · rw [Below.heap_setCell _ _ _ _ (by show c ≠ g; omega)]; exact h.cur
  · rw [List.map_set]; simp [World.setCell, Array.getElem?_modify, hg]
theorem XIn.fin {w v wr : World} {r c g m : Nat} {d : Int} {l : List Nat} (h : XIn w v wr r c g m d l) (x y : Value) : ((wr.setCell ⟨r, 0, none⟩ x).setCell ⟨r, 1, none⟩ y).heap[g]? = some (.cells (l.map uv).toArray 62 (0, 0)) ∧ Below w.heap.size w ((wr.setCell ⟨r, 0, none⟩ x).setCell ⟨r, 1, none⟩ y) := by
  obtain ⟨o1, o2, o3, o4, o5, o6, o7⟩ := h.old
  refine ⟨?_, (h.below.setCell (p := ⟨r, 0, none⟩) o1 _).setCell (p := ⟨r, 1, none⟩) o1 _⟩
  rw [Below.heap_setCell _ _ _ _ (by show g ≠ r; omega), Below.heap_setCell _ _ _ _ (by show g ≠ r; omega)]
  exact h.own
theorem zipTo_succ {f : Nat → Nat → Nat} {s t : QSet} {i x y : Nat} (hx : s.words[i]? = some x) (hy : t.words[i]? = some y) (hl : s.words.length = t.words.length) : zipTo f s t (i + 1) = (zipTo f s t i).set i (f x y) := by
  have hi := (List.getElem?_eq_some_iff.1 hx).1
  have hz : (List.zipWith f s.words t.words)[i]? = some (f x y) := by rw [List.getElem?_zipWith, hx, hy]
  have hzl : (List.zipWith f s.words t.words).length = s.words.length := by rw [List.length_zipWith, ← hl, Nat.min_self]
  apply List.ext_getElem?
  intro j
  unfold zipTo
  rw [List.getElem?_set, List.getElem?_append, List.getElem?_append, List.length_append, List.length_take, List.length_take, hzl, List.length_replicate, Nat.min_eq_left (by omega : i + 1 ≤ s.words.length), Nat.min_eq_left (by omega : i ≤ s.words.length), List.getElem?_take, List.getElem?_take, List.getElem?_replicate, List.getElem?_replicate]
  by_cases h1 : i = j
  · subst h1
    rw [if_pos rfl, if_pos (by omega), if_pos (by omega), if_pos (by omega), hz]
  · rw [if_neg h1]
    by_cases h2 : j < i
    · rw [if_pos (by omega), if_pos (by omega), if_pos h2, if_pos h2]
    · rw [if_neg (by omega), if_neg h2]
      by_cases h3 : j - i < s.words.length - i
      · rw [if_pos (by omega), if_pos h3]
      · rw [if_neg (by omega), if_neg h3]
theorem zipTo_len {f : Nat → Nat → Nat} {s t : QSet} {i : Nat} (hl : s.words.length = t.words.length) (hi : i ≤ s.words.length) : (zipTo f s t i).length = s.words.length := by
  unfold zipTo
  rw [List.length_append, List.length_take, List.length_zipWith, List.length_replicate, ← hl, Nat.min_self]
  omega
theorem zipTo_end {f : Nat → Nat → Nat} {s t : QSet} (hl : s.words.length = t.words.length) : zipTo f s t s.words.length = (zipS f s t).words := by
  unfold zipTo zipS
  rw [Nat.sub_self, List.replicate_zero, List.append_nil, List.take_of_length_le]
  rw [List.length_zipWith, ← hl, Nat.min_self]
  exact Nat.le_refl _
theorem zipTo_zero {f : Nat → Nat → Nat} {s t : QSet} {m : Nat} (h : s.words.length = wordsN m) : (List.map uv (zipTo f s t 0)).toArray = zc (wordsN m) := by
  unfold zipTo zc
  rw [h, Nat.sub_zero]
  simp
theorem cell_offd {w : World} {b g o j : Nat} {u : Value} {x : Option Value} (h : b ≠ g) (hc : w.cell? ⟨b, o, none⟩ = x) : (w.setCell ⟨g, j, none⟩ u).drew.cell? ⟨b, o, none⟩ = x :=
  (show (w.setCell ⟨g, j, none⟩ u).cell? ⟨b, o, none⟩ = x from cell_off h hc)
theorem andNot_nat (a b : Nat) (ha : a < 18446744073709551616) (hb : b < 18446744073709551616) : bits .andNot .u64 (a : Int) (b : Int) = ((clr a b : Nat) : Int) := by
  have h1 : (BitVec.ofInt 64 (a : Int)).toNat = a := by
    rw [BitVec.ofInt_natCast, BitVec.toNat_ofNat]; exact Nat.mod_eq_of_lt (by omega)
  have h2 : (BitVec.ofInt 64 (b : Int)).toNat = b := by
    rw [BitVec.ofInt_natCast, BitVec.toNat_ofNat]; exact Nat.mod_eq_of_lt (by omega)
  have h3 : (BitVec.ofInt 64 (a : Int) &&& ~~~ BitVec.ofInt 64 (b : Int)).toNat = clr a b := by
    apply Nat.eq_of_testBit_eq
    intro i
    rw [bit_clr, BitVec.testBit_toNat, BitVec.getLsbD_and, BitVec.getLsbD_not, ← BitVec.testBit_toNat, ← BitVec.testBit_toNat, h1, h2]
    by_cases hi : i < 64
    · simp [hi]
    · rw [Nat.testBit_lt_two_pow (Nat.lt_of_lt_of_le ha (Nat.pow_le_pow_right (n := 2) (by decide) (show 64 ≤ i by omega)))]
      simp
  show IntKind.u64.wrap ((BitVec.ofInt 64 (a : Int) &&& ~~~ BitVec.ofInt 64 (b : Int)).toNat : Int) = _
  rw [h3, IntKind.wrap_u64]
  have := clr_lt (b := b) ha
  omega
theorem or_fun : FunQ 56 (· ||| ·) := fun x y w hx hy => by
  refine ⟨lt_or hx hy, ?_⟩
  have h := or_nat x y hx hy
  go_enter Tryd.func56, Tryd.ntmps56
  go_wp2
  go_ret
  exact ⟨rfl, rfl⟩
theorem and_fun : FunQ 57 (· &&& ·) := fun x y w hx hy => by
  refine ⟨and_lt hx, ?_⟩
  have h := and_nat x y hx hy
  go_enter Tryd.func57, Tryd.ntmps57
  go_wp2
  go_ret
  exact ⟨rfl, rfl⟩
theorem clr_fun : FunQ 58 clr := fun x y w hx hy => by
  refine ⟨clr_lt hx, ?_⟩
  have h := andNot_nat x y hx hy
  go_enter Tryd.func58, Tryd.ntmps58
  go_wp2
  go_ret
  exact ⟨rfl, rfl⟩
end Go.Proofs.YtmanmlankfoflaaDoor
