/- Sets that are made: plain Lean and memory, no walk. -/
import Derived.Test.YtmanmlankfoflaaDoorBsW1
import Derived.Laws.MakeOwn
set_option linter.unusedVariables false
set_option linter.unusedSimpArgs false
set_option linter.unusedSectionVars false
namespace Go.Proofs.YtmanmlankfoflaaDoor
open Go.RowKit
variable [Base]

def wordsN (m : Nat) : Nat := (m + 63) / 64
def emptyS (m : Nat) : QSet := ⟨m, List.replicate (wordsN m) 0⟩
def putS (s : QSet) (b : Nat) : QSet := ⟨s.width, s.words.set (b / 64) (s.words.getD (b / 64) 0 ||| 2 ^ (b % 64))⟩
/-- A set of the right form: its width, the number and the size of its words. -/
def FormS (s : QSet) : Prop := rangedB s.width = true ∧ lensB s = true ∧ wordsOk s.words
theorem form_empty {m : Nat} (h : m ≤ 256) : FormS (emptyS m) := by
  refine ⟨by unfold rangedB emptyS; simp; omega, ?_, ?_⟩
  · unfold lensB emptyS wordsN
    simp only [List.length_replicate, decide_eq_true_eq]
    omega
  · intro x hx
    have := (List.mem_replicate.1 hx).2
    omega
theorem form_len {s : QSet} (h : FormS s) : ∃ m : Nat, s.width = m ∧ m ≤ 256 ∧ s.words.length = wordsN m := by
  obtain ⟨h1, h2, _⟩ := h
  unfold rangedB at h1
  unfold lensB at h2
  simp only [Bool.and_eq_true, decide_eq_true_eq] at h1 h2
  obtain ⟨m, hm⟩ := Int.eq_ofNat_of_zero_le h1.1
  refine ⟨m, hm, by omega, ?_⟩
  unfold wordsN
  omega
theorem lt_or {a b : Nat} (ha : a < 18446744073709551616) (hb : b < 18446744073709551616) : a ||| b < 18446744073709551616 :=
  Nat.or_lt_two_pow (n := 64) ha hb
theorem pow_lt64 (b : Nat) : 2 ^ (b % 64) < 18446744073709551616 := by
  have : 2 ^ (b % 64) < 2 ^ 64 := Nat.pow_lt_pow_right (by decide) (by omega)
  omega
theorem form_put {s : QSet} (h : FormS s) (b : Nat) : FormS (putS s b) := by
  obtain ⟨h1, h2, h3⟩ := h
  refine ⟨h1, by unfold lensB putS at *; simpa using h2, ?_⟩
  intro x hx
  rcases List.mem_or_eq_of_mem_set hx with hx | rfl
  · exact h3 x hx
  · refine lt_or ?_ (pow_lt64 b)
    rw [List.getD_eq_getElem?_getD]
    rcases Nat.lt_or_ge (b / 64) s.words.length with hb | hb
    · rw [List.getElem?_eq_getElem hb]
      exact h3 _ (List.getElem_mem _)
    · rw [List.getElem?_eq_none hb]
      decide
/-- A set of the call's own: its words in a block of their own. -/
def OwnS (B : Nat) (w : World) (u : Value) (s : QSet) : Prop :=
  ∃ g, u = .slice (some ⟨g, 0, none⟩) s.words.length s.words.length ∧ B ≤ g ∧ w.heap[g]? = some (.cells (s.words.map uv).toArray 62 (0, 0)) ∧ FormS s
def MakeQ (s : QSet) (w : World) (e : Ending) (w' : World) : Prop := ∃ u, e = .returned (setV s u) ∧ OwnS w.heap.size w' u s ∧ Below w.heap.size w w'
theorem OwnS.words {B : Nat} {w : World} {u : Value} {s : QSet} (h : OwnS B w u s) : WordsAt w u s.words := by
  obtain ⟨g, rfl, _, hg, hf⟩ := h
  refine ⟨⟨s.words.length, s.words.length, by simp, Nat.le_refl _, ?_, .inr ⟨g, 0, _, _, rfl, .of hg, fun i hi => by simp⟩⟩, hf.2.2⟩
  obtain ⟨m, _, h1, h2⟩ := form_len hf
  rw [h2]
  unfold wordsN maxLen
  omega
theorem OwnS.below {B : Nat} {w w' : World} {u : Value} {s : QSet} (h : OwnS B w u s) (hb : Below w.heap.size w w') : OwnS B w' u s := by
  obtain ⟨g, rfl, h1, hg, hf⟩ := h
  exact ⟨g, rfl, h1, (hb.block g (lt_heap hg)).trans hg, hf⟩
theorem OwnS.mono {B C : Nat} {w : World} {u : Value} {s : QSet} (h : OwnS B w u s) (hb : C ≤ B) : OwnS C w u s := by
  obtain ⟨g, rfl, h1, hg, hf⟩ := h
  exact ⟨g, rfl, Nat.le_trans hb h1, hg, hf⟩
def zc (k : Nat) : Array Value := (List.replicate k (uv 0)).toArray
theorem info_u64x : (Tryd.prog.info? 62).map (fun i => (i.zero, i.size, i.bytes)) = some (some (Value.int .u64 0), 1, 8) := by kernel_rfl
set_option maxRecDepth 100000 in
theorem run_make_u64 (k : Nat) (hk : k ≤ 1000) (q : Int) (hq : q = k) (w : World) :
    (Instr.makeSlice 23 (.int .i64 q) (.int .i64 q)).run Tryd.prog w = .ok (.slice (some ⟨w.heap.size, 0, none⟩) k k) (w.alloc (.cells (zc k) 62)) := by
  subst hq
  obtain ⟨i, hi, hz, hs1, hs2⟩ := info_parts info_u64x
  have h := run_makeSlice (P := Tryd.prog) w 23 62 i _ Tryd.underlying23 hi hz .i64 .i64 (k : Int) (k : Int) (by omega) (Int.le_refl _) (by rw [hs1]; omega) (by rw [hs2]; omega) (by omega)
  rw [h, hs1]
  simp only [Int.toNat_natCast, Nat.mul_one]
  congr 3
  unfold zc madeCells
  apply Array.ext
  · simp [Value.cells]
  · intro j h1 h2
    simp [Value.cells, Nat.mod_one]
end Go.Proofs.YtmanmlankfoflaaDoor
