/- Walks: the program's Empty, put. -/
import Derived.Test.YtmanmlankfoflaaDoorBsG1
import Derived.Test.YtmanmlankfoflaaDoorBitQ
import Derived.Test.YtmanmlankfoflaaDoorBsW2
set_option linter.unusedVariables false
set_option linter.unusedSimpArgs false
set_option linter.unusedSectionVars false
namespace Go.Proofs.YtmanmlankfoflaaDoor
open Go.RowKit
variable [Base]

/-- A new set and no error. -/
def OwnE (s : QSet) (w : World) (e : Ending) (w' : World) : Prop := ∃ u, e = .returned (.tuple #[setV s u, .int .i64 0]) ∧ OwnS w.heap.size w' u s ∧ Below w.heap.size w w'
/-- A set and an error's number. -/
def NewS (B : Nat) (w : World) (u : Value) (s : QSet) : Prop := (u = .slice none 0 0 ∧ s.words = []) ∨ OwnS B w u s
theorem NewS.words {B : Nat} {w : World} {u : Value} {s : QSet} (h : NewS B w u s) : WordsAt w u s.words := by
  rcases h with ⟨rfl, h⟩ | h
  · rw [h]; exact WordsAt.nil
  · exact h.words
theorem NewS.shape {B : Nat} {w : World} {u : Value} {s : QSet} (h : NewS B w u s) : ∃ a n c, u = .slice a n c := by
  rcases h with ⟨rfl, h⟩ | ⟨g, e, _⟩
  · exact ⟨_, _, _, rfl⟩
  · exact ⟨_, _, _, e⟩
theorem NewS.setCell {B r o : Nat} {x : Value} {w : World} {u : Value} {s : QSet} (h : NewS B w u s) (hr : r < B) : NewS B (w.setCell ⟨r, o, none⟩ x) u s := by
  rcases h with h | ⟨g, e, h1, h2, h3⟩
  · exact .inl h
  · exact .inr ⟨g, e, h1, by rw [Below.heap_setCell _ _ _ _ (by show g ≠ r; omega)]; exact h2, h3⟩
theorem NewS.mono {B C : Nat} {w : World} {u : Value} {s : QSet} (h : NewS B w u s) (hb : C ≤ B) : NewS C w u s := h.imp_right fun k => k.mono hb
theorem NewS.below {B : Nat} {w w' : World} {u : Value} {s : QSet} (h : NewS B w u s) (hb : Below w.heap.size w w') : NewS B w' u s := h.imp_right fun k => k.below hb
def SetE (r : QSet × Int) (w : World) (e : Ending) (w' : World) : Prop := ∃ u, e = .returned (.tuple #[setV r.1 u, .int .i64 r.2]) ∧ NewS w.heap.size w' u r.1 ∧ Below w.heap.size w w'
def zeroS : QSet := ⟨0, []⟩
abbrev zeroV : Value := .agg #[.int .i64 0, .slice none 0 0]
/-- No set, and an error's number. -/
def ZeroE (n : Int) (w : World) (e : Ending) (w' : World) : Prop := e = .returned (.tuple #[zeroV, .int .i64 n]) ∧ Below w.heap.size w w'
theorem ZeroE.set {n : Int} {w w' : World} {e : Ending} (h : ZeroE n w e w') : SetE (zeroS, n) w e w' := ⟨.slice none 0 0, h.1, .inl ⟨rfl, rfl⟩, h.2⟩
theorem bempty_any (m : Nat) (hm : m ≤ 256) (w : World) : Calls Tryd.prog 47 #[.int .i64 m] w (OwnE (emptyS m) w) := by
  have hmk := run_make_u64 (wordsN m) (by unfold wordsN; omega) (((m : Int) + 63) / 64) (by unfold wordsN; omega)
  have HF := Lib.hid (form_empty hm)
  have HZ := Lib.hid (zc_eq m)
  have hr : rangedB (m : Int) = true := by unfold rangedB; simp; omega
  have HR := Lib.hid hr
  clear hr
  go_enter Tryd.func47, Tryd.ntmps47
  go_wp2_with first | (go_at_call 69; refine (ranged_eq HR.out _).mono ?_; rintro e w' ⟨rfl, rfl⟩) | (go_at_call 70; refine (words_num _ (by omega) (by omega) _).mono ?_; rintro e w' ⟨rfl, rfl⟩)
  refine bodyPost_ret (v := .tuple #[setV (emptyS m) (.slice (some ⟨w.heap.size + 1, 0, none⟩) (emptyS m).words.length (emptyS m).words.length), .int .i64 0]) (by simp [results, Tryd.results47, go_sem, emptyS]) rfl ⟨_, rfl, ⟨w.heap.size + 1, rfl, by omega, ?_, HF.out⟩, ((Below.refl _ _).alloc (Nat.le_refl _) _).alloc (by simp) _⟩
  rw [← HZ.out]
  exact lies_new2 _ _
theorem bempty_no (n : Int) (hn : rangedB n = false) (w : World) : Calls Tryd.prog 47 #[.int .i64 n] w (ZeroE 3 w) := by
  have HR := Lib.hid hn
  clear hn
  go_enter Tryd.func47, Tryd.ntmps47
  go_wp2_with (go_at_call 69; refine (ranged_eq HR.out _).mono ?_; rintro e w' ⟨rfl, rfl⟩)
  exact bodyPost_ret (v := .tuple #[zeroV, .int .i64 3]) (by simp [results, Tryd.results47, go_sem]) rfl ⟨rfl, (Below.refl _ _).alloc (Nat.le_refl _) _⟩
theorem ButB.refl (g : Nat) (w : World) : ButB g w w := ⟨rfl, rfl, rfl, Nat.le_refl _, fun _ _ _ => rfl⟩
theorem ButB.trans {g : Nat} {a b c : World} (h : ButB g a b) (k : ButB g b c) : ButB g a c := ⟨k.os.trans h.os, k.tape.trans h.tape, k.output.trans h.output, Nat.le_trans h.size k.size, fun i hi hn => (k.block i (Nat.lt_of_lt_of_le hi h.size) hn).trans (h.block i hi hn)⟩
theorem ButB.alloc {g : Nat} {a w : World} (h : ButB g a w) (o : Obj) : ButB g a (w.alloc o) := h.trans ⟨rfl, rfl, rfl, by simp, fun k hk _ => Below.heap_alloc _ _ _ hk⟩
theorem ButB.setCell {g : Nat} {a w : World} (h : ButB g a w) (o : Nat) (u : Value) : ButB g a (w.setCell ⟨g, o, none⟩ u) :=
  ⟨h.os, h.tape, h.output, by simpa using h.size, fun k hk hn => by rw [Below.heap_setCell _ _ _ _ (by exact hn)]; exact h.block k hk hn⟩
theorem ButB.below {g : Nat} {a w w' : World} (h : ButB g a w) (k : Below w.heap.size w w') : ButB g a w' := h.trans ⟨k.os, k.tape, k.output, k.size, fun i hi _ => k.block i hi⟩
/-- Of what was there, block g alone has turned: a set of the call's own with one bit more. -/
def PutQ (g : Nat) (s : QSet) (w : World) (e : Ending) (w' : World) : Prop :=
  e = .returned (.tuple #[]) ∧ w'.heap[g]? = some (.cells (s.words.map uv).toArray 62 (0, 0)) ∧ ButB g w w'
theorem bput_any (s : QSet) (b g : Nat) (w : World) (hf : FormS s) (hb : (b : Int) < s.width) (hg : w.heap[g]? = some (.cells (s.words.map uv).toArray 62 (0, 0))) :
    Calls Tryd.prog 59 #[setV s (.slice (some ⟨g, 0, none⟩) s.words.length s.words.length), .int .i64 b] w (PutQ g (putS s b) w) := by
  obtain ⟨m, hm, hm2, hk⟩ := form_len hf
  obtain ⟨k, hk2⟩ : ∃ k, s.words.length = k := ⟨_, rfl⟩
  have hbk : b / 64 < k := by rw [← hk2, hk]; unfold wordsN; omega
  have hk5 : k ≤ 4 := by rw [← hk2, hk]; unfold wordsN; omega
  obtain ⟨x, hx⟩ : ∃ x, s.words[b / 64]? = some x := ⟨_, List.getElem?_eq_getElem (show b / 64 < s.words.length by omega)⟩
  have hxl : x < 18446744073709551616 := hf.2.2 x (List.mem_of_getElem? hx)
  have hlt := lt_heap hg
  have g0 := (lies_cells hg).1 (b / 64)
  have g1 := (lies_cells hg).2 (b / 64)
  rw [List.getElem?_toArray, List.getElem?_map, hx] at g0
  simp only [Option.map_some] at g0
  have q1 : 0 ≤ (b : Int) / 64 := by omega
  have q2 : (b : Int) / 64 < k := by omega
  have q3 : ((b : Int) / 64).toNat = b / 64 := by omega
  have q4 : 0 ≤ (b : Int) % 64 := by omega
  have q5 : IntKind.u64.wrap (b : Int) = (b : Int) := by rw [IntKind.wrap_u64]; omega
  have q6 : ((b : Int) % 64).toNat = b % 64 := by omega
  obtain ⟨y, hy⟩ : ∃ y, x ||| 2 ^ (b % 64) = y := ⟨_, rfl⟩
  have q7 : bits .or .u64 (x : Int) (IntKind.u64.wrap (2 ^ (b % 64))) = (y : Int) := by
    have h1 : IntKind.u64.wrap (2 ^ (b % 64)) = ((2 ^ (b % 64) : Nat) : Int) := by
      have := pow_lt64 b
      rw [show ((2 : Int) ^ (b % 64)) = ((2 ^ (b % 64) : Nat) : Int) by simp, IntKind.wrap_u64]
      generalize 2 ^ (b % 64) = p at *
      omega
    rw [h1, or_nat x _ hxl (pow_lt64 b), hy]
  have HY := Lib.hid hy
  have HX := Lib.hid hx
  have HG := Lib.hid hg
  have hne : w.heap.size ≠ g := by omega
  rw [hk2]
  clear hy hx hg hf hm hk hk2
  go_enter Tryd.func59, Tryd.ntmps59
  go_wp2_with fail
  have HP := Lib.hid (show (putS s b).words = s.words.set (b / 64) y by
    unfold putS
    rw [List.getD_eq_getElem?_getD, HX.out]
    simp [← HY.out])
  go_end0
  refine ⟨rfl, ?_, ?_⟩
  · rw [HP.out, List.map_set]
    have hgg := HG.out
    rw [Below.heap_alloc _ _ _ (by rw [World.size_setCell]; exact lt_heap hgg)]
    simp [World.setCell, Array.getElem?_modify, hgg]
  · exact ((ButB.refl g w).setCell _ _).alloc _
end Go.Proofs.YtmanmlankfoflaaDoor
