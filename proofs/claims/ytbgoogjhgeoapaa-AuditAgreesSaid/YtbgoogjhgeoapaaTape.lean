/- Walks of the choices' tape: New, Mod, Next. -/
import Derived.Test.YtbgoogjhgeoapaaOwn
import Derived.Test.YtbgoogjhgeoapaaRows
import Derived.WalkKit
import Derived.WalkSpells
import Derived.WalkLawsBesides
import Derived.Deep.QuietTactic
import Derived.BigQuiet
import Derived.Lib.Hide
set_option linter.unusedVariables false
set_option linter.unusedSimpArgs false
set_option linter.unusedSectionVars false
namespace Go.Proofs.Ytbgoogjhgeoapaa
open Go.RowKit
variable [Base]

theorem u64_mod_bd (v n : Int) (hn : 1 ≤ n) (hn' : n ≤ 9223372036854775807) :
    0 ≤ wrap64 ((IntKind.u64.wrap v).tmod n) ∧ wrap64 ((IntKind.u64.wrap v).tmod n) < n := by
  have h0 : 0 ≤ IntKind.u64.wrap v := by rw [IntKind.wrap_u64]; omega
  have h1 : (IntKind.u64.wrap v).tmod n = (IntKind.u64.wrap v) % n := Int.tmod_eq_emod_of_nonneg h0
  have h2 := Int.emod_nonneg (IntKind.u64.wrap v) (show n ≠ 0 by omega)
  have h3 := Int.emod_lt_of_pos (IntKind.u64.wrap v) (show 0 < n by omega)
  rw [h1]
  generalize IntKind.u64.wrap v % n = m at *
  rw [IntWalk.wrap64_in m (by omega)]
  exact ⟨h2, h3⟩

def InRange (n : Int) (e : Ending) : Prop := ∃ r : Int, 0 ≤ r ∧ r < n ∧ e = .returned (.int .i64 r)

set_option maxHeartbeats 400000 in
theorem mod_any (v n : Int) (w : World) (hn : 1 ≤ n) (hn' : n ≤ 9223372036854775807) :
    Calls Try.prog 28 #[.int .i64 v, .int .i64 n] w fun e w' => e = .returned (.int .i64 (wrap64 ((IntKind.u64.wrap v).tmod n))) ∧ w' = w := by
  go_enter Try.func28, Try.ntmps28
  go_wp2
  go_ret
  exact ⟨rfl, rfl⟩

/-- A tape: block bt holds a slice of integers that lies below B, and a place in it. -/
structure TapeOk (B : Nat) (w : World) (bt : Nat) : Prop where
  base : Base.b ≤ B
  ge : B ≤ bt
  lt : bt < w.heap.size
  get : ∃ (a : Option Addr) (n c : Nat) (i : Int), w.heap[bt]? = some (.cells #[.slice a n c, .int .i64 i] 41 (0, 0)) ∧ 0 ≤ i ∧ n ≤ maxLen ∧ i ≤ maxLen ∧
    ∀ j : Nat, j < n → ∃ b off z, a = some ⟨b, off, none⟩ ∧ b < B ∧ w.cell? ⟨b, off + j, none⟩ = some (.int .i64 z)

theorem TapeOk.bs {B bt : Nat} {w : World} (h : TapeOk B w bt) : Base.b ≤ bt := Nat.le_trans h.base h.ge
/-- Of what was there, block bt alone may have turned. -/
structure But (bt : Nat) (w w' : World) : Prop where
  os : w'.os = w.os
  tape : w'.tape = w.tape
  output : w'.output = w.output
  size : w.heap.size ≤ w'.heap.size
  block : ∀ k, k < w.heap.size → k ≠ bt → w'.heap[k]? = w.heap[k]?

theorem But.refl (bt : Nat) (w : World) : But bt w w := ⟨rfl, rfl, rfl, Nat.le_refl _, fun _ _ _ => rfl⟩
theorem But.trans {bt : Nat} {a b c : World} (h : But bt a b) (k : But bt b c) : But bt a c :=
  ⟨k.os.trans h.os, k.tape.trans h.tape, k.output.trans h.output, Nat.le_trans h.size k.size,
    fun i hi hn => (k.block i (Nat.lt_of_lt_of_le hi h.size) hn).trans (h.block i hi hn)⟩
theorem But.drewN {bt : Nat} {a w : World} (h : But bt a w) (n : Nat) : But bt a (w.drewN n) := ⟨h.os, h.tape, h.output, h.size, h.block⟩
theorem But.alloc {bt : Nat} {a w : World} (h : But bt a w) (o : Obj) : But bt a (w.alloc o) :=
  h.trans ⟨rfl, rfl, rfl, by simp, fun k hk _ => Below.heap_alloc _ _ _ hk⟩
theorem But.setCell {bt : Nat} {a w : World} (h : But bt a w) (p : Addr) (hp : p.block = bt ∨ a.heap.size ≤ p.block) (u : Value) : But bt a (w.setCell p u) :=
  ⟨h.os, h.tape, h.output, by simpa using h.size, fun k hk hn => by
    rw [Below.heap_setCell _ _ _ _ (by omega)]; exact h.block k hk hn⟩
theorem But.below {bt : Nat} {a w w' : World} (h : But bt a w) (k : Below w.heap.size w w') : But bt a w' :=
  h.trans ⟨k.os, k.tape, k.output, k.size, fun i hi _ => k.block i hi⟩
theorem But.cell {bt : Nat} {w w' : World} (h : But bt w w') : ∀ b o, b < w.heap.size → b ≠ bt → w'.cell? ⟨b, o, none⟩ = w.cell? ⟨b, o, none⟩ :=
  fun b o hb hn => World.cell?_of_block (h.block b hb hn)
theorem But.frozen {bt : Nat} {w w' : World} (h : But bt w w') : ∀ b o, b < w.heap.size → b ≠ bt → w'.frozen? ⟨b, o, none⟩ = w.frozen? ⟨b, o, none⟩ :=
  fun b o hb hn => World.frozen?_of_block (h.block b hb hn)
theorem But.toBelow {B bt : Nat} {w w' : World} (h : But bt w w') (hB : B ≤ bt) (hw : B ≤ w.heap.size) : Below B w w' :=
  ⟨h.os, h.tape, h.output, h.size, fun k hk => h.block k (by omega) (by omega)⟩

/-- The tape is still one where neither its block nor what lies below B has turned. -/
theorem TapeOk.keep {B bt : Nat} {w w' : World} (h : TapeOk B w bt) (hb : w'.heap[bt]? = w.heap[bt]?) (hB : ∀ k, k < B → w'.heap[k]? = w.heap[k]?) (hs : w.heap.size ≤ w'.heap.size) : TapeOk B w' bt := by
  obtain ⟨a, n, c, i, h1, h2, h3, h4, h5⟩ := h.get
  refine ⟨h.base, h.ge, Nat.lt_of_lt_of_le h.lt hs, a, n, c, i, hb.trans h1, h2, h3, h4, fun j hj => ?_⟩
  obtain ⟨b, off, z, e1, e2, e3⟩ := h5 j hj
  exact ⟨b, off, z, e1, e2, (World.cell?_of_block (hB b e2)).trans e3⟩
theorem TapeOk.drewN {B bt : Nat} {w : World} (h : TapeOk B w bt) (n : Nat) : TapeOk B (w.drewN n) bt := h.keep rfl (fun _ _ => rfl) (Nat.le_refl _)
theorem TapeOk.alloc {B bt : Nat} {w : World} (h : TapeOk B w bt) (o : Obj) : TapeOk B (w.alloc o) bt :=
  h.keep (Below.heap_alloc _ _ _ h.lt) (fun k hk => Below.heap_alloc _ _ _ (by have := h.lt; have := h.ge; omega)) (by simp)
theorem TapeOk.setCell {B bt : Nat} {w : World} (h : TapeOk B w bt) {p : Addr} (h1 : p.block ≠ bt) (h2 : B ≤ p.block) (u : Value) : TapeOk B (w.setCell p u) bt :=
  h.keep (Below.heap_setCell _ _ _ _ (by omega)) (fun k hk => Below.heap_setCell _ _ _ _ (by omega)) (by simp)
theorem TapeOk.below {B bt : Nat} {w w' : World} (h : TapeOk B w bt) (k : Below w.heap.size w w') : TapeOk B w' bt :=
  h.keep (k.block _ h.lt) (fun i hi => k.block i (by have := h.lt; have := h.ge; omega)) k.size

theorem next_small (a : Option Addr) (l c bt : Nat) (i n : Int) (w : World) (hn : n ≤ 1)
    (h0 : w.cell? ⟨bt, 0, none⟩ = some (.slice a l c)) (h1 : w.cell? ⟨bt, 1, none⟩ = some (.int .i64 i)) :
    Calls Try.prog 14 #[.pointer (some ⟨bt, 0, none⟩), .int .i64 n] w fun e w' => e = .returned (.int .i64 0) ∧ ∃ k, w' = w.drewN k := by
  go_enter Try.func14, Try.ntmps14
  go_wp2
  go_quiet (fail)
  go_wp2
  go_ret
  exact ⟨rfl, _, rfl⟩

theorem next_end (a : Option Addr) (l c bt : Nat) (i n : Int) (w : World) (hn : 1 < n) (hl : (l : Int) ≤ i)
    (h0 : w.cell? ⟨bt, 0, none⟩ = some (.slice a l c)) (h1 : w.cell? ⟨bt, 1, none⟩ = some (.int .i64 i)) :
    Calls Try.prog 14 #[.pointer (some ⟨bt, 0, none⟩), .int .i64 n] w fun e w' => e = .returned (.int .i64 0) ∧ ∃ k, w' = w.drewN k := by
  have hn2 : decide (n ≤ 1) = false := by simp; omega
  go_enter Try.func14, Try.ntmps14
  go_wp2
  go_quiet (fail)
  go_wp2
  go_ret
  exact ⟨rfl, _, rfl⟩


theorem next_more (b off l c bt : Nat) (i n z : Int) (w : World) (hn : 1 < n) (hn' : n ≤ 9223372036854775807) (hi : 0 ≤ i) (hl : i < (l : Int)) (hm : (l : Int) ≤ 9223372036854775807) (hbt : b ≠ bt)
    (h0 : w.cell? ⟨bt, 0, none⟩ = some (.slice (some ⟨b, off, none⟩) l c)) (h1 : w.cell? ⟨bt, 1, none⟩ = some (.int .i64 i)) (hf : w.frozen? ⟨bt, 1, none⟩ = false)
    (hz : w.cell? ⟨b, off + i.toNat, none⟩ = some (.int .i64 z)) :
    Calls Try.prog 14 #[.pointer (some ⟨bt, 0, none⟩), .int .i64 n] w fun e w' => InRange n e ∧ ∃ k, w' = (w.setCell ⟨bt, 1, none⟩ (.int .i64 (i + 1))).drewN k := by
  have hn2 : decide (n ≤ 1) = false := by simp; omega
  have hl2 : decide ((l : Int) ≤ i) = false := by simp; omega
  have hb := Lib.hid (u64_mod_bd z n (by omega) hn')
  go_enter Try.func14, Try.ntmps14
  go_wp2
  go_quiet (fail)
  go_wp2
  have e1 : IntKind.i64.wrap (i + 1 - 1) = i := IntWalk.i64_in _ (by omega) |>.trans (by omega)
  go_quiet ((go_at_call 28; exact Calls.quiet_of_same (mod_any _ _ _ (by omega) (by omega))))
  go_wp2
  go_ret
  exact ⟨⟨_, hb.out.1, hb.out.2, rfl⟩, _, World.drewN_drewN (w.setCell ⟨bt, 1, none⟩ (.int .i64 (i + 1))) _ _⟩


/-- What a choice comes to. -/
def NextPost (B bt : Nat) (n : Int) (w : World) (e : Ending) (w' : World) : Prop :=
  ∃ r : Int, 0 ≤ r ∧ (r < n ∨ r = 0) ∧ e = .returned (.int .i64 r) ∧ TapeOk B w' bt ∧ But bt w w'

theorem next_any {B bt : Nat} {w : World} (ht : TapeOk B w bt) (n : Int) (hn' : n ≤ 9223372036854775807) :
    Calls Try.prog 14 #[.pointer (some ⟨bt, 0, none⟩), .int .i64 n] w (NextPost B bt n w) := by
  obtain ⟨a, l, c, i, h1, h2, h3, h4, h5⟩ := ht.get
  have c0 : w.cell? ⟨bt, 0, none⟩ = some (.slice a l c) := by simp [World.cell?, h1]
  have c1 : w.cell? ⟨bt, 1, none⟩ = some (.int .i64 i) := by simp [World.cell?, h1]
  have cf : w.frozen? ⟨bt, 1, none⟩ = false := by simp [World.frozen?, h1]
  by_cases hn : n ≤ 1
  · refine (next_small a l c bt i n w hn c0 c1).mono ?_
    rintro e w' ⟨rfl, k, rfl⟩
    exact ⟨0, by omega, by omega, rfl, ht.drewN _, (But.refl _ _).drewN _⟩
  by_cases hl : (l : Int) ≤ i
  · refine (next_end a l c bt i n w (by omega) hl c0 c1).mono ?_
    rintro e w' ⟨rfl, k, rfl⟩
    exact ⟨0, by omega, by omega, rfl, ht.drewN _, (But.refl _ _).drewN _⟩
  obtain ⟨b, off, z, rfl, hb, hz⟩ := h5 i.toNat (by omega)
  have hge := ht.ge
  unfold maxLen at h3 h4
  refine (next_more b off l c bt i n z w (by omega) hn' h2 (by omega) (by omega) (by omega) c0 c1 cf hz).mono ?_
  rintro e w' ⟨⟨r, r1, r2, rfl⟩, k, rfl⟩
  refine ⟨r, r1, .inl r2, rfl, ?_, ((But.refl bt w).setCell ⟨bt, 1, none⟩ (.inl rfl) _).drewN _⟩
  refine ⟨ht.base, ht.ge, by simpa using ht.lt, some ⟨b, off, none⟩, l, c, i + 1, ?_, by omega, by unfold maxLen; omega, by unfold maxLen; omega, fun j hj => ?_⟩
  · simp [World.setCell, Array.getElem?_modify, h1]
  · obtain ⟨b', off', z', e1, e2, e3⟩ := h5 j hj
    refine ⟨b', off', z', e1, e2, ?_⟩
    exact (World.cell?_of_block (w := w) (Below.heap_setCell _ _ _ _ (by show b' ≠ bt; omega))).trans e3

theorem new_any {B : Nat} {w : World} (hB : B = w.heap.size) (a : Option Addr) (n c : Nat) (hn : n ≤ maxLen)
    (h : ∀ j : Nat, j < n → ∃ b off z, a = some ⟨b, off, none⟩ ∧ b < B ∧ w.cell? ⟨b, off + j, none⟩ = some (.int .i64 z)) (hbs : Base.b ≤ B := by omega) :
    Calls Try.prog 6 #[.slice a n c] w fun e w' => e = .returned (.pointer (some ⟨B, 0, none⟩)) ∧ TapeOk B w' B ∧ Below B w w' := by
  have h' := Lib.hid h
  clear h
  go_enter Try.func6, Try.ntmps6
  go_wp2
  go_ret
  subst hB
  refine ⟨rfl, ⟨hbs, Nat.le_refl _, by simp, a, n, c, 0, heap_alloc_new w _, by omega, hn, by unfold maxLen; omega, fun j hj => ?_⟩, (Below.refl _ _).alloc (Nat.le_refl _) _⟩
  obtain ⟨b, off, z, e1, e2, e3⟩ := h'.out j hj
  exact ⟨b, off, z, e1, e2, (World.cell?_of_block (w := w) (Below.heap_alloc _ _ _ e2)).trans e3⟩

end Go.Proofs.Ytbgoogjhgeoapaa
