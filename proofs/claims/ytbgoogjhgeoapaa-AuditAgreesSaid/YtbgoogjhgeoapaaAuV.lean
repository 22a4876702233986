/- The audit's begin: what its loop over the accounts leaves, in plain lists and in memory. No walk. -/
import Derived.Test.YtbgoogjhgeoapaaAuA
set_option linter.unusedVariables false
set_option linter.unusedSimpArgs false
set_option linter.unusedSectionVars false
namespace Go.Proofs.Ytbgoogjhgeoapaa
open Go.RowKit
variable [Base]

theorem turnB_co' {x : TV} (h : turnB x = true) : 0 ≤ x.q ∧ x.q ≤ 1073741824 ∧ 0 ≤ x.qu ∧ x.qu ≤ 64 ∧ 0 ≤ x.st ∧ x.st ≤ 1073741824 ∧ 0 ≤ x.co ∧ x.co ≤ 1073741824 := by
  unfold turnB cnB btwB at h
  simp only [Bool.and_eq_true, decide_eq_true_eq] at h
  omega
/-- Only block p has turned. -/
structure OnlyAt (p : Nat) (w w' : World) : Prop where
  os : w'.os = w.os
  tape : w'.tape = w.tape
  output : w'.output = w.output
  size : w'.heap.size = w.heap.size
  block : ∀ q, q ≠ p → w'.heap[q]? = w.heap[q]?
theorem OnlyAt.refl (p : Nat) (w : World) : OnlyAt p w w := ⟨rfl, rfl, rfl, rfl, fun _ _ => rfl⟩
theorem OnlyAt.set {p : Nat} {a w : World} (h : OnlyAt p a w) (o : Nat) (u : Value) : OnlyAt p a (w.setCell ⟨p, o, none⟩ u) :=
  ⟨h.os, h.tape, h.output, by simpa using h.size, fun q hq => by rw [Below.heap_setCell _ _ _ _ hq]; exact h.block q hq⟩
theorem OnlyAt.drewN {p : Nat} {a w : World} (h : OnlyAt p a w) (n : Nat) : OnlyAt p a (w.drewN n) := ⟨h.os, h.tape, h.output, h.size, h.block⟩
theorem Fr.only {ρ : Rho} {a w w' : World} {p : Nat} (h : Fr ρ a w) (k : OnlyAt p w w') (hp : ρ p ≠ none) : Fr ρ a w' :=
  ⟨k.os.trans h.os, k.tape.trans h.tape, k.output.trans h.output, by rw [k.size]; exact h.size, fun q hq hn => (k.block q (fun e => hp (e ▸ hn))).trans (h.block q hq hn)⟩
/-- Only blocks without a role have turned. -/
theorem AudAt.frame {B M N : Nat} {w w' : World} {b : Nat} {c : CV} {s : Aud} {km : Nat} {ρ : Rho} {pt sm : Int → Nat} (h : AudAt B M N w b c s km ρ pt sm) (hs : w.heap.size ≤ w'.heap.size)
    (hb : ∀ q, ρ q ≠ none → w'.heap[q]? = w.heap[q]?) : AudAt B M N w' b c s km ρ pt sm :=
  ⟨(hb b (by rw [h.rb]; simp)).trans h.main, h.mp.block (hb km (by rw [h.rk]; simp)), fun a ha => (h.acc a ha).keep (hb _ (by rw [h.ra a ha]; simp)) (fun ht => hb _ (by rw [h.rs a ha ht]; simp)), h.uq, h.rb, h.rk, h.ra, h.rs, h.out,
    fun q hq => h.new q (Nat.le_trans hs hq), h.wf, Nat.le_trans h.big hs⟩
theorem AudAt.grown {B M N : Nat} {w w' : World} {b : Nat} {c : CV} {s : Aud} {km : Nat} {ρ : Rho} {pt sm : Int → Nat} (h : AudAt B M N w b c s km ρ pt sm) {r : Nat} (hg : w.grownBy w' (some r)) (hr : ρ r = none) : AudAt B M N w' b c s km ρ pt sm :=
  h.frame hg.size fun q hq => by
    by_cases hlt : q < w.heap.size
    · exact hg.block q hlt (fun e => by cases e; exact hq hr)
    · exact absurd (h.new q (by omega)) hq
theorem AudAt.drewN {B M N : Nat} {w : World} {b : Nat} {c : CV} {s : Aud} {km : Nat} {ρ : Rho} {pt sm : Int → Nat} (h : AudAt B M N w b c s km ρ pt sm) (n : Nat) : AudAt B M N (w.drewN n) b c s km ρ pt sm := h.frame (Nat.le_refl _) fun _ _ => rfl
theorem AudAt.known {B M N : Nat} {w : World} {b : Nat} {c : CV} {s : Aud} {l : List Acc} {km : Nat} {ρ : Rho} {pt sm : Int → Nat} (h : AudAt B M N w b c s km ρ pt sm) (e : s.known = l) : AudAt B M N w b c { s with known := l } km ρ pt sm := by
  subst e; exact h

def mk (m : Nat → Bool) (f : Nat → Bool) (k j : Nat) : Bool := if j < k then m j && f j else m j
def accCells (a : Acc) (g : Nat → Bool) (sv : Value) : Array Value := #[iv a.turns, .bool (g 0), .bool (g 1), .bool (g 2), .bool (g 3), iv a.df, .bool a.gone, sv]
theorem accCells_get {w : World} {p k : Nat} {a : Acc} {g : Nat → Bool} {sv : Value} (h : w.heap[p]? = some (.cells (accCells a g sv) 78 (0, 0))) (hk : k < 4) : w.cell? ⟨p, 1 + k, none⟩ = some (.bool (g k)) ∧ w.cell? ⟨p, 0, none⟩ = some (iv a.turns) ∧ ∀ o, w.frozen? ⟨p, o, none⟩ = false := by
  have := lies_cells h
  refine ⟨?_, this.1 0, this.2⟩
  rw [this.1 (1 + k)]
  rcases (by omega : k = 0 ∨ k = 1 ∨ k = 2 ∨ k = 3) with rfl | rfl | rfl | rfl <;> rfl
theorem accCells_set {a : Acc} {m f : Nat → Bool} {sv : Value} {k : Nat} (hk : k < 4) : (accCells a (mk m f k) sv).setIfInBounds (1 + k) (.bool (m k && f k)) = accCells a (mk m f (k + 1)) sv := by
  rcases (by omega : k = 0 ∨ k = 1 ∨ k = 2 ∨ k = 3) with rfl | rfl | rfl | rfl <;> rfl

/-- An account that the loop has come by. -/
def vis (left : Lit → Bool) (q : Int) (y : Acc) : Acc := if left (kl y.id) then y else bumpAcc q y
theorem vis_id (left : Lit → Bool) (q : Int) (y : Acc) : (vis left q y).id = y.id := by
  unfold vis
  split
  · rfl
  · exact bumpAcc_id q y
def less (left : Lit → Bool) (k : Int) : Lit → Bool := fun z => left z && !z.sameKey (kl k)
theorem same_kl (a b : Int) : (kl a).sameKey (kl b) = decide (a = b) := by
  by_cases h : a = b
  · subst h; simp [WideAt.sameKey_self (show WideAt.IsKeyLit (kl a) from trivial)]
  · rw [Maps.sameKey_ne (fun e => h (by cases e; rfl))]; simp [h]
theorem less_kl (left : Lit → Bool) (k a : Int) : less left k (kl a) = (left (kl a) && !decide (a = k)) := by
  unfold less; rw [same_kl]
/-- The account y of key k is the one that is come by now. -/
theorem vis_less {l : List Acc} (hu : Uq l) {left : Lit → Bool} {q : Int} {y : Acc} (hy : y ∈ l) (hl : left (kl y.id) = true) : l.map (vis (less left y.id) q) = putAcc (l.map (vis left q)) (bumpAcc q y) := by
  unfold putAcc
  rw [List.map_map]
  refine List.map_congr_left fun z hz => ?_
  simp only [Function.comp, vis_id, bumpAcc_id]
  by_cases e : z.id = y.id
  · have : z = y := by
      have h1 := hu z hz
      have h2 := hu y hy
      rw [e, h2] at h1
      exact (Option.some.inj h1).symm
    subst this
    rw [if_pos rfl]
    unfold vis
    rw [less_kl]
    simp
  · rw [if_neg e]
    unfold vis
    rw [less_kl]
    simp [e]
theorem vis_skip {l : List Acc} (hu : Uq l) {left : Lit → Bool} {q : Int} {y : Acc} (hy : y ∈ l) (hl : left (kl y.id) = true) (hb : bumpAcc q y = y) : l.map (vis (less left y.id) q) = l.map (vis left q) := by
  refine List.map_congr_left fun z hz => ?_
  by_cases e : z.id = y.id
  · have : z = y := by
      have h1 := hu z hz
      have h2 := hu y hy
      rw [e, h2] at h1
      exact (Option.some.inj h1).symm
    subst this
    unfold vis
    rw [less_kl, hl]
    simp [hb]
  · unfold vis
    rw [less_kl]
    simp [e]
theorem vis_start {l : List Acc} {left : Lit → Bool} {q : Int} (h : ∀ y ∈ l, left (kl y.id) = true) : l.map (vis left q) = l := by
  conv => rhs; rw [← List.map_id l]
  refine List.map_congr_left fun z hz => ?_
  unfold vis
  rw [if_pos (h z hz)]; rfl
theorem vis_end {l : List Acc} {left : Lit → Bool} {q : Int} (h : ∀ k, left k = false) : l.map (vis left q) = l.map (bumpAcc q) := by
  refine List.map_congr_left fun z hz => ?_
  unfold vis
  rw [h]; rfl
theorem bump_self (a : Acc) : bumpAcc a.id a = a := by unfold bumpAcc; rw [if_pos (.inl rfl)]
theorem bump_zero {q : Int} {a : Acc} (h : a.turns = 0) : bumpAcc q a = a := by unfold bumpAcc; rw [if_pos (.inr h)]
theorem bump_yes {q : Int} {a : Acc} (h1 : a.id ≠ q) (h2 : 0 < a.turns) : bumpAcc q a = { a with since := bump a.since q } := by
  unfold bumpAcc; rw [if_neg]; rintro (e | e); exact h1 e; omega
theorem put_bump (l : List Acc) (q : Int) {a1 a2 : Acc} (h : a1.id = a2.id) : putAcc ((putAcc l a1).map (bumpAcc q)) a2 = putAcc (l.map (bumpAcc q)) a2 := by
  unfold putAcc
  rw [List.map_map, List.map_map, List.map_map]
  refine List.map_congr_left fun z hz => ?_
  simp only [Function.comp, bumpAcc_id]
  by_cases e : z.id = a1.id
  · rw [if_pos e, if_pos h, if_pos (e.trans h)]
  · rw [if_neg e]

/-- What begin answers. -/
def BegQ (B M N : Nat) (w : World) (b : Nat) (c : CV) (s : Aud) (km : Nat) (ρ : Rho) (pt sm : Int → Nat) (x : TV) (e : Ending) (w' : World) : Prop :=
  (beginA c s.known x = none ∧ e = .returned (.bool false) ∧ Fr ρ w w') ∨
  ∃ l' N' ρ' sm', beginA c s.known x = some l' ∧ e = .returned (.bool true) ∧ AudAt B M N' w' b c { s with known := l' } km ρ' pt sm' ∧ Fr ρ w w' ∧ Same ρ ρ' w.heap.size ∧ N' ≤ N + M + 1

/-- The loop over the accounts under way. -/
structure Vis (B M N : Nat) (V : World) (b : Nat) (c : CV) (s : Aud) (km : Nat) (ρ : Rho) (pt sm : Int → Nat) (q : Int) (D : DataW Unit) (it : Nat) (a : Acc) (left : Lit → Bool) (cnt j : Nat) (w : World) : Prop where
  rg : w.ranges Try.prog TI ptrEnc.R km it M D left cnt
  le : cnt + j ≤ M
  au : AudAt B M (N + j) w b c { s with known := s.known.map (vis left q) } km ρ pt sm
  fr : Fr ρ V w
  ok : ∀ y ∈ s.known, left (kl y.id) = false → badB a y = false
  lf : ∀ y ∈ s.known, left (kl y.id) = true ∨ left (kl y.id) = false

/-- The next account of the range. -/
theorem wpList_next_ptr {P : Program} {ops : Array Oper} {rest : List Oper} {o : Oper} {a : Act} {Q : Exit → Act → World → Prop} {w : World} (hg : o.guard = none) (i : Operand) (hop : o.op = Op.next i false) (hk : P.underlying TI = some (.int .i64))
    {b r n : Nat} {D : DataW Unit} {left : Lit → Bool} {cnt : Nat} (hit : a.eval i = .pointer (some ⟨r, 0, none⟩)) (h : w.ranges P TI ptrEnc.R b r n D left cnt)
    (hDone : cnt = 0 → (∀ k, left k = false) → wpList P ops Q rest (a.put o.dst (.tuple #[.bool false])) w)
    (hMore : ∀ (k : Int) (u : Option Nat) (w' : World) (cnt' : Nat), Wf k → left (kl k) = true → (∀ zd, D.atKey (kl k) zd = ptrD u) → w'.ranges P TI ptrEnc.R b r n D (less left k) cnt' → cnt' < cnt →
      w.grownBy w' (some r) → w'.heap.size = w.heap.size → (Instr.entry (.pointer (some ⟨r, 0, none⟩))).run P w' = .ok (.tuple #[iv k, ptrV u]) w' → wpList P ops Q rest (a.put o.dst (.tuple #[.bool true, iv k, ptrV u])) w') :
    wpList P ops Q (o :: rest) a w :=
  wpList_next_ranges w hg i hop TI (Maps.int_keyed hk) ptrEnc.R (Value.int .i64) ptrV (fun key l hkey => by obtain ⟨x, rfl, _⟩ := Maps.keyOf_int_inv hk hkey; exact ⟨x, rfl⟩) (fun v y hv => by obtain ⟨c, rfl, _⟩ := ptrR_inv v y hv; exact ⟨c, rfl⟩)
    b r n D left cnt hit h hDone (fun x u l y w' cnt' hkey hlk hv hat hrg hlt hgr hsz hen => by
      obtain ⟨x', ex, rfl, hwx⟩ := Maps.keyOf_int_inv hk hkey
      cases ex
      obtain ⟨u', eu, rfl⟩ := ptrR_inv _ _ hv
      have : u = u' := by
        cases u <;> cases u' <;> simp [ptrV] at eu ⊢
        exact eu
      subst this
      exact hMore x u w' cnt' hwx hlk hat hrg hlt hgr hsz hen)
theorem Vis.step {B M N : Nat} {V : World} {b : Nat} {c : CV} {s : Aud} {km : Nat} {ρ : Rho} {pt sm : Int → Nat} {q : Int} {D : DataW Unit} {it : Nat} {a : Acc} {left : Lit → Bool} {cnt j cnt1 j1 : Nat} {w w2 : World} {y : Acc} (h : Vis B M N V b c s km ρ pt sm q D it a left cnt j w)
    (hy : y ∈ s.known) (rg : w2.ranges Try.prog TI ptrEnc.R km it M D (less left y.id) cnt1) (hc : cnt1 < cnt) (hj : j1 ≤ j + 1) (au : AudAt B M (N + j1) w2 b c { s with known := s.known.map (vis (less left y.id) q) } km ρ pt sm) (fr : Fr ρ V w2) (hb : badB a y = false) (hu : Uq s.known) :
    Vis B M N V b c s km ρ pt sm q D it a (less left y.id) cnt1 j1 w2 := by
  refine ⟨rg, by have := h.le; omega, au, fr, fun z hz hl => ?_, fun z hz => by cases less left y.id (kl z.id) <;> simp⟩
  rw [less_kl] at hl
  by_cases e : z.id = y.id
  · have h1 := hu z hz
    have h2 := hu y hy
    rw [e, h2] at h1
    rw [← Option.some.inj h1]; exact hb
  · refine h.ok z hz ?_
    simpa [e] using hl
/-- The world behind 'q.turns++; q.since = map[int]int{}'. -/
theorem fin_world {U : World} {p : Nat} {cs : Array Value} {t : TypeId} (h : U.heap[p]? = some (.cells cs t (0, 0))) (v : Value) (o : Obj) (u : Value) :
    (((U.setCell ⟨p, 0, none⟩ v).setCell ⟨p, 7, none⟩ u).alloc o).heap[p]? = some (.cells ((cs.setIfInBounds 0 v).setIfInBounds 7 u) t (0, 0)) ∧ (((U.setCell ⟨p, 0, none⟩ v).setCell ⟨p, 7, none⟩ u).alloc o).heap[U.heap.size]? = some o ∧
    (∀ q, q < U.heap.size → q ≠ p → (((U.setCell ⟨p, 0, none⟩ v).setCell ⟨p, 7, none⟩ u).alloc o).heap[q]? = U.heap[q]?) ∧ (((U.setCell ⟨p, 0, none⟩ v).setCell ⟨p, 7, none⟩ u).alloc o).heap.size = U.heap.size + 1 := by
  have hlt := lt_heap h
  have h2 := set_cells (o := 7) (u := u) (set_cells (o := 0) (u := v) h)
  refine ⟨(Below.heap_alloc _ o p (by simpa using hlt)).trans h2, ?_, fun q hq hne => ?_, by simp⟩
  · have := heap_alloc_new ((U.setCell ⟨p, 0, none⟩ v).setCell ⟨p, 7, none⟩ u) o
    simpa using this
  · rw [Below.heap_alloc _ o q (by simpa using hq), Below.heap_setCell _ _ _ _ hne, Below.heap_setCell _ _ _ _ hne]
end Go.Proofs.Ytbgoogjhgeoapaa
