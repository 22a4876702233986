/- The audit's state in memory: each block has a role, so no two of them are one. No walk. -/
import Derived.Test.YtbgoogjhgeoapaaAuM
import Derived.Test.YtbgoogjhgeoapaaAuR
set_option linter.unusedVariables false
set_option linter.unusedSimpArgs false
set_option linter.unusedSectionVars false
namespace Go.Proofs.Ytbgoogjhgeoapaa
open Go.RowKit
variable [Base]

abbrev Rho := Nat → Option (Nat × Int)
abbrev pv (p : Nat) : Value := .pointer (some ⟨p, 0, none⟩)
/-- An account in block p; m: its map's block. -/
structure AccAt (w : World) (N : Nat) (p m : Nat) (a : Acc) : Prop where
  cells : ∃ m0 m1 m2 m3 sv, a.may = [m0, m1, m2, m3] ∧ w.heap[p]? = some (.cells #[iv a.turns, .bool m0, .bool m1, .bool m2, .bool m3, iv a.df, .bool a.gone, sv] 78 (0, 0)) ∧
    ((a.turns = 0 ∧ sv = .map none) ∨ (0 < a.turns ∧ sv = .map (some m) ∧ MapI w m N a.since))
  tu : 0 ≤ a.turns ∧ a.turns ≤ N
  df : -7 ≤ a.df ∧ a.df ≤ 64 * N
  si : ∀ k, 0 ≤ a.since k ∧ a.since k ≤ N
structure AudAt (B M N : Nat) (w : World) (b : Nat) (c : CV) (s : Aud) (km : Nat) (ρ : Rho) (pt sm : Int → Nat) : Prop where
  main : w.heap[b]? = some (.cells #[iv c.p, iv c.pe, iv c.me, iv c.no, iv c.ed, iv c.ba, iv c.ag, .map (some km), iv s.last, .bool s.op] 62 (0, 0))
  mp : MapP w km M (fun k => (accOf s.known k).map fun _ => pt k)
  acc : ∀ a ∈ s.known, AccAt w N (pt a.id) (sm a.id) a
  uq : Uq s.known
  rb : ρ b = some (0, 0)
  rk : ρ km = some (1, 0)
  ra : ∀ a ∈ s.known, ρ (pt a.id) = some (2, a.id)
  rs : ∀ a ∈ s.known, 0 < a.turns → ρ (sm a.id) = some (3, a.id)
  out : ∀ q, q < B → ρ q = none
  new : ∀ q, w.heap.size ≤ q → ρ q = none
  wf : ∀ a ∈ s.known, 0 ≤ a.id ∧ a.id ≤ 1073741824
  big : B ≤ w.heap.size
/-- Of what was there, only blocks with a role may have turned. -/
structure Fr (ρ : Rho) (w w' : World) : Prop where
  os : w'.os = w.os
  tape : w'.tape = w.tape
  output : w'.output = w.output
  size : w.heap.size ≤ w'.heap.size
  block : ∀ q, q < w.heap.size → ρ q = none → w'.heap[q]? = w.heap[q]?
theorem Fr.refl (ρ : Rho) (w : World) : Fr ρ w w := ⟨rfl, rfl, rfl, Nat.le_refl _, fun _ _ _ => rfl⟩
theorem Fr.trans {ρ ρ' : Rho} {a b c : World} (h : Fr ρ a b) (k : Fr ρ' b c) (hr : ∀ q, q < a.heap.size → ρ' q = ρ q) : Fr ρ a c :=
  ⟨k.os.trans h.os, k.tape.trans h.tape, k.output.trans h.output, Nat.le_trans h.size k.size, fun q hq hn => (k.block q (Nat.lt_of_lt_of_le hq h.size) ((hr q hq).trans hn)).trans (h.block q hq hn)⟩
theorem Fr.of_below {ρ : Rho} {a w w' : World} (h : Fr ρ a w) (k : Below w.heap.size w w') : Fr ρ a w' :=
  ⟨k.os.trans h.os, k.tape.trans h.tape, k.output.trans h.output, Nat.le_trans h.size k.size, fun q hq hn => (k.block q (Nat.lt_of_lt_of_le hq h.size)).trans (h.block q hq hn)⟩
theorem Fr.alloc {ρ : Rho} {a w : World} (h : Fr ρ a w) (o : Obj) : Fr ρ a (w.alloc o) := h.of_below ((Below.refl _ _).alloc (Nat.le_refl _) _)
theorem Fr.drewN {ρ : Rho} {a w : World} (h : Fr ρ a w) (n : Nat) : Fr ρ a (w.drewN n) := ⟨h.os, h.tape, h.output, h.size, h.block⟩
theorem Fr.setCell {ρ : Rho} {a w : World} (h : Fr ρ a w) (p : Addr) (hp : ρ p.block ≠ none) (u : Value) : Fr ρ a (w.setCell p u) :=
  ⟨h.os, h.tape, h.output, by simpa using h.size, fun q hq hn => by
    rw [Below.heap_setCell _ _ _ _ (fun e => hp (by rw [← e]; exact hn))]; exact h.block q hq hn⟩
theorem Fr.grown {ρ : Rho} {a w w' : World} {b : Nat} (h : Fr ρ a w) (hg : w.grownBy w' (some b)) (hb : ρ b ≠ none) : Fr ρ a w' :=
  ⟨hg.os.trans h.os, hg.tape.trans h.tape, hg.output.trans h.output, Nat.le_trans h.size hg.size, fun q hq hn => (hg.block q (Nat.lt_of_lt_of_le hq h.size) (fun e => by cases e; exact hb hn)).trans (h.block q hq hn)⟩
theorem Fr.cell {ρ : Rho} {w w' : World} (h : Fr ρ w w') : ∀ q o, q < w.heap.size → ρ q = none → w'.cell? ⟨q, o, none⟩ = w.cell? ⟨q, o, none⟩ :=
  fun q o hq hn => World.cell?_of_block (h.block q hq hn)
theorem Fr.below {ρ : Rho} {w w' : World} {B : Nat} (h : Fr ρ w w') (hB : ∀ q, q < B → ρ q = none) (hs : B ≤ w.heap.size) : Below B w w' :=
  ⟨h.os, h.tape, h.output, h.size, fun q hq => h.block q (Nat.lt_of_lt_of_le hq hs) (hB q hq)⟩

theorem MapI.block {w w' : World} {b n : Nat} {f : Int → Int} (h : MapI w b n f) (hb : w'.heap[b]? = w.heap[b]?) : MapI w' b n f := by
  obtain ⟨th, h⟩ := h
  exact ⟨th, h.block hb⟩
theorem MapI.lt {w : World} {b n : Nat} {f : Int → Int} (h : MapI w b n f) : b < w.heap.size := by
  obtain ⟨th, h⟩ := h
  exact h.lt
theorem MapI.mono {w : World} {b n n' : Nat} {f : Int → Int} (h : MapI w b n f) (hn : n ≤ n') : MapI w b n' f := by
  obtain ⟨th, h⟩ := h
  exact ⟨th, h.mono hn⟩
theorem MapI.look {w : World} {b n : Nat} {f : Int → Int} (h : MapI w b n f) {k : Int} (wk : Wf k) : (Instr.lookup 76 (.map (some b)) (.int .i64 k) false).run Try.prog w = .ok (.int .i64 (f k)) w := by
  obtain ⟨th, h⟩ := h
  exact h.look und_int und_mi (zeroI w) wk
theorem MapI.made (w : World) : MapI (w.alloc (.map #[] 0)) w.heap.size 0 (fun _ => 0) := ⟨_, MapF.made intEnc w⟩
theorem MapI.isMap {w : World} {b n : Nat} {f : Int → Int} (h : MapI w b n f) : ∃ es c, w.heap[b]? = some (.map es c) := by
  obtain ⟨th, h⟩ := h
  exact h.isMap

theorem AccAt.keep {w w' : World} {N p m : Nat} {a : Acc} (h : AccAt w N p m a) (hp : w'.heap[p]? = w.heap[p]?) (hm : 0 < a.turns → w'.heap[m]? = w.heap[m]?) : AccAt w' N p m a := by
  obtain ⟨m0, m1, m2, m3, sv, e1, e2, e3⟩ := h.cells
  refine ⟨⟨m0, m1, m2, m3, sv, e1, hp.trans e2, ?_⟩, h.tu, h.df, h.si⟩
  rcases e3 with e3 | ⟨e3, e4, e5⟩
  · exact .inl e3
  · exact .inr ⟨e3, e4, e5.block (hm e3)⟩
theorem AccAt.mono {w : World} {N N' p m : Nat} {a : Acc} (h : AccAt w N p m a) (hn : N ≤ N') : AccAt w N' p m a := by
  obtain ⟨m0, m1, m2, m3, sv, e1, e2, e3⟩ := h.cells
  refine ⟨⟨m0, m1, m2, m3, sv, e1, e2, ?_⟩, ⟨h.tu.1, by have := h.tu.2; omega⟩, ⟨h.df.1, by have := h.df.2; omega⟩, fun k => ⟨(h.si k).1, by have := (h.si k).2; omega⟩⟩
  rcases e3 with e3 | ⟨e3, e4, e5⟩
  · exact .inl e3
  · exact .inr ⟨e3, e4, e5.mono hn⟩
theorem AccAt.lt {w : World} {N p m : Nat} {a : Acc} (h : AccAt w N p m a) : p < w.heap.size ∧ (0 < a.turns → m < w.heap.size) := by
  obtain ⟨m0, m1, m2, m3, sv, e1, e2, e3⟩ := h.cells
  refine ⟨lt_heap e2, fun ht => ?_⟩
  rcases e3 with e3 | ⟨e3, e4, e5⟩
  · omega
  · exact e5.lt
theorem AudAt.mono {B M N N' : Nat} {w : World} {b : Nat} {c : CV} {s : Aud} {km : Nat} {ρ : Rho} {pt sm : Int → Nat} (h : AudAt B M N w b c s km ρ pt sm) (hn : N ≤ N') : AudAt B M N' w b c s km ρ pt sm :=
  ⟨h.main, h.mp, fun a ha => (h.acc a ha).mono hn, h.uq, h.rb, h.rk, h.ra, h.rs, h.out, h.new, h.wf, h.big⟩
/-- Blocks that are new leave the audit alone. -/
theorem AudAt.below {B M N : Nat} {w w' : World} {b : Nat} {c : CV} {s : Aud} {km : Nat} {ρ : Rho} {pt sm : Int → Nat} (h : AudAt B M N w b c s km ρ pt sm) (k : Below w.heap.size w w') : AudAt B M N w' b c s km ρ pt sm :=
  ⟨lies_below h.main k (lt_heap h.main), h.mp.block (k.block _ (MapF.lt h.mp)), fun a ha => (h.acc a ha).keep (k.block _ (h.acc a ha).lt.1) (fun ht => k.block _ ((h.acc a ha).lt.2 ht)), h.uq, h.rb, h.rk, h.ra, h.rs, h.out,
    fun q hq => h.new q (Nat.le_trans k.size hq), h.wf, Nat.le_trans h.big k.size⟩
theorem AudAt.alloc {B M N : Nat} {w : World} {b : Nat} {c : CV} {s : Aud} {km : Nat} {ρ : Rho} {pt sm : Int → Nat} (h : AudAt B M N w b c s km ρ pt sm) (o : Obj) : AudAt B M N (w.alloc o) b c s km ρ pt sm := h.below ((Below.refl _ _).alloc (Nat.le_refl _) _)
theorem AudAt.get {B M N : Nat} {w : World} {b : Nat} {c : CV} {s : Aud} {km : Nat} {ρ : Rho} {pt sm : Int → Nat} (h : AudAt B M N w b c s km ρ pt sm) {q : Int} (hs : (accOf s.known q).isSome) : getAcc s.known q ∈ s.known ∧ (getAcc s.known q).id = q := by
  refine ⟨?_, getAcc_id _ _⟩
  unfold getAcc
  cases e : accOf s.known q with
  | none => rw [e] at hs; cases hs
  | some a => exact List.mem_of_find?_eq_some e
theorem AudAt.role {B M N : Nat} {w : World} {b : Nat} {c : CV} {s : Aud} {km : Nat} {ρ : Rho} {pt sm : Int → Nat} (h : AudAt B M N w b c s km ρ pt sm) {q : Int} (hs : (accOf s.known q).isSome) : ρ (pt q) = some (2, q) ∧ AccAt w N (pt q) (sm q) (getAcc s.known q) := by
  obtain ⟨h1, h2⟩ := h.get hs
  have h3 := h.ra _ h1
  have h4 := h.acc _ h1
  rw [h2] at h3 h4
  exact ⟨h3, h4⟩
/-- One account is another one now. -/
theorem AudAt.put {B M N N' : Nat} {w w' : World} {b : Nat} {c : CV} {s : Aud} {km : Nat} {ρ ρ' : Rho} {pt sm : Int → Nat} {m' : Nat} (h : AudAt B M N w b c s km ρ pt sm) (a : Acc) (hs : (accOf s.known a.id).isSome)
    (hacc : AccAt w' N' (pt a.id) m' a) (hN : N ≤ N') (hsz : w.heap.size ≤ w'.heap.size) (hb : ∀ q, q < w.heap.size → q ≠ pt a.id → ρ q ≠ some (3, a.id) → w'.heap[q]? = w.heap[q]?)
    (hr : ∀ q, q < w.heap.size → ρ' q = ρ q) (hrm : 0 < a.turns → ρ' m' = some (3, a.id)) (hrn : ∀ q, w'.heap.size ≤ q → ρ' q = none) :
    AudAt B M N' w' b c { s with known := putAcc s.known a } km ρ' pt (fun k => if k = a.id then m' else sm k) := by
  have hra := (h.role hs).1
  have hbl := lt_heap h.main
  have hkl := MapF.lt h.mp
  have o1 : ∀ q r, ρ q = some r → r.1 < 2 → q < w.heap.size → w'.heap[q]? = w.heap[q]? := fun q r e1 e2 hq => hb q hq (fun e => by rw [e, hra] at e1; cases e1; omega) (fun e => by rw [e] at e1; cases e1; omega)
  have hmem : ∀ y ∈ putAcc s.known a, (y = a ∧ y.id = a.id) ∨ (y ∈ s.known ∧ y.id ≠ a.id) := by
    intro y hy
    obtain ⟨z, hz, rfl⟩ := List.mem_map.1 hy
    by_cases e : z.id = a.id
    · left; rw [if_pos e]; exact ⟨rfl, rfl⟩
    · right; rw [if_neg e]; exact ⟨hz, e⟩
  refine ⟨(o1 b _ h.rb (by decide) hbl).trans h.main, ?_, ?_, h.uq.map (putAcc_id a), (hr b hbl).trans h.rb, (hr km hkl).trans h.rk, ?_, ?_, fun q hq => (hr q (Nat.lt_of_lt_of_le hq h.big)).trans (h.out q hq), hrn, ?_, Nat.le_trans h.big hsz⟩
  · refine MapF.congr (h.mp.block (o1 km _ h.rk (by decide) hkl)) (fun k => ?_) (fun k => ?_)
    · show _ = (accOf (putAcc s.known a) k).map fun _ => pt k
      unfold putAcc
      rw [accOf_map (putAcc_id a)]
      cases accOf s.known k <;> rfl
    · show ((accOf s.known k).map fun _ => pt k).isSome = ((accOf (putAcc s.known a) k).map fun _ => pt k).isSome
      unfold putAcc
      rw [accOf_map (putAcc_id a)]
      cases accOf s.known k <;> rfl
  · intro y hy
    show AccAt w' N' (pt y.id) (if y.id = a.id then m' else sm y.id) y
    rcases hmem y hy with ⟨e1, e2⟩ | ⟨e1, e2⟩
    · rw [if_pos e2, e1]; exact hacc
    · rw [if_neg e2]
      refine ((h.acc y e1).mono hN).keep (hb _ (h.acc y e1).lt.1 (fun e => ?_) (fun e => ?_)) (fun ht => hb _ ((h.acc y e1).lt.2 ht) (fun e => ?_) (fun e => ?_))
      · have := h.ra y e1; rw [e, hra] at this; simp at this; exact e2 this.symm
      · rw [h.ra y e1] at e; simp at e
      · have := h.rs y e1 ht; rw [e, hra] at this; simp at this
      · rw [h.rs y e1 ht] at e; simp at e; exact e2 e
  · intro y hy
    rcases hmem y hy with ⟨e1, e2⟩ | ⟨e1, e2⟩
    · rw [e2]; exact (hr _ (h.role hs).2.lt.1).trans hra
    · exact (hr _ (h.acc y e1).lt.1).trans (h.ra y e1)
  · intro y hy ht
    show ρ' (if y.id = a.id then m' else sm y.id) = _
    rcases hmem y hy with ⟨e1, e2⟩ | ⟨e1, e2⟩
    · rw [if_pos e2, e2]; exact hrm (e1 ▸ ht)
    · rw [if_neg e2]; exact (hr _ ((h.acc y e1).lt.2 ht)).trans (h.rs y e1 ht)
  · intro y hy
    rcases hmem y hy with ⟨e1, e2⟩ | ⟨e1, e2⟩
    · obtain ⟨g1, g2⟩ := h.get hs
      have := h.wf _ g1
      rw [g2] at this
      rw [e2]; exact this
    · exact h.wf y e1
theorem AudAt.smq {B M N : Nat} {w : World} {b : Nat} {c : CV} {s : Aud} {km : Nat} {ρ : Rho} {pt sm sm' : Int → Nat} (h : AudAt B M N w b c s km ρ pt sm) (e : ∀ k, sm k = sm' k) : AudAt B M N w b c s km ρ pt sm' := by
  rw [← funext e]; exact h
/-- The last query and whether it is open. -/
theorem AudAt.setMain {B M N : Nat} {w w' : World} {b : Nat} {c : CV} {s : Aud} {km : Nat} {ρ : Rho} {pt sm : Int → Nat} (h : AudAt B M N w b c s km ρ pt sm) (last : Int) (op : Bool)
    (hm : w'.heap[b]? = some (.cells #[iv c.p, iv c.pe, iv c.me, iv c.no, iv c.ed, iv c.ba, iv c.ag, .map (some km), iv last, .bool op] 62 (0, 0))) (hs : w'.heap.size = w.heap.size) (hb : ∀ q, q ≠ b → w'.heap[q]? = w.heap[q]?) :
    AudAt B M N w' b c { s with last := last, op := op } km ρ pt sm := by
  have nb : ∀ q r, ρ q = some r → r.1 ≠ 0 → w'.heap[q]? = w.heap[q]? := fun q r e1 e2 => hb q (fun e => by rw [e, h.rb] at e1; cases e1; exact e2 rfl)
  exact ⟨hm, h.mp.block (nb _ _ h.rk (by decide)), fun a ha => (h.acc a ha).keep (nb _ _ (h.ra a ha) (by simp)) (fun ht => nb _ _ (h.rs a ha ht) (by simp)), h.uq, h.rb, h.rk, h.ra, h.rs, h.out, by rw [hs]; exact h.new, h.wf, by rw [hs]; exact h.big⟩
theorem cells8' {b : Nat} {w : World} {v0 v1 v2 v3 v4 v5 v6 v7 : Value} {t : TypeId} (h : w.heap[b]? = some (.cells #[v0, v1, v2, v3, v4, v5, v6, v7] t (0, 0))) :
    w.cell? ⟨b, 0, none⟩ = some v0 ∧ w.cell? ⟨b, 1, none⟩ = some v1 ∧ w.cell? ⟨b, 2, none⟩ = some v2 ∧ w.cell? ⟨b, 3, none⟩ = some v3 ∧ w.cell? ⟨b, 4, none⟩ = some v4 ∧ w.cell? ⟨b, 5, none⟩ = some v5 ∧ w.cell? ⟨b, 6, none⟩ = some v6 ∧ w.cell? ⟨b, 7, none⟩ = some v7 := by
  have := (lies_cells h).1
  exact ⟨this 0, this 1, this 2, this 3, this 4, this 5, this 6, this 7⟩
theorem cells10 {b : Nat} {w : World} {v0 v1 v2 v3 v4 v5 v6 v7 v8 v9 : Value} {t : TypeId} (h : w.heap[b]? = some (.cells #[v0, v1, v2, v3, v4, v5, v6, v7, v8, v9] t (0, 0))) :
    w.cell? ⟨b, 5, none⟩ = some v5 ∧ w.cell? ⟨b, 6, none⟩ = some v6 ∧ w.cell? ⟨b, 7, none⟩ = some v7 ∧ w.cell? ⟨b, 8, none⟩ = some v8 ∧ w.cell? ⟨b, 9, none⟩ = some v9 := by
  have := (lies_cells h).1
  exact ⟨this 5, this 6, this 7, this 8, this 9⟩
/-- Storing into the cells of a block that holds cells. -/
theorem set_cells {w : World} {b o : Nat} {cs : Array Value} {t : TypeId} {u : Value} (h : w.heap[b]? = some (.cells cs t (0, 0))) : (w.setCell ⟨b, o, none⟩ u).heap[b]? = some (.cells (cs.setIfInBounds o u) t (0, 0)) := by
  have hlt := lt_heap h
  have e : w.heap[b] = .cells cs t (0, 0) := by
    rw [Array.getElem?_eq_getElem hlt] at h
    exact Option.some.inj h
  unfold World.setCell
  simp [hlt, Array.getElem_modify, e]
end Go.Proofs.Ytbgoogjhgeoapaa
