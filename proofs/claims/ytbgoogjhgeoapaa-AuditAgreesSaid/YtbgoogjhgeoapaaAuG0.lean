/- Rings: plain, and in memory. No walk. -/
import Derived.Test.YtbgoogjhgeoapaaAuC
import Derived.Test.YtbgoogjhgeoapaaSlc
set_option linter.unusedVariables false
set_option linter.unusedSimpArgs false
set_option linter.unusedSectionVars false
namespace Go.Proofs.Ytbgoogjhgeoapaa
open Go.RowKit
variable [Base]

structure SV where
  id : Int
  pri : Int
  age : Int
  df : Int
structure RV where
  ba : Int
  pe : Int
  ss : List SV
  at_ : Nat
  op : Bool
def seatB (s : SV) : Bool := cnB s.id && (btwB s.pri 0 3 && cnB s.age)
def dfOk (op here : Bool) (df : Int) : Prop := if (op && here) = true then 1 ≤ df ∧ df ≤ 64 else -7 ≤ df ∧ df ≤ 0
structure RingOk (r : RV) : Prop where
  ba : 1 ≤ r.ba ∧ r.ba ≤ 64
  pe : 1 ≤ r.pe ∧ r.pe ≤ 1024
  len : r.ss.length ≤ 16
  at_ : r.at_ < r.ss.length ∨ (r.at_ = 0 ∧ r.ss.length = 0)
  op : r.op = true → r.ss.length ≠ 0
  nd : r.ss.Pairwise fun a b => a.id ≠ b.id
  ok : ∀ s ∈ r.ss, seatB s = true
  df : ∀ i s, r.ss[i]? = some s → dfOk r.op (decide (i = r.at_)) s.df
def seatC (s : SV) : List Value := [iv s.id, iv s.pri, iv s.age, iv s.df]
def seatV (s : SV) : Value := .agg #[iv s.id, iv s.pri, iv s.age, iv s.df]
def SeatsAt (w : World) (v : Value) (l : List SV) : Prop := SliceAt w 49 4 v (l.map seatC).flatten
def ringV (r : RV) (v : Value) : Value := .agg #[iv r.ba, iv r.pe, v, iv r.at_, .bool r.op]
theorem seatC_len (l : List SV) : ∀ x ∈ l.map seatC, x.length = 4 := by
  intro x hx
  obtain ⟨y, _, rfl⟩ := List.mem_map.1 hx
  rfl
theorem SeatsAt.keep {w w' : World} {v : Value} {l : List SV} (h : SeatsAt w v l) (hs : SameT 49 w w') : SeatsAt w' v l := SliceAt.same h hs
theorem SeatsAt.below {w w' : World} {v : Value} {l : List SV} (h : SeatsAt w v l) (hb : Below w.heap.size w w') : SeatsAt w' v l := h.keep (SameT.below hb)
theorem SeatsAt.nil {w : World} : SeatsAt w (.slice none 0 0) [] := SliceAt.nil
theorem SeatsAt.cell {w : World} {v : Value} {l : List SV} (h : SeatsAt w v l) : ∃ a c, v = .slice a l.length c ∧ l.length ≤ maxLen ∧ l.length ≤ c ∧ c ≤ maxLen ∧ ∀ k x, l[k]? = some x → ∃ b off, a = some ⟨b, off, none⟩ ∧ b < w.heap.size ∧
    ∀ j, j < 4 → w.cell? ⟨b, off + k * 4 + j, none⟩ = (seatC x)[j]? := by
  obtain ⟨a, c, e, hm, h3, h4, hc⟩ := rows_lie h (seatC_len l) (by omega)
  rw [List.length_map] at e hm h3
  refine ⟨a, c, e, hm, h3, h4, fun k x hk => ?_⟩
  obtain ⟨b, off, h5, h6, _, h7⟩ := hc k (seatC x) (by rw [List.getElem?_map, hk]; rfl)
  exact ⟨b, off, h5, h6, h7⟩
theorem cells4 {b : Nat} {w : World} {v0 v1 v2 v3 : Value} {t : TypeId} (h : w.heap[b]? = some (.cells #[v0, v1, v2, v3] t (0, 0))) :
    w.cell? ⟨b, 0, none⟩ = some v0 ∧ w.cell? ⟨b, 1, none⟩ = some v1 ∧ w.cell? ⟨b, 2, none⟩ = some v2 ∧ w.cell? ⟨b, 3, none⟩ = some v3 := by
  have := (lies_cells h).1
  exact ⟨this 0, this 1, this 2, this 3⟩
def seatFrom (id : Int) : Nat → List SV → Int
  | _, [] => -1
  | k, s :: l => if s.id = id then (k : Int) else seatFrom id (k + 1) l
theorem seatFrom_drop {l : List SV} {id : Int} {i : Nat} {s : SV} (h : l[i]? = some s) : seatFrom id i (l.drop i) = if s.id = id then (i : Int) else seatFrom id (i + 1) (l.drop (i + 1)) := by
  obtain ⟨h1, rfl⟩ := List.getElem?_eq_some_iff.1 h
  rw [List.drop_eq_getElem_cons h1]
  rfl
theorem seatFrom_end {l : List SV} {id : Int} {i : Nat} (h : l.length ≤ i) : seatFrom id i (l.drop i) = -1 := by
  rw [List.drop_eq_nil_of_le h]; rfl
/-- Where ids differ, a seat's own index is found. -/
theorem seatFrom_at : ∀ (l : List SV) (k i : Nat) (s : SV), l.Pairwise (fun a b => a.id ≠ b.id) → l[i]? = some s → seatFrom s.id k l = ((k + i : Nat) : Int)
  | [], _, _, _, _, h => by simp at h
  | t :: l, k, 0, s, _, h => by
    simp at h
    subst h
    unfold seatFrom
    rw [if_pos rfl]; rfl
  | t :: l, k, i + 1, s, hp, h => by
    obtain ⟨h1, h2⟩ := List.pairwise_cons.1 hp
    have hm : s ∈ l := List.mem_of_getElem? (by simpa using h)
    unfold seatFrom
    rw [if_neg (h1 s hm), seatFrom_at l (k + 1) i s h2 (by simpa using h)]
    congr 1; omega
theorem seatFrom_no : ∀ (l : List SV) (k : Nat) (id : Int), (∀ s ∈ l, s.id ≠ id) → seatFrom id k l = -1
  | [], _, _, _ => rfl
  | t :: l, k, id, h => by
    unfold seatFrom
    rw [if_neg (h t (by simp)), seatFrom_no l (k + 1) id (fun s hs => h s (by simp [hs]))]
end Go.Proofs.Ytbgoogjhgeoapaa
