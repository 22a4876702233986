/- Blocks and rows in memory: small lemmas without a walk, for any seat. -/
import Derived.Test.YtbgoogjhgeoapaaMem
set_option linter.unusedVariables false
set_option linter.unusedSimpArgs false
set_option linter.unusedSectionVars false
namespace Go.Proofs.Ytbgoogjhgeoapaa
open Go.RowKit
variable [Base]

theorem lies_alloc {b : Nat} {w : World} {o : Obj} (x : Obj) (hb : w.heap[b]? = some o) : (w.alloc x).heap[b]? = some o := (Below.heap_alloc w x b (lt_heap hb)).trans hb
theorem lies_new2 {w : World} (a b : Obj) : ((w.alloc a).alloc b).heap[w.heap.size + 1]? = some b := by
  have h2 := heap_alloc_new (w.alloc a) b
  rw [World.size_alloc] at h2
  exact h2
theorem lies_cells {w : World} {b : Nat} {c : Array Value} {t : TypeId} (h : w.heap[b]? = some (.cells c t (0, 0))) : (∀ o, w.cell? ⟨b, o, none⟩ = c[o]?) ∧ ∀ o, w.frozen? ⟨b, o, none⟩ = false :=
  ⟨fun o => by simp [World.cell?, h], fun o => by simp [World.frozen?, h]⟩
theorem lies_below {B b : Nat} {w w' : World} {o : Obj} (h : w.heap[b]? = some o) (hb : Below B w w') (hlt : b < B) : w'.heap[b]? = some o := (hb.block b hlt).trans h
theorem All2.eachR {α β : Type} {R : α → β → Prop} {p : α → Prop} (hp : ∀ a b, R a b → p a) : ∀ {xs : List α} {ys : List β}, All2 R xs ys → ∀ x ∈ xs, p x
  | [], [], _ => by simp
  | a :: xs, b :: ys, ⟨h1, h2⟩ => by
    intro x hx
    rcases List.mem_cons.1 hx with rfl | hx
    · exact hp _ _ h1
    · exact All2.eachR hp h2 x hx
theorem All2.satR {α β : Type} {R : α → β → Prop} {xs : List α} {ys : List β} (h : All2 R xs ys) {k : Nat} {b : β} (hb : ys[k]? = some b) : ∃ a, xs[k]? = some a ∧ R a b := by
  obtain ⟨h1, rfl⟩ := List.getElem?_eq_some_iff.1 hb
  have h2 : k < xs.length := by rw [h.length]; exact h1
  exact ⟨xs[k], by simp [h2], h.get k h2 h1⟩
/-- A slice of structs: its rows. -/
theorem rows_lie {w : World} {T : TypeId} {sz : Nat} {v : Value} {xss : List (List Value)} (h : SliceAt w T sz v xss.flatten) (hl : ∀ x ∈ xss, x.length = sz) (hs : 0 < sz) :
    ∃ a c, v = .slice a xss.length c ∧ xss.length ≤ maxLen ∧ xss.length ≤ c ∧ c ≤ maxLen ∧ ∀ k x, xss[k]? = some x → ∃ b off, a = some ⟨b, off, none⟩ ∧ b < w.heap.size ∧ True ∧ ∀ j, j < sz → w.cell? ⟨b, off + k * sz + j, none⟩ = x[j]? := by
  obtain ⟨a, n, c, rfl, h1, h2, h3, h4, h5⟩ := SliceAt.form h
  rw [flatten_len sz xss hl] at h1
  have hn : n = xss.length := (Nat.eq_of_mul_eq_mul_right hs h1).symm
  subst hn
  refine ⟨a, c, rfl, h2, h3, h4, fun k x hk => ?_⟩
  obtain ⟨hk2, rfl⟩ := List.getElem?_eq_some_iff.1 hk
  obtain ⟨b, off, rfl, hb, ht, hc⟩ := h5 (by omega)
  refine ⟨b, off, rfl, hb, ht, fun j hj => ?_⟩
  have hlt : k * sz + j < xss.flatten.length := by
    rw [flatten_len sz xss hl]
    have : (k + 1) * sz ≤ xss.length * sz := Nat.mul_le_mul_right sz hk2
    rw [Nat.succ_mul] at this
    omega
  rw [Nat.add_assoc, hc _ hlt, flatten_get sz xss hl k j hk2 hj]
def BoolQ (b : Bool) (w : World) (e : Ending) (w' : World) : Prop := e = .returned (.bool b) ∧ Below w.heap.size w w'
def IntQ (n : Int) (w : World) (e : Ending) (w' : World) : Prop := e = .returned (.int .i64 n) ∧ Below w.heap.size w w'
theorem ret_boolQ {a b : Bool} (h : a = b) : Ending.returned (.bool a) = .returned (.bool b) := by rw [h]
theorem ret_intQ {a b : Int} (h : a = b) : Ending.returned (.int .i64 a) = .returned (.int .i64 b) := by rw [h]
theorem below_drewQ {B : Nat} {w w' : World} (h : Below B w w') (n : Nat) : Below B w (w'.drewN n) := ⟨h.os, h.tape, h.output, h.size, h.block⟩
end Go.Proofs.Ytbgoogjhgeoapaa
