/- Programs in memory: the cells of functions, blocks, statements. No walk. -/
import Derived.Test.YtahdmekakbagnaaTxtW
namespace Go.Proofs.Ytahdmekakbagnaa
open Go.RowKit

theorem All2.each {α β : Type} {R : α → β → Prop} {p : α → Prop} (hp : ∀ a b, R a b → p a) : ∀ {xs : List α} {ys : List β}, All2 R xs ys → ∀ x ∈ xs, p x
  | [], [], _ => by simp
  | a :: xs, b :: ys, ⟨h1, h2⟩ => by
    intro x hx
    rcases List.mem_cons.1 hx with rfl | hx
    · exact hp _ _ h1
    · exact All2.each hp h2 x hx
theorem All2.sat {α β : Type} {R : α → β → Prop} {xs : List α} {ys : List β} (h : All2 R xs ys) {k : Nat} {b : β} (hb : ys[k]? = some b) : ∃ a, xs[k]? = some a ∧ R a b := by
  obtain ⟨h1, rfl⟩ := List.getElem?_eq_some_iff.1 hb
  have h2 : k < xs.length := by rw [h.length]; exact h1
  exact ⟨xs[k], by simp [h2], h.get k h2 h1⟩

/-- A slice of structs: its rows. -/
theorem rows_cell {w : World} {T : TypeId} {sz : Nat} {v : Value} {xss : List (List Value)} (h : SliceAt w T sz v xss.flatten) (hl : ∀ x ∈ xss, x.length = sz) (hs : 0 < sz) :
    ∃ a c, v = .slice a xss.length c ∧ xss.length ≤ maxLen ∧ ∀ k x, xss[k]? = some x → ∃ b off, a = some ⟨b, off, none⟩ ∧ b < w.heap.size ∧ ∀ j, j < sz → w.cell? ⟨b, off + k * sz + j, none⟩ = x[j]? := by
  obtain ⟨a, n, c, rfl, h1, h2, h3, h4, h5⟩ := SliceAt.form h
  rw [flatten_len sz xss hl] at h1
  have hn : n = xss.length := (Nat.eq_of_mul_eq_mul_right hs h1).symm
  subst hn
  refine ⟨a, c, rfl, h2, fun k x hk => ?_⟩
  obtain ⟨hk2, rfl⟩ := List.getElem?_eq_some_iff.1 hk
  obtain ⟨b, off, rfl, hb, ht, hc⟩ := h5 (by omega)
  refine ⟨b, off, rfl, hb, fun j hj => ?_⟩
  have hlt : k * sz + j < xss.flatten.length := by
    rw [flatten_len sz xss hl]
    have : (k + 1) * sz ≤ xss.length * sz := Nat.mul_le_mul_right sz hk2
    rw [Nat.succ_mul] at this
    omega
  rw [Nat.add_assoc, hc _ hlt, flatten_get sz xss hl k j hk2 hj]

theorem FuncsAt.cell {w : World} {v : Value} {l : List PFunc} (h : FuncsAt w v l) : ∃ a c, v = .slice a l.length c ∧ l.length ≤ maxLen ∧ ∀ k f, l[k]? = some f → ∃ b off bv, a = some ⟨b, off, none⟩ ∧ b < w.heap.size ∧
    w.cell? ⟨b, off + k * 2, none⟩ = some (sv f.name) ∧ w.cell? ⟨b, off + k * 2 + 1, none⟩ = some bv ∧ BlocksAt w bv f.blocks := by
  obtain ⟨xss, h1, h2⟩ := h
  obtain ⟨a, c, e, hm, hc⟩ := rows_cell h1 (h2.each fun x f ⟨v, e, _⟩ => by rw [e]; rfl) (by omega)
  rw [h2.length] at e hm
  refine ⟨a, c, e, hm, fun k f hk => ?_⟩
  obtain ⟨x, hx, bv, rfl, hb⟩ := h2.sat hk
  obtain ⟨b, off, rfl, hlt, hc2⟩ := hc k _ hx
  exact ⟨b, off, bv, rfl, hlt, hc2 0 (by omega), hc2 1 (by omega), hb⟩
theorem BlocksAt.cell {w : World} {v : Value} {l : List PBlock} (h : BlocksAt w v l) : ∃ a c, v = .slice a l.length c ∧ l.length ≤ maxLen ∧ ∀ k f, l[k]? = some f → ∃ b off bv, a = some ⟨b, off, none⟩ ∧ b < w.heap.size ∧
    w.cell? ⟨b, off + k * 2, none⟩ = some (sv f.name) ∧ w.cell? ⟨b, off + k * 2 + 1, none⟩ = some bv ∧ StmtsAt w bv f.stmts := by
  obtain ⟨xss, h1, h2⟩ := h
  obtain ⟨a, c, e, hm, hc⟩ := rows_cell h1 (h2.each fun x f ⟨v, e, _⟩ => by rw [e]; rfl) (by omega)
  rw [h2.length] at e hm
  refine ⟨a, c, e, hm, fun k f hk => ?_⟩
  obtain ⟨x, hx, bv, rfl, hb⟩ := h2.sat hk
  obtain ⟨b, off, rfl, hlt, hc2⟩ := hc k _ hx
  exact ⟨b, off, bv, rfl, hlt, hc2 0 (by omega), hc2 1 (by omega), hb⟩
theorem StmtsAt.cell {w : World} {v : Value} {l : List PStmt} (h : StmtsAt w v l) : ∃ a c, v = .slice a l.length c ∧ l.length ≤ maxLen ∧ ∀ k s, l[k]? = some s → ∃ b off u t, a = some ⟨b, off, none⟩ ∧ b < w.heap.size ∧
    w.cell? ⟨b, off + k * 4, none⟩ = some (.int .i64 s.op) ∧ w.cell? ⟨b, off + k * 4 + 1, none⟩ = some (sv s.dfn) ∧ w.cell? ⟨b, off + k * 4 + 2, none⟩ = some u ∧ w.cell? ⟨b, off + k * 4 + 3, none⟩ = some t ∧ StrsAt w u s.uses ∧ StrsAt w t s.targets := by
  obtain ⟨xss, h1, h2⟩ := h
  obtain ⟨a, c, e, hm, hc⟩ := rows_cell h1 (h2.each fun x f ⟨u, t, e, _⟩ => by rw [e]; rfl) (by omega)
  rw [h2.length] at e hm
  refine ⟨a, c, e, hm, fun k f hk => ?_⟩
  obtain ⟨x, hx, u, t, rfl, hu, ht⟩ := h2.sat hk
  obtain ⟨b, off, rfl, hlt, hc2⟩ := hc k _ hx
  exact ⟨b, off, u, t, rfl, hlt, hc2 0 (by omega), hc2 1 (by omega), hc2 2 (by omega), hc2 3 (by omega), hu, ht⟩
end Go.Proofs.Ytahdmekakbagnaa
