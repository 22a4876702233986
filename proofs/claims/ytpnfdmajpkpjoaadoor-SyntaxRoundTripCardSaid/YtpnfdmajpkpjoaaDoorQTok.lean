/- Tokens in memory. No walk. -/
import Derived.Test.YtpnfdmajpkpjoaaDoorRows
import Derived.Test.YtpnfdmajpkpjoaaDoorQLexP
import Derived.Test.YtpnfdmajpkpjoaaDoorQMem
import Derived.WalkKit
import Derived.Lib.Hide
set_option linter.unusedVariables false
set_option linter.unusedSimpArgs false
namespace Go.Proofs.YtpnfdmajpkpjoaaDoor
open Go.RowKit

def tokCells (t : Tok) : List Value := [.int .i64 t.kind, .string ⟨t.text.toArray⟩, .int .i64 t.line, .int .i64 t.col]
def TokensAt (w : World) (v : Value) (l : List Tok) : Prop := SliceAt w 64 4 v (l.map tokCells).flatten

theorem tok_cell (l : List Tok) (k j : Nat) (hk : k < l.length) (hj : j < 4) : (l.map tokCells).flatten[k * 4 + j]? = (tokCells l[k])[j]? := by
  have h := flatten_get 4 (l.map tokCells) (by intro x hx; obtain ⟨t, _, rfl⟩ := List.mem_map.1 hx; rfl) k j (by simpa using hk) hj
  rw [h]; simp
theorem toks_len (l : List Tok) : (l.map tokCells).flatten.length = l.length * 4 := by
  rw [flatten_len 4 _ (by intro x hx; obtain ⟨t, _, rfl⟩ := List.mem_map.1 hx; rfl)]; simp

/-- The shape of a slice of tokens. -/
theorem TokensAt.form {w : World} {v : Value} {l : List Tok} (h : TokensAt w v l) :
    ∃ a c, v = .slice a l.length c ∧ l.length ≤ maxLen ∧ l.length ≤ c ∧ c ≤ maxLen ∧ ∀ k t, l[k]? = some t → ∃ b off, a = some ⟨b, off, none⟩ ∧ b < w.heap.size ∧ tyAt w b = some 64 ∧
      ∀ j, j < 4 → w.cell? ⟨b, off + k * 4 + j, none⟩ = (tokCells t)[j]? := by
  obtain ⟨a, n, c, rfl, h1, h2, h3, h4, h5⟩ := SliceAt.form h
  rw [toks_len] at h1
  obtain rfl : n = l.length := by omega
  refine ⟨a, c, rfl, h2, h3, h4, fun k t hk => ?_⟩
  obtain ⟨hk2, rfl⟩ := List.getElem?_eq_some_iff.1 hk
  obtain ⟨b, off, rfl, hb, ht, hc⟩ := h5 (by omega)
  refine ⟨b, off, rfl, hb, ht, fun j hj => ?_⟩
  rw [Nat.add_assoc, hc _ (by rw [toks_len]; omega), tok_cell l k j hk2 hj]

end Go.Proofs.YtpnfdmajpkpjoaaDoor

