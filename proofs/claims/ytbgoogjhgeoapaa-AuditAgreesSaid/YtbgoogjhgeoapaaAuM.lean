/- Logs in memory. No walk. -/
import Derived.Test.YtbgoogjhgeoapaaAuW1
import Derived.Test.YtbgoogjhgeoapaaMapF
set_option linter.unusedVariables false
set_option linter.unusedSimpArgs false
set_option linter.unusedSectionVars false
namespace Go.Proofs.Ytbgoogjhgeoapaa
open Go.RowKit
variable [Base]

def turnV (x : TV) : Value := .agg #[iv x.q, iv x.qu, iv x.st, iv x.co, .bool x.fin]
def turnC (x : TV) : List Value := [iv x.q, iv x.qu, iv x.st, iv x.co, .bool x.fin]
def TurnsAt (w : World) (v : Value) (l : List TV) : Prop := SliceAt w 53 5 v (l.map turnC).flatten
theorem turnC_len (l : List TV) : ∀ x ∈ l.map turnC, x.length = 5 := by
  intro x hx
  obtain ⟨y, _, rfl⟩ := List.mem_map.1 hx
  rfl
theorem TurnsAt.keep {w w' : World} {v : Value} {l : List TV} (h : TurnsAt w v l) (hs : SameT 53 w w') : TurnsAt w' v l := SliceAt.same h hs
theorem TurnsAt.below {w w' : World} {v : Value} {l : List TV} (h : TurnsAt w v l) (hb : Below w.heap.size w w') : TurnsAt w' v l := h.keep (SameT.below hb)
theorem TurnsAt.nil {w : World} : TurnsAt w (.slice none 0 0) [] := SliceAt.nil
theorem TurnsAt.cell {w : World} {v : Value} {l : List TV} (h : TurnsAt w v l) : ∃ a c, v = .slice a l.length c ∧ l.length ≤ maxLen ∧ l.length ≤ c ∧ c ≤ maxLen ∧ ∀ k x, l[k]? = some x → ∃ b off, a = some ⟨b, off, none⟩ ∧ b < w.heap.size ∧
    ∀ j, j < 5 → w.cell? ⟨b, off + k * 5 + j, none⟩ = (turnC x)[j]? := by
  obtain ⟨a, c, e, hm, h3, h4, hc⟩ := rows_lie h (turnC_len l) (by omega)
  rw [List.length_map] at e hm h3
  refine ⟨a, c, e, hm, h3, h4, fun k x hk => ?_⟩
  obtain ⟨b, off, h5, h6, _, h7⟩ := hc k (turnC x) (by rw [List.getElem?_map, hk]; rfl)
  exact ⟨b, off, h5, h6, h7⟩
theorem cells5 {b : Nat} {w : World} {v0 v1 v2 v3 v4 : Value} {t : TypeId} (h : w.heap[b]? = some (.cells #[v0, v1, v2, v3, v4] t (0, 0))) :
    w.cell? ⟨b, 0, none⟩ = some v0 ∧ w.cell? ⟨b, 1, none⟩ = some v1 ∧ w.cell? ⟨b, 2, none⟩ = some v2 ∧ w.cell? ⟨b, 3, none⟩ = some v3 ∧ w.cell? ⟨b, 4, none⟩ = some v4 := by
  have := (lies_cells h).1
  exact ⟨this 0, this 1, this 2, this 3, this 4⟩
abbrev TI : TypeId := 3
def MapB (w : World) (b n : Nat) (f : Int → Bool) : Prop := ∃ th, MapF Try.prog TI boolEnc w b n f th
def MapI (w : World) (b n : Nat) (f : Int → Int) : Prop := ∃ th, MapF Try.prog TI intEnc w b n f th
def MapP (w : World) (b n : Nat) (f : Int → Option Nat) : Prop := MapF Try.prog TI ptrEnc w b n f (fun k => (f k).isSome)
theorem zeroB (w : World) : (zeroValue 4).run Try.prog w = .ok (.bool false) w := by kernel_rfl
theorem zeroI (w : World) : (zeroValue 3).run Try.prog w = .ok (.int .i64 0) w := by kernel_rfl
theorem zeroPA (w : World) : (zeroValue 73).run Try.prog w = .ok (.pointer none) w := by kernel_rfl
theorem und_int : Try.prog.underlying TI = some (.int .i64) := Try.underlying3
theorem und_mb : Try.prog.underlying 72 = some (.map TI 4) := Try.underlying72
theorem und_mi : Try.prog.underlying 76 = some (.map TI 3) := Try.underlying76
theorem und_mp : Try.prog.underlying 60 = some (.map TI 73) := Try.underlying60
end Go.Proofs.Ytbgoogjhgeoapaa
