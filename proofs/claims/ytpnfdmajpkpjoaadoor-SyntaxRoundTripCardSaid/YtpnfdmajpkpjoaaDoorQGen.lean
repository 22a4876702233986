/- Walks of the generators' small functions: name, func2, stmt. -/
import Derived.Test.YtpnfdmajpkpjoaaDoorQTape
import Derived.Test.YtpnfdmajpkpjoaaDoorQLexP
import Derived.Test.YtpnfdmajpkpjoaaDoorQMem
set_option linter.unusedVariables false
set_option linter.unusedSimpArgs false
namespace Go.Proofs.YtpnfdmajpkpjoaaDoor
open Go.RowKit

abbrev sv (s : Str) : Value := .string ⟨s.toArray⟩
def StrsAt (w : World) (v : Value) (l : List Str) : Prop := SliceAt w 9 1 v (l.map sv)
def StmtCells (w : World) (cs : List Value) (s : PStmt) : Prop :=
  ∃ u t, cs = [.int .i64 s.op, sv s.dfn, u, t] ∧ StrsAt w u s.uses ∧ StrsAt w t s.targets

def NamePost (B bt : Nat) (w : World) (e : Ending) (w' : World) : Prop :=
  ∃ s, s ∈ varNames ∧ e = .returned (sv s) ∧ TapeOk B w' bt ∧ But bt w w'

theorem name_any {B bt : Nat} {w : World} (ht : TapeOk B w bt) :
    Calls Tryd.prog 31 #[.pointer (some ⟨bt, 0, none⟩)] w (NamePost B bt w) := by
  have hlt := ht.lt
  have Ht := Lib.hid ht
  clear ht
  go_enter Tryd.func31, Tryd.ntmps31
  go_wp2_with fail
  refine (next_any (Ht.out.alloc _) _ (by omega)).mono ?_
  rintro e w' ⟨r, r1, r2, rfl, ht', hbut⟩
  have hc : ∀ o, w'.cell? ⟨w.heap.size, o, none⟩ = _ := fun o => hbut.cell w.heap.size o (by simp) (by omega)
  have hr : r = 0 ∨ r = 1 ∨ r = 2 ∨ r = 3 := by omega
  have ht' := Lib.hid ht'
  have hb' := Lib.hid (((But.refl bt w).alloc _).trans hbut)
  clear Ht hbut
  rcases hr with rfl | rfl | rfl | rfl
  all_goals
    go_wp2
    go_ret
    exact ⟨_, by simp [varNames], rfl, ht'.out, hb'.out⟩

theorem func2_any (i : Nat) (hi : i < 3) (w : World) :
    Calls Tryd.prog 30 #[.int .i64 i] w fun e w' => (∃ n, blockNames[i]? = some n ∧ e = .returned (sv n)) ∧ Below w.heap.size w w' := by
  have hr : i = 0 ∨ i = 1 ∨ i = 2 := by omega
  clear hi
  rcases hr with rfl | rfl | rfl
  all_goals
    go_enter Tryd.func30, Tryd.ntmps30
    go_wp2
    go_ret
    exact ⟨⟨_, rfl, rfl⟩, (Below.refl _ _).alloc (Nat.le_refl _) _⟩
end Go.Proofs.YtpnfdmajpkpjoaaDoor

