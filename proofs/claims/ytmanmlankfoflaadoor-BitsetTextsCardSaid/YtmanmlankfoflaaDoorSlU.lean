/- Walks of package slices at words. Printed by wip/gen_slc.py. -/
import Derived.Test.YtmanmlankfoflaaDoorRows
import Derived.Test.YtmanmlankfoflaaDoorSlc
import Derived.Test.YtmanmlankfoflaaDoorBlk
import Derived.WalkKit
import Derived.WalkSpells
import Derived.WalkLawsBesides
import Derived.Lib.SliceRun
set_option linter.unusedVariables false
set_option linter.unusedSimpArgs false
set_option linter.unusedSectionVars false
namespace Go.Proofs.YtmanmlankfoflaaDoor
open Go.RowKit
variable [Base]

theorem info_u64 : (Tryd.prog.info? 62).map (fun i => (i.zero, i.size, i.bytes)) = some (some (Value.int .u64 0), 1, 8) := by kernel_rfl
def Ownu64 (w : World) (n : Nat) (xs : List Value) (e : Ending) (w' : World) : Prop :=
  ∃ a c, e = .returned (.slice a n c) ∧ w'.ownsRow w.heap.size 62 1 (.slice a n c) n xs ∧ Below w.heap.size w w'

theorem empty_u64 (w : World) : (w.alloc (.cells #[] 62)).ownsRow w.heap.size 62 1 (.slice (some ⟨w.heap.size, 0, none⟩) 0 0) 0 [] :=
  ⟨rfl, .inr ⟨w.heap.size, 0, #[], rfl, Nat.le_refl _, heap_alloc_new w _, Nat.le_refl _, Nat.zero_le _, rfl, rfl⟩⟩
set_option maxRecDepth 100000 in
set_option maxHeartbeats 1000000 in
theorem clone_u64 (v : Value) (n : Nat) (xs : List Value) (w : World) (h : SliceAt w 62 1 v xs) (hl : xs.length = n * 1) (ho : xs.all Value.oneCell' = true) (hn : n ≤ 1000000) :
    Calls Tryd.prog 75 #[v] w (Ownu64 w n xs) := by
  have H := Lib.hid h
  have L := Lib.hid hl
  have O := Lib.hid ho
  obtain ⟨m, cap, e1, e2, e3, h4⟩ := h
  have hm : m = n := by omega
  subst hm
  obtain ⟨oa, oc, rfl, hoc, hnil⟩ : ∃ oa oc, v = .slice oa m oc ∧ oc ≤ maxLen ∧ (oa = none → m = 0 ∧ oc = 0) := by
    rcases h4 with ⟨⟨a, rfl⟩, rfl⟩ | ⟨b, off, c, fr, rfl, hb, hc⟩
    · exact ⟨a, 0, rfl, Nat.zero_le _, fun _ => ⟨rfl, rfl⟩⟩
    · exact ⟨_, cap, rfl, e3, fun h => by cases h⟩
  clear h4
  rcases oa with _ | oa
  · obtain ⟨rfl, rfl⟩ := hnil rfl
    have hx : xs = [] := List.length_eq_zero_iff.1 (by omega)
    subst hx
    clear hl ho e1 H L O
    have q := fun (w : World) (a : Option Addr) (n c n' c' : Nat) => Lib.run_eql_slice_nil (P := Tryd.prog) w 23 62 a n c n' c' Tryd.underlying23
    go_enter Tryd.func75, Tryd.ntmps75
    go_wp2
    go_ret
    exact ⟨none, 0, rfl, World.ownsRow_nil _ _ _ _, Below.refl _ _⟩
  · unfold maxLen at e3 hoc
    have OW := Lib.hid (empty_u64 w)
    clear hl ho e1 hnil
    have q := fun (w : World) (a : Option Addr) (n c n' c' : Nat) => Lib.run_eql_slice_nil (P := Tryd.prog) w 23 62 a n c n' c' Tryd.underlying23
    go_enter Tryd.func75, Tryd.ntmps75
    go_wp2_with (at_builtin; refine wpList_append_sl rfl _ _ 23 rfl w.heap.size 62 _ 1 8 Tryd.underlying23 info_u64 rfl (by decide) _ _ _ OW.out rfl _ m _ rfl (SliceAt.same H.out SameT.alloc) L.out O.out (by unfold maxLen; omega) (by omega) (by simp) ?_; intro g d w1 own1 gr1; simp only [Nat.zero_add, List.nil_append] at own1; have OW1 := Lib.hid own1; have B1 := Lib.hid (((Below.refl w.heap.size w).alloc (Nat.le_refl _) _).trans (Below.of_grown gr1 OW.out (by simp))); clear own1 gr1)
    go_ret
    exact ⟨_, _, by simp, OW1.out, B1.out⟩
end Go.Proofs.YtmanmlankfoflaaDoor
