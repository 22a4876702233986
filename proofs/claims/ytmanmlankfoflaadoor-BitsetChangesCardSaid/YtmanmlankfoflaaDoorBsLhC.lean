/- 'flqlaw2.BitsetChanges' returns true at every input. The library's tables hold what the program's text lays (the given tie). No condition beyond the statement's own. (nobase) Printed by wip/gen_bscard.py. -/
import Derived.Test.YtmanmlankfoflaaDoorBsLh
import Derived.Test.YtmanmlankfoflaaDoorBsOp
import Derived.Test.YtmanmlankfoflaaDoorBsCK
set_option linter.unusedVariables false
set_option linter.unusedSimpArgs false
set_option linter.unusedSectionVars false
namespace Go.Proofs.YtmanmlankfoflaaDoor
open Go.ChangeShapes Go.WideShapes Go.ChangeAt Go.WideMaps Go.WideElems Go.ChangeMaps Go.Deep Go.RowKit

theorem agg_of {c : Array Value} {l : List Value} (h : (Value.agg c).cells.toList = l) : Value.agg c = .agg l.toArray := by
  have h : c.toList = l := h
  rw [← h]
namespace bitsetChanges

set_option maxRecDepth 100000 in
set_option maxHeartbeats 1000000 in
theorem lifted (os : Os) (started : os.Started) (H : Type) (enc : TypeId × Value → H) :
    ReturnsInHanded {} Tryd.checked os 6 .any (fun w args => (Rows.bitsetChangesSpec.pre enc Tryd.prog Tryd.f6 [] false w args ∧ laidMetH Tryd.prog laid3 w) ∧ sizedMet enc Tryd.prog Tryd.f6 (OpenSpec.ofChange Rows.bitsetChangesSpec) false w args)
      (Rows.bitsetChangesSpec.post enc Tryd.prog Tryd.f6 false true false false) := by
  refine returnsInHanded_of_change_and (C := Tryd.checked) (X := fun w _ => laidMetH Tryd.prog laid3 w) (fun _ _ _ hh h => h.of_heap hh) own started (by kernel_rfl) Tryd.func6
    (ChangeSpec.witness_shaped (enc := enc) (C := Tryd.checked) (os := os) (X := fun w _ => laidMetH Tryd.prog laid3 w) false (World.doorLaid Tryd.prog 400 os) #[.slice none 0 0, .int .i64 0] 8 rfl (World.shaped_of_RefB (by kernel_rfl) (by kernel_rfl)) (by kernel_rfl) (by kernel_rfl) (by kernel_rfl) (door_met os _)) ?_
  intro W base args ds gs before hval0 hW _ _ hL _
  have hval : ∀ (j : Nat) t v, Tryd.f6.params[j]? = some t → args[j]? = some v → Value.okWide Tryd.prog W .any base t v := hval0
  have hW' := hW
  have hlt := hW.lt
  obtain ⟨p, q, hA0, hV, rfl, hfz, hnd⟩ := hW
  have hA : DataW.TrodAll enc Tryd.prog W 0 (fun _ => true) true Tryd.f6.params.toList args.toList ds p := hA0
  rw [Tryd.params6] at hA hval
  obtain ⟨v0, v1, d0, d1, p0, p1, rfl, rfl, rfl, h0, h1⟩ := trodAll_two hA
  obtain ⟨rfl, rfl⟩ := trodVars_none hV
  letI : Base := ⟨W.heap.size⟩
  have hB : W.heap.size ≤ Base.b := Nat.le_refl _
  have K := of_laid hL (Nat.le_refl _)
  obtain ⟨a0, len0, cap0, rfl⟩ := okWide_slice Tryd.underlying22 (hval 0 22 v0 rfl rfl)
  obtain ⟨z1, rfl, rfl, rfl, wf1⟩ := open_int Tryd.underlying3 (hval 1 3 v1 rfl rfl) h1
  have keep : ∀ W' : World, Below W.heap.size W W' → Rows.bitsetChangesSpec.post enc Tryd.prog Tryd.f6 false true false false W #[.slice a0 len0 cap0, .int .i64 z1] (.bool true) W' := by
    intro W' bel
    have h0' := Below.trod (P := Tryd.prog) (by kernel_rfl) (by kernel_rfl) (by decide +kernel) h0 bel (fun x hx => hlt x (by simp [hx]))
    have h1' := Below.trod (P := Tryd.prog) (by kernel_rfl) (by kernel_rfl) (by decide +kernel) h1 bel (fun x hx => by cases hx)
    exact ⟨_, _, _, [], _, [], hW', trodAll_mk1 (shut_bool Tryd.underlying4 _), trodAll_mk2 h0' h1', rfl, bel.frame _, fun h => by cases h⟩
  have call : ∀ (ta : Option Addr) (tn tc : Nat), tn ≤ maxLen → (∀ j : Nat, j < tn → ∃ b off z, ta = some ⟨b, off, none⟩ ∧ b < W.heap.size ∧ W.cell? ⟨b, off + j, none⟩ = some (.int .i64 z)) →
      Calls Tryd.prog 6 #[.slice ta tn tc, .int .i64 z1] W (BoolQ true W) := by
    intro ta tn tc h1 h2
    exact chgLaw_any W ta tn tc h1 h2 K (Nat.le_refl _) z1
  obtain ⟨fuel, hf⟩ := h0
  rcases open_ints Tryd.underlying22 Tryd.underlying3 cInt hf with ⟨hcs, _⟩ | ⟨a, len, cap, zs, hcs, _, hl1, hl2, hz, _, hcell, _⟩
  · have hcs' : [Value.slice a0 len0 cap0] = _ := hcs
    injection hcs' with hcs' _
    injection hcs' with e1 e2 e3
    subst e1 e2 e3
    refine (call none 0 0 (Nat.zero_le _) (fun j hj => by omega)).mono fun e W' ⟨he, bel⟩ => ?_
    subst he
    exact ⟨_, rfl, keep W' bel⟩
  · have hcs' : [Value.slice a0 len0 cap0] = _ := hcs
    injection hcs' with hcs' _
    injection hcs' with e1 e2 e3
    subst e1 e2 e3
    refine (call (some a) len0 cap0 (by omega) (fun j hj => ?_)).mono fun e W' ⟨he, bel⟩ => ?_
    · have hlz : len0 ≤ zs.length := by rw [hz]; split <;> omega
      obtain ⟨b, off, rfl, hc⟩ := ints_at hcell (by omega)
      exact ⟨b, off, _, rfl, cell_lt (hc j (by omega)), hc j (by omega)⟩
    · subst he
      exact ⟨_, rfl, keep W' bel⟩

theorem over : Rows.BitsetChangesSaid :=
  OpenClaim.holds_of_wide 6 Tryd.f6 rfl rfl rfl rfl rfl rfl rfl ⟨rfl, rfl, rfl, rfl, rfl⟩ rfl rfl rfl rfl rfl (by kernel_rfl) Tryd.func6 (by kernel_rfl)
    (of_decide_eq_true (by kernel_rfl)) (by unfold Func.isWrapper; first | (rw [if_pos (by decide +kernel)]; kernel_rfl) | (rw [if_neg (by decide +kernel)]; exact ⟨rfl, rfl⟩))
    (fun os started H enc _ => lifted os started H enc)
end bitsetChanges
/-- THE STATEMENT: the tied card. -/
theorem bitsetChanges_card_holds : Rows.BitsetChangesCardSaid :=
  Claim7.holds_tied_plain_at .later [] [.data, .data, .data] true Rows.bitsetChangesCard.stood.harness true
    bitsetChanges.over (fun _ h => by cases h) (by kernel_rfl) (fun _ h => by cases h) bitsetChanges_row_tie rfl ⟨rfl, rfl⟩ (by kernel_rfl) rfl
    (fun f fn hf hfn => by
      obtain rfl : f = 6 := Option.some.inj ((show Tryd.prog.funcNamed "flowquery/flqlaw2.BitsetChanges" = some 6 by kernel_rfl).symm.trans hf) |>.symm
      obtain rfl : fn = Tryd.f6 := (Option.some.inj (Tryd.func6.symm.trans hfn)).symm
      exact ⟨by kernel_rfl, fun j t ht => by
        rw [Tryd.params6] at ht
        rcases j with _ | _ | j
        · obtain rfl : t = 22 := by simpa using ht.symm
          exact (show Tryd.prog.wantsStandIn 22 = false by kernel_rfl)
        · obtain rfl : t = 3 := by simpa using ht.symm
          exact (show Tryd.prog.wantsStandIn 3 = false by kernel_rfl)
        · simp at ht⟩)
    (by kernel_rfl)
#print axioms bitsetChanges_card_holds
end Go.Proofs.YtmanmlankfoflaaDoor
