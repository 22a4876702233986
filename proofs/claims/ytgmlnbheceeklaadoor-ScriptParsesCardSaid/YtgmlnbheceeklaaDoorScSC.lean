/- 'flqlaw26.ScriptParses' returns true at every input. The library's tables hold what the program's text lays (the given tie). No condition beyond the statement's own. (nobase) Printed by wip/gen_sccard.py. -/
import Derived.Test.YtgmlnbheceeklaaDoorScL3
import Derived.Test.YtgmlnbheceeklaaDoorScK
set_option linter.unusedVariables false
set_option linter.unusedSimpArgs false
set_option linter.unusedSectionVars false
namespace Go.Proofs.YtgmlnbheceeklaaDoor
open Go.ChangeShapes Go.WideShapes Go.ChangeAt Go.WideMaps Go.WideElems Go.ChangeMaps Go.Deep Go.RowKit

namespace scriptParses

set_option maxRecDepth 100000 in
set_option maxHeartbeats 1000000 in
theorem lifted (os : Os) (started : os.Started) (H : Type) (enc : TypeId × Value → H) :
    ReturnsInHanded {} Tryd.checked os 4 .any (fun w args => (Rows.scriptParsesSpec.pre enc Tryd.prog Tryd.f4 [] false w args ∧ laidMetH Tryd.prog laid8 w) ∧ sizedMet enc Tryd.prog Tryd.f4 (OpenSpec.ofChange Rows.scriptParsesSpec) false w args)
      (Rows.scriptParsesSpec.post enc Tryd.prog Tryd.f4 false true false false) := by
  refine handed_sized (C := Tryd.checked) (X := fun w _ => laidMetH Tryd.prog laid8 w) (fun _ _ _ hh h => h.of_heap hh) own started (by kernel_rfl) Tryd.func4
    (ChangeSpec.witness_shaped (enc := enc) (C := Tryd.checked) (os := os) (X := fun w _ => laidMetH Tryd.prog laid8 w) false (World.laidAll Tryd.prog os laid8) #[.slice none 0 0, .string ⟨#[]⟩] 8 (World.laidAll_os _ _ _) (World.shaped_of_ZipB (by kernel_rfl) (by kernel_rfl)) (by kernel_rfl) (by kernel_rfl) (by kernel_rfl) (door_met8 os _)) ?_
  intro W base args ds gs before hval0 hW hL hsh hsw
  have hval : ∀ (j : Nat) t v, Tryd.f4.params[j]? = some t → args[j]? = some v → Value.okWide Tryd.prog W .any base t v := hval0
  have hW' := hW
  have hlt := hW.lt
  obtain ⟨p, q, hA0, hV, rfl, hfz, hnd⟩ := hW
  have hA : DataW.TrodAll enc Tryd.prog W 0 (fun _ => true) true Tryd.f4.params.toList args.toList ds p := hA0
  rw [Tryd.params4] at hA hval hsw
  obtain ⟨v0, v1, d0, d1, p0, p1, rfl, rfl, rfl, h0, h1⟩ := trodAll_two hA
  obtain ⟨rfl, rfl⟩ := trodVars_none hV
  letI : Base := ⟨W.heap.size⟩
  have hB : W.heap.size ≤ Base.b := Nat.le_refl _
  have K := of_laid8 hL hsh (Nat.le_refl _)
  obtain ⟨a0, len0, cap0, rfl⟩ := okWide_slice Tryd.underlying22 (hval 0 22 v0 rfl rfl)
  obtain ⟨s1, rfl, rfl, rfl, hs1⟩ := open_string Tryd.underlying9 (hval 1 9 v1 rfl rfl) h1
  have hw1 : s1.size ≤ 281474976710656 := by
    have h7 := sized_string hsw (j := 1) (t := 9) rfl rfl
    rw [show s1.data.toList.length = s1.size by simp] at h7
    unfold reachBytes at h7
    omega
  have keep : ∀ W' : World, Below W.heap.size W W' → Rows.scriptParsesSpec.post enc Tryd.prog Tryd.f4 false true false false W #[.slice a0 len0 cap0, .string s1] (.bool true) W' := by
    intro W' bel
    have h0' := Below.trod (P := Tryd.prog) (by kernel_rfl) (by kernel_rfl) (by decide +kernel) h0 bel (fun x hx => hlt x (by simp [hx]))
    have h1' := Below.trod (P := Tryd.prog) (by kernel_rfl) (by kernel_rfl) (by decide +kernel) h1 bel (fun x hx => by cases hx)
    exact ⟨_, _, _, [], _, [], hW', trodAll_mk1 (shut_bool Tryd.underlying4 _), trodAll_mk2 h0' h1', rfl, bel.frame _, fun h => by cases h⟩
  have call : ∀ (ta : Option Addr) (tn tc : Nat), tn ≤ maxLen → (∀ j : Nat, j < tn → ∃ b off z, ta = some ⟨b, off, none⟩ ∧ b < W.heap.size ∧ W.cell? ⟨b, off + j, none⟩ = some (.int .i64 z)) →
      Calls Tryd.prog 4 #[.slice ta tn tc, .string s1] W (BoolQ true W) := by
    intro ta tn tc h1 h2
    exact parsesLaw_any W ta tn tc h1 h2 K (Nat.le_refl _) s1 hw1
  obtain ⟨fuel, hf⟩ := h0
  rcases open_ints Tryd.underlying22 Tryd.underlying3 cInt hf with ⟨hcs, _⟩ | ⟨a, len, cap, zs, hcs, _, hl1, hl2, hz, _, hcell, _⟩
  · have hcs' : [Value.slice a0 len0 cap0] = _ := hcs
    injection hcs' with hcs' _
    injection hcs' with e1 e2 e3
    subst e1 e2 e3
    refine (call none 0 0 (Nat.zero_le _) (fun j hj => by omega)).mono fun e W' ⟨he, bel⟩ => ?_
    subst he
    exact ⟨_, rfl, keep W' bel⟩
  · have hcs' : [Value.slice a0 len0 cap0] = _ := hcs
    injection hcs' with hcs' _
    injection hcs' with e1 e2 e3
    subst e1 e2 e3
    refine (call (some a) len0 cap0 (by omega) (fun j hj => ?_)).mono fun e W' ⟨he, bel⟩ => ?_
    · have hlz : len0 ≤ zs.length := by rw [hz]; split <;> omega
      obtain ⟨b, off, rfl, hc⟩ := ints_at hcell (by omega)
      exact ⟨b, off, _, rfl, cell_lt (hc j (by omega)), hc j (by omega)⟩
    · subst he
      exact ⟨_, rfl, keep W' bel⟩

theorem over : Rows.ScriptParsesSaid :=
  OpenClaim.holds_of_wide 4 Tryd.f4 rfl rfl rfl rfl rfl rfl rfl ⟨rfl, rfl, rfl, rfl, rfl⟩ rfl rfl rfl rfl rfl (by kernel_rfl) Tryd.func4 (by kernel_rfl)
    (of_decide_eq_true (by kernel_rfl)) (by unfold Func.isWrapper; first | (rw [if_pos (by decide +kernel)]; kernel_rfl) | (rw [if_neg (by decide +kernel)]; exact ⟨rfl, rfl⟩))
    (fun os started H enc _ => lifted os started H enc)
end scriptParses
/-- THE STATEMENT: the tied card. -/
theorem scriptParses_card_holds : Rows.ScriptParsesCardSaid :=
  Claim7.holds_tied_plain_at .later [] [.data, .data, .data, .widerDeep, .sentinel, .sentinel, .widerDeep, .widerDeep] true Rows.scriptParsesCard.stood.harness true
    scriptParses.over (fun _ h => by cases h) (by kernel_rfl) (fun _ h => by cases h) scriptParses_row_tie rfl ⟨rfl, rfl⟩ (by kernel_rfl) rfl
    (fun f fn hf hfn => by
      obtain rfl : f = 4 := Option.some.inj ((show Tryd.prog.funcNamed "flowquery/flqlaw26.ScriptParses" = some 4 by kernel_rfl).symm.trans hf) |>.symm
      obtain rfl : fn = Tryd.f4 := (Option.some.inj (Tryd.func4.symm.trans hfn)).symm
      exact ⟨by kernel_rfl, fun j t ht => by
        rw [Tryd.params4] at ht
        rcases j with _ | _ | j
        · obtain rfl : t = 22 := by simpa using ht.symm
          exact (show Tryd.prog.wantsStandIn 22 = false by kernel_rfl)
        · obtain rfl : t = 9 := by simpa using ht.symm
          exact (show Tryd.prog.wantsStandIn 9 = false by kernel_rfl)
        · simp at ht⟩)
    (by kernel_rfl)
#print axioms scriptParses_card_holds
end Go.Proofs.YtgmlnbheceeklaaDoor
