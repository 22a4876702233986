/- 'flqlaw4.LexerNames' returns true at every input: the program's IsName and the reference's agree. The keywords' variable holds what the program's text lays (the given tie). No condition beyond the statement's own. -/
import Derived.Test.YtahdmekakbagnaaDoorNameL
import Derived.Test.YtahdmekakbagnaaDoorCards
import Derived.Test.YtahdmekakbagnaaDoorTie
import Derived.ProofKit
import Derived.LaidMore
import Derived.OpenShut
import Derived.Carry
import Derived.Deep.Strs
import Derived.ChangeMaps5
import Derived.ChangeOld
import Derived.Stop.Joined
import Derived.SevenTiedAt
namespace Go.Proofs.YtahdmekakbagnaaDoor.lexerNames
open Go.ChangeShapes Go.WideShapes Go.ChangeAt Go.WideMaps Go.WideElems Go.ChangeMaps Go.Deep Go.RowKit

theorem own : ownKnob Tryd.prog.godebug = none := by kernel_rfl
theorem gKw : Tryd.prog.globalNamed "flowquery/lexer.keywords" = some 0 := by kernel_rfl
theorem tKw : (Tryd.prog.globals[0]?).map (·.type) = some 26 := by kernel_rfl
theorem cStr : Tryd.prog.cellsOf 9 = 1 := by kernel_rfl
theorem cInt : Tryd.prog.cellsOf 3 = 1 := by kernel_rfl
def laid1 : List (String × DataW Unit) := [("flowquery/lexer.keywords", Rows.laid_flowquery_lexer_keywords)]

/-- The door's own heap meets the condition. -/
theorem door_met (os : Os) (args : Array Value) : laidMetH Tryd.prog laid1 ((World.doorLaid Tryd.prog 400 os).forCall (fun _ _ => 0) ⟨#[], args, []⟩).memory :=
  laidMetH_of_parts3 (fuel := 8) (laidMet_of_run' 8 (by kernel_rfl) (by kernel_rfl)) (by kernel_rfl) (by kernel_rfl)

theorem cell_lt {w : World} {b o : Nat} {v : Value} (h : w.cell? ⟨b, o, none⟩ = some v) : b < w.heap.size := by
  rcases Nat.lt_or_ge b w.heap.size with h' | h'
  · exact h'
  · simp [World.cell?, Array.getElem?_eq_none h'] at h

/-- What the condition gives the walk. -/
theorem of_laid {W : World} (h : laidMetH Tryd.prog laid1 W) : KwIn W.heap.size W := by
  rw [MakeChecks.laidMetH_plain _ _ _ (by kernel_rfl)] at h
  obtain ⟨ps, ⟨g0, t0, cs0, f0, p0, q0, hg0, ht0, hv0, hd0, _⟩, _, _⟩ := h
  obtain rfl := Option.some.inj (gKw.symm.trans hg0)
  obtain rfl := Option.some.inj (tKw.symm.trans ht0)
  rcases open_strs Tryd.underlying26 Tryd.underlying9 cStr hd0 with ⟨_, hx⟩ | ⟨a, len, cap, m, Sx, hcs, _, hl1, hl2, hm, hx, hcell⟩
  · simp [Rows.laid_flowquery_lexer_keywords] at hx
  simp only [Prod.mk.injEq] at hx
  have hK : kws.map (fun l => (DataW.lit (.string l) : DataW Unit)) = (List.range len).map fun i => .lit (.string (Sx i).data.toList) := by
    have h1 := hx.1
    have h2 : (Rows.laid_flowquery_lexer_keywords : DataW Unit) = .slice (kws.map fun l => .lit (.string l)) [] := rfl
    rw [h2] at h1
    injection h1 with h1 _
  have hlen : len = 11 := by
    have := congrArg List.length hK
    simp at this
    rw [← this]; rfl
  have hm2 : len ≤ m := by rw [hm]; split <;> omega
  have hc0 : W.cell? ⟨0, 0, none⟩ = some (.slice (some a) len cap) := by
    have := World.var?_cell hg0 hv0 0
    rw [Array.eq_one_of_toList hcs] at this
    simpa using this
  obtain ⟨b, off, spot⟩ := a
  have h00 := (hcell 0 (by omega)).1
  have hspot : spot = none := by simpa [Addr.add] using World.cell?_spot h00
  subst hspot
  subst hlen
  refine ⟨by have := cell_lt hc0; omega, b, off, cap, ?_, hc0, fun k s hk => ⟨b, off, rfl, ?_⟩⟩
  · rw [add_plain] at h00
    exact cell_lt h00
  · have hk2 : k < 11 := by
      have := (List.getElem?_eq_some_iff.1 hk).1
      exact this
    have h1 := congrArg (·[k]?) hK
    simp only [List.getElem?_map, hk, List.getElem?_range hk2, Option.map_some, Option.some.injEq, DataW.lit.injEq, Lit.string.injEq] at h1
    have h2 := (hcell k (by omega)).1
    rw [add_plain] at h2
    rw [h2, h1]

set_option maxRecDepth 100000 in
set_option maxHeartbeats 1000000 in
theorem lifted (os : Os) (started : os.Started) (H : Type) (enc : TypeId × Value → H) :
    ReturnsInHanded {} Tryd.checked os 3 .any (fun w args => (Rows.lexerNamesSpec.pre enc Tryd.prog Tryd.f3 [] false w args ∧ laidMetH Tryd.prog laid1 w) ∧ sizedMet enc Tryd.prog Tryd.f3 (OpenSpec.ofChange Rows.lexerNamesSpec) false w args)
      (Rows.lexerNamesSpec.post enc Tryd.prog Tryd.f3 false true false false) := by
  refine returnsInHanded_of_change_and (C := Tryd.checked) (X := fun w _ => laidMetH Tryd.prog laid1 w) (fun _ _ _ hh h => h.of_heap hh) own started (by kernel_rfl) Tryd.func3
    (ChangeSpec.witness_shaped (enc := enc) (C := Tryd.checked) (os := os) (X := fun w _ => laidMetH Tryd.prog laid1 w) false (World.doorLaid Tryd.prog 400 os) #[.slice none 0 0, .string ⟨#[]⟩] 8 rfl (World.shaped_of_RefB (by kernel_rfl) (by kernel_rfl)) (by kernel_rfl) (by kernel_rfl) (by kernel_rfl) (door_met os _)) ?_
  intro W base args ds gs before hval0 hW _ _ hL _
  have hval : ∀ (j : Nat) t v, Tryd.f3.params[j]? = some t → args[j]? = some v → Value.okWide Tryd.prog W .any base t v := hval0
  have hW' := hW
  have hlt := hW.lt
  obtain ⟨p, q, hA0, hV, rfl, hfz, hnd⟩ := hW
  have hA : DataW.TrodAll enc Tryd.prog W 0 (fun _ => true) true Tryd.f3.params.toList args.toList ds p := hA0
  rw [Tryd.params3] at hA hval
  obtain ⟨v0, v1, d0, d1, p0, p1, rfl, rfl, rfl, h0, h1⟩ := trodAll_two hA
  obtain ⟨rfl, rfl⟩ := trodVars_none hV
  obtain ⟨s, rfl, rfl, rfl, hs⟩ := open_string Tryd.underlying9 (hval 1 9 v1 rfl rfl) h1
  have K := of_laid hL
  obtain ⟨a0, len0, cap0, rfl⟩ := okWide_slice Tryd.underlying22 (hval 0 22 v0 rfl rfl)
  have keep : ∀ W' : World, Below W.heap.size W W' → Rows.lexerNamesSpec.post enc Tryd.prog Tryd.f3 false true false false W #[.slice a0 len0 cap0, .string s] (.bool true) W' := by
    intro W' bel
    have h0' := Below.trod (P := Tryd.prog) (by kernel_rfl) (by kernel_rfl) (by decide +kernel) h0 bel (fun x hx => hlt x (by simp [hx]))
    have h1' := Below.trod (P := Tryd.prog) (by kernel_rfl) (by kernel_rfl) (by decide +kernel) h1 bel (fun x hx => by cases hx)
    exact ⟨_, _, _, [], _, [], hW', trodAll_mk1 (shut_bool Tryd.underlying4 _), trodAll_mk2 h0' h1', rfl, bel.frame _, fun h => by cases h⟩
  obtain ⟨fuel, hf⟩ := h0
  rcases open_ints Tryd.underlying22 Tryd.underlying3 cInt hf with ⟨hcs, _⟩ | ⟨a, len, cap, zs, hcs, _, hl1, hl2, hz, _, hcell, _⟩
  · have hcs' : [Value.slice a0 len0 cap0] = _ := hcs
    injection hcs' with hcs' _
    injection hcs' with e1 e2 e3
    subst e1 e2 e3
    refine (names_any s hs W none 0 0 (Nat.zero_le _) (fun j hj => by omega) K).mono fun e W' ⟨he, bel⟩ => ?_
    subst he
    exact ⟨_, rfl, keep W' bel⟩
  · have hcs' : [Value.slice a0 len0 cap0] = _ := hcs
    injection hcs' with hcs' _
    injection hcs' with e1 e2 e3
    subst e1 e2 e3
    refine (names_any s hs W (some a) len0 cap0 (by omega) (fun j hj => ?_) K).mono fun e W' ⟨he, bel⟩ => ?_
    · have hlz : len0 ≤ zs.length := by rw [hz]; split <;> omega
      obtain ⟨b, off, rfl, hc⟩ := ints_at hcell (by omega)
      exact ⟨b, off, _, rfl, cell_lt (hc j (by omega)), hc j (by omega)⟩
    · subst he
      exact ⟨_, rfl, keep W' bel⟩

theorem over : Rows.LexerNamesSaid :=
  OpenClaim.holds_of_wide 3 Tryd.f3 rfl rfl rfl rfl rfl rfl rfl ⟨rfl, rfl, rfl, rfl, rfl⟩ rfl rfl rfl rfl rfl (by kernel_rfl) Tryd.func3 (by kernel_rfl)
    (of_decide_eq_true (by kernel_rfl)) (by unfold Func.isWrapper; first | (rw [if_pos (by decide +kernel)]; kernel_rfl) | (rw [if_neg (by decide +kernel)]; exact ⟨rfl, rfl⟩))
    (fun os started H enc _ => lifted os started H enc)
end Go.Proofs.YtahdmekakbagnaaDoor.lexerNames
namespace Go.Proofs.YtahdmekakbagnaaDoor
open Go
/-- THE STATEMENT: the tied card. -/
theorem lexerNames_card_holds : Rows.LexerNamesCardSaid :=
  Claim7.holds_tied_plain_at .later [] [.widerDeep] true Rows.lexerNamesCard.stood.harness false
    lexerNames.over (fun _ h => by cases h) (by kernel_rfl) (fun _ h => by cases h) lexerNames_row_tie rfl ⟨rfl, rfl⟩ (by kernel_rfl) rfl
    (fun f fn hf hfn => by
      obtain rfl : f = 3 := Option.some.inj ((show Tryd.prog.funcNamed "flowquery/flqlaw4.LexerNames" = some 3 by kernel_rfl).symm.trans hf) |>.symm
      obtain rfl : fn = Tryd.f3 := (Option.some.inj (Tryd.func3.symm.trans hfn)).symm
      exact ⟨by kernel_rfl, fun j t ht => by
        rw [Tryd.params3] at ht
        rcases j with _ | _ | j
        · obtain rfl : t = 22 := by simpa using ht.symm
          exact (show Tryd.prog.wantsStandIn 22 = false by kernel_rfl)
        · obtain rfl : t = 9 := by simpa using ht.symm
          exact (show Tryd.prog.wantsStandIn 9 = false by kernel_rfl)
        · simp at ht⟩)
    (by kernel_rfl)
#print axioms lexerNames_card_holds
end Go.Proofs.YtahdmekakbagnaaDoor
