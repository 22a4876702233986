/- 'flqlaw26.ScriptLines' returns true at every input. The library's tables hold what the program's text lays (the given tie). No condition beyond the statement's own. (nobase) Printed by wip/gen_sccard.py. -/
import Derived.Test.YtgmlnbheceeklaaDoorScL4
import Derived.Test.YtgmlnbheceeklaaDoorScK
set_option linter.unusedVariables false
set_option linter.unusedSimpArgs false
set_option linter.unusedSectionVars false
namespace Go.Proofs.YtgmlnbheceeklaaDoor
open Go.ChangeShapes Go.WideShapes Go.ChangeAt Go.WideMaps Go.WideElems Go.ChangeMaps Go.Deep Go.RowKit

/-- The listed variables of 'ScriptLines'. -/
def laid10 : List (String × DataW Unit) := [("math/bits.deBruijn32tab", Rows.laid_math_bits_deBruijn32tab), ("math/bits.deBruijn64tab", Rows.laid_math_bits_deBruijn64tab), ("internal/strconv.uint64pow10", Rows.laid_internal_strconv_uint64pow10), ("unicode/utf8.acceptRanges", Rows.laid_unicode_utf8_acceptRanges), ("flowquery/lexer.keywords", Rows.laid_flowquery_lexer_keywords), ("strconv.ErrRange", Rows.laid_strconv_ErrRange), ("strconv.ErrSyntax", Rows.laid_strconv_ErrSyntax), ("flowquery/script.verbs", Rows.laid_flowquery_script_verbs), ("flowquery/script.analyses", Rows.laid_flowquery_script_analyses), ("unicode/utf8.first", Rows.laid_unicode_utf8_first)]
theorem door_met10 (os : Os) (args : Array Value) : laidMetH Tryd.prog laid10 ((World.laidAll Tryd.prog os laid10).forCall (fun _ _ => 0) ⟨#[], args, []⟩).memory := by
  rw [MakeChecks.laidMetH_plain _ _ _ (by kernel_rfl)]
  exact laidMet_laidAll _ (by kernel_rfl) (by kernel_rfl)
theorem of_laid10 [Base] {W : World} (h : laidMetH Tryd.prog laid10 W) (hsh : W.ShapedOpen Tryd.prog) (hbs : Base.b ≤ W.heap.size) : VarsIn W.heap.size W := by
  rw [MakeChecks.laidMetH_plain _ _ _ (by kernel_rfl)] at h
  obtain ⟨ps, h, _⟩ := h
  obtain ⟨m, hm⟩ := mx_of hsh
  obtain ⟨_, _, _, _, _, _, -, -, -, -, h, -⟩ := h
  obtain ⟨_, _, _, _, _, _, -, -, -, -, h, -⟩ := h
  obtain ⟨g2, t2, cs2, f2, p2, q2, hg2, ht2, hv2, hd2, h, -⟩ := h
  obtain ⟨_, _, _, _, _, _, -, -, -, -, h, -⟩ := h
  obtain ⟨g3, t3, cs3, f3, p3, q3, hg3, ht3, hv3, hd3, h, -⟩ := h
  obtain ⟨g4, t4, cs4, f4, p4, q4, hg4, ht4, hv4, hd4, h, -⟩ := h
  obtain ⟨g5, t5, cs5, f5, p5, q5, hg5, ht5, hv5, hd5, h, -⟩ := h
  obtain ⟨g6, t6, cs6, f6, p6, q6, hg6, ht6, hv6, hd6, h, -⟩ := h
  obtain ⟨g7, t7, cs7, f7, p7, q7, hg7, ht7, hv7, hd7, h, -⟩ := h
  obtain rfl := Option.some.inj (gP10.symm.trans hg2)
  obtain rfl := Option.some.inj (gKw.symm.trans hg3)
  obtain rfl := Option.some.inj (gRng.symm.trans hg4)
  obtain rfl := Option.some.inj (gSyn.symm.trans hg5)
  obtain rfl := Option.some.inj (gVb.symm.trans hg6)
  obtain rfl := Option.some.inj (gAn.symm.trans hg7)
  obtain rfl := Option.some.inj (tP10.symm.trans ht2)
  obtain rfl := Option.some.inj (tKw.symm.trans ht3)
  obtain rfl := Option.some.inj (tRng.symm.trans ht4)
  obtain rfl := Option.some.inj (tSyn.symm.trans ht5)
  obtain rfl := Option.some.inj (tVb.symm.trans ht6)
  obtain rfl := Option.some.inj (tAn.symm.trans ht7)
  rw [d10] at hd2
  rw [dKw] at hd3
  rw [dVb] at hd6
  rw [dAn] at hd7
  have e2 := Lib.cells_of_tab Tryd.underlying105 Tryd.underlying91 cU64 cP10 hd2
  have k2 : Lib.TabIs Tryd.prog W "internal/strconv.uint64pow10" .u64 Lib.pow10Tab := by unfold Lib.TabIs; rw [hv2, ← e2]
  obtain ⟨_, u4, x4, e4, -, -⟩ := iface_of_trod Tryd.underlying52 hd4
  obtain ⟨_, u5, x5, e5, -, -⟩ := iface_of_trod Tryd.underlying52 hd5
  have k4 : W.var? Tryd.prog "strconv.ErrRange" = some #[.iface u4 x4] := by rw [hv4]; congr 1; exact Array.toList_inj.1 e4
  have k5 : W.var? Tryd.prog "strconv.ErrSyntax" = some #[.iface u5 x5] := by rw [hv5]; congr 1; exact Array.toList_inj.1 e5
  obtain ⟨r1, r2⟩ := row_of gKw hv3 (by decide) hd3
  exact ⟨⟨⟨r1, hbs⟩, r2⟩, ⟨cell_lt hm, var_lt gSyn k5, var_lt gRng k4, var_lt gP10 hv2⟩, ⟨m, hm⟩, ⟨u5, x5, k5⟩, ⟨u4, x4, k4⟩, k2, row_of gVb hv6 (by decide) hd6, row_of gAn hv7 (by decide) hd7⟩
theorem wf_u8 {n : Int} (h : (Lit.int .u8 n).wf = true) : 0 ≤ n ∧ n < 256 := by
  simp [Lit.wf, IntKind.min, IntKind.max, IntKind.signed, IntKind.bits] at h
  omega
namespace scriptLines

set_option maxRecDepth 100000 in
set_option maxHeartbeats 1000000 in
theorem lifted (os : Os) (started : os.Started) (H : Type) (enc : TypeId × Value → H) :
    ReturnsInHanded {} Tryd.checked os 5 .any (fun w args => (Rows.scriptLinesSpec.pre enc Tryd.prog Tryd.f5 [] false w args ∧ laidMetH Tryd.prog laid10 w) ∧ sizedMet enc Tryd.prog Tryd.f5 (OpenSpec.ofChange Rows.scriptLinesSpec) false w args)
      (Rows.scriptLinesSpec.post enc Tryd.prog Tryd.f5 false true false false) := by
  refine handed_shaped (C := Tryd.checked) (X := fun w _ => laidMetH Tryd.prog laid10 w) (fun _ _ _ hh h => h.of_heap hh) own started (by kernel_rfl) Tryd.func5
    (ChangeSpec.witness_shaped (enc := enc) (C := Tryd.checked) (os := os) (X := fun w _ => laidMetH Tryd.prog laid10 w) false (World.laidAll Tryd.prog os laid10) #[.string ⟨#[]⟩, .int .u8 0] 8 (World.laidAll_os _ _ _) (World.shaped_of_ZipB (by kernel_rfl) (by kernel_rfl)) (by kernel_rfl) (by kernel_rfl) (by kernel_rfl) (door_met10 os _)) ?_
  intro W base args ds gs before hval0 hW hL hsh
  have hval : ∀ (j : Nat) t v, Tryd.f5.params[j]? = some t → args[j]? = some v → Value.okWide Tryd.prog W .any base t v := hval0
  have hW' := hW
  have hlt := hW.lt
  obtain ⟨p, q, hA0, hV, rfl, hfz, hnd⟩ := hW
  have hA : DataW.TrodAll enc Tryd.prog W 0 (fun _ => true) true Tryd.f5.params.toList args.toList ds p := hA0
  rw [Tryd.params5] at hA hval
  obtain ⟨v0, v1, d0, d1, p0, p1, rfl, rfl, rfl, h0, h1⟩ := trodAll_two hA
  obtain ⟨rfl, rfl⟩ := trodVars_none hV
  letI : Base := ⟨W.heap.size⟩
  have K := of_laid10 hL hsh (Nat.le_refl _)
  obtain ⟨s0, rfl, rfl, rfl, hs0⟩ := open_string Tryd.underlying9 (hval 0 9 v0 rfl rfl) h0
  obtain ⟨z1, rfl, rfl, rfl, wf1⟩ := open_int Tryd.underlying5 (hval 1 5 v1 rfl rfl) h1
  have keep : ∀ W' : World, Below W.heap.size W W' → Rows.scriptLinesSpec.post enc Tryd.prog Tryd.f5 false true false false W #[.string s0, .int .u8 z1] (.bool true) W' := by
    intro W' bel
    have h0' := Below.trod (P := Tryd.prog) (by kernel_rfl) (by kernel_rfl) (by decide +kernel) h0 bel (fun x hx => by cases hx)
    have h1' := Below.trod (P := Tryd.prog) (by kernel_rfl) (by kernel_rfl) (by decide +kernel) h1 bel (fun x hx => by cases hx)
    exact ⟨_, _, _, [], _, [], hW', trodAll_mk1 (shut_bool Tryd.underlying4 _), trodAll_mk2 h0' h1', rfl, bel.frame _, fun h => by cases h⟩
  obtain ⟨n0, n1⟩ := wf_u8 wf1
  obtain ⟨nn, hnn⟩ := Int.eq_ofNat_of_zero_le n0
  subst hnn
  refine (linesLaw_any W K s0 nn (by omega)).mono fun e W' ⟨he, bel⟩ => ?_
  subst he
  exact ⟨_, rfl, keep W' bel⟩

theorem over : Rows.ScriptLinesSaid :=
  OpenClaim.holds_of_wide 5 Tryd.f5 rfl rfl rfl rfl rfl rfl rfl ⟨rfl, rfl, rfl, rfl, rfl⟩ rfl rfl rfl rfl rfl (by kernel_rfl) Tryd.func5 (by kernel_rfl)
    (of_decide_eq_true (by kernel_rfl)) (by unfold Func.isWrapper; first | (rw [if_pos (by decide +kernel)]; kernel_rfl) | (rw [if_neg (by decide +kernel)]; exact ⟨rfl, rfl⟩))
    (fun os started H enc _ => lifted os started H enc)
end scriptLines
/-- THE STATEMENT: the tied card. -/
theorem scriptLines_card_holds : Rows.ScriptLinesCardSaid :=
  Claim7.holds_tied_plain_at .later [] [.data, .data, .data, .data, .widerDeep, .sentinel, .sentinel, .widerDeep, .widerDeep, .pinned] true Rows.scriptLinesCard.stood.harness true
    scriptLines.over (fun _ h => by cases h) (by kernel_rfl) (fun _ h => by cases h) scriptLines_row_tie rfl ⟨rfl, rfl⟩ (by kernel_rfl) rfl
    (fun f fn hf hfn => by
      obtain rfl : f = 5 := Option.some.inj ((show Tryd.prog.funcNamed "flowquery/flqlaw26.ScriptLines" = some 5 by kernel_rfl).symm.trans hf) |>.symm
      obtain rfl : fn = Tryd.f5 := (Option.some.inj (Tryd.func5.symm.trans hfn)).symm
      exact ⟨by kernel_rfl, fun j t ht => by
        rw [Tryd.params5] at ht
        rcases j with _ | _ | j
        · obtain rfl : t = 9 := by simpa using ht.symm
          exact (show Tryd.prog.wantsStandIn 9 = false by kernel_rfl)
        · obtain rfl : t = 5 := by simpa using ht.symm
          exact (show Tryd.prog.wantsStandIn 5 = false by kernel_rfl)
        · simp at ht⟩)
    (by kernel_rfl)
#print axioms scriptLines_card_holds
end Go.Proofs.YtgmlnbheceeklaaDoor
