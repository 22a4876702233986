/- What the tied variables give the laws on operations. (nobase) Printed by wip/gen_sccard.py. -/
import Derived.Test.YtgmlnbheceeklaaDoorScW1
import Derived.Test.YtgmlnbheceeklaaDoorCards
import Derived.Test.YtgmlnbheceeklaaDoorTie
import Derived.ProofKit
import Derived.LaidMore
import Derived.OpenShut
import Derived.Carry
import Derived.Deep.Strs
import Derived.ChangeMaps5
import Derived.ChangeOld
import Derived.Stop.Joined
import Derived.SevenTiedAt
import Derived.Lib.LaidTab
import Derived.HandedShaped
import Derived.Shelf.Vars
import Derived.LaidLaws
import Derived.Lay
set_option linter.unusedVariables false
set_option linter.unusedSimpArgs false
set_option linter.unusedSectionVars false
namespace Go.Proofs.YtgmlnbheceeklaaDoor
open Go.ChangeShapes Go.WideShapes Go.ChangeAt Go.WideMaps Go.WideElems Go.ChangeMaps Go.Deep Go.RowKit

theorem own : ownKnob Tryd.prog.godebug = none := by kernel_rfl
theorem gKw : Tryd.prog.globalNamed "flowquery/lexer.keywords" = some 2 := by kernel_rfl
theorem gVb : Tryd.prog.globalNamed "flowquery/script.verbs" = some 0 := by kernel_rfl
theorem gAn : Tryd.prog.globalNamed "flowquery/script.analyses" = some 1 := by kernel_rfl
theorem tKw : (Tryd.prog.globals[2]?).map (·.type) = some 35 := by kernel_rfl
theorem tVb : (Tryd.prog.globals[0]?).map (·.type) = some 35 := by kernel_rfl
theorem tAn : (Tryd.prog.globals[1]?).map (·.type) = some 35 := by kernel_rfl
theorem tP10 : (Tryd.prog.globals[6]?).map (·.type) = some 105 := by kernel_rfl
theorem tSyn : (Tryd.prog.globals[3]?).map (·.type) = some 52 := by kernel_rfl
theorem tRng : (Tryd.prog.globals[4]?).map (·.type) = some 52 := by kernel_rfl
theorem cStr : Tryd.prog.cellsOf 9 = 1 := by kernel_rfl
theorem cInt : Tryd.prog.cellsOf 3 = 1 := by kernel_rfl
theorem cU64 : Tryd.prog.cellsOf 91 = 1 := by kernel_rfl
theorem cP10 : Tryd.prog.cellsOf 105 = 20 := by kernel_rfl
def laid8 : List (String × DataW Unit) := [("math/bits.deBruijn32tab", Rows.laid_math_bits_deBruijn32tab), ("math/bits.deBruijn64tab", Rows.laid_math_bits_deBruijn64tab), ("internal/strconv.uint64pow10", Rows.laid_internal_strconv_uint64pow10), ("flowquery/lexer.keywords", Rows.laid_flowquery_lexer_keywords), ("strconv.ErrRange", Rows.laid_strconv_ErrRange), ("strconv.ErrSyntax", Rows.laid_strconv_ErrSyntax), ("flowquery/script.verbs", Rows.laid_flowquery_script_verbs), ("flowquery/script.analyses", Rows.laid_flowquery_script_analyses)]
theorem door_met8 (os : Os) (args : Array Value) : laidMetH Tryd.prog laid8 ((World.laidAll Tryd.prog os laid8).forCall (fun _ _ => 0) ⟨#[], args, []⟩).memory := by
  rw [MakeChecks.laidMetH_plain _ _ _ (by kernel_rfl)]
  exact laidMet_laidAll _ (by kernel_rfl) (by kernel_rfl)
theorem cell_lt {w : World} {b o : Nat} {v : Value} (h : w.cell? ⟨b, o, none⟩ = some v) : b < w.heap.size := by
  rcases Nat.lt_or_ge b w.heap.size with h' | h'
  · exact h'
  · simp [World.cell?, Array.getElem?_eq_none h'] at h
theorem var_lt {w : World} {n : String} {g : Nat} {c : Array Value} (hg : Tryd.prog.globalNamed n = some g) (h : w.var? Tryd.prog n = some c) : g < w.heap.size := by
  unfold World.var? at h
  rw [hg] at h
  simp only [Option.bind_some] at h
  rcases Nat.lt_or_ge g w.heap.size with h1 | h1
  · exact h1
  · rw [Array.getElem?_eq_none h1] at h; simp at h
theorem mx_of {W : World} (h : W.ShapedOpen Tryd.prog) : ∃ m, W.cell? ⟨5, 0, none⟩ = some (.int .i64 m) := cell_of_shapedOpen_int (zero := #[.int .i64 0]) (t := 3) h (of_decide_eq_true (by kernel_rfl)) (by kernel_rfl) rfl (by kernel_rfl) (by kernel_rfl) Tryd.underlying3
/-- A tied row of strings. -/
theorem row_of {H : Type} {enc : TypeId × Value → H} {W : World} {base fuel : Nat} {spare : Nat → Bool} {held : Bool} {name : String} {g : Nat} {cs : Array Value} {ps : List MemPlace} {ls : List Str} (hg : Tryd.prog.globalNamed name = some g) (hv : W.var? Tryd.prog name = some cs) (hne : 0 < ls.length)
    (hd : DataW.trod enc Tryd.prog W base spare held fuel 35 cs.toList = some (.slice (ls.map fun l => (DataW.lit (.string l) : DataW H)) [], ps)) : RowIn g ls W.heap.size W := by
  rcases open_strs Tryd.underlying35 Tryd.underlying9 cStr hd with ⟨_, hx⟩ | ⟨a, len, cap, m, Sx, hcs, _, hl1, hl2, hm, hx, hcell⟩
  · simp at hx
  simp only [Prod.mk.injEq] at hx
  have hK : ls.map (fun l => (DataW.lit (.string l) : DataW H)) = (List.range len).map fun i => .lit (.string (Sx i).data.toList) := by
    have h1 := hx.1
    injection h1 with h1 _
  have hlen : len = ls.length := by
    have := congrArg List.length hK
    simp at this
    exact this.symm
  have hm2 : len ≤ m := by rw [hm]; split <;> omega
  have hc0 : W.cell? ⟨g, 0, none⟩ = some (.slice (some a) len cap) := by
    have := World.var?_cell hg hv 0
    rw [Array.eq_one_of_toList hcs] at this
    simpa using this
  obtain ⟨b, off, spot⟩ := a
  have h00 := (hcell 0 (by omega)).1
  have hspot : spot = none := by simpa [Addr.add] using World.cell?_spot h00
  subst hspot
  subst hlen
  refine ⟨cell_lt hc0, b, off, cap, ?_, hc0, fun k s hk => ⟨b, off, rfl, ?_⟩⟩
  · rw [add_plain] at h00
    exact cell_lt h00
  · have hk2 : k < ls.length := (List.getElem?_eq_some_iff.1 hk).1
    have h1 := congrArg (·[k]?) hK
    simp only [List.getElem?_map, hk, List.getElem?_range hk2, Option.map_some, Option.some.injEq, DataW.lit.injEq, Lit.string.injEq] at h1
    have h2 := (hcell k (by omega)).1
    rw [add_plain] at h2
    rw [h2, h1]
theorem dKw : (Rows.laid_flowquery_lexer_keywords : DataW Unit) = .slice (kws.map fun l => .lit (.string l)) [] := rfl
theorem dVb : (Rows.laid_flowquery_script_verbs : DataW Unit) = .slice (verbsL.map fun l => .lit (.string l)) [] := rfl
theorem dAn : (Rows.laid_flowquery_script_analyses : DataW Unit) = .slice (anasL.map fun l => .lit (.string l)) [] := rfl
theorem d10 : (Rows.laid_internal_strconv_uint64pow10 : DataW Unit) = Lib.tabData .u64 Lib.pow10Tab := rfl
theorem of_laid8 [Base] {W : World} (h : laidMetH Tryd.prog laid8 W) (hsh : W.ShapedOpen Tryd.prog) (hbs : Base.b ≤ W.heap.size) : VarsIn W.heap.size W := by
  rw [MakeChecks.laidMetH_plain _ _ _ (by kernel_rfl)] at h
  obtain ⟨ps, h, _⟩ := h
  obtain ⟨m, hm⟩ := mx_of hsh
  obtain ⟨_, _, _, _, _, _, -, -, -, -, h, -⟩ := h
  obtain ⟨_, _, _, _, _, _, -, -, -, -, h, -⟩ := h
  obtain ⟨g2, t2, cs2, f2, p2, q2, hg2, ht2, hv2, hd2, h, -⟩ := h
  obtain ⟨g3, t3, cs3, f3, p3, q3, hg3, ht3, hv3, hd3, h, -⟩ := h
  obtain ⟨g4, t4, cs4, f4, p4, q4, hg4, ht4, hv4, hd4, h, -⟩ := h
  obtain ⟨g5, t5, cs5, f5, p5, q5, hg5, ht5, hv5, hd5, h, -⟩ := h
  obtain ⟨g6, t6, cs6, f6, p6, q6, hg6, ht6, hv6, hd6, h, -⟩ := h
  obtain ⟨g7, t7, cs7, f7, p7, q7, hg7, ht7, hv7, hd7, h, -⟩ := h
  obtain rfl := Option.some.inj (gP10.symm.trans hg2)
  obtain rfl := Option.some.inj (gKw.symm.trans hg3)
  obtain rfl := Option.some.inj (gRng.symm.trans hg4)
  obtain rfl := Option.some.inj (gSyn.symm.trans hg5)
  obtain rfl := Option.some.inj (gVb.symm.trans hg6)
  obtain rfl := Option.some.inj (gAn.symm.trans hg7)
  obtain rfl := Option.some.inj (tP10.symm.trans ht2)
  obtain rfl := Option.some.inj (tKw.symm.trans ht3)
  obtain rfl := Option.some.inj (tRng.symm.trans ht4)
  obtain rfl := Option.some.inj (tSyn.symm.trans ht5)
  obtain rfl := Option.some.inj (tVb.symm.trans ht6)
  obtain rfl := Option.some.inj (tAn.symm.trans ht7)
  rw [d10] at hd2
  rw [dKw] at hd3
  rw [dVb] at hd6
  rw [dAn] at hd7
  have e2 := Lib.cells_of_tab Tryd.underlying105 Tryd.underlying91 cU64 cP10 hd2
  have k2 : Lib.TabIs Tryd.prog W "internal/strconv.uint64pow10" .u64 Lib.pow10Tab := by unfold Lib.TabIs; rw [hv2, ← e2]
  obtain ⟨_, u4, x4, e4, -, -⟩ := iface_of_trod Tryd.underlying52 hd4
  obtain ⟨_, u5, x5, e5, -, -⟩ := iface_of_trod Tryd.underlying52 hd5
  have k4 : W.var? Tryd.prog "strconv.ErrRange" = some #[.iface u4 x4] := by rw [hv4]; congr 1; exact Array.toList_inj.1 e4
  have k5 : W.var? Tryd.prog "strconv.ErrSyntax" = some #[.iface u5 x5] := by rw [hv5]; congr 1; exact Array.toList_inj.1 e5
  obtain ⟨r1, r2⟩ := row_of gKw hv3 (by decide) hd3
  exact ⟨⟨⟨r1, hbs⟩, r2⟩, ⟨cell_lt hm, var_lt gSyn k5, var_lt gRng k4, var_lt gP10 hv2⟩, ⟨m, hm⟩, ⟨u5, x5, k5⟩, ⟨u4, x4, k4⟩, k2, row_of gVb hv6 (by decide) hd6, row_of gAn hv7 (by decide) hd7⟩
/-- The wrap that keeps the world's shape and a condition on memory. -/
theorem handed_shaped {H : Type} {enc : TypeId × Value → H} {a : Assume} {C : Checked} {os : Os} {f : FuncId} {fn : Func} {s : ChangeSpec} {conds : List PathCond} {apart fresh handsOn again : Bool} {X : World → Array Value → Prop}
    (hX : ∀ (w w' : World) (args : Array Value), w.heap = w'.heap → X w args → X w' args)
    (own : ownKnob C.prog.godebug = none) (started : os.Started) (noInit : C.prog.inits.idxOf? f = none) (hfn : C.prog.funcs[f]? = some fn)
    (witness : ∃ (w : World) (tape : Go.Tape) (i : Input), w.os = os ∧ (w.forCall tape i).Shaped C.prog ∧ i.vars = [] ∧ Input.okWide C.prog (w.forCall tape i) .any w.heap.size f i ∧
      ((s.pre enc C.prog fn conds apart (w.forCall tape i).memory i.args ∧ X (w.forCall tape i).memory i.args) ∧ sizedMet enc C.prog fn (OpenSpec.ofChange s) apart (w.forCall tape i).memory i.args) ∧ a.holds C.prog (lone (Frame.enter C.prog f i.args .normal) [] (w.forCall tape i)))
    (contract : ∀ (W : World) (base : Nat) (args : Array Value) (ds gs : List (DataW H)) (before : List MemPlace),
      (∀ (j : Nat) t v, fn.params[j]? = some t → args[j]? = some v → Value.okWide C.prog W .any base t v) →
      DataW.Whole enc C.prog fn.params.toList s.vars apart W args.toList ds gs before → X W args → W.ShapedOpen C.prog →
      Calls C.prog f args W fun e W' => ∃ v, e = .returned v ∧ s.post enc C.prog fn apart fresh handsOn again W args v W') :
    ReturnsInHanded a C os f .any (fun w args => (s.pre enc C.prog fn conds apart w args ∧ X w args) ∧ sizedMet enc C.prog fn (OpenSpec.ofChange s) apart w args) (s.post enc C.prog fn apart fresh handsOn again) := by
  refine returnsInHanded_of_calls own started noInit witness ?_
  intro w tape i _ hsh _ hok hpre _
  obtain ⟨_, _, _, fn', hfn', _, _, _, _, hval⟩ := hok
  obtain rfl : fn' = fn := Option.some.inj (hfn'.symm.trans hfn)
  obtain ⟨⟨⟨ds, gs, before, hw, _⟩, hx⟩, _⟩ := hpre
  refine (contract (w.forCall tape i) w.heap.size i.args ds gs before hval (DataW.Whole.of_heap (w' := w.forCall tape i) (by rfl) hw) (hX _ _ _ (by rfl) hx) hsh).mono fun e W' ⟨v, he, hp⟩ => ?_
  subst he
  exact ChangeSpec.post_blind hp
/-- And the sizes. The wrap that keeps the world's shape and a condition on memory. -/
theorem handed_sized {H : Type} {enc : TypeId × Value → H} {a : Assume} {C : Checked} {os : Os} {f : FuncId} {fn : Func} {s : ChangeSpec} {conds : List PathCond} {apart fresh handsOn again : Bool} {X : World → Array Value → Prop}
    (hX : ∀ (w w' : World) (args : Array Value), w.heap = w'.heap → X w args → X w' args)
    (own : ownKnob C.prog.godebug = none) (started : os.Started) (noInit : C.prog.inits.idxOf? f = none) (hfn : C.prog.funcs[f]? = some fn)
    (witness : ∃ (w : World) (tape : Go.Tape) (i : Input), w.os = os ∧ (w.forCall tape i).Shaped C.prog ∧ i.vars = [] ∧ Input.okWide C.prog (w.forCall tape i) .any w.heap.size f i ∧
      ((s.pre enc C.prog fn conds apart (w.forCall tape i).memory i.args ∧ X (w.forCall tape i).memory i.args) ∧ sizedMet enc C.prog fn (OpenSpec.ofChange s) apart (w.forCall tape i).memory i.args) ∧ a.holds C.prog (lone (Frame.enter C.prog f i.args .normal) [] (w.forCall tape i)))
    (contract : ∀ (W : World) (base : Nat) (args : Array Value) (ds gs : List (DataW H)) (before : List MemPlace),
      (∀ (j : Nat) t v, fn.params[j]? = some t → args[j]? = some v → Value.okWide C.prog W .any base t v) →
      DataW.Whole enc C.prog fn.params.toList s.vars apart W args.toList ds gs before → X W args → W.ShapedOpen C.prog → (DataW.weightsEach C.prog (fn.params.toList ++ s.plain.varTypes C.prog) (ds ++ gs)).all (· ≤ reachBytes) = true →
      Calls C.prog f args W fun e W' => ∃ v, e = .returned v ∧ s.post enc C.prog fn apart fresh handsOn again W args v W') :
    ReturnsInHanded a C os f .any (fun w args => (s.pre enc C.prog fn conds apart w args ∧ X w args) ∧ sizedMet enc C.prog fn (OpenSpec.ofChange s) apart w args) (s.post enc C.prog fn apart fresh handsOn again) := by
  refine returnsInHanded_of_calls own started noInit witness ?_
  intro w tape i _ hsh _ hok hpre _
  obtain ⟨_, _, _, fn', hfn', _, _, _, _, hval⟩ := hok
  obtain rfl : fn' = fn := Option.some.inj (hfn'.symm.trans hfn)
  obtain ⟨⟨⟨ds, gs, before, hw, _⟩, hx⟩, hz⟩ := hpre
  refine (contract (w.forCall tape i) w.heap.size i.args ds gs before hval (DataW.Whole.of_heap (w' := w.forCall tape i) (by rfl) hw) (hX _ _ _ (by rfl) hx) hsh (hz.weights hw)).mono fun e W' ⟨v, he, hp⟩ => ?_
  subst he
  exact ChangeSpec.post_blind hp
theorem agg_of {c : Array Value} {l : List Value} (h : (Value.agg c).cells.toList = l) : Value.agg c = .agg l.toArray := by
  have h : c.toList = l := h
  rw [← h]
theorem one_cell {c d : Value} (h : [c] = [d]) : c = d := by injection h
theorem str_of (s : ByteArray) : Value.string s = qs s.data.toList := rfl
def opC0 (o : POp) : Array Value := #[.int .i64 o.kind, qs o.id, qs o.text, .int .i64 o.ana, .int .i64 o.node, .int .i64 o.n]
section
variable {H : Type} {enc : TypeId × Value → H} {w : World} {base : Nat} {held : Bool}
set_option maxRecDepth 100000 in
theorem open_op {fuel : Nat} {cs : List Value} {x : DataW H × List MemPlace} (h : DataW.trod enc Tryd.prog w base (fun _ => true) held fuel 24 cs = some x) :
    ∃ o : POp, cs = (opC0 o).toList ∧ o.id.length ≤ 9223372036854775807 ∧ o.text.length ≤ 9223372036854775807 := by
  obtain ⟨xs, n, _, _, hlen, hxl, hf⟩ := DataW.trod_struct Tryd.underlying24 h
  have hlen2 : cs.length = 6 := hlen.trans (by kernel_rfl)
  match cs, hlen2 with
  | [c0, c1, c2, c3, c4, c5], _ =>
    have h0 : DataW.trod enc Tryd.prog w base (fun _ => true) held n 3 (List.take (Tryd.prog.cellsOf 3) (List.drop 0 [c0, c1, c2, c3, c4, c5])) = xs[0]? := hf 0 _ rfl
    have h1 : DataW.trod enc Tryd.prog w base (fun _ => true) held n 9 (List.take (Tryd.prog.cellsOf 9) (List.drop 1 [c0, c1, c2, c3, c4, c5])) = xs[1]? := hf 1 _ rfl
    have h2 : DataW.trod enc Tryd.prog w base (fun _ => true) held n 9 (List.take (Tryd.prog.cellsOf 9) (List.drop 2 [c0, c1, c2, c3, c4, c5])) = xs[2]? := hf 2 _ rfl
    have h3 : DataW.trod enc Tryd.prog w base (fun _ => true) held n 3 (List.take (Tryd.prog.cellsOf 3) (List.drop 3 [c0, c1, c2, c3, c4, c5])) = xs[3]? := hf 3 _ rfl
    have h4 : DataW.trod enc Tryd.prog w base (fun _ => true) held n 3 (List.take (Tryd.prog.cellsOf 3) (List.drop 4 [c0, c1, c2, c3, c4, c5])) = xs[4]? := hf 4 _ rfl
    have h5 : DataW.trod enc Tryd.prog w base (fun _ => true) held n 3 (List.take (Tryd.prog.cellsOf 3) (List.drop 5 [c0, c1, c2, c3, c4, c5])) = xs[5]? := hf 5 _ rfl
    rw [cStr] at h1 h2
    rw [cInt] at h0 h3 h4 h5
    simp only [List.drop_zero, List.drop_succ_cons, List.take_succ_cons, List.take_zero] at h0 h1 h2 h3 h4 h5
    have xl : xs.length = 6 := hxl
    rw [List.getElem?_eq_getElem (by omega)] at h0 h1 h2 h3 h4 h5
    obtain ⟨z0, e0, _, _⟩ := DataW.trod_int Tryd.underlying3 h0
    obtain ⟨s1, e1, _, l1⟩ := DataW.trod_string Tryd.underlying9 h1
    obtain ⟨s2, e2, _, l2⟩ := DataW.trod_string Tryd.underlying9 h2
    obtain ⟨z3, e3, _, _⟩ := DataW.trod_int Tryd.underlying3 h3
    obtain ⟨z4, e4, _, _⟩ := DataW.trod_int Tryd.underlying3 h4
    obtain ⟨z5, e5, _, _⟩ := DataW.trod_int Tryd.underlying3 h5
    obtain rfl := one_cell e0
    obtain rfl := one_cell e1
    obtain rfl := one_cell e2
    obtain rfl := one_cell e3
    obtain rfl := one_cell e4
    obtain rfl := one_cell e5
    have m1 : s1.data.toList.length = s1.size := by simp
    have m2 : s2.data.toList.length = s2.size := by simp
    unfold maxLen at l1 l2
    exact ⟨⟨z0, s1.data.toList, s2.data.toList, z3, z4, z5⟩, rfl, by show s1.data.toList.length ≤ _; omega, by show s2.data.toList.length ≤ _; omega⟩
end
end Go.Proofs.YtgmlnbheceeklaaDoor
