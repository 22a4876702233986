/- 'flqlaw24.QueriesUnload' returns true at every input: unloading a program finishes exactly its pending queries, in their order. The keywords' variable holds what the program's text lays (the given tie). No condition beyond the statement's own. -/
import Derived.Test.YtlchgbfpoaipgaaDoorQrG4
import Derived.Test.YtlchgbfpoaipgaaDoorQrS
import Derived.Test.YtlchgbfpoaipgaaDoorQrW10
import Derived.BigQuiet
import Derived.Test.YtlchgbfpoaipgaaDoorKw
import Derived.Test.YtlchgbfpoaipgaaDoorCards
import Derived.Test.YtlchgbfpoaipgaaDoorTie
import Derived.ProofKit
import Derived.LaidMore
import Derived.OpenShut
import Derived.Carry
import Derived.Deep.Strs
import Derived.ChangeMaps5
import Derived.ChangeOld
import Derived.Stop.Joined
import Derived.SevenTiedAt
set_option linter.unusedVariables false
set_option linter.unusedSimpArgs false
/- The law QueriesUnload: the walk. -/
namespace Go.Proofs.YtlchgbfpoaipgaaDoor
open Go.RowKit

theorem unl_len {l : List QRec} {p : Int} (h : tabB l = true) : (unloadQ l p).length = l.length := by
  unfold unloadQ; rw [if_pos h, List.length_map]
theorem unl_at {l : List QRec} {p : Int} (h : tabB l = true) {i : Nat} {r : QRec} (hr : l[i]? = some r) : (unloadQ l p)[i]? = some (unload1 p r) := by
  unfold unloadQ; rw [if_pos h, List.getElem?_map, hr]; rfl
def hits (l : List QRec) (p : Int) (i : Nat) : Nat := ((l.take i).filter (hitB p)).length
theorem hits_le (l : List QRec) (p : Int) (i : Nat) : hits l p i ≤ i := by
  unfold hits
  refine Nat.le_trans (List.length_filter_le _ _) ?_
  rw [List.length_take]; omega
theorem hits_hit {l : List QRec} {p : Int} {i : Nat} {r : QRec} (hr : l[i]? = some r) (h : hitB p r = true) : hits l p (i + 1) = hits l p i + 1 := by
  unfold hits
  rw [List.take_add_one, hr, List.filter_append]
  simp [h]
theorem hits_miss {l : List QRec} {p : Int} {i : Nat} {r : QRec} (hr : l[i]? = some r) (h : hitB p r = false) : hits l p (i + 1) = hits l p i := by
  unfold hits
  rw [List.take_add_one, hr, List.filter_append]
  simp [h]
theorem hits_end {l : List QRec} {p : Int} {i : Nat} (hi : l.length ≤ i) (h : tabB l = true) : hits l p i = (unloadIds l p).length := by
  unfold hits unloadIds
  rw [List.take_of_length_le hi, if_pos h, List.length_map]
theorem filter_take_at {α : Type} {f : α → Bool} : ∀ {l : List α} {i : Nat} {r : α}, l[i]? = some r → f r = true → (l.filter f)[((l.take i).filter f).length]? = some r
  | a :: l, 0, r, hr, h => by
    simp only [List.getElem?_cons_zero, Option.some.injEq] at hr
    subst hr
    simp [List.filter_cons, h]
  | a :: l, i + 1, r, hr, h => by
    have h1 := filter_take_at (l := l) (i := i) (by simpa using hr) h
    rw [List.take_succ_cons, List.filter_cons, List.filter_cons]
    split
    · rw [List.length_cons, List.getElem?_cons_succ]; exact h1
    · exact h1
theorem ids_at {l : List QRec} {p : Int} {i : Nat} {r : QRec} (ht : tabB l = true) (hr : l[i]? = some r) (h : hitB p r = true) : (unloadIds l p)[hits l p i]? = some r.id := by
  unfold unloadIds hits
  rw [if_pos ht, List.getElem?_map, filter_take_at hr h]
  rfl
theorem SliceAt.str {w : World} {v : Value} {l : List Str} (h : SliceAt w 9 1 v (l.map qs)) : ∃ a n c, v = .slice a n c ∧ l.length = n ∧ n ≤ maxLen ∧ ∀ k x, l[k]? = some x → ∃ b off, a = some ⟨b, off, none⟩ ∧ b < w.heap.size ∧ w.cell? ⟨b, off + k, none⟩ = some (qs x) := by
  obtain ⟨a, n, c, rfl, h1, h2, -, -, h5⟩ := SliceAt.form h
  rw [List.length_map, Nat.mul_one] at h1
  refine ⟨a, n, c, rfl, h1, h2, fun k x hk => ?_⟩
  have hlt := (List.getElem?_eq_some_iff.1 hk).1
  obtain ⟨b, off, rfl, hb, -, hc⟩ := h5 (by omega)
  refine ⟨b, off, rfl, hb, ?_⟩
  rw [hc k (by rw [List.length_map]; exact hlt), List.getElem?_map, hk]
  rfl
theorem tvalid_to {B : Nat} {l : List QRec} {b : Bool} (hb : tabB l = b) (v : Value) (w : World) (KW : KwIn B w) (hB : B ≤ w.heap.size) (h : RecsAt w v l) : Calls Tryd.prog 22 #[v] w (BoolQ b w) := hb ▸ tvalid_any l v w KW hB h
theorem unload1_hit {p : Int} {r : QRec} (h : hitB p r = true) : (unload1 p r).status = 4 := by unfold unload1; rw [h]; rfl
theorem unload1_miss {p : Int} {r : QRec} (h : hitB p r = false) : (unload1 p r).status = r.status := by unfold unload1; rw [h]; rfl
set_option maxRecDepth 100000 in
set_option maxHeartbeats 4000000 in
theorem unloadLaw_any (w0 : World) (a : Option Addr) (n c : Nat) (hn : n ≤ maxLen)
    (h : ∀ j : Nat, j < n → ∃ b off z, a = some ⟨b, off, none⟩ ∧ b < w0.heap.size ∧ w0.cell? ⟨b, off + j, none⟩ = some (.int .i64 z)) (KW : KwIn w0.heap.size w0) :
    Calls Tryd.prog 6 #[.slice a n c] w0 (BoolQ true w0) := by
  have H := Lib.hid h
  have HK := Lib.hid KW
  have hud : ∀ b : Bool, (undef = Value.bool b) = False := fun b => by simp [undef]
  clear h KW
  go_enter Tryd.func6, Tryd.ntmps6
  go_wp2_with fail
  refine (new_any rfl a n c hn H.out).mono ?_
  rintro e w1 ⟨rfl, ht, hb⟩
  have T1 := Lib.hid ht
  have B1 := Lib.hid hb
  clear ht hb
  go_wp2_with fail
  refine (table_any T1.out).mono ?_
  rintro e w2 ⟨v, l, rfl, hI⟩
  obtain ⟨t2, b2, hl, htab⟩ := hI
  have T2 := Lib.hid t2
  have B2 := Lib.hid (B1.out.trans ((b2.toBelow (Nat.le_refl _) (Nat.le_of_lt T1.out.lt)).mono (Nat.le_refl _)))
  obtain ⟨va, vc, rfl, -⟩ := hl.cell
  have HL := Lib.hid hl
  have HTAB := Lib.hid htab
  clear t2 b2 hl htab
  go_wp2_with fail
  refine (next_pos T2.out 3 (by omega) (by omega)).mono ?_
  rintro e w3 ⟨p, p1, p2, rfl, t3, b3⟩
  have HL3 := Lib.hid (HL.out.but T2.out b3)
  have B3 := Lib.hid (B2.out.trans (b3.toBelow (Nat.le_refl _) B2.out.size))
  clear t3 b3
  go_wp2_with fail
  refine (unload_any l p _ _ (HK.out.keep fun q hq => B3.out.block q hq) B3.out.size HL3.out).mono ?_
  rintro e w4 ⟨v4, iv, rfl, h4, hs, b4⟩
  have HL4 := HL3.out.below b4
  have B4 := Lib.hid (B3.out.trans (b4.mono B3.out.size))
  obtain ⟨ma, mc, rfl, hnm, -, -, hmc⟩ := h4.cell
  obtain ⟨ia, im, ic, rfl, himl, him, hicell⟩ := SliceAt.str hs
  obtain ⟨la, lc, e1, -, -, -, hlc⟩ := HL4.cell
  injection e1 with e1 _ e2
  subst e1 e2
  rw [unl_len HTAB.out] at hnm
  rw [unl_len HTAB.out]
  obtain ⟨k, hk⟩ : ∃ k, l.length = k := ⟨_, rfl⟩
  rw [hk] at hnm
  rw [hk]
  have H4 := Lib.hid h4
  have HMC := Lib.hid hmc
  have HLC := Lib.hid hlc
  have HIC := Lib.hid hicell
  have HIML := Lib.hid himl
  have HKL := Lib.hid hk
  unfold maxLen at hnm him
  clear b4 h4 hs hmc hlc hicell himl hk HL4
  go_wp2
  go_loopw [8, 9] (fun y8 y9 wr => ∃ i m : Nat, i ≤ k ∧ m ≤ i ∧ y8 = .int .i64 m ∧ y9 = .int .i64 i ∧ Hid (m = hits l p i) ∧ Hid (Below w4.heap.size w4 wr)) (fun _ y _ => k - (intOf y).toNat)
  case atStart => exact ⟨0, 0, Nat.zero_le _, Nat.le_refl _, rfl, rfl, rfl, Below.refl _ _⟩
  case round =>
    obtain ⟨i, m, hi, hmi, rfl, rfl, HM, HB⟩ := hrel
    by_cases hlt : i < k
    · obtain ⟨r, hr⟩ : ∃ r, l[i]? = some r := ⟨_, List.getElem?_eq_getElem (show i < l.length by have := HKL.out; omega)⟩
      obtain ⟨lb, lo, lu, rfl, hlb, -, hlcs⟩ := HLC.out i r hr
      obtain ⟨mb, mo, mu, rfl, hmb, -, hmcs⟩ := HMC.out i _ (unl_at (p := p) HTAB.out hr)
      have g0 := (HB.out.cell (p := ⟨lb, lo + i * 8 + 0, none⟩) hlb).trans (hlcs 0 (by omega))
      have g1 := (HB.out.cell (p := ⟨lb, lo + i * 8 + 1, none⟩) hlb).trans (hlcs 1 (by omega))
      have g5 := (HB.out.cell (p := ⟨lb, lo + i * 8 + 5, none⟩) hlb).trans (hlcs 5 (by omega))
      have k5 := (HB.out.cell (p := ⟨mb, mo + i * 8 + 5, none⟩) hmb).trans (hmcs 5 (by omega))
      simp only [List.getElem?_cons_zero, List.getElem?_cons_succ, Nat.add_zero] at g0 g1 g5 k5
      have i1 : (0 : Int) ≤ (i : Int) := by omega
      have i2 : (i : Int) < (k : Int) := by omega
      by_cases hh : hitB p r = true
      · have hst : r.status = 1 ∧ r.prog = p := by simp only [hitB, Bool.and_eq_true, decide_eq_true_eq] at hh; exact ⟨hh.2, hh.1⟩
        rw [unload1_hit hh] at k5
        rw [hst.1] at g5
        rw [hst.2] at g1
        have hid := ids_at HTAB.out hr hh
        rw [← HM.out] at hid
        obtain ⟨ib, io, rfl, hib, hic⟩ := HIC.out m _ hid
        have j0 := (HB.out.cell (p := ⟨ib, io + m, none⟩) hib).trans hic
        have hml : m < im := by have := (List.getElem?_eq_some_iff.1 hid).1; have := HIML.out; omega
        have HM2 := Lib.hid (show m + 1 = hits l p (i + 1) by rw [hits_hit hr hh, ← HM.out])
        have d1 : decide (im ≤ m) = false := by simp; omega
        have d2 : decide ((im : Int) ≤ (m : Int)) = false := by simp; omega
        have d3 : (0 : Int) ≤ (m : Int) := by omega
        have d4 : (m : Int) < (im : Int) := by omega
        have d5 : (p == p) = true := by simp
        have d6 : (r.id != r.id) = false := by simp
        clear hlcs hmcs hr hh hst hid hic HMC HLC HIC hlt
        go_wp2
        go_quiet (fail)
        go_wp2
        go_roundw
        case rel => exact ⟨i + 1, m + 1, by omega, by omega, by go_num, by go_num, HM2, below_drewQ HB.out _⟩
        case measure => simp [intOf]; omega
      · have hhf : hitB p r = false := by simpa using hh
        rw [unload1_miss hhf] at k5
        have HM2 := Lib.hid (show m = hits l p (i + 1) by rw [hits_miss hr hhf, ← HM.out])
        have d6 : (r.status != r.status) = false := by simp
        by_cases hs1 : r.status = 1
        · have d1 : (r.status == 1) = true := by simp [hs1]
          have d2 : (r.prog == p) = false := by
            unfold hitB at hhf
            simpa [hs1] using hhf
          clear hlcs hmcs hr hh hhf HMC HLC HIC hlt hs1
          go_wp2
          go_quiet (fail)
          go_wp2
          go_roundw
          case rel => exact ⟨i + 1, m, by omega, by omega, rfl, by go_num, HM2, below_drewQ HB.out _⟩
          case measure => simp [intOf]; omega
        · have d1 : (r.status == 1) = false := by simpa using hs1
          clear hlcs hmcs hr hh hhf HMC HLC HIC hlt hs1
          go_wp2
          go_quiet (fail)
          go_wp2
          go_roundw
          case rel => exact ⟨i + 1, m, by omega, by omega, rfl, by go_num, HM2, below_drewQ HB.out _⟩
          case measure => simp [intOf]; omega
    · have hmm : m = im := by
        have h1 := HM.out
        rw [hits_end (by have := HKL.out; omega) HTAB.out, HIML.out] at h1
        exact h1
      subst hmm
      have d1 : ((m : Int) == (m : Int)) = true := by simp
      go_wp2_with fail
      refine (tvalid_to (unload_tab HTAB.out) _ _ (HK.out.keep fun q hq => (B4.out.trans (HB.out.mono B4.out.size)).block q hq) (B4.out.trans (HB.out.mono B4.out.size)).size (by have := H4.out.below HB.out; rw [unl_len HTAB.out, HKL.out] at this; exact this)).mono ?_
      rintro e w5 ⟨rfl, b5⟩
      have B5 := Lib.hid ((B4.out.trans (HB.out.mono B4.out.size)).trans (b5.mono (B4.out.trans (HB.out.mono B4.out.size)).size))
      clear b5
      go_wp2_with fail
      refine (sane_any _ (HK.out.keep fun q hq => B5.out.block q hq) B5.out.size).mono ?_
      rintro e w6 ⟨rfl, b6⟩
      have B6 := Lib.hid (B5.out.trans (b6.mono B5.out.size))
      clear b6
      go_wp2
      go_ret
      exact ⟨rfl, B6.out⟩
end Go.Proofs.YtlchgbfpoaipgaaDoor

/- What the tied keywords give a law's walk. -/
namespace Go.Proofs.YtlchgbfpoaipgaaDoor
open Go.ChangeShapes Go.WideShapes Go.ChangeAt Go.WideMaps Go.WideElems Go.ChangeMaps Go.Deep Go.RowKit

theorem own : ownKnob Tryd.prog.godebug = none := by kernel_rfl
theorem gKw : Tryd.prog.globalNamed "flowquery/lexer.keywords" = some 0 := by kernel_rfl
theorem tKw : (Tryd.prog.globals[0]?).map (·.type) = some 48 := by kernel_rfl
theorem cStr : Tryd.prog.cellsOf 9 = 1 := by kernel_rfl
theorem cInt : Tryd.prog.cellsOf 3 = 1 := by kernel_rfl
def laid1 : List (String × DataW Unit) := [("flowquery/lexer.keywords", Rows.laid_flowquery_lexer_keywords)]

/-- The door's own heap meets the condition. -/
theorem door_met (os : Os) (args : Array Value) : laidMetH Tryd.prog laid1 ((World.doorLaid Tryd.prog 400 os).forCall (fun _ _ => 0) ⟨#[], args, []⟩).memory :=
  laidMetH_of_parts3 (fuel := 8) (laidMet_of_run' 8 (by kernel_rfl) (by kernel_rfl)) (by kernel_rfl) (by kernel_rfl)

theorem cell_lt {w : World} {b o : Nat} {v : Value} (h : w.cell? ⟨b, o, none⟩ = some v) : b < w.heap.size := by
  rcases Nat.lt_or_ge b w.heap.size with h' | h'
  · exact h'
  · simp [World.cell?, Array.getElem?_eq_none h'] at h

/-- What the condition gives the walk. -/
theorem of_laid {W : World} (h : laidMetH Tryd.prog laid1 W) : KwIn W.heap.size W := by
  rw [MakeChecks.laidMetH_plain _ _ _ (by kernel_rfl)] at h
  obtain ⟨ps, ⟨g0, t0, cs0, f0, p0, q0, hg0, ht0, hv0, hd0, _⟩, _, _⟩ := h
  obtain rfl := Option.some.inj (gKw.symm.trans hg0)
  obtain rfl := Option.some.inj (tKw.symm.trans ht0)
  rcases open_strs Tryd.underlying48 Tryd.underlying9 cStr hd0 with ⟨_, hx⟩ | ⟨a, len, cap, m, Sx, hcs, _, hl1, hl2, hm, hx, hcell⟩
  · simp [Rows.laid_flowquery_lexer_keywords] at hx
  simp only [Prod.mk.injEq] at hx
  have hK : kws.map (fun l => (DataW.lit (.string l) : DataW Unit)) = (List.range len).map fun i => .lit (.string (Sx i).data.toList) := by
    have h1 := hx.1
    have h2 : (Rows.laid_flowquery_lexer_keywords : DataW Unit) = .slice (kws.map fun l => .lit (.string l)) [] := rfl
    rw [h2] at h1
    injection h1 with h1 _
  have hlen : len = 11 := by
    have := congrArg List.length hK
    simp at this
    rw [← this]; rfl
  have hm2 : len ≤ m := by rw [hm]; split <;> omega
  have hc0 : W.cell? ⟨0, 0, none⟩ = some (.slice (some a) len cap) := by
    have := World.var?_cell hg0 hv0 0
    rw [Array.eq_one_of_toList hcs] at this
    simpa using this
  obtain ⟨b, off, spot⟩ := a
  have h00 := (hcell 0 (by omega)).1
  have hspot : spot = none := by simpa [Addr.add] using World.cell?_spot h00
  subst hspot
  subst hlen
  refine ⟨by have := cell_lt hc0; omega, b, off, cap, ?_, hc0, fun k s hk => ⟨b, off, rfl, ?_⟩⟩
  · rw [add_plain] at h00
    exact cell_lt h00
  · have hk2 : k < 11 := by
      have := (List.getElem?_eq_some_iff.1 hk).1
      exact this
    have h1 := congrArg (·[k]?) hK
    simp only [List.getElem?_map, hk, List.getElem?_range hk2, Option.map_some, Option.some.injEq, DataW.lit.injEq, Lit.string.injEq] at h1
    have h2 := (hcell k (by omega)).1
    rw [add_plain] at h2
    rw [h2, h1]

end Go.Proofs.YtlchgbfpoaipgaaDoor

namespace Go.Proofs.YtlchgbfpoaipgaaDoor.queriesUnload
open Go.ChangeShapes Go.WideShapes Go.ChangeAt Go.WideMaps Go.WideElems Go.ChangeMaps Go.Deep Go.RowKit

set_option maxRecDepth 100000 in
set_option maxHeartbeats 1000000 in
theorem lifted (os : Os) (started : os.Started) (H : Type) (enc : TypeId × Value → H) :
    ReturnsInHanded {} Tryd.checked os 6 .any (fun w args => (Rows.queriesUnloadSpec.pre enc Tryd.prog Tryd.f6 [] false w args ∧ laidMetH Tryd.prog laid1 w) ∧ sizedMet enc Tryd.prog Tryd.f6 (OpenSpec.ofChange Rows.queriesUnloadSpec) false w args)
      (Rows.queriesUnloadSpec.post enc Tryd.prog Tryd.f6 false true false false) := by
  refine returnsInHanded_of_change_and (C := Tryd.checked) (X := fun w _ => laidMetH Tryd.prog laid1 w) (fun _ _ _ hh h => h.of_heap hh) own started (by kernel_rfl) Tryd.func6
    (ChangeSpec.witness_shaped (enc := enc) (C := Tryd.checked) (os := os) (X := fun w _ => laidMetH Tryd.prog laid1 w) false (World.doorLaid Tryd.prog 400 os) #[.slice none 0 0] 8 rfl (World.shaped_of_RefB (by kernel_rfl) (by kernel_rfl)) (by kernel_rfl) (by kernel_rfl) (by kernel_rfl) (door_met os _)) ?_
  intro W base args ds gs before hval0 hW _ _ hL _
  have hval : ∀ (j : Nat) t v, Tryd.f6.params[j]? = some t → args[j]? = some v → Value.okWide Tryd.prog W .any base t v := hval0
  have hW' := hW
  have hlt := hW.lt
  obtain ⟨p, q, hA0, hV, rfl, hfz, hnd⟩ := hW
  have hA : DataW.TrodAll enc Tryd.prog W 0 (fun _ => true) true Tryd.f6.params.toList args.toList ds p := hA0
  rw [Tryd.params6] at hA hval
  obtain ⟨v0, d0, rfl, rfl, h0⟩ := trodAll_one hA
  obtain ⟨rfl, rfl⟩ := trodVars_none hV
  obtain ⟨a0, len0, cap0, rfl⟩ := okWide_slice Tryd.underlying35 (hval 0 35 v0 rfl rfl)
  have K := of_laid hL
  have keep : ∀ W' : World, Below W.heap.size W W' → Rows.queriesUnloadSpec.post enc Tryd.prog Tryd.f6 false true false false W #[.slice a0 len0 cap0] (.bool true) W' := by
    intro W' bel
    have h0' := Below.trod (P := Tryd.prog) (by kernel_rfl) (by kernel_rfl) (by decide +kernel) h0 bel (fun x hx => hlt x (by simp [hx]))
    exact ⟨_, _, _, [], _, [], hW', trodAll_mk1 (shut_bool Tryd.underlying4 _), trodAll_mk1 h0', rfl, bel.frame _, fun h => by cases h⟩
  obtain ⟨fuel, hf⟩ := h0
  rcases open_ints Tryd.underlying35 Tryd.underlying3 cInt hf with ⟨hcs, _⟩ | ⟨a, len, cap, zs, hcs, _, hl1, hl2, hz, _, hcell, _⟩
  · have hcs' : [Value.slice a0 len0 cap0] = _ := hcs
    injection hcs' with hcs' _
    injection hcs' with e1 e2 e3
    subst e1 e2 e3
    refine (unloadLaw_any W none 0 0 (Nat.zero_le _) (fun j hj => by omega) K).mono fun e W' ⟨he, bel⟩ => ?_
    subst he
    exact ⟨_, rfl, keep W' bel⟩
  · have hcs' : [Value.slice a0 len0 cap0] = _ := hcs
    injection hcs' with hcs' _
    injection hcs' with e1 e2 e3
    subst e1 e2 e3
    refine (unloadLaw_any W (some a) len0 cap0 (by omega) (fun j hj => ?_) K).mono fun e W' ⟨he, bel⟩ => ?_
    · have hlz : len0 ≤ zs.length := by rw [hz]; split <;> omega
      obtain ⟨b, off, rfl, hc⟩ := ints_at hcell (by omega)
      exact ⟨b, off, _, rfl, cell_lt (hc j (by omega)), hc j (by omega)⟩
    · subst he
      exact ⟨_, rfl, keep W' bel⟩

theorem over : Rows.QueriesUnloadSaid :=
  OpenClaim.holds_of_wide 6 Tryd.f6 rfl rfl rfl rfl rfl rfl rfl ⟨rfl, rfl, rfl, rfl, rfl⟩ rfl rfl rfl rfl rfl (by kernel_rfl) Tryd.func6 (by kernel_rfl)
    (of_decide_eq_true (by kernel_rfl)) (by unfold Func.isWrapper; first | (rw [if_pos (by decide +kernel)]; kernel_rfl) | (rw [if_neg (by decide +kernel)]; exact ⟨rfl, rfl⟩))
    (fun os started H enc _ => lifted os started H enc)
end Go.Proofs.YtlchgbfpoaipgaaDoor.queriesUnload
namespace Go.Proofs.YtlchgbfpoaipgaaDoor
open Go
/-- THE STATEMENT: the tied card. -/
theorem queriesUnload_card_holds : Rows.QueriesUnloadCardSaid :=
  Claim7.holds_tied_plain_at .later [] [.widerDeep] true Rows.queriesUnloadCard.stood.harness false
    queriesUnload.over (fun _ h => by cases h) (by kernel_rfl) (fun _ h => by cases h) queriesUnload_row_tie rfl ⟨rfl, rfl⟩ (by kernel_rfl) rfl
    (fun f fn hf hfn => by
      obtain rfl : f = 6 := Option.some.inj ((show Tryd.prog.funcNamed "flowquery/flqlaw24.QueriesUnload" = some 6 by kernel_rfl).symm.trans hf) |>.symm
      obtain rfl : fn = Tryd.f6 := (Option.some.inj (Tryd.func6.symm.trans hfn)).symm
      exact ⟨by kernel_rfl, fun j t ht => by
        rw [Tryd.params6] at ht
        rcases j with _ | j
        · obtain rfl : t = 35 := by simpa using ht.symm
          exact (show Tryd.prog.wantsStandIn 35 = false by kernel_rfl)
        · simp at ht⟩)
    (by kernel_rfl)
#print axioms queriesUnload_card_holds
end Go.Proofs.YtlchgbfpoaipgaaDoor

