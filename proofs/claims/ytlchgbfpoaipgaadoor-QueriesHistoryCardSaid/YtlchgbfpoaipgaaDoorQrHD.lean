/- 'flqlaw24.QueriesHistory' returns true at every input: a table remembers as many queries as permitted, and no more. The keywords' variable holds what the program's text lays (the given tie). No condition beyond the statement's own. -/
import Derived.Test.YtlchgbfpoaipgaaDoorDec
import Derived.Test.YtlchgbfpoaipgaaDoorQrS
import Derived.Test.YtlchgbfpoaipgaaDoorKw
import Derived.Test.YtlchgbfpoaipgaaDoorCards
import Derived.Test.YtlchgbfpoaipgaaDoorTie
import Derived.ProofKit
import Derived.LaidMore
import Derived.OpenShut
import Derived.Carry
import Derived.Deep.Strs
import Derived.ChangeMaps5
import Derived.ChangeOld
import Derived.Stop.Joined
import Derived.SevenTiedAt
set_option linter.unusedVariables false
set_option linter.unusedSimpArgs false
/- The law QueriesHistory: the walk. Printed by wip/gen_qrl2.py. -/
namespace Go.Proofs.YtlchgbfpoaipgaaDoor
open Go.RowKit

theorem decF_len : ∀ (f n : Nat), (decF f n).length ≤ f
  | 0, _ => by simp [decF]
  | f + 1, n => by
    have := decF_len f (n / 10)
    unfold decF
    split <;> simp <;> omega
theorem hist_go {i : Nat} (h : i < 64) : submitQ (histQ i) (hrec i) 100 = (histQ (i + 1), 0) := by
  have h1 := List.all_eq_true.1 hist_step i (List.mem_range.2 h)
  exact of_decide_eq_true h1
theorem hist_len (i : Nat) : (histQ i).length = i := by unfold histQ; simp
theorem pending_to {l : List QRec} {n : Nat} (hn : pend l = n) (v : Value) (w : World) (h : RecsAt w v l) : Calls Tryd.prog 10 #[v] w (IntQ n w) := hn ▸ pending_any l v w h
def HistR (w0 : World) (N : Nat) (y3 y5 : Value) (wr : World) : Prop := ∃ (i : Nat) (v : Value), i ≤ N ∧ i ≤ 64 ∧ v = y3 ∧ y5 = .int .i64 i ∧ Hid (Below w0.heap.size w0 wr ∧ RecsAt wr v (histQ i))
theorem sub_hist {B i : Nat} {d : Str} {m : List QRec} {e : Int} (hd : dec10 i = d) (hq : submitQ (histQ i) (hrec i) 100 = (m, e)) (v : Value) (w : World) (KW : KwIn B w) (hB : B ≤ w.heap.size) (h : RecsAt w v (histQ i)) :
    Calls Tryd.prog 7 #[v, .agg #[.string ⟨(113 :: d).toArray⟩, .int .i64 0, .int .i64 1, .int .i64 0, .int .i64 0, .int .i64 0, .int .i64 0, .slice none 0 0], .int .i64 100] w (TabQ (m, e) w) := by
  have k := submit_to (B := B) (r := hrec i) hq v (.slice none 0 0) w KW hB h WordsAt.nil
  unfold hrec at k
  rw [hd] at k
  exact k
set_option maxHeartbeats 2000000 in
theorem history0 (w0 : World) (z : Int) (hz1 : 0 ≤ z) (hz2 : z ≤ 255) (hz : z % 3 = 0) (KW : KwIn w0.heap.size w0) :
    Calls Tryd.prog 3 #[.int .u8 z] w0 (BoolQ true w0) := by
  have HK := Lib.hid KW
  have happ := app_qs
  have hud : ∀ b : Bool, (undef = Value.bool b) = False := fun b => by simp [undef]
  clear KW
  go_enter Tryd.func3, Tryd.ntmps3
  go_wp2
  clear hz
  go_loopw [3, 5] (fun y3 y5 wr => HistR w0 63 y3 y5 wr) (fun _ y _ => 63 - (intOf y).toNat)
  case atStart => exact ⟨0, _, by omega, by omega, rfl, rfl, Below.refl _ _, RecsAt.nil⟩
  case round =>
    obtain ⟨i, v, hi, hi2, rfl, rfl, HI⟩ := hrel
    by_cases hlt : i < 63
    · have h64 : i < 64 := by omega
      go_wp2_with fail
      refine (decimal_any i (by omega) _).mono ?_
      rintro e w1 ⟨rfl, rfl⟩
      obtain ⟨d, hd⟩ : ∃ d, dec10 i = d := ⟨_, rfl⟩
      rw [hd]
      have hdl : d.length ≤ 20 := by rw [← hd]; exact decF_len 20 i
      have HD := Lib.hid hd
      clear hd
      go_wp2_with fail
      refine (sub_hist (B := w0.heap.size) HD.out (hist_go h64) v _ (HK.out.keep fun q hq => HI.out.1.block q hq) HI.out.1.size HI.out.2).mono ?_
      rintro e w2 ⟨v2, rfl, h2, b2⟩
      have HN := Lib.hid (And.intro (HI.out.1.trans (b2.mono HI.out.1.size)) h2)
      clear h2 b2
      have hge : ¬ (64 : Int) ≤ (i : Int) := by omega
      go_wp2
      go_roundw
      case rel => exact ⟨i + 1, _, by omega, by omega, rfl, by go_num, HN.out⟩
      case measure => simp [intOf]; omega
    · have HE : Hid (i = 63) := (show i = 63 by omega)
      obtain ⟨a, c, rfl⟩ := HI.out.2.len (hist_len i)
      have hp := pending_to (show pend (histQ i) = 63 by rw [HE.out]; exact hist_pend.1) _ _ HI.out.2
      have HP := Lib.hid hp
      clear hp
      go_wp2_with fail
      refine HP.out.mono ?_
      rintro e w2 ⟨rfl, b2⟩
      have HN := Lib.hid (HI.out.1.trans (b2.mono HI.out.1.size))
      clear b2
      go_wp2_with fail
      refine (sane_any _ (HK.out.keep fun q hq => HN.out.block q hq) HN.out.size).mono ?_
      rintro e w6 ⟨rfl, b6⟩
      have B6 := Lib.hid (HN.out.trans (b6.mono HN.out.size))
      clear b6
      go_wp2
      go_ret
      exact ⟨rfl, B6.out⟩
set_option maxHeartbeats 2000000 in
theorem history1 (w0 : World) (z : Int) (hz1 : 0 ≤ z) (hz2 : z ≤ 255) (hz : z % 3 = 1) (KW : KwIn w0.heap.size w0) :
    Calls Tryd.prog 3 #[.int .u8 z] w0 (BoolQ true w0) := by
  have HK := Lib.hid KW
  have happ := app_qs
  have hud : ∀ b : Bool, (undef = Value.bool b) = False := fun b => by simp [undef]
  clear KW
  go_enter Tryd.func3, Tryd.ntmps3
  go_wp2
  clear hz
  go_loopw [3, 5] (fun y3 y5 wr => HistR w0 64 y3 y5 wr) (fun _ y _ => 64 - (intOf y).toNat)
  case atStart => exact ⟨0, _, by omega, by omega, rfl, rfl, Below.refl _ _, RecsAt.nil⟩
  case round =>
    obtain ⟨i, v, hi, hi2, rfl, rfl, HI⟩ := hrel
    by_cases hlt : i < 64
    · have h64 : i < 64 := by omega
      go_wp2_with fail
      refine (decimal_any i (by omega) _).mono ?_
      rintro e w1 ⟨rfl, rfl⟩
      obtain ⟨d, hd⟩ : ∃ d, dec10 i = d := ⟨_, rfl⟩
      rw [hd]
      have hdl : d.length ≤ 20 := by rw [← hd]; exact decF_len 20 i
      have HD := Lib.hid hd
      clear hd
      go_wp2_with fail
      refine (sub_hist (B := w0.heap.size) HD.out (hist_go h64) v _ (HK.out.keep fun q hq => HI.out.1.block q hq) HI.out.1.size HI.out.2).mono ?_
      rintro e w2 ⟨v2, rfl, h2, b2⟩
      have HN := Lib.hid (And.intro (HI.out.1.trans (b2.mono HI.out.1.size)) h2)
      clear h2 b2
      have hge : ¬ (64 : Int) ≤ (i : Int) := by omega
      go_wp2
      go_roundw
      case rel => exact ⟨i + 1, _, by omega, by omega, rfl, by go_num, HN.out⟩
      case measure => simp [intOf]; omega
    · have HE : Hid (i = 64) := (show i = 64 by omega)
      obtain ⟨a, c, rfl⟩ := HI.out.2.len (hist_len i)
      have hp := pending_to (show pend (histQ i) = 64 by rw [HE.out]; exact hist_pend.2) _ _ HI.out.2
      have HP := Lib.hid hp
      clear hp
      go_wp2_with fail
      refine HP.out.mono ?_
      rintro e w2 ⟨rfl, b2⟩
      have HN := Lib.hid (HI.out.1.trans (b2.mono HI.out.1.size))
      clear b2
      go_wp2_with fail
      refine (sane_any _ (HK.out.keep fun q hq => HN.out.block q hq) HN.out.size).mono ?_
      rintro e w6 ⟨rfl, b6⟩
      have B6 := Lib.hid (HN.out.trans (b6.mono HN.out.size))
      clear b6
      go_wp2
      go_ret
      exact ⟨rfl, B6.out⟩
set_option maxHeartbeats 2000000 in
theorem history2 (w0 : World) (z : Int) (hz1 : 0 ≤ z) (hz2 : z ≤ 255) (hz : z % 3 = 2) (KW : KwIn w0.heap.size w0) :
    Calls Tryd.prog 3 #[.int .u8 z] w0 (BoolQ true w0) := by
  have HK := Lib.hid KW
  have happ := app_qs
  have hud : ∀ b : Bool, (undef = Value.bool b) = False := fun b => by simp [undef]
  clear KW
  go_enter Tryd.func3, Tryd.ntmps3
  go_wp2
  clear hz
  go_loopw [3, 5] (fun y3 y5 wr => HistR w0 65 y3 y5 wr) (fun _ y _ => 65 - (intOf y).toNat)
  case atStart => exact ⟨0, _, by omega, by omega, rfl, rfl, Below.refl _ _, RecsAt.nil⟩
  case round =>
    obtain ⟨i, v, hi, hi2, rfl, rfl, HI⟩ := hrel
    by_cases hlt : i < 65
    · by_cases h64 : i < 64
      · skip
        go_wp2_with fail
        refine (decimal_any i (by omega) _).mono ?_
        rintro e w1 ⟨rfl, rfl⟩
        obtain ⟨d, hd⟩ : ∃ d, dec10 i = d := ⟨_, rfl⟩
        rw [hd]
        have hdl : d.length ≤ 20 := by rw [← hd]; exact decF_len 20 i
        have HD := Lib.hid hd
        clear hd
        go_wp2_with fail
        refine (sub_hist (B := w0.heap.size) HD.out (hist_go h64) v _ (HK.out.keep fun q hq => HI.out.1.block q hq) HI.out.1.size HI.out.2).mono ?_
        rintro e w2 ⟨v2, rfl, h2, b2⟩
        have HN := Lib.hid (And.intro (HI.out.1.trans (b2.mono HI.out.1.size)) h2)
        clear h2 b2
        have hge : ¬ (64 : Int) ≤ (i : Int) := by omega
        go_wp2
        go_roundw
        case rel => exact ⟨i + 1, _, by omega, by omega, rfl, by go_num, HN.out⟩
        case measure => simp [intOf]; omega
      · have HE : Hid (i = 64) := (show i = 64 by omega)
        go_wp2_with fail
        refine (decimal_any i (by omega) _).mono ?_
        rintro e w1 ⟨rfl, rfl⟩
        obtain ⟨d, hd⟩ : ∃ d, dec10 i = d := ⟨_, rfl⟩
        rw [hd]
        have hdl : d.length ≤ 20 := by rw [← hd]; exact decF_len 20 i
        have HD := Lib.hid hd
        clear hd
        go_wp2_with fail
        refine (sub_hist (B := w0.heap.size) (i := i) (m := []) (e := 7) HD.out (by rw [HE.out]; exact hist_full) v _ (HK.out.keep fun q hq => HI.out.1.block q hq) HI.out.1.size HI.out.2).mono ?_
        rintro e w2 ⟨v2, rfl, h2, b2⟩
        have HN := Lib.hid (HI.out.1.trans (b2.mono HI.out.1.size))
        clear h2 b2
        have hge : (64 : Int) ≤ (i : Int) := by omega
        go_wp2_with fail
        refine (sane_any _ (HK.out.keep fun q hq => HN.out.block q hq) HN.out.size).mono ?_
        rintro e w6 ⟨rfl, b6⟩
        have B6 := Lib.hid (HN.out.trans (b6.mono HN.out.size))
        clear b6
        go_wp2
        go_ret
        exact ⟨rfl, B6.out⟩
    · exfalso; omega
theorem historyLaw_any (w0 : World) (z : Int) (hz1 : 0 ≤ z) (hz2 : z ≤ 255) (KW : KwIn w0.heap.size w0) : Calls Tryd.prog 3 #[.int .u8 z] w0 (BoolQ true w0) := by
  rcases (show z % 3 = 0 ∨ z % 3 = 1 ∨ z % 3 = 2 by omega) with h | h | h
  · exact history0 w0 z hz1 hz2 h KW
  · exact history1 w0 z hz1 hz2 h KW
  · exact history2 w0 z hz1 hz2 h KW
end Go.Proofs.YtlchgbfpoaipgaaDoor

/- What the tied keywords give a law's walk. -/
namespace Go.Proofs.YtlchgbfpoaipgaaDoor
open Go.ChangeShapes Go.WideShapes Go.ChangeAt Go.WideMaps Go.WideElems Go.ChangeMaps Go.Deep Go.RowKit

theorem own : ownKnob Tryd.prog.godebug = none := by kernel_rfl
theorem gKw : Tryd.prog.globalNamed "flowquery/lexer.keywords" = some 0 := by kernel_rfl
theorem tKw : (Tryd.prog.globals[0]?).map (·.type) = some 48 := by kernel_rfl
theorem cStr : Tryd.prog.cellsOf 9 = 1 := by kernel_rfl
theorem cInt : Tryd.prog.cellsOf 3 = 1 := by kernel_rfl
def laid1 : List (String × DataW Unit) := [("flowquery/lexer.keywords", Rows.laid_flowquery_lexer_keywords)]

/-- The door's own heap meets the condition. -/
theorem door_met (os : Os) (args : Array Value) : laidMetH Tryd.prog laid1 ((World.doorLaid Tryd.prog 400 os).forCall (fun _ _ => 0) ⟨#[], args, []⟩).memory :=
  laidMetH_of_parts3 (fuel := 8) (laidMet_of_run' 8 (by kernel_rfl) (by kernel_rfl)) (by kernel_rfl) (by kernel_rfl)

theorem cell_lt {w : World} {b o : Nat} {v : Value} (h : w.cell? ⟨b, o, none⟩ = some v) : b < w.heap.size := by
  rcases Nat.lt_or_ge b w.heap.size with h' | h'
  · exact h'
  · simp [World.cell?, Array.getElem?_eq_none h'] at h

/-- What the condition gives the walk. -/
theorem of_laid {W : World} (h : laidMetH Tryd.prog laid1 W) : KwIn W.heap.size W := by
  rw [MakeChecks.laidMetH_plain _ _ _ (by kernel_rfl)] at h
  obtain ⟨ps, ⟨g0, t0, cs0, f0, p0, q0, hg0, ht0, hv0, hd0, _⟩, _, _⟩ := h
  obtain rfl := Option.some.inj (gKw.symm.trans hg0)
  obtain rfl := Option.some.inj (tKw.symm.trans ht0)
  rcases open_strs Tryd.underlying48 Tryd.underlying9 cStr hd0 with ⟨_, hx⟩ | ⟨a, len, cap, m, Sx, hcs, _, hl1, hl2, hm, hx, hcell⟩
  · simp [Rows.laid_flowquery_lexer_keywords] at hx
  simp only [Prod.mk.injEq] at hx
  have hK : kws.map (fun l => (DataW.lit (.string l) : DataW Unit)) = (List.range len).map fun i => .lit (.string (Sx i).data.toList) := by
    have h1 := hx.1
    have h2 : (Rows.laid_flowquery_lexer_keywords : DataW Unit) = .slice (kws.map fun l => .lit (.string l)) [] := rfl
    rw [h2] at h1
    injection h1 with h1 _
  have hlen : len = 11 := by
    have := congrArg List.length hK
    simp at this
    rw [← this]; rfl
  have hm2 : len ≤ m := by rw [hm]; split <;> omega
  have hc0 : W.cell? ⟨0, 0, none⟩ = some (.slice (some a) len cap) := by
    have := World.var?_cell hg0 hv0 0
    rw [Array.eq_one_of_toList hcs] at this
    simpa using this
  obtain ⟨b, off, spot⟩ := a
  have h00 := (hcell 0 (by omega)).1
  have hspot : spot = none := by simpa [Addr.add] using World.cell?_spot h00
  subst hspot
  subst hlen
  refine ⟨by have := cell_lt hc0; omega, b, off, cap, ?_, hc0, fun k s hk => ⟨b, off, rfl, ?_⟩⟩
  · rw [add_plain] at h00
    exact cell_lt h00
  · have hk2 : k < 11 := by
      have := (List.getElem?_eq_some_iff.1 hk).1
      exact this
    have h1 := congrArg (·[k]?) hK
    simp only [List.getElem?_map, hk, List.getElem?_range hk2, Option.map_some, Option.some.injEq, DataW.lit.injEq, Lit.string.injEq] at h1
    have h2 := (hcell k (by omega)).1
    rw [add_plain] at h2
    rw [h2, h1]

end Go.Proofs.YtlchgbfpoaipgaaDoor

namespace Go.Proofs.YtlchgbfpoaipgaaDoor.queriesHistory
open Go.ChangeShapes Go.WideShapes Go.ChangeAt Go.WideMaps Go.WideElems Go.ChangeMaps Go.Deep Go.RowKit

set_option maxRecDepth 100000 in
set_option maxHeartbeats 1000000 in
theorem lifted (os : Os) (started : os.Started) (H : Type) (enc : TypeId × Value → H) :
    ReturnsInHanded {} Tryd.checked os 3 .any (fun w args => (Rows.queriesHistorySpec.pre enc Tryd.prog Tryd.f3 [] false w args ∧ laidMetH Tryd.prog laid1 w) ∧ sizedMet enc Tryd.prog Tryd.f3 (OpenSpec.ofChange Rows.queriesHistorySpec) false w args)
      (Rows.queriesHistorySpec.post enc Tryd.prog Tryd.f3 false true false false) := by
  refine returnsInHanded_of_change_and (C := Tryd.checked) (X := fun w _ => laidMetH Tryd.prog laid1 w) (fun _ _ _ hh h => h.of_heap hh) own started (by kernel_rfl) Tryd.func3
    (ChangeSpec.witness_shaped (enc := enc) (C := Tryd.checked) (os := os) (X := fun w _ => laidMetH Tryd.prog laid1 w) false (World.doorLaid Tryd.prog 400 os) #[.int .u8 0] 8 rfl (World.shaped_of_RefB (by kernel_rfl) (by kernel_rfl)) (by kernel_rfl) (by kernel_rfl) (by kernel_rfl) (door_met os _)) ?_
  intro W base args ds gs before hval0 hW _ _ hL _
  have hval : ∀ (j : Nat) t v, Tryd.f3.params[j]? = some t → args[j]? = some v → Value.okWide Tryd.prog W .any base t v := hval0
  have hW' := hW
  have hlt := hW.lt
  obtain ⟨p, q, hA0, hV, rfl, hfz, hnd⟩ := hW
  have hA : DataW.TrodAll enc Tryd.prog W 0 (fun _ => true) true Tryd.f3.params.toList args.toList ds p := hA0
  rw [Tryd.params3] at hA hval
  obtain ⟨v0, d0, rfl, rfl, h0⟩ := trodAll_one hA
  obtain ⟨rfl, rfl⟩ := trodVars_none hV
  obtain ⟨z0, rfl, rfl, rfl, wf0⟩ := open_int Tryd.underlying5 (hval 0 5 v0 rfl rfl) h0
  have hz0 : 0 ≤ z0 ∧ z0 ≤ 255 := by simpa [Lit.wf, IntKind.min, IntKind.max, IntKind.signed, IntKind.bits] using wf0
  have K := of_laid hL
  have keep : ∀ W' : World, Below W.heap.size W W' → Rows.queriesHistorySpec.post enc Tryd.prog Tryd.f3 false true false false W #[.int .u8 z0] (.bool true) W' := by
    intro W' bel
    have h0' := Below.trod (P := Tryd.prog) (by kernel_rfl) (by kernel_rfl) (by decide +kernel) h0 bel (fun x hx => by cases hx)
    exact ⟨_, _, _, [], _, [], hW', trodAll_mk1 (shut_bool Tryd.underlying4 _), trodAll_mk1 h0', rfl, bel.frame _, fun h => by cases h⟩
  refine (historyLaw_any W z0 hz0.1 hz0.2 K).mono fun e W' ⟨he, bel⟩ => ?_
  subst he
  exact ⟨_, rfl, keep W' bel⟩

theorem over : Rows.QueriesHistorySaid :=
  OpenClaim.holds_of_wide 3 Tryd.f3 rfl rfl rfl rfl rfl rfl rfl ⟨rfl, rfl, rfl, rfl, rfl⟩ rfl rfl rfl rfl rfl (by kernel_rfl) Tryd.func3 (by kernel_rfl)
    (of_decide_eq_true (by kernel_rfl)) (by unfold Func.isWrapper; first | (rw [if_pos (by decide +kernel)]; kernel_rfl) | (rw [if_neg (by decide +kernel)]; exact ⟨rfl, rfl⟩))
    (fun os started H enc _ => lifted os started H enc)
end Go.Proofs.YtlchgbfpoaipgaaDoor.queriesHistory
namespace Go.Proofs.YtlchgbfpoaipgaaDoor
open Go
/-- THE STATEMENT: the tied card. -/
theorem queriesHistory_card_holds : Rows.QueriesHistoryCardSaid :=
  Claim7.holds_tied_plain_at .later [] [.widerDeep] true Rows.queriesHistoryCard.stood.harness false
    queriesHistory.over (fun _ h => by cases h) (by kernel_rfl) (fun _ h => by cases h) queriesHistory_row_tie rfl ⟨rfl, rfl⟩ (by kernel_rfl) rfl
    (fun f fn hf hfn => by
      obtain rfl : f = 3 := Option.some.inj ((show Tryd.prog.funcNamed "flowquery/flqlaw24.QueriesHistory" = some 3 by kernel_rfl).symm.trans hf) |>.symm
      obtain rfl : fn = Tryd.f3 := (Option.some.inj (Tryd.func3.symm.trans hfn)).symm
      exact ⟨by kernel_rfl, fun j t ht => by
        rw [Tryd.params3] at ht
        rcases j with _ | j
        · obtain rfl : t = 5 := by simpa using ht.symm
          exact (show Tryd.prog.wantsStandIn 5 = false by kernel_rfl)
        · simp at ht⟩)
    (by kernel_rfl)
#print axioms queriesHistory_card_holds
end Go.Proofs.YtlchgbfpoaipgaaDoor

