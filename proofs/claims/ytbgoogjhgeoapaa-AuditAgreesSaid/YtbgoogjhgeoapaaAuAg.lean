/- Walks: flqlaw30.agrees. Printed by wip/gen_auag.py. -/
import Derived.Test.YtbgoogjhgeoapaaAuF4
import Derived.Test.YtbgoogjhgeoapaaAuC
import Derived.Test.YtbgoogjhgeoapaaAuE
import Derived.Test.YtbgoogjhgeoapaaAuW5
import Derived.BigQuiet
import Derived.Deep.Cut
import Derived.Deep.QuietTactic
set_option linter.unusedVariables false
set_option linter.unusedSimpArgs false
set_option linter.unusedSectionVars false
namespace Go.Proofs.Ytbgoogjhgeoapaa
open Go.RowKit
variable [Base]

set_option maxRecDepth 100000 in
set_option maxHeartbeats 4000000 in
theorem agrees_any (c : CV) (l : List TV) (a b : Int) (v : Value) (w : World) (h : TurnsAt w v l) (hbw : Base.b ≤ w.heap.size) : Calls Try.prog 13 #[cfgV c, v, iv a, iv b] w (BoolQ true w) := by
  have HT := Lib.hid h
  obtain ⟨r1, r2, hr⟩ : ∃ r1 r2, auditT c l = (r1, r2) := ⟨_, _, rfl⟩
  obtain ⟨s, hs⟩ : ∃ s, shareT l a b = s := ⟨_, rfl⟩
  have HCK := Lib.hid (fun (w' : World) (h : TurnsAt w' v l) => (show Calls Try.prog 9 #[.agg #[iv c.p, iv c.pe, iv c.me, iv c.no, iv c.ed, iv c.ba, iv c.ag], v] w' (PairQ (r1, r2) w') from by rw [← hr]; exact check_any c l v w' h))
  have HRK := Lib.hid (fun (w' : World) (h : TurnsAt w' v l) (hb : Base.b ≤ w'.heap.size) => (show Calls Try.prog 25 #[.agg #[iv c.p, iv c.pe, iv c.me, iv c.no, iv c.ed, iv c.ba, iv c.ag], v] w' (PairQ (r1, r2) w') from by rw [← hr, audit_eq]; exact rcheck_any c l v w' h hb))
  have HSH := Lib.hid (fun (w' : World) (h : TurnsAt w' v l) => (show Calls Try.prog 26 #[v, iv a, iv b] w' (IntQ s w') from by rw [← hs]; exact share_any l a b v w' h))
  have HRS := Lib.hid (fun (w' : World) (h : TurnsAt w' v l) => (show Calls Try.prog 27 #[v, iv a, iv b] w' (IntQ s w') from by rw [← hs]; exact rshare_any l a b v w' h))
  unfold cfgV
  obtain ⟨W, hW⟩ : ∃ W, w.alloc (.cells #[iv c.p, iv c.pe, iv c.me, iv c.no, iv c.ed, iv c.ba, iv c.ag] 26) = W := ⟨_, rfl⟩
  have HB := Lib.hid (show W.heap[w.heap.size]? = some (.cells #[iv c.p, iv c.pe, iv c.me, iv c.no, iv c.ed, iv c.ba, iv c.ag] 26 (0, 0)) by rw [← hW]; exact heap_alloc_new _ _)
  have BW := Lib.hid (show Below w.heap.size w W by rw [← hW]; exact (Below.refl _ _).alloc (Nat.le_refl _) _)
  have HW := Lib.hid hW
  obtain ⟨x0, x1, x2, x3, x4, x5, x6⟩ := cells7' HB.out
  have HBW := Lib.hid hbw
  have hmm1 : (r1 == r1) = true := by simp
  have hmm2 : (r2 == r2) = true := by simp
  have hmm3 : (s == s) = true := by simp
  clear h hr hs hW hbw
  go_enter Try.func13, Try.ntmps13
  go_upto_region 1 with (fail)
  rw [show w.alloc (.cells #[iv c.p, iv c.pe, iv c.me, iv c.no, iv c.ed, iv c.ba, iv c.ag] 26) = W from HW.out]
  go_wp2_with first
    | (go_at_call 9; refine (HCK.out _ (HT.out.below BW.out)).mono ?_; rintro e w1 ⟨rfl, b1⟩; have B1 := Lib.hid (BW.out.trans (b1.mono BW.out.size)); have HB1 := Lib.hid (lies_below HB.out b1 (lt_heap HB.out)); clear b1 x0 x1 x2 x3 x4 x5 x6; obtain ⟨x0, x1, x2, x3, x4, x5, x6⟩ := cells7' HB1.out)
    | (go_at_call 25; refine (HRK.out _ (HT.out.below B1.out) (Nat.le_trans HBW.out B1.out.size)).mono ?_; rintro e w2 ⟨rfl, b2⟩; have B2 := Lib.hid (B1.out.trans (b2.mono B1.out.size)); clear b2)
    | (go_at_call 26; refine (HSH.out _ (HT.out.below B2.out)).mono ?_; rintro e w3 ⟨rfl, b3⟩; have B3 := Lib.hid (B2.out.trans (b3.mono B2.out.size)); clear b3)
    | (go_at_call 27; refine (HRS.out _ (HT.out.below B3.out)).mono ?_; rintro e w4 ⟨rfl, b4⟩; have B4 := Lib.hid (B3.out.trans (b4.mono B3.out.size)); clear b4)
  go_ret
  exact ⟨rfl, B4.out⟩
end Go.Proofs.Ytbgoogjhgeoapaa
