/- Walks: flqlaw30.config, sane. Printed by wip/gen_ausn.py. -/
import Derived.Test.YtbgoogjhgeoapaaAuC
import Derived.Test.YtbgoogjhgeoapaaMem2
import Derived.BigQuiet
import Derived.Deep.Cut
import Derived.Deep.QuietTactic
set_option linter.unusedVariables false
set_option linter.unusedSimpArgs false
set_option linter.unusedSectionVars false
namespace Go.Proofs.Ytbgoogjhgeoapaa
open Go.RowKit
variable [Base]

def c0V : CV := ⟨2, 3, 0, 40, 60, 4, 1000⟩
def l1V : List TV := [⟨1, 4, 4, 4, false⟩, ⟨2, 4, 4, 4, false⟩, ⟨1, 4, 4, 4, false⟩, ⟨1, 4, 4, 4, false⟩]
def l2V : List TV := [⟨1, 4, 4, 4, false⟩, ⟨1, 0, 1, 1, false⟩]
theorem aud1 : auditT c0V l1V = (3, 15) := by decide +kernel
theorem aud2 : auditT c0V l2V = (1, 15) := by decide +kernel
theorem aud3 : auditT c0V [] = (0, 0) := by decide +kernel
set_option maxHeartbeats 1000000 in
theorem sconfig_any (w : World) : Calls Try.prog 23 #[] w fun e w' => e = .returned (.agg #[iv 2, iv 3, iv 0, iv 40, iv 60, iv 4, iv 1000]) ∧ Below w.heap.size w w' := by
  go_enter Try.func23, Try.ntmps23
  go_wp2
  have hb := heap_alloc_new w (.cells #[iv 2, iv 3, iv 0, iv 40, iv 60, iv 4, iv 1000] 26)
  have hc0 := fun j => (lies_cells hb).1 j
  have c0 := hc0 0
  have c1 := hc0 1
  have c2 := hc0 2
  have c3 := hc0 3
  have c4 := hc0 4
  have c5 := hc0 5
  have c6 := hc0 6
  simp only [List.getElem?_toArray, List.getElem?_cons_zero, List.getElem?_cons_succ] at c0 c1 c2 c3 c4 c5 c6
  refine bodyPost_ret (v := .agg #[iv 2, iv 3, iv 0, iv 40, iv 60, iv 4, iv 1000]) (by simp [results, Try.results23, go_sem, c0, c1, c2, c3, c4, c5, c6]) rfl ⟨rfl, (Below.refl _ _).alloc (Nat.le_refl _) _⟩
theorem check_at {c : CV} {l : List TV} {p : Int × Int} (hp : auditT c l = p) (v : Value) (w : World) (h : TurnsAt w v l) : Calls Try.prog 9 #[cfgV c, v] w (PairQ p w) := hp ▸ check_any c l v w h
set_option maxRecDepth 100000 in
set_option maxHeartbeats 4000000 in
theorem sane_any (w : World) : Calls Try.prog 10 #[] w (BoolQ true w) := by
  obtain ⟨W, hW⟩ : ∃ W, (w.alloc (.cells #[iv 1, iv 4, iv 4, iv 4, .bool false, iv 2, iv 4, iv 4, iv 4, .bool false, iv 1, iv 4, iv 4, iv 4, .bool false, iv 1, iv 4, iv 4, iv 4, .bool false] 53)).alloc (.cells #[iv 1, iv 4, iv 4, iv 4, .bool false, iv 1, iv 0, iv 1, iv 1, .bool false] 53) = W := ⟨_, rfl⟩
  have BW := Lib.hid (show Below w.heap.size w W by rw [← hW]; exact ((Below.refl _ _).alloc (Nat.le_refl _) _).alloc (by simp) _)
  have H1 := Lib.hid (show TurnsAt W (.slice (some ⟨w.heap.size, 0, none⟩) 4 4) l1V by
    rw [← hW]
    exact (SliceAt.same (SliceAt.new (w := w) (T := 53) (sz := 5) ((l1V.map turnC).flatten) 4 rfl (by decide)) SameT.alloc))
  have H2 := Lib.hid (show TurnsAt W (.slice (some ⟨w.heap.size + 1, 0, none⟩) 2 2) l2V by
    rw [← hW]
    have h := SliceAt.new (w := w.alloc (.cells #[iv 1, iv 4, iv 4, iv 4, .bool false, iv 2, iv 4, iv 4, iv 4, .bool false, iv 1, iv 4, iv 4, iv 4, .bool false, iv 1, iv 4, iv 4, iv 4, .bool false] 53)) (T := 53) (sz := 5) ((l2V.map turnC).flatten) 2 rfl (by decide)
    rw [show (w.alloc (.cells #[iv 1, iv 4, iv 4, iv 4, .bool false, iv 2, iv 4, iv 4, iv 4, .bool false, iv 1, iv 4, iv 4, iv 4, .bool false, iv 1, iv 4, iv 4, iv 4, .bool false] 53)).heap.size = w.heap.size + 1 by simp] at h
    exact h)
  have K1 := Lib.hid (fun (w' : World) (h : TurnsAt w' (.slice (some ⟨w.heap.size, 0, none⟩) 4 4) l1V) => (show Calls Try.prog 9 #[.agg #[iv 2, iv 3, iv 0, iv 40, iv 60, iv 4, iv 1000], .slice (some ⟨w.heap.size, 0, none⟩) 4 4] w' (PairQ (3, 15) w') from check_at aud1 _ w' h))
  have K2 := Lib.hid (fun (w' : World) (h : TurnsAt w' (.slice (some ⟨w.heap.size + 1, 0, none⟩) 2 2) l2V) => (show Calls Try.prog 9 #[.agg #[iv 2, iv 3, iv 0, iv 40, iv 60, iv 4, iv 1000], .slice (some ⟨w.heap.size + 1, 0, none⟩) 2 2] w' (PairQ (1, 15) w') from check_at aud2 _ w' h))
  have K3 := Lib.hid (fun (w' : World) => (show Calls Try.prog 9 #[.agg #[iv 2, iv 3, iv 0, iv 40, iv 60, iv 4, iv 1000], .slice none 0 0] w' (PairQ (0, 0) w') from check_at aud3 _ w' TurnsAt.nil))
  have HW := Lib.hid hW
  have HB0 := Lib.hid (Below.refl W.heap.size W)
  clear hW
  go_enter Try.func10, Try.ntmps10
  go_upto_region 3 with (fail)
  rw [show (w.alloc (.cells #[iv 1, iv 4, iv 4, iv 4, .bool false, iv 2, iv 4, iv 4, iv 4, .bool false, iv 1, iv 4, iv 4, iv 4, .bool false, iv 1, iv 4, iv 4, iv 4, .bool false] 53)).alloc (.cells #[iv 1, iv 4, iv 4, iv 4, .bool false, iv 1, iv 0, iv 1, iv 1, .bool false] 53) = W from HW.out]
  go_wp2_with first
    | (go_at_call 23; refine (sconfig_any _).mono ?_; rintro e w3 ⟨rfl, b3⟩; have HB1 := Lib.hid (HB0.out.trans (b3.mono HB0.out.size)); clear b3 HB0; have HB0 := HB1; clear HB1)
    | (go_at_call 9; (first | ((with_reducible refine (K1.out _ ?_).mono ?_); exact H1.out.below HB0.out) | ((with_reducible refine (K2.out _ ?_).mono ?_); exact H2.out.below HB0.out) | (with_reducible refine (K3.out _).mono ?_)); rintro e w4 ⟨rfl, b4⟩; have HB1 := Lib.hid (HB0.out.trans (b4.mono HB0.out.size)); clear b4 HB0; have HB0 := HB1; clear HB1)
  go_ret
  exact ⟨rfl, BW.out.trans (HB0.out.mono BW.out.size)⟩
end Go.Proofs.Ytbgoogjhgeoapaa
