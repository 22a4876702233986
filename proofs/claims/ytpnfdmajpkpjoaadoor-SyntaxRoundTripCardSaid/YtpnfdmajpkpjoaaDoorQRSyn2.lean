/- The reference's parser: isName. Printed by wip/gen_rsyn1.py. -/
import Derived.Test.YtpnfdmajpkpjoaaDoorQRSyn1
import Derived.Deep.RegionHeld3
set_option linter.unusedVariables false
set_option linter.unusedSimpArgs false
namespace Go.Proofs.YtpnfdmajpkpjoaaDoor.R
open Go.RowKit

set_option maxHeartbeats 2000000 in
theorem isName_in {B bp : Nat} {T : List Tok} {s : PS} {w : World} (h : PSt B bp T s w) (h0 : s.err = 0) {t : Tok} (ht : T[s.at_]? = some t)  :
    Calls Tryd.prog 79 #[.pointer (some ⟨bp, 0, none⟩)] w (SP B bp T s (.bool (isN T s)) w) := by
  have en : s.next T = t := by unfold PS.next; rw [if_pos h0, ht]; rfl
  unfold isN
  rw [en]
  clear en
  obtain ⟨a, c, hb, hT⟩ := h.blk
  have c0 := (blk_cells hb).1 0
  have c1 := (blk_cells hb).1 1
  have c2 := (blk_cells hb).1 2
  simp at c0 c1 c2
  have H := Lib.hid h
  have hin : s.at_ < T.length := (List.getElem?_eq_some_iff.1 ht).1
  obtain ⟨a', c', e1, hml, _, _, hcell⟩ := TokensAt.form hT
  injection e1 with e1 e2 e3
  subst e1 e3
  obtain ⟨tb, off, rfl, htb, _, h4⟩ := hcell s.at_ t ht
  obtain ⟨k, y, l, cc⟩ := t
  have t0 : w.cell? ⟨tb, off + s.at_ * 4, none⟩ = some (.int .i64 k) := h4 0 (by omega)
  have t1 : w.cell? ⟨tb, off + s.at_ * 4 + 1, none⟩ = some (sv y) := h4 1 (by omega)
  rw [h0] at c2
  have hlt := h.lt
  clear h hb h0 ht hT hcell h4 e2
  obtain ⟨n, hn⟩ : ∃ n, T.length = n := ⟨_, rfl⟩
  obtain ⟨i, hi⟩ : ∃ i, s.at_ = i := ⟨_, rfl⟩
  rw [hn] at c0 hin hml
  rw [hi] at c1 t0 t1 hin
  unfold maxLen at hml
  have hin2 : (i : Int) < (n : Int) := by omega
  clear hn hi
  show Calls _ _ _ w (SP B bp T s (.bool (k == 1 && nameB y)) w)
  cases hk : k == 1
  · have HK := Lib.hid hk
    go_enter Tryd.func79, Tryd.ntmps79
    go_wp2
    go_quiet (fail)
    go_wp2
    go_ret
    exact ⟨ret_bool (by simp), H.out.drewN _, (But.refl _ _).drewN _⟩
  · have HK := Lib.hid hk
    go_enter Tryd.func79, Tryd.ntmps79
    go_wp2
    go_region_held3 (fun w' => w'.cell? ⟨bp, 0, none⟩ = some (.slice (some ⟨tb, off, none⟩) n c) ∧ w'.cell? ⟨bp, 1, none⟩ = some (.int .i64 i) ∧ w'.cell? ⟨bp, 2, none⟩ = some (.int .i64 0) ∧ w'.cell? ⟨tb, off + i * 4, none⟩ = some (.int .i64 k) ∧ w'.cell? ⟨tb, off + i * 4 + 1, none⟩ = some (sv y)) (go_keep) ((go_at_call 66; refine (rname_sv y _).mono ?_; rintro e w2 ⟨rfl, hbel⟩; have b2 := Lib.hid hbel; have d0 := (hbel.cell (p := ⟨bp, 0, none⟩) (show bp < w.heap.size from hlt)).trans c0; have d1 := (hbel.cell (p := ⟨bp, 1, none⟩) (show bp < w.heap.size from hlt)).trans c1; have d2 := (hbel.cell (p := ⟨bp, 2, none⟩) (show bp < w.heap.size from hlt)).trans c2; have d3 := (hbel.cell (p := ⟨tb, off + i * 4, none⟩) (show tb < w.heap.size from htb)).trans t0; have d4 := (hbel.cell (p := ⟨tb, off + i * 4 + 1, none⟩) (show tb < w.heap.size from htb)).trans t1; clear hbel))
    go_wp2
    go_ret
    exact ⟨ret_bool (by simp), (H.out.drewN 1).below b2.out, ((But.refl bp w).drewN 1).below b2.out⟩

theorem isName_any {B bp : Nat} {T : List Tok} {s : PS} {w : World} (h : PSt B bp T s w)  :
    Calls Tryd.prog 79 #[.pointer (some ⟨bp, 0, none⟩)] w (SP B bp T s (.bool (isN T s)) w) := by
  by_cases h0 : s.err = 0
  · cases ht : T[s.at_]? with
    | some t => exact isName_in h h0 ht 
    | none =>
      have h1 := List.getElem?_eq_none_iff.1 ht
      exact isName_end h h0 (by have := h.le; omega) 
  · exact isName_err h h0 

end Go.Proofs.YtpnfdmajpkpjoaaDoor.R

