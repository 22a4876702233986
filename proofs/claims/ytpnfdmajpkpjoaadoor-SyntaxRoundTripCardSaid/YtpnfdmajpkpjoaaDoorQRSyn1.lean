/- The reference's parser: its small methods. Printed by wip/gen_rsyn1.py. -/
import Derived.Test.YtpnfdmajpkpjoaaDoorQSyn1
import Derived.Test.YtpnfdmajpkpjoaaDoorQNameK
import Derived.Deep.QuietTactic
import Derived.BigQuiet
import Derived.Deep.RegionHeld3
set_option linter.unusedVariables false
set_option linter.unusedSimpArgs false
namespace Go.Proofs.YtpnfdmajpkpjoaaDoor.R
open Go.RowKit

theorem rname_sv (s : Str) (w : World) : Calls Tryd.prog 66 #[sv s] w (RNamePost (nameB s) w) := rname_any ⟨s.toArray⟩ w
/-- A parser in memory, at block bp: the tokens, the place, the error. -/
structure PSt (B bp : Nat) (T : List Tok) (s : PS) (w : World) : Prop where
  kw : KwIn B w
  ge : B ≤ bp
  blk : ∃ a c, w.heap[bp]? = some (.cells #[.slice a T.length c, .int .i64 s.at_, .int .i64 s.err] 82 (0, 0)) ∧ TokensAt w (.slice a T.length c) T
  le : s.at_ ≤ T.length
  er : 0 ≤ s.err ∧ s.err ≤ 100
section
variable {B bp : Nat} {T : List Tok} {s : PS} {w w' : World}
theorem PSt.lt (h : PSt B bp T s w) : bp < w.heap.size := by
  obtain ⟨a, c, hb, _⟩ := h.blk
  exact lt_heap hb
theorem PSt.keep (h : PSt B bp T s w) (hb : w'.heap[bp]? = w.heap[bp]?) (hB : ∀ k, k < B → w'.heap[k]? = w.heap[k]?) (hT : SameT 64 w w') : PSt B bp T s w' := by
  obtain ⟨a, c, h1, h2⟩ := h.blk
  exact ⟨h.kw.keep hB, h.ge, ⟨a, c, hb.trans h1, h2.same hT⟩, h.le, h.er⟩
theorem PSt.below (h : PSt B bp T s w) (hb : Below w.heap.size w w') : PSt B bp T s w' :=
  h.keep (hb.block bp h.lt) (fun k hk => hb.block k (by have := h.lt; have := h.ge; omega)) (SameT.below hb)
theorem PSt.drewN (h : PSt B bp T s w) (n : Nat) : PSt B bp T s (w.drewN n) := h.keep rfl (fun _ _ => rfl) SameT.drewN
theorem PSt.alloc (h : PSt B bp T s w) (o : Obj) : PSt B bp T s (w.alloc o) := h.below ((Below.refl _ _).alloc (Nat.le_refl _) _)
/-- A field of the parser is stored. -/
theorem PSt.put (h : PSt B bp T s w) (s' : PS) {v0 v1 v2 : Value} (hb : ∀ a c, w.heap[bp]? = some (.cells #[.slice a T.length c, .int .i64 s.at_, .int .i64 s.err] 82 (0, 0)) → w'.heap[bp]? = some (.cells #[.slice a T.length c, .int .i64 s'.at_, .int .i64 s'.err] 82 (0, 0)))
    (hB : ∀ k, k < B → w'.heap[k]? = w.heap[k]?) (hT : SameT 64 w w') (hle : s'.at_ ≤ T.length) (her : 0 ≤ s'.err ∧ s'.err ≤ 100) : PSt B bp T s' w' := by
  obtain ⟨a, c, h1, h2⟩ := h.blk
  exact ⟨h.kw.keep hB, h.ge, ⟨a, c, hb a c h1, h2.same hT⟩, hle, her⟩
end
/-- What a method leaves: the value v, the parser at s'. -/
def SP (B bp : Nat) (T : List Tok) (s' : PS) (v : Value) (w : World) (e : Ending) (w' : World) : Prop := e = .returned v ∧ PSt B bp T s' w' ∧ But bp w w'

theorem PSt.setErr {B bp : Nat} {T : List Tok} {s : PS} {w : World} (h : PSt B bp T s w) (e : Int) (he : 0 ≤ e ∧ e ≤ 100) : PSt B bp T ⟨s.at_, e⟩ (w.setCell ⟨bp, 2, none⟩ (.int .i64 e)) := by
  obtain ⟨a, c, h1, h2⟩ := h.blk
  have hB : ∀ k, k < B → (w.setCell ⟨bp, 2, none⟩ (.int .i64 e)).heap[k]? = w.heap[k]? := fun k hk => Below.heap_setCell _ _ _ _ (by have := h.ge; show k ≠ bp; omega)
  exact ⟨h.kw.keep hB, h.ge, ⟨a, c, set3_2 h1 _, h2.same (SameT.setCell (U := 82) (tyAt_of h1) (by decide))⟩, h.le, he⟩
theorem PSt.setAt {B bp : Nat} {T : List Tok} {s : PS} {w : World} (h : PSt B bp T s w) (k : Nat) (hk : k ≤ T.length) : PSt B bp T ⟨k, s.err⟩ (w.setCell ⟨bp, 1, none⟩ (.int .i64 k)) := by
  obtain ⟨a, c, h1, h2⟩ := h.blk
  have hB : ∀ i, i < B → (w.setCell ⟨bp, 1, none⟩ (.int .i64 k)).heap[i]? = w.heap[i]? := fun i hi => Below.heap_setCell _ _ _ _ (by have := h.ge; show i ≠ bp; omega)
  exact ⟨h.kw.keep hB, h.ge, ⟨a, c, set3_1 h1 _, h2.same (SameT.setCell (U := 82) (tyAt_of h1) (by decide))⟩, hk, h.er⟩

theorem fail_any {B bp : Nat} {T : List Tok} {s : PS} {w : World} (h : PSt B bp T s w) (e : Int) (he : 0 ≤ e ∧ e ≤ 100) :
    Calls Tryd.prog 40 #[.pointer (some ⟨bp, 0, none⟩), .int .i64 e] w (SP B bp T (s.fail e) (.tuple #[]) w) := by
  obtain ⟨a, c, hb, _⟩ := h.blk
  have c2 := (blk_cells hb).1 2
  have f2 := (blk_cells hb).2 2
  simp at c2
  have H := Lib.hid h
  clear h hb
  by_cases h0 : s.err = 0
  · have e1 : s.fail e = ⟨s.at_, e⟩ := by unfold PS.fail; rw [if_pos h0]
    rw [e1]
    rw [h0] at c2
    clear h0 e1
    go_enter Tryd.func40, Tryd.ntmps40
    go_wp2
    go_end0
    exact ⟨rfl, H.out.setErr e he, (But.refl bp _).setCell ⟨bp, 2, none⟩ (.inl rfl) _⟩
  · have e1 : s.fail e = s := fail_err h0 e
    rw [e1]
    have h1 : (s.err == 0) = false := by rw [beq_eq_false_iff_ne]; exact h0
    clear h0 e1
    go_enter Tryd.func40, Tryd.ntmps40
    go_wp2
    go_end0
    exact ⟨rfl, H.out, But.refl _ _⟩


theorem is_err {B bp : Nat} {T : List Tok} {s : PS} {w : World} (h : PSt B bp T s w) (h0 : s.err ≠ 0) (x : Str) :
    Calls Tryd.prog 39 #[.pointer (some ⟨bp, 0, none⟩), sv x] w (SP B bp T s (.bool (isW T x s)) w) := by
  obtain ⟨a, c, hb, hT⟩ := h.blk
  have c0 := (blk_cells hb).1 0
  have c1 := (blk_cells hb).1 1
  have c2 := (blk_cells hb).1 2
  simp at c0 c1 c2
  have H := Lib.hid h
  rw [isW_err h0 x]
  have hE : (s.err == 0) = false := by rw [beq_eq_false_iff_ne]; exact h0
  clear h hb h0 hT
  go_enter Tryd.func39, Tryd.ntmps39
  go_wp2
  go_quiet (fail)
  go_wp2
  go_ret
  exact ⟨rfl, H.out.drewN _, (But.refl _ _).drewN _⟩

theorem is_end {B bp : Nat} {T : List Tok} {s : PS} {w : World} (h : PSt B bp T s w) (h0 : s.err = 0) (h2 : s.at_ = T.length) (x : Str) :
    Calls Tryd.prog 39 #[.pointer (some ⟨bp, 0, none⟩), sv x] w (SP B bp T s (.bool (isW T x s)) w) := by
  obtain ⟨a, c, hb, hT⟩ := h.blk
  have c0 := (blk_cells hb).1 0
  have c1 := (blk_cells hb).1 1
  have c2 := (blk_cells hb).1 2
  simp at c0 c1 c2
  have H := Lib.hid h
  have e0 : isW T x s = false := by unfold isW PS.next; rw [if_pos h0, List.getElem?_eq_none (by omega)]; simp
  rw [e0]
  rw [h0] at c2
  rw [h2] at c1
  obtain ⟨n, hn⟩ : ∃ n, T.length = n := ⟨_, rfl⟩
  rw [hn] at c0 c1
  clear h hb h0 h2 e0 hT hn
  go_enter Tryd.func39, Tryd.ntmps39
  go_wp2
  go_quiet (fail)
  go_wp2
  go_ret
  exact ⟨rfl, H.out.drewN _, (But.refl _ _).drewN _⟩

theorem is_in {B bp : Nat} {T : List Tok} {s : PS} {w : World} (h : PSt B bp T s w) (h0 : s.err = 0) {t : Tok} (ht : T[s.at_]? = some t) (x : Str) :
    Calls Tryd.prog 39 #[.pointer (some ⟨bp, 0, none⟩), sv x] w (SP B bp T s (.bool (isW T x s)) w) := by
  have en : s.next T = t := by unfold PS.next; rw [if_pos h0, ht]; rfl
  unfold isW
  rw [en]
  clear en
  obtain ⟨a, c, hb, hT⟩ := h.blk
  have c0 := (blk_cells hb).1 0
  have c1 := (blk_cells hb).1 1
  have c2 := (blk_cells hb).1 2
  simp at c0 c1 c2
  have H := Lib.hid h
  have hin : s.at_ < T.length := (List.getElem?_eq_some_iff.1 ht).1
  obtain ⟨a', c', e1, hml, _, _, hcell⟩ := TokensAt.form hT
  injection e1 with e1 e2 e3
  subst e1 e3
  obtain ⟨tb, off, rfl, htb, _, h4⟩ := hcell s.at_ t ht
  obtain ⟨k, y, l, cc⟩ := t
  have t0 : w.cell? ⟨tb, off + s.at_ * 4, none⟩ = some (.int .i64 k) := h4 0 (by omega)
  have t1 : w.cell? ⟨tb, off + s.at_ * 4 + 1, none⟩ = some (sv y) := h4 1 (by omega)
  rw [h0] at c2
  have hlt := h.lt
  clear h hb h0 ht hT hcell h4 e2
  obtain ⟨n, hn⟩ : ∃ n, T.length = n := ⟨_, rfl⟩
  obtain ⟨i, hi⟩ : ∃ i, s.at_ = i := ⟨_, rfl⟩
  rw [hn] at c0 hin hml
  rw [hi] at c1 t0 t1 hin
  unfold maxLen at hml
  have hin2 : (i : Int) < (n : Int) := by omega
  clear hn hi
  show Calls _ _ _ w (SP B bp T s (.bool (k == 1 && y == x)) w)
  cases hk : k == 1
  · have HK := Lib.hid hk
    go_enter Tryd.func39, Tryd.ntmps39
    go_wp2
    go_quiet (fail)
    go_wp2
    go_ret
    exact ⟨ret_bool (by simp), H.out.drewN _, (But.refl _ _).drewN _⟩
  · have HK := Lib.hid hk
    go_enter Tryd.func39, Tryd.ntmps39
    go_wp2
    go_quiet (fail)
    go_wp2
    go_ret
    exact ⟨ret_bool (by simp [sv]), H.out.drewN _, (But.refl _ _).drewN _⟩

theorem is_any {B bp : Nat} {T : List Tok} {s : PS} {w : World} (h : PSt B bp T s w) (x : Str) :
    Calls Tryd.prog 39 #[.pointer (some ⟨bp, 0, none⟩), sv x] w (SP B bp T s (.bool (isW T x s)) w) := by
  by_cases h0 : s.err = 0
  · cases ht : T[s.at_]? with
    | some t => exact is_in h h0 ht x
    | none =>
      have h1 := List.getElem?_eq_none_iff.1 ht
      exact is_end h h0 (by have := h.le; omega) x
  · exact is_err h h0 x

theorem isKind_err {B bp : Nat} {T : List Tok} {s : PS} {w : World} (h : PSt B bp T s w) (h0 : s.err ≠ 0) (kd : Int) (hkd : kd ≠ 0) :
    Calls Tryd.prog 80 #[.pointer (some ⟨bp, 0, none⟩), .int .i64 kd] w (SP B bp T s (.bool (isK T kd s)) w) := by
  obtain ⟨a, c, hb, hT⟩ := h.blk
  have c0 := (blk_cells hb).1 0
  have c1 := (blk_cells hb).1 1
  have c2 := (blk_cells hb).1 2
  simp at c0 c1 c2
  have H := Lib.hid h
  rw [isK_err h0 hkd]
  have hE : (s.err == 0) = false := by rw [beq_eq_false_iff_ne]; exact h0
  clear h hb h0 hT
  go_enter Tryd.func80, Tryd.ntmps80
  go_wp2
  go_quiet (fail)
  go_wp2
  go_ret
  exact ⟨rfl, H.out.drewN _, (But.refl _ _).drewN _⟩

theorem isKind_end {B bp : Nat} {T : List Tok} {s : PS} {w : World} (h : PSt B bp T s w) (h0 : s.err = 0) (h2 : s.at_ = T.length) (kd : Int) (hkd : kd ≠ 0) :
    Calls Tryd.prog 80 #[.pointer (some ⟨bp, 0, none⟩), .int .i64 kd] w (SP B bp T s (.bool (isK T kd s)) w) := by
  obtain ⟨a, c, hb, hT⟩ := h.blk
  have c0 := (blk_cells hb).1 0
  have c1 := (blk_cells hb).1 1
  have c2 := (blk_cells hb).1 2
  simp at c0 c1 c2
  have H := Lib.hid h
  have e0 : isK T kd s = false := by unfold isK PS.next; rw [if_pos h0, List.getElem?_eq_none (by omega)]; simp; omega
  rw [e0]
  rw [h0] at c2
  rw [h2] at c1
  obtain ⟨n, hn⟩ : ∃ n, T.length = n := ⟨_, rfl⟩
  rw [hn] at c0 c1
  clear h hb h0 h2 e0 hT hn
  go_enter Tryd.func80, Tryd.ntmps80
  go_wp2
  go_quiet (fail)
  go_wp2
  go_ret
  exact ⟨rfl, H.out.drewN _, (But.refl _ _).drewN _⟩

theorem isKind_in {B bp : Nat} {T : List Tok} {s : PS} {w : World} (h : PSt B bp T s w) (h0 : s.err = 0) {t : Tok} (ht : T[s.at_]? = some t) (kd : Int) (hkd : kd ≠ 0) :
    Calls Tryd.prog 80 #[.pointer (some ⟨bp, 0, none⟩), .int .i64 kd] w (SP B bp T s (.bool (isK T kd s)) w) := by
  have en : s.next T = t := by unfold PS.next; rw [if_pos h0, ht]; rfl
  unfold isK
  rw [en]
  clear en
  obtain ⟨a, c, hb, hT⟩ := h.blk
  have c0 := (blk_cells hb).1 0
  have c1 := (blk_cells hb).1 1
  have c2 := (blk_cells hb).1 2
  simp at c0 c1 c2
  have H := Lib.hid h
  have hin : s.at_ < T.length := (List.getElem?_eq_some_iff.1 ht).1
  obtain ⟨a', c', e1, hml, _, _, hcell⟩ := TokensAt.form hT
  injection e1 with e1 e2 e3
  subst e1 e3
  obtain ⟨tb, off, rfl, htb, _, h4⟩ := hcell s.at_ t ht
  obtain ⟨k, y, l, cc⟩ := t
  have t0 : w.cell? ⟨tb, off + s.at_ * 4, none⟩ = some (.int .i64 k) := h4 0 (by omega)
  have t1 : w.cell? ⟨tb, off + s.at_ * 4 + 1, none⟩ = some (sv y) := h4 1 (by omega)
  rw [h0] at c2
  have hlt := h.lt
  clear h hb h0 ht hT hcell h4 e2
  obtain ⟨n, hn⟩ : ∃ n, T.length = n := ⟨_, rfl⟩
  obtain ⟨i, hi⟩ : ∃ i, s.at_ = i := ⟨_, rfl⟩
  rw [hn] at c0 hin hml
  rw [hi] at c1 t0 t1 hin
  unfold maxLen at hml
  have hin2 : (i : Int) < (n : Int) := by omega
  clear hn hi
  show Calls _ _ _ w (SP B bp T s (.bool (k == kd)) w)
  go_enter Tryd.func80, Tryd.ntmps80
  go_wp2
  go_quiet (fail)
  go_wp2
  go_ret
  exact ⟨rfl, H.out.drewN _, (But.refl _ _).drewN _⟩

theorem isKind_any {B bp : Nat} {T : List Tok} {s : PS} {w : World} (h : PSt B bp T s w) (kd : Int) (hkd : kd ≠ 0) :
    Calls Tryd.prog 80 #[.pointer (some ⟨bp, 0, none⟩), .int .i64 kd] w (SP B bp T s (.bool (isK T kd s)) w) := by
  by_cases h0 : s.err = 0
  · cases ht : T[s.at_]? with
    | some t => exact isKind_in h h0 ht kd hkd
    | none =>
      have h1 := List.getElem?_eq_none_iff.1 ht
      exact isKind_end h h0 (by have := h.le; omega) kd hkd
  · exact isKind_err h h0 kd hkd

theorem isName_err {B bp : Nat} {T : List Tok} {s : PS} {w : World} (h : PSt B bp T s w) (h0 : s.err ≠ 0)  :
    Calls Tryd.prog 79 #[.pointer (some ⟨bp, 0, none⟩)] w (SP B bp T s (.bool (isN T s)) w) := by
  obtain ⟨a, c, hb, hT⟩ := h.blk
  have c0 := (blk_cells hb).1 0
  have c1 := (blk_cells hb).1 1
  have c2 := (blk_cells hb).1 2
  simp at c0 c1 c2
  have H := Lib.hid h
  rw [isN_err h0]
  have hE : (s.err == 0) = false := by rw [beq_eq_false_iff_ne]; exact h0
  clear h hb h0 hT
  go_enter Tryd.func79, Tryd.ntmps79
  go_wp2
  go_quiet (fail)
  go_wp2
  go_ret
  exact ⟨rfl, H.out.drewN _, (But.refl _ _).drewN _⟩

theorem isName_end {B bp : Nat} {T : List Tok} {s : PS} {w : World} (h : PSt B bp T s w) (h0 : s.err = 0) (h2 : s.at_ = T.length)  :
    Calls Tryd.prog 79 #[.pointer (some ⟨bp, 0, none⟩)] w (SP B bp T s (.bool (isN T s)) w) := by
  obtain ⟨a, c, hb, hT⟩ := h.blk
  have c0 := (blk_cells hb).1 0
  have c1 := (blk_cells hb).1 1
  have c2 := (blk_cells hb).1 2
  simp at c0 c1 c2
  have H := Lib.hid h
  have e0 : isN T s = false := by unfold isN PS.next; rw [if_pos h0, List.getElem?_eq_none (by omega)]; simp
  rw [e0]
  rw [h0] at c2
  rw [h2] at c1
  obtain ⟨n, hn⟩ : ∃ n, T.length = n := ⟨_, rfl⟩
  rw [hn] at c0 c1
  clear h hb h0 h2 e0 hT hn
  go_enter Tryd.func79, Tryd.ntmps79
  go_wp2
  go_quiet (fail)
  go_wp2
  go_ret
  exact ⟨rfl, H.out.drewN _, (But.refl _ _).drewN _⟩

end Go.Proofs.YtpnfdmajpkpjoaaDoor.R

