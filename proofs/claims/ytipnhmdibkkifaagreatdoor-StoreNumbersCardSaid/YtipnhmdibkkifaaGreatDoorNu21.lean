/- A part of the proof. -/
import Derived.Test.YtipnhmdibkkifaaGreatDoorNu20
import Derived.Test.YtipnhmdibkkifaaGreatDoorNu07
import Derived.Test.YtipnhmdibkkifaaGreatDoorNu01
import Derived.Test.YtipnhmdibkkifaaGreatDoorNu08
set_option linter.unusedVariables false
set_option linter.unusedSimpArgs false
set_option linter.unusedVariables false
set_option linter.unusedSimpArgs false
set_option linter.unusedSectionVars false
namespace Go.Proofs.YtipnhmdibkkifaaGreatDoor
open Go.RowKit
variable [Base]
structure PSt (B bp : Nat) (T : List Tok) (s : PS) (w : World) : Prop where
  kw : KwIn B w
  ge : B ≤ bp
  blk : ∃ a c, w.heap[bp]? = some (.cells #[.slice a T.length c, .int .i64 s.at_, .int .i64 s.err] 70 (0, 0)) ∧ TokensAt w (.slice a T.length c) T
  le : s.at_ ≤ T.length
  er : 0 ≤ s.err ∧ s.err ≤ 100
section
variable {B bp : Nat} {T : List Tok} {s : PS} {w w' : World}
theorem PSt.lt (h : PSt B bp T s w) : bp < w.heap.size := by
  obtain ⟨a, c, hb, _⟩ := h.blk
  exact lt_heap hb
theorem PSt.keep (h : PSt B bp T s w) (hb : w'.heap[bp]? = w.heap[bp]?) (hB : ∀ k, k < B → w'.heap[k]? = w.heap[k]?) (hT : SameT 78 w w') : PSt B bp T s w' := by
  obtain ⟨a, c, h1, h2⟩ := h.blk
  exact ⟨h.kw.keep hB, h.ge, ⟨a, c, hb.trans h1, h2.same hT⟩, h.le, h.er⟩
theorem PSt.below (h : PSt B bp T s w) (hb : Below w.heap.size w w') : PSt B bp T s w' :=
  h.keep (hb.block bp h.lt) (fun k hk => hb.block k (by have := h.lt; have := h.ge; omega)) (SameT.below hb)
theorem PSt.drewN (h : PSt B bp T s w) (n : Nat) : PSt B bp T s (w.drewN n) := h.keep rfl (fun _ _ => rfl) SameT.drewN
theorem PSt.alloc (h : PSt B bp T s w) (o : Obj) : PSt B bp T s (w.alloc o) := h.below ((Below.refl _ _).alloc (Nat.le_refl _) _)
end
def SP (B bp : Nat) (T : List Tok) (s' : PS) (v : Value) (w : World) (e : Ending) (w' : World) : Prop := e = .returned v ∧ PSt B bp T s' w' ∧ But bp w w'
theorem set3_1 {w : World} {b : Nat} {a0 a1 a2 : Value} {t : TypeId} {fr : Nat × Nat} (h : w.heap[b]? = some (.cells #[a0, a1, a2] t fr)) (x : Value) : (w.setCell ⟨b, 1, none⟩ x).heap[b]? = some (.cells #[a0, x, a2] t fr) := by
  simp [World.setCell, Array.getElem?_modify, h]
theorem set3_2 {w : World} {b : Nat} {a0 a1 a2 : Value} {t : TypeId} {fr : Nat × Nat} (h : w.heap[b]? = some (.cells #[a0, a1, a2] t fr)) (x : Value) : (w.setCell ⟨b, 2, none⟩ x).heap[b]? = some (.cells #[a0, a1, x] t fr) := by
  simp [World.setCell, Array.getElem?_modify, h]
theorem PSt.setErr {B bp : Nat} {T : List Tok} {s : PS} {w : World} (h : PSt B bp T s w) (e : Int) (he : 0 ≤ e ∧ e ≤ 100) : PSt B bp T ⟨s.at_, e⟩ (w.setCell ⟨bp, 2, none⟩ (.int .i64 e)) := by
  have hbs := h.kw.bs
  have hge := h.ge
  obtain ⟨a, c, h1, h2⟩ := h.blk
  have hB : ∀ k, k < B → (w.setCell ⟨bp, 2, none⟩ (.int .i64 e)).heap[k]? = w.heap[k]? := fun k hk => Below.heap_setCell _ _ _ _ (by have := h.ge; show k ≠ bp; omega)
  exact ⟨h.kw.keep hB, h.ge, ⟨a, c, set3_2 h1 _, h2.same (SameT.setCell (U := 70) (tyAt_of h1) (by decide))⟩, h.le, he⟩
theorem PSt.setAt {B bp : Nat} {T : List Tok} {s : PS} {w : World} (h : PSt B bp T s w) (k : Nat) (hk : k ≤ T.length) : PSt B bp T ⟨k, s.err⟩ (w.setCell ⟨bp, 1, none⟩ (.int .i64 k)) := by
  have hbs := h.kw.bs
  have hge := h.ge
  obtain ⟨a, c, h1, h2⟩ := h.blk
  have hB : ∀ i, i < B → (w.setCell ⟨bp, 1, none⟩ (.int .i64 k)).heap[i]? = w.heap[i]? := fun i hi => Below.heap_setCell _ _ _ _ (by have := h.ge; show i ≠ bp; omega)
  exact ⟨h.kw.keep hB, h.ge, ⟨a, c, set3_1 h1 _, h2.same (SameT.setCell (U := 70) (tyAt_of h1) (by decide))⟩, hk, h.er⟩
theorem fail_any {B bp : Nat} {T : List Tok} {s : PS} {w : World} (h : PSt B bp T s w) (e : Int) (he : 0 ≤ e ∧ e ≤ 100) :
    Calls Tryz.prog 25 #[.pointer (some ⟨bp, 0, none⟩), .int .i64 e] w (SP B bp T (s.fail e) (.tuple #[]) w) := by
  obtain ⟨a, c, hb, _⟩ := h.blk
  have c2 := (blk_cells hb).1 2
  have f2 := (blk_cells hb).2 2
  simp at c2
  have H := Lib.hid h
  clear h hb
  by_cases h0 : s.err = 0
  · have e1 : s.fail e = ⟨s.at_, e⟩ := by unfold PS.fail; rw [if_pos h0]
    rw [e1]
    rw [h0] at c2
    clear h0 e1
    go_enter Tryz.func25, Tryz.ntmps25
    go_wp2
    go_end0
    exact ⟨rfl, H.out.setErr e he, (But.refl bp _).setCell ⟨bp, 2, none⟩ (.inl rfl) _⟩
  · have e1 : s.fail e = s := fail_err h0 e
    rw [e1]
    have h1 : (s.err == 0) = false := by rw [beq_eq_false_iff_ne]; exact h0
    clear h0 e1
    go_enter Tryz.func25, Tryz.ntmps25
    go_wp2
    go_end0
    exact ⟨rfl, H.out, But.refl _ _⟩
theorem below_four {w : World} (n : Nat) (x0 x1 x2 x3 : Value) {o : Obj} : Below w.heap.size w (((((((w.alloc o).drewN n).setCell ⟨w.heap.size, 0, none⟩ x0).setCell ⟨w.heap.size, 1, none⟩ x1).setCell ⟨w.heap.size, 2, none⟩ x2).setCell ⟨w.heap.size, 3, none⟩ x3)) :=
  ((((below_drewN ((Below.refl w.heap.size w).alloc (Nat.le_refl _) o) n).setCell (Nat.le_refl _) x0).setCell (Nat.le_refl _) x1).setCell (Nat.le_refl _) x2).setCell (Nat.le_refl _) x3
theorem four_drewN {w : World} {b n : Nat} {x0 x1 x2 x3 y0 y1 y2 y3 : Value} {t : TypeId} {fr : Nat × Nat} (h : ((((w.setCell ⟨b, 0, none⟩ x0).setCell ⟨b, 1, none⟩ x1).setCell ⟨b, 2, none⟩ x2).setCell ⟨b, 3, none⟩ x3).heap[b]? = some (.cells #[y0, y1, y2, y3] t fr)) :
    ∀ o, (((((w.drewN n).setCell ⟨b, 0, none⟩ x0).setCell ⟨b, 1, none⟩ x1).setCell ⟨b, 2, none⟩ x2).setCell ⟨b, 3, none⟩ x3).cell? ⟨b, o, none⟩ = #[y0, y1, y2, y3][o]? := by
  intro o
  have h2 : (((((w.drewN n).setCell ⟨b, 0, none⟩ x0).setCell ⟨b, 1, none⟩ x1).setCell ⟨b, 2, none⟩ x2).setCell ⟨b, 3, none⟩ x3).heap[b]? = some (.cells #[y0, y1, y2, y3] t fr) := h
  simp [World.cell?, h2]
def tokV (t : Tok) : Value := .agg #[.int .i64 t.kind, sv t.text, .int .i64 t.line, .int .i64 t.col]
theorem next_zero1 {B bp : Nat} {T : List Tok} {s : PS} {w : World} (h : PSt B bp T s w) (h0 : s.err ≠ 0) :
    Calls Tryz.prog 37 #[.pointer (some ⟨bp, 0, none⟩)] w (SP B bp T s (tokV (s.next T)) w) := by
  obtain ⟨a, c, hb, _⟩ := h.blk
  have c2 := (blk_cells hb).1 2
  simp at c2
  have hlt := h.lt
  have H := Lib.hid h
  rw [next_err h0]
  have h1 : (s.err != 0) = true := by simpa using h0
  clear h hb h0
  have ba := (Below.refl w.heap.size w).alloc (Nat.le_refl _) (.cells #[.int .i64 0, .string ⟨#[]⟩, .int .i64 0, .int .i64 0] 78)
  have c2' := (ba.cell (p := ⟨bp, 2, none⟩) hlt).trans c2
  clear ba
  go_enter Tryz.func37, Tryz.ntmps37
  go_wp2
  go_quiet (fail)
  go_wp2
  have hb := below_four (w := w) (o := .cells #[.int .i64 0, .string ⟨#[]⟩, .int .i64 0, .int .i64 0] 78) nq (.int .i64 0) (.string ⟨#[]⟩) (.int .i64 0) (.int .i64 0)
  have G := set4 (heap_alloc_new w (.cells #[.int .i64 0, .string ⟨#[]⟩, .int .i64 0, .int .i64 0] 78)) (.int .i64 0) (.string ⟨#[]⟩) (.int .i64 0) (.int .i64 0)
  have gc := four_drewN (n := nq) G
  refine bodyPost_ret (v := .agg #[.int .i64 0, .string ⟨#[]⟩, .int .i64 0, .int .i64 0]) ?_ rfl ⟨rfl, H.out.below hb, But.below (But.refl bp w) hb⟩
  simp [results, Tryz.results37, go_sem, gc]
theorem next_zero2 {B bp : Nat} {T : List Tok} {s : PS} {w : World} (h : PSt B bp T s w) (h0 : s.err = 0) (h2 : s.at_ = T.length) :
    Calls Tryz.prog 37 #[.pointer (some ⟨bp, 0, none⟩)] w (SP B bp T s (tokV (s.next T)) w) := by
  obtain ⟨a, c, hb, ht⟩ := h.blk
  have c0 := (blk_cells hb).1 0
  have c1 := (blk_cells hb).1 1
  have c2 := (blk_cells hb).1 2
  simp at c0 c1 c2
  have hlt := h.lt
  have H := Lib.hid h
  have en : s.next T = ⟨0, [], 0, 0⟩ := by unfold PS.next; rw [if_pos h0, List.getElem?_eq_none (by omega)]; rfl
  rw [en]
  rw [h0] at c2
  rw [h2] at c1
  clear h hb h0 h2 en ht
  have ba := (Below.refl w.heap.size w).alloc (Nat.le_refl _) (.cells #[.int .i64 0, .string ⟨#[]⟩, .int .i64 0, .int .i64 0] 78)
  have c0' := (ba.cell (p := ⟨bp, 0, none⟩) hlt).trans c0
  have c1' := (ba.cell (p := ⟨bp, 1, none⟩) hlt).trans c1
  have c2' := (ba.cell (p := ⟨bp, 2, none⟩) hlt).trans c2
  clear ba
  obtain ⟨n, hn⟩ : ∃ n, T.length = n := ⟨_, rfl⟩
  rw [hn] at c0 c1 c0' c1'
  clear hn
  go_enter Tryz.func37, Tryz.ntmps37
  go_wp2
  go_quiet (fail)
  go_wp2
  have hb := below_four (w := w) (o := .cells #[.int .i64 0, .string ⟨#[]⟩, .int .i64 0, .int .i64 0] 78) nq (.int .i64 0) (.string ⟨#[]⟩) (.int .i64 0) (.int .i64 0)
  have G := set4 (heap_alloc_new w (.cells #[.int .i64 0, .string ⟨#[]⟩, .int .i64 0, .int .i64 0] 78)) (.int .i64 0) (.string ⟨#[]⟩) (.int .i64 0) (.int .i64 0)
  have gc := four_drewN (n := nq) G
  refine bodyPost_ret (v := .agg #[.int .i64 0, .string ⟨#[]⟩, .int .i64 0, .int .i64 0]) ?_ rfl ⟨rfl, H.out.below hb, But.below (But.refl bp w) hb⟩
  simp [results, Tryz.results37, go_sem, gc]
theorem next_in_any {B bp : Nat} {T : List Tok} {s : PS} {w : World} (h : PSt B bp T s w) (h0 : s.err = 0) {t : Tok} (ht : T[s.at_]? = some t) :
    Calls Tryz.prog 37 #[.pointer (some ⟨bp, 0, none⟩)] w (SP B bp T s (tokV (s.next T)) w) := by
  obtain ⟨a, c, hb, hT⟩ := h.blk
  have c0 := (blk_cells hb).1 0
  have c1 := (blk_cells hb).1 1
  have c2 := (blk_cells hb).1 2
  simp at c0 c1 c2
  have hlt := h.lt
  have H := Lib.hid h
  have en : s.next T = t := by unfold PS.next; rw [if_pos h0, ht]; rfl
  rw [en]
  rw [h0] at c2
  have hin : s.at_ < T.length := (List.getElem?_eq_some_iff.1 ht).1
  obtain ⟨a', c', e1, hml, _, _, hcell⟩ := TokensAt.form hT
  injection e1 with e1 e2 e3
  subst e1 e3
  obtain ⟨tb, off, rfl, htb, _, h4⟩ := hcell s.at_ t ht
  obtain ⟨k, x, l, cc⟩ := t
  have t0 : w.cell? ⟨tb, off + s.at_ * 4, none⟩ = some (.int .i64 k) := h4 0 (by omega)
  have t1 : w.cell? ⟨tb, off + s.at_ * 4 + 1, none⟩ = some (sv x) := h4 1 (by omega)
  have t2 : w.cell? ⟨tb, off + s.at_ * 4 + 2, none⟩ = some (.int .i64 l) := h4 2 (by omega)
  have t3 : w.cell? ⟨tb, off + s.at_ * 4 + 3, none⟩ = some (.int .i64 cc) := h4 3 (by omega)
  clear h hb h0 en ht hT hcell h4 e2
  have ba := (Below.refl w.heap.size w).alloc (Nat.le_refl _) (.cells #[.int .i64 0, .string ⟨#[]⟩, .int .i64 0, .int .i64 0] 78)
  have c0' := (ba.cell (p := ⟨bp, 0, none⟩) hlt).trans c0
  have c1' := (ba.cell (p := ⟨bp, 1, none⟩) hlt).trans c1
  have c2' := (ba.cell (p := ⟨bp, 2, none⟩) hlt).trans c2
  have t0' := (ba.cell (p := ⟨tb, off + s.at_ * 4, none⟩) htb).trans t0
  have t1' := (ba.cell (p := ⟨tb, off + s.at_ * 4 + 1, none⟩) htb).trans t1
  have t2' := (ba.cell (p := ⟨tb, off + s.at_ * 4 + 2, none⟩) htb).trans t2
  have t3' := (ba.cell (p := ⟨tb, off + s.at_ * 4 + 3, none⟩) htb).trans t3
  clear ba
  obtain ⟨n, hn⟩ : ∃ n, T.length = n := ⟨_, rfl⟩
  obtain ⟨i, hi⟩ : ∃ i, s.at_ = i := ⟨_, rfl⟩
  rw [hn] at c0 c0' hin hml
  rw [hi] at c1 c1' t0 t1 t2 t3 t0' t1' t2' t3' hin
  unfold maxLen at hml
  have hne : ((i : Int) == (n : Int)) = false := by rw [beq_eq_false_iff_ne]; omega
  have hin2 : (i : Int) < (n : Int) := by omega
  clear hn hi
  go_enter Tryz.func37, Tryz.ntmps37
  go_wp2
  go_quiet (fail)
  go_wp2_with fail
  refine wp_region_D (S := fun w' => ∃ nd, w' = ((w.alloc (.cells #[.int .i64 0, .string ⟨#[]⟩, .int .i64 0, .int .i64 0] 78)).drewN nq).drewN nd) (st := 10) (by kernel_rfl) ?_
  refine wpAnyT_pure 0 ?v1 rfl (by kernel_rfl) (by kernel_rfl) (by kernel_rfl) (by kernel_rfl) (fun _ _ _ h => h) ⟨1, rfl⟩ rfl ?run1 ?rest1
  case run1 => intro w hS; obtain ⟨nd, rfl⟩ := hS; go_simp; rfl
  case rest1 =>
  refine wpAnyT_pure 1 ?v2 rfl (by kernel_rfl) (by kernel_rfl) (by kernel_rfl) (by kernel_rfl) (fun _ _ _ h => h) ⟨1, rfl⟩ rfl ?run2 ?rest2
  case run2 => intro w hS; obtain ⟨nd, rfl⟩ := hS; go_simp; rfl
  case rest2 =>
  refine wpAnyT_pure 2 ?v3 rfl (by kernel_rfl) (by kernel_rfl) (by kernel_rfl) (by kernel_rfl) (fun _ _ _ h => h) ⟨1, rfl⟩ rfl ?run3 ?rest3
  case run3 => intro w hS; obtain ⟨nd, rfl⟩ := hS; go_simp; rfl
  case rest3 =>
  refine wpAnyT_pure 3 ?v4 rfl (by kernel_rfl) (by kernel_rfl) (by kernel_rfl) (by kernel_rfl) (fun _ _ _ h => h) ⟨1, rfl⟩ rfl ?run4 ?rest4
  case run4 => intro w hS; obtain ⟨nd, rfl⟩ := hS; go_simp; rfl
  case rest4 =>
  refine wpAnyT_pure 4 ?v5 rfl (by kernel_rfl) (by kernel_rfl) (by kernel_rfl) (by kernel_rfl) (fun _ _ _ h => h) ⟨1, rfl⟩ rfl ?run5 ?rest5
  case run5 => intro w hS; obtain ⟨nd, rfl⟩ := hS; go_simp; rfl
  case rest5 =>
  refine wpAnyT_pure 5 ?v6 rfl (by kernel_rfl) (by kernel_rfl) (by kernel_rfl) (by kernel_rfl) (fun _ _ _ h => h) ⟨1, rfl⟩ rfl ?run6 ?rest6
  case run6 => intro w hS; obtain ⟨nd, rfl⟩ := hS; go_simp; rfl
  case rest6 =>
  refine wpAnyT_pure 6 ?v7 rfl (by kernel_rfl) (by kernel_rfl) (by kernel_rfl) (by kernel_rfl) (fun _ _ _ h => h) ⟨1, rfl⟩ rfl ?run7 ?rest7
  case run7 => intro w hS; obtain ⟨nd, rfl⟩ := hS; go_simp; rfl
  case rest7 =>
  refine wpAnyT_pure 7 ?v8 rfl (by kernel_rfl) (by kernel_rfl) (by kernel_rfl) (by kernel_rfl) (fun _ _ _ h => h) ⟨1, rfl⟩ rfl ?run8 ?rest8
  case run8 => intro w hS; obtain ⟨nd, rfl⟩ := hS; go_simp; rfl
  case rest8 =>
  refine wpAnyT_pure 8 ?v9 rfl (by kernel_rfl) (by kernel_rfl) (by kernel_rfl) (by kernel_rfl) (fun _ _ _ h => h) ⟨1, rfl⟩ rfl ?run9 ?rest9
  case run9 => intro w hS; obtain ⟨nd, rfl⟩ := hS; go_simp; rfl
  case rest9 =>
  refine wpAnyT_pure 9 ?v10 rfl (by kernel_rfl) (by kernel_rfl) (by kernel_rfl) (by kernel_rfl) (fun _ _ _ h => h) ⟨1, rfl⟩ rfl ?run10 ?rest10
  case run10 => intro w hS; obtain ⟨nd, rfl⟩ := hS; go_simp; rfl
  case rest10 =>
  refine wpAnyT_all (rs := [10]) (by kernel_rfl) (by decide) ?_
  intro i hi
  obtain rfl : i = 10 := by simpa using hi
  clear hi
  refine wpOp_of_list rfl ?_
  go_wp2
  refine ⟨fun h => absurd rfl h, ?_⟩
  refine wpAnyT_done (by kernel_rfl) ?_ _
  go_wp2
  have hb := below_four (w := w) (o := .cells #[.int .i64 0, .string ⟨#[]⟩, .int .i64 0, .int .i64 0] 78) (nq + 1) (.int .i64 k) (sv x) (.int .i64 l) (.int .i64 cc)
  have G := set4 (heap_alloc_new w (.cells #[.int .i64 0, .string ⟨#[]⟩, .int .i64 0, .int .i64 0] 78)) (.int .i64 k) (sv x) (.int .i64 l) (.int .i64 cc)
  have gc := four_drewN (n := nq + 1) G
  refine bodyPost_ret (v := .agg #[.int .i64 k, sv x, .int .i64 l, .int .i64 cc]) ?_ rfl ⟨rfl, H.out.below hb, But.below (But.refl bp w) hb⟩
  simp [results, Tryz.results37, go_sem, gc]
theorem next_any' {B bp : Nat} {T : List Tok} {s : PS} {w : World} (h : PSt B bp T s w) :
    Calls Tryz.prog 37 #[.pointer (some ⟨bp, 0, none⟩)] w (SP B bp T s (tokV (s.next T)) w) := by
  by_cases h0 : s.err = 0
  · cases ht : T[s.at_]? with
    | some t => exact next_in_any h h0 ht
    | none =>
      have h1 := List.getElem?_eq_none_iff.1 ht
      exact next_zero2 h h0 (by have := h.le; omega)
  · exact next_zero1 h h0
theorem is_any {B bp : Nat} {T : List Tok} {s : PS} {w : World} (h : PSt B bp T s w) (x : Str) :
    Calls Tryz.prog 22 #[.pointer (some ⟨bp, 0, none⟩), sv x] w (SP B bp T s (.bool (isW T x s)) w) := by
  have hN := Lib.hid (next_any' h)
  have e1 : isW T x s = ((s.next T).kind == 1 && (s.next T).text == x) := rfl
  rw [e1]
  clear e1
  generalize s.next T = tt at hN ⊢
  obtain ⟨k, y, l, c⟩ := tt
  dsimp only [tokV] at hN ⊢
  clear h
  cases hk : k == 1
  · go_enter Tryz.func22, Tryz.ntmps22
    go_wp2_with fail
    refine hN.out.mono ?_
    rintro e w1 ⟨rfl, h1, b1⟩
    have H1 := Lib.hid (h1.alloc (.cells #[.int .i64 k, sv y, .int .i64 l, .int .i64 c] 78))
    have B1 := Lib.hid (b1.alloc (.cells #[.int .i64 k, sv y, .int .i64 l, .int .i64 c] 78))
    clear h1 b1
    go_wp2
    go_ret
    exact ⟨rfl, H1.out, B1.out⟩
  · cases hy : y == x
    all_goals
      go_enter Tryz.func22, Tryz.ntmps22
      go_wp2_with fail
      refine hN.out.mono ?_
      rintro e w1 ⟨rfl, h1, b1⟩
      have H1 := Lib.hid (h1.alloc (.cells #[.int .i64 k, sv y, .int .i64 l, .int .i64 c] 78))
      have B1 := Lib.hid (b1.alloc (.cells #[.int .i64 k, sv y, .int .i64 l, .int .i64 c] 78))
      clear h1 b1
      go_wp2
      go_ret
      exact ⟨rfl, H1.out, B1.out⟩
theorem isName_any {B bp : Nat} {T : List Tok} {s : PS} {w : World} (h : PSt B bp T s w) :
    Calls Tryz.prog 64 #[.pointer (some ⟨bp, 0, none⟩)] w (SP B bp T s (.bool (isN T s)) w) := by
  have hN := Lib.hid (next_any' h)
  have e1 : isN T s = ((s.next T).kind == 1 && nameB (s.next T).text) := rfl
  rw [e1]
  clear e1
  generalize s.next T = tt at hN ⊢
  obtain ⟨k, y, l, c⟩ := tt
  dsimp only [tokV] at hN ⊢
  clear h
  cases hk : k == 1
  · go_enter Tryz.func64, Tryz.ntmps64
    go_wp2_with fail
    refine hN.out.mono ?_
    rintro e w1 ⟨rfl, h1, b1⟩
    have H1 := Lib.hid (h1.alloc (.cells #[.int .i64 k, sv y, .int .i64 l, .int .i64 c] 78))
    have B1 := Lib.hid (b1.alloc (.cells #[.int .i64 k, sv y, .int .i64 l, .int .i64 c] 78))
    clear h1 b1
    go_wp2
    go_ret
    exact ⟨rfl, H1.out, B1.out⟩
  · go_enter Tryz.func64, Tryz.ntmps64
    go_wp2_with fail
    refine hN.out.mono ?_
    rintro e w1 ⟨rfl, h1, b1⟩
    have H1 := Lib.hid (h1.alloc (.cells #[.int .i64 k, sv y, .int .i64 l, .int .i64 c] 78))
    have B1 := Lib.hid (b1.alloc (.cells #[.int .i64 k, sv y, .int .i64 l, .int .i64 c] 78))
    have K1 := Lib.hid (isname_any ⟨y.toArray⟩ _ H1.out.kw.now)
    clear h1 b1
    go_wp2_with fail
    refine K1.out.mono ?_
    rintro e w2 ⟨rfl, nd, rfl⟩
    have H2 := Lib.hid (H1.out.drewN nd)
    have B2 := Lib.hid (B1.out.drewN nd)
    go_wp2
    go_ret
    exact ⟨rfl, H2.out, B2.out⟩
theorem room_any {B bp : Nat} {T : List Tok} {s : PS} {w : World} (h : PSt B bp T s w) (n m : Int) :
    Calls Tryz.prog 23 #[.pointer (some ⟨bp, 0, none⟩), .int .i64 n, .int .i64 m] w (SP B bp T (if n = m then s.fail 7 else s) (.tuple #[]) w) := by
  have hF := Lib.hid (fail_any h 7 (by omega))
  by_cases hn : n = m
  · rw [if_pos hn]
    have h1 : (n == m) = true := by rw [hn]; simp
    clear h hn
    go_enter Tryz.func23, Tryz.ntmps23
    go_wp2_with fail
    refine hF.out.mono ?_
    rintro e w1 ⟨rfl, h1, b1⟩
    have H1 := Lib.hid h1
    have B1 := Lib.hid b1
    clear h1 b1
    go_wp2
    go_end0
    exact ⟨rfl, H1.out, B1.out⟩
  · rw [if_neg hn]
    have h1 : (n == m) = false := by rw [beq_eq_false_iff_ne]; exact hn
    have H := Lib.hid h
    clear h hn
    go_enter Tryz.func23, Tryz.ntmps23
    go_wp2
    go_end0
    exact ⟨rfl, H.out, But.refl _ _⟩
theorem step_le {B bp : Nat} {T : List Tok} {s : PS} {w : World} (_ : PSt B bp T s w) (hk : (s.next T).kind ≠ 0) : s.at_ + 1 ≤ T.length := by
  obtain ⟨_, t, ht, _⟩ := next_in hk
  exact (List.getElem?_eq_some_iff.1 ht).1
theorem take_any {B bp : Nat} {T : List Tok} {s : PS} {w : World} (h : PSt B bp T s w) (hT : T.length ≤ 1000000) (ok : Bool) (hok : ok = true → (s.next T).kind ≠ 0) :
    Calls Tryz.prog 38 #[.pointer (some ⟨bp, 0, none⟩), .bool ok] w (SP B bp T (takeM ok s) (sv (textM T ok s)) w) := by
  cases ok
  · have hF := Lib.hid (fail_any h 4 (by omega))
    have e1 : takeM false s = s.fail 4 := rfl
    have e2 : textM T false s = [] := rfl
    rw [e1, e2]
    clear h hok e1 e2
    go_enter Tryz.func38, Tryz.ntmps38
    go_wp2_with fail
    refine hF.out.mono ?_
    rintro e w1 ⟨rfl, h1, b1⟩
    have H1 := Lib.hid h1
    have B1 := Lib.hid b1
    clear h1 b1
    go_wp2
    go_ret
    exact ⟨rfl, H1.out, B1.out⟩
  · have hN := Lib.hid (next_any' h)
    have hle := step_le h (hok rfl)
    have e1 : takeM true s = ⟨s.at_ + 1, s.err⟩ := rfl
    have e2 : textM T true s = (s.next T).text := rfl
    rw [e1, e2]
    clear hok e1 e2
    generalize s.next T = tt at hN ⊢
    obtain ⟨k, y, l, c⟩ := tt
    dsimp only [tokV] at hN ⊢
    have hlt := h.lt
    clear h
    go_enter Tryz.func38, Tryz.ntmps38
    go_wp2_with fail
    refine hN.out.mono ?_
    rintro e w1 ⟨rfl, h1, b1⟩
    have hlt1 := h1.lt
    have h2 := h1.alloc (.cells #[.int .i64 k, sv y, .int .i64 l, .int .i64 c] 78)
    have H1 := Lib.hid h1
    have B1 := Lib.hid b1
    obtain ⟨a', c', hb, _⟩ := h2.blk
    have c1 := (blk_cells hb).1 1
    have f1 := (blk_cells hb).2 1
    simp only [List.getElem?_toArray, List.getElem?_cons_succ, List.getElem?_cons_zero] at c1
    have hne : ¬ w1.heap.size = bp := by omega
    clear h1 b1 hb h2
    go_wp2
    have H3 := Lib.hid ((H1.out.setAt (s.at_ + 1) hle).alloc (.cells #[.int .i64 k, sv y, .int .i64 l, .int .i64 c] 78))
    have B3 := Lib.hid ((B1.out.setCell ⟨bp, 1, none⟩ (.inl rfl) (.int .i64 ((s.at_ + 1 : Nat) : Int))).alloc (.cells #[.int .i64 k, sv y, .int .i64 l, .int .i64 c] 78))
    go_ret
    exact ⟨rfl, H3.out, B3.out⟩
theorem name_any' {B bp : Nat} {T : List Tok} {s : PS} {w : World} (h : PSt B bp T s w) (hT : T.length ≤ 1000000) :
    Calls Tryz.prog 39 #[.pointer (some ⟨bp, 0, none⟩)] w (SP B bp T (nameM T s) (sv (nameV T s)) w) := by
  have hN := Lib.hid (isName_any h)
  have hok : isN T s = true → (s.next T).kind ≠ 0 := by
    intro h
    unfold isN at h
    simp only [Bool.and_eq_true, beq_iff_eq] at h
    rw [h.1]; decide
  have HT := Lib.hid (fun w h => take_any (B := B) (bp := bp) (w := w) h hT (isN T s) hok)
  clear h hok
  go_enter Tryz.func39, Tryz.ntmps39
  go_wp2_with fail
  refine hN.out.mono ?_
  rintro e w1 ⟨rfl, h1, b1⟩
  have H2 := Lib.hid (HT.out w1 h1)
  have B1 := Lib.hid b1
  clear h1 b1 HT
  go_wp2_with fail
  refine H2.out.mono ?_
  rintro e w2 ⟨rfl, h2, b2⟩
  have H3 := Lib.hid h2
  have B3 := Lib.hid (B1.out.trans b2)
  clear h2 b2
  go_wp2
  go_ret
  exact ⟨rfl, H3.out, B3.out⟩
theorem field_tok (k l c : Int) (y : Str) (w : World) : (Instr.field 78 (.agg #[.int .i64 k, sv y, .int .i64 l, .int .i64 c]) 0).run Tryz.prog w = .ok (.int .i64 k) w := by kernel_rfl
theorem end_any {B bp : Nat} {T : List Tok} {s : PS} {w : World} (h : PSt B bp T s w) (hT : T.length ≤ 1000000) :
    Calls Tryz.prog 40 #[.pointer (some ⟨bp, 0, none⟩)] w (SP B bp T (endM T s) (.tuple #[]) w) := by
  have hN := Lib.hid (next_any' h)
  have hok : isK T 3 s = true → (s.next T).kind ≠ 0 := by
    intro h
    unfold isK at h
    rw [beq_iff_eq] at h
    rw [h]; decide
  have HT := Lib.hid (fun w h => take_any (B := B) (bp := bp) (w := w) h hT (isK T 3 s) hok)
  have e1 : isK T 3 s = ((s.next T).kind == 3) := rfl
  have e2 : endM T s = takeM (isK T 3 s) s := rfl
  rw [e2]
  rw [e1] at HT ⊢
  clear h hok e1 e2
  generalize s.next T = tt at hN HT ⊢
  obtain ⟨k, y, l, c⟩ := tt
  dsimp only [tokV] at hN HT ⊢
  go_enter Tryz.func40, Tryz.ntmps40
  go_wp2_with fail
  refine hN.out.mono ?_
  rintro e w1 ⟨rfl, h1, b1⟩
  have H2 := Lib.hid (HT.out w1 h1)
  have B1 := Lib.hid b1
  have hfld := field_tok k l c y w1
  clear h1 b1 HT
  go_wp2_with fail
  refine H2.out.mono ?_
  rintro e w2 ⟨rfl, h2, b2⟩
  have H3 := Lib.hid h2
  have B3 := Lib.hid (B1.out.trans b2)
  clear h2 b2
  go_wp2
  go_end0
  exact ⟨rfl, H3.out, B3.out⟩
end Go.Proofs.YtipnhmdibkkifaaGreatDoor
set_option linter.unusedVariables false
set_option linter.unusedSimpArgs false
set_option linter.unusedSectionVars false
namespace Go.Proofs.YtipnhmdibkkifaaGreatDoor
open Go.RowKit
variable [Base]
theorem infoStr : (Tryz.prog.info? 9).map (fun i => (i.zero, i.size, i.bytes)) = some (some (.string ⟨#[]⟩), 1, 16) := by kernel_rfl
theorem ownsRow_below {base sz n : Nat} {e : TypeId} {v : Value} {xs : List Value} {w w' : World} (h : w.ownsRow base e sz v n xs) (hb : Below w.heap.size w w') : w'.ownsRow base e sz v n xs := by
  refine ⟨h.1, ?_⟩
  rcases h.2 with hn | ⟨g, cap, cur, rfl, hg, hh, rest⟩
  · exact .inl hn
  · exact .inr ⟨g, cap, cur, rfl, hg, (hb.block g (lt_heap hh)).trans hh, rest⟩
theorem lines_map (b : PBlock) (j : Nat) (s : PStmt) (h : b.stmts[j]? = some s) : (b.stmts.drop j).map lineT = lineT s :: (b.stmts.drop (j + 1)).map lineT := by
  obtain ⟨h1, rfl⟩ := List.getElem?_eq_some_iff.1 h
  rw [List.drop_eq_getElem_cons h1, List.map_cons]
theorem lines_blocks (f : PFunc) (k : Nat) (b : PBlock) (h : f.blocks[k]? = some b) : ((f.blocks.drop k).map blockLines).flatten = ([98, 108, 111, 99, 107, 32] ++ b.name) :: (b.stmts.map lineT ++ ((f.blocks.drop (k + 1)).map blockLines).flatten) := by
  obtain ⟨h1, rfl⟩ := List.getElem?_eq_some_iff.1 h
  rw [List.drop_eq_getElem_cons h1, List.map_cons, List.flatten_cons]
  rfl
theorem lines_funcs (p : List PFunc) (i : Nat) (f : PFunc) (h : p[i]? = some f) : linesT (p.drop i) = ([102, 117, 110, 99, 32] ++ f.name) :: ((f.blocks.map blockLines).flatten ++ ([101, 110, 100] :: linesT (p.drop (i + 1)))) := by
  obtain ⟨h1, rfl⟩ := List.getElem?_eq_some_iff.1 h
  unfold linesT
  rw [List.drop_eq_getElem_cons h1, List.map_cons, List.flatten_cons]
  simp [funcLines]
end Go.Proofs.YtipnhmdibkkifaaGreatDoor
set_option linter.unusedVariables false
set_option linter.unusedSimpArgs false
set_option linter.unusedSectionVars false
namespace Go.Proofs.YtipnhmdibkkifaaGreatDoor
open Go.RowKit
variable [Base]
def kwOf (op : Int) : Str :=
  if op = 2 then [117, 115, 101] else if op = 3 then [99, 97, 108, 108] else if op = 4 then [115, 111, 117, 114, 99, 101] else if op = 5 then [115, 105, 110, 107]
  else if op = 6 then [115, 97, 110, 105, 116, 105, 122, 101] else if op = 7 then [103, 111, 116, 111] else if op = 8 then [98, 114, 97, 110, 99, 104] else if op = 9 then [114, 101, 116, 117, 114, 110] else []
theorem keyword_any (op : Int) (w : World) :
    Calls Tryz.prog 133 #[.int .i64 op] w fun e w' => e = .returned (sv (kwOf op)) ∧ w = w' := by
  go_enter Tryz.func133, Tryz.ntmps133
  go_wp2
  all_goals
    go_ret
    refine ⟨?_, rfl⟩
    simp_all [kwOf]
theorem opOf_kw (k : Nat) (h2 : 2 ≤ k) (h9 : k ≤ 9) : opOf (kwOf (k : Int)) = k := by
  have : k = 2 ∨ k = 3 ∨ k = 4 ∨ k = 5 ∨ k = 6 ∨ k = 7 ∨ k = 8 ∨ k = 9 := by omega
  rcases this with rfl | rfl | rfl | rfl | rfl | rfl | rfl | rfl <;> rfl
theorem opOf_none (x : Str) (h : ∀ j : Nat, 2 ≤ j → j < 10 → kwOf (j : Int) ≠ x) : opOf x = 0 := by
  have h2 := h 2 (by omega) (by omega)
  have h3 := h 3 (by omega) (by omega)
  have h4 := h 4 (by omega) (by omega)
  have h5 := h 5 (by omega) (by omega)
  have h6 := h 6 (by omega) (by omega)
  have h7 := h 7 (by omega) (by omega)
  have h8 := h 8 (by omega) (by omega)
  have h9 := h 9 (by omega) (by omega)
  unfold opOf
  rw [if_neg (fun e => h2 e.symm), if_neg (fun e => h3 e.symm), if_neg (fun e => h4 e.symm), if_neg (fun e => h5 e.symm), if_neg (fun e => h6 e.symm), if_neg (fun e => h7 e.symm), if_neg (fun e => h8 e.symm), if_neg (fun e => h9 e.symm)]
theorem operation_any (x : Str) (w : World) :
    Calls Tryz.prog 103 #[sv x] w fun e w' => e = .returned (.int .i64 (opOf x)) ∧ w = w' := by
  go_enter Tryz.func103, Tryz.ntmps103
  go_wp2
  go_loop [3] (fun v => ∃ k : Nat, 2 ≤ k ∧ k ≤ 10 ∧ v = .int .i64 k ∧ Hid (∀ j : Nat, 2 ≤ j → j < k → kwOf (j : Int) ≠ x)) (fun v => 10 - (intOf v).toNat)
  case atStart => exact ⟨2, by omega, by omega, rfl, fun j h1 h2 => by omega⟩
  case round =>
    obtain ⟨k, h2, h10, rfl, hn⟩ := hrel
    by_cases hlt : k ≤ 9
    · obtain ⟨y, hy⟩ : ∃ y, kwOf (k : Int) = y := ⟨_, rfl⟩
      have hK := Lib.hid (fun w => hy ▸ keyword_any (k : Int) w)
      have HY := Lib.hid hy
      clear hy
      cases e : y == x
      · have E := Lib.hid e
        go_wp2_with (go_at_call 133; refine (hK.out _).mono ?_; rintro e w' ⟨rfl, rfl⟩)
        go_round
        case rel =>
          refine ⟨k + 1, by omega, by omega, by go_num, fun j j1 j2 => ?_⟩
          rcases Nat.lt_or_ge j k with h | h
          · exact hn.out j j1 h
          · obtain rfl : j = k := by omega
            rw [HY.out]
            have := E.out
            simpa using this
        case measure => simp [intOf]; omega
      · have E : Hid (y = x) := by unfold Hid; simpa using e
        go_wp2_with (go_at_call 133; refine (hK.out _).mono ?_; rintro e w' ⟨rfl, rfl⟩)
        go_ret
        refine ⟨?_, rfl⟩
        rw [← E.out, ← HY.out, opOf_kw k h2 hlt]
        rfl
    · go_wp2
      go_ret
      exact ⟨by rw [opOf_none x fun j j1 j2 => hn.out j j1 (by omega)]; rfl, rfl⟩
theorem starts_any {B bp : Nat} {T : List Tok} {s : PS} {w : World} (h : PSt B bp T s w) :
    Calls Tryz.prog 65 #[.pointer (some ⟨bp, 0, none⟩)] w (SP B bp T s (.bool (startsB T s)) w) := by
  have hN := Lib.hid (next_any' h)
  have hI := Lib.hid (fun w (h : PSt B bp T s w) => isName_any h)
  have e1 : startsB T s = (isN T s || ((s.next T).kind == 1 && opOf (s.next T).text != 0)) := rfl
  rw [e1]
  clear e1
  generalize s.next T = tt at hN ⊢
  generalize isN T s = b at hI ⊢
  obtain ⟨k, y, l, c⟩ := tt
  dsimp only [tokV] at hN ⊢
  have hO := Lib.hid (fun w => operation_any y w)
  clear h
  obtain ⟨ov, hov⟩ : ∃ o, opOf y = o := ⟨_, rfl⟩
  rw [hov] at hO ⊢
  clear hov
  go_enter Tryz.func65, Tryz.ntmps65
  go_wp2_with fail
  refine hN.out.mono ?_
  rintro e w1 ⟨rfl, h1, b1⟩
  have hlt1 := h1.lt
  have H1 := Lib.hid (h1.alloc (.cells #[.int .i64 k, sv y, .int .i64 l, .int .i64 c] 78))
  have B1 := Lib.hid (b1.alloc (.cells #[.int .i64 k, sv y, .int .i64 l, .int .i64 c] 78))
  have HI := Lib.hid (hI.out _ H1.out)
  clear h1 b1 hI
  go_wp2_with fail
  refine HI.out.mono ?_
  rintro e w2 ⟨rfl, h2, b2⟩
  have c0 : w2.cell? ⟨w1.heap.size, 0, none⟩ = some (.int .i64 k) := (b2.cell w1.heap.size 0 (by simp) (by omega)).trans (World.cell?_alloc_new _ _ _ _)
  have c1 : w2.cell? ⟨w1.heap.size, 1, none⟩ = some (sv y) := (b2.cell w1.heap.size 1 (by simp) (by omega)).trans (World.cell?_alloc_new _ _ _ _)
  have H2 := Lib.hid h2
  have B2 := Lib.hid (B1.out.trans b2)
  clear h2 b2 HI
  cases b
  · cases hk : k == 1
    · have HK := Lib.hid hk
      go_wp2
      go_ret
      exact ⟨ret_bool (by rw [HK.out]; rfl), H2.out, B2.out⟩
    · have HK := Lib.hid hk
      go_wp2_with (go_at_call 103; refine (hO.out _).mono ?_; rintro e w' ⟨rfl, rfl⟩)
      go_ret
      exact ⟨ret_bool (by rw [HK.out]; simp), H2.out, B2.out⟩
  · go_wp2
    go_ret
    exact ⟨rfl, H2.out, B2.out⟩
end Go.Proofs.YtipnhmdibkkifaaGreatDoor
