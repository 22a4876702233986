/- Walk of the generator 'stmt'. Printed by wip/gen_gens.py. -/
import Derived.Test.YtpnfdmajpkpjoaaDoorQGen
set_option linter.unusedVariables false
set_option linter.unusedSimpArgs false
namespace Go.Proofs.YtpnfdmajpkpjoaaDoor
open Go.RowKit

theorem But.blk {bt b : Nat} {w w' : World} {o : Obj} (h : But bt w w') (hb : w.heap[b]? = some o) (hne : b ≠ bt) : w'.heap[b]? = some o := (h.block b (lt_heap hb) hne).trans hb
theorem Below.blk {b : Nat} {w w' : World} {o : Obj} (h : Below w.heap.size w w') (hb : w.heap[b]? = some o) : w'.heap[b]? = some o := (h.block b (lt_heap hb)).trans hb
theorem alloc_blk {b : Nat} {w : World} {o : Obj} (x : Obj) (hb : w.heap[b]? = some o) : (w.alloc x).heap[b]? = some o := (Below.heap_alloc w x b (lt_heap hb)).trans hb

theorem blk_cells {w : World} {b : Nat} {c : Array Value} {t : TypeId} (h : w.heap[b]? = some (.cells c t (0, 0))) : (∀ o, w.cell? ⟨b, o, none⟩ = c[o]?) ∧ ∀ o, w.frozen? ⟨b, o, none⟩ = false :=
  ⟨fun o => by simp [World.cell?, h], fun o => by simp [World.frozen?, h]⟩
theorem set4 {w : World} {b : Nat} {a0 a1 a2 a3 : Value} {t : TypeId} {fr : Nat × Nat} (h : w.heap[b]? = some (.cells #[a0, a1, a2, a3] t fr)) (x0 x1 x2 x3 : Value) :
    ((((w.setCell ⟨b, 0, none⟩ x0).setCell ⟨b, 1, none⟩ x1).setCell ⟨b, 2, none⟩ x2).setCell ⟨b, 3, none⟩ x3).heap[b]? = some (.cells #[x0, x1, x2, x3] t fr) := by
  simp [World.setCell, Array.getElem?_modify, h]

/-- A slice cut at its front: its first m elements. -/
theorem SliceAt.front {w : World} {T b : Nat} {n c : Nat} {xs : List Value} (h : SliceAt w T 1 (.slice (some ⟨b, 0, none⟩) n c) xs) (m : Nat) (hm : m ≤ n) : SliceAt w T 1 (.slice (some ⟨b, 0, none⟩) m c) (xs.take m) := by
  obtain ⟨n', cap, h1, h2, h3, h4⟩ := h
  rcases h4 with ⟨e, _⟩ | ⟨b', off, cs, fr, e, e2, e3⟩
  · injection e with e1; cases e1
  · injection e with e1 e4 e5
    injection e1 with e1
    injection e1 with e6 e7
    subst e4 e5 e6 e7
    refine ⟨m, c, by simp; omega, by omega, h3, .inr ⟨b, 0, cs, fr, rfl, e2, fun i hi => ?_⟩⟩
    simp at hi
    rw [List.getElem?_take_of_lt (by omega)]
    exact e3 i (by omega)

/-- What a drawn statement comes to. -/
def StmtPost (B bt : Nat) (F : Int) (w : World) (e : Ending) (w' : World) : Prop :=
  ∃ s u t, GenBody F s ∧ e = .returned (.agg #[.int .i64 s.op, sv s.dfn, u, t]) ∧ StrsAt w' u s.uses ∧ StrsAt w' t s.targets ∧ TapeOk B w' bt ∧ But bt w w'

def zeroStmt : Array Value := #[.int .i64 0, .string ⟨#[]⟩, .slice none 0 0, .slice none 0 0]

theorem stmt_close {B bt : Nat} {F : Int} {w wk : World} (s : PStmt) (u t : Value) (hg : GenBody F s) (ht : TapeOk B wk bt) (hb : But bt w wk) (hlt : bt < w.heap.size)
    (hr : wk.heap[w.heap.size]? = some (.cells #[.int .i64 0, .string ⟨#[]⟩, .slice none 0 0, .slice none 0 0] 67 (0, 0))) (hu : StrsAt wk u s.uses) (ht2 : StrsAt wk t s.targets) :
    StmtPost B bt F w (.returned (.agg #[.int .i64 s.op, sv s.dfn, u, t])) ((((wk.setCell ⟨w.heap.size, 0, none⟩ (.int .i64 s.op)).setCell ⟨w.heap.size, 1, none⟩ (sv s.dfn)).setCell ⟨w.heap.size, 2, none⟩ u).setCell ⟨w.heap.size, 3, none⟩ t) := by
  have hge := ht.ge
  have hB : B ≤ w.heap.size := by omega
  have hS (x : World) (y : Value) (o : Nat) (h : tyAt x w.heap.size = some 67) : SameT 9 x (x.setCell ⟨w.heap.size, o, none⟩ y) := SameT.setCell (U := 67) h (by decide)
  have ty (x : World) (y : Value) (o : Nat) : tyAt (x.setCell ⟨w.heap.size, o, none⟩ y) w.heap.size = tyAt x w.heap.size := by
    unfold tyAt
    simp only [World.setCell, Array.getElem?_modify, if_true]
    cases x.heap[w.heap.size]? with
    | none => rfl
    | some o => cases o <;> rfl
  have t0 := tyAt_of hr
  have key : SameT 9 wk ((((wk.setCell ⟨w.heap.size, 0, none⟩ (.int .i64 s.op)).setCell ⟨w.heap.size, 1, none⟩ (sv s.dfn)).setCell ⟨w.heap.size, 2, none⟩ u).setCell ⟨w.heap.size, 3, none⟩ t) :=
    (((hS _ _ _ t0).trans (hS _ _ _ (by rw [ty]; exact t0))).trans (hS _ _ _ (by rw [ty, ty]; exact t0))).trans (hS _ _ _ (by rw [ty, ty, ty]; exact t0))
  refine ⟨s, u, t, hg, rfl, hu.same key, ht2.same key, ?_, ?_⟩
  · exact (((ht.setCell (by show w.heap.size ≠ bt; omega) hB _).setCell (by show w.heap.size ≠ bt; omega) hB _).setCell (by show w.heap.size ≠ bt; omega) hB _).setCell (by show w.heap.size ≠ bt; omega) hB _
  · exact (((hb.setCell _ (.inr (Nat.le_refl _)) _).setCell _ (.inr (Nat.le_refl _)) _).setCell _ (.inr (Nat.le_refl _)) _).setCell _ (.inr (Nat.le_refl _)) _

/-- After the first choice. -/
structure StIn (B bt : Nat) (w w1 : World) : Prop where
  tape : TapeOk B w1 bt
  but : But bt w w1
  blk : w1.heap[w.heap.size]? = some (.cells #[.int .i64 0, .string ⟨#[]⟩, .slice none 0 0, .slice none 0 0] 67 (0, 0))
theorem StIn.call {B bt : Nat} {w w1 w2 : World} (h : StIn B bt w w1) (hlt : bt < w.heap.size) (ht : TapeOk B w2 bt) (hb : But bt w1 w2) : StIn B bt w w2 :=
  ⟨ht, h.but.trans hb, hb.blk h.blk (by omega)⟩
theorem StIn.alloc {B bt : Nat} {w w1 : World} (h : StIn B bt w w1) (o : Obj) : StIn B bt w (w1.alloc o) := ⟨h.tape.alloc o, h.but.alloc o, alloc_blk _ h.blk⟩

theorem TapeOk.ty {B bt : Nat} {w : World} (h : TapeOk B w bt) : tyAt w bt = some 47 := by
  obtain ⟨a, n, c, i, h1, _⟩ := h.get
  exact tyAt_of h1
theorem SameT.but {T bt : Nat} {w w' : World} (h : But bt w w') (ht : tyAt w bt ≠ some T) : SameT T w w' := fun b c fr e =>
  (h.block b (lt_heap e) (fun hb => ht (by rw [← hb]; exact tyAt_of e))).trans e

set_option maxHeartbeats 4000000 in
theorem stmt_any {B bt : Nat} {w : World} (ht : TapeOk B w bt) (F : Int) (hF1 : 1 ≤ F) (hF3 : F ≤ 3) :
    Calls Tryd.prog 29 #[.pointer (some ⟨bt, 0, none⟩), .int .i64 F] w (StmtPost B bt F w) := by
  have hlt := ht.lt
  have h0 := Lib.hid (show StIn B bt w (w.alloc (.cells #[.int .i64 0, .string ⟨#[]⟩, .slice none 0 0, .slice none 0 0] 67)) from ⟨ht.alloc _, (But.refl _ _).alloc _, heap_alloc_new _ _⟩)
  clear ht
  go_enter Tryd.func29, Tryd.ntmps29
  go_wp2_with fail
  refine (next_any h0.out.tape _ (by omega)).mono ?_
  rintro e w1 ⟨r, r0, r9, rfl, t1, b1⟩
  have S1 := Lib.hid (h0.out.call hlt t1 b1)
  clear t1 b1 h0
  have hr : r = 0 ∨ r = 1 ∨ r = 2 ∨ r = 3 ∨ r = 4 ∨ r = 5 ∨ r = 6 ∨ r = 7 ∨ r = 8 := by omega
  clear r0 r9
  rcases hr with rfl | rfl | rfl | rfl | rfl | rfl | rfl | rfl | rfl
  · skip
    go_wp2_with fail
    refine (name_any (S1.out).tape).mono ?_
    rintro e w2 ⟨s2, hs2, rfl, t2, b2⟩
    have S2 := Lib.hid ((S1.out).call hlt t2 b2)
    clear t2 b2
    go_wp2_with fail
    refine (name_any (S2.out).tape).mono ?_
    rintro e w3 ⟨s3, hs3, rfl, t3, b3⟩
    have S3 := Lib.hid ((S2.out).call hlt t3 b3)
    clear t3 b3
    go_wp2_with fail
    refine (name_any (S3.out).tape).mono ?_
    rintro e w4 ⟨s4, hs4, rfl, t4, b4⟩
    have S4 := Lib.hid ((S3.out).call hlt t4 b4)
    clear t4 b4
    go_wp2_with fail
    refine (name_any (S4.out).tape).mono ?_
    rintro e w5 ⟨s5, hs5, rfl, t5, b5⟩
    have S5 := Lib.hid ((S4.out).call hlt t5 b5)
    clear t5 b5
    go_wp2_with fail
    refine (next_any (S5.out.alloc (.cells #[sv s3, sv s4, sv s5] 9)).tape _ (by omega)).mono ?_
    rintro e w6 ⟨r, q1, q2, rfl, t6, b6⟩
    have S6 := Lib.hid ((S5.out.alloc (.cells #[sv s3, sv s4, sv s5] 9)).call hlt t6 b6)
    have hu : Hid (StrsAt w6 (.slice (some ⟨w5.heap.size, 0, none⟩) 3 3) [s3, s4, s5]) := SliceAt.same (SliceAt.new [sv s3, sv s4, sv s5] 3 rfl (by unfold maxLen; omega)) (SameT.but b6 (by rw [(S5.out.alloc (.cells #[sv s3, sv s4, sv s5] 9)).tape.ty]; decide))
    clear t6 b6
    have hr : r = 0 ∨ r = 1 ∨ r = 2 ∨ r = 3 := by omega
    rcases hr with rfl | rfl | rfl | rfl
    · skip
      have G := set4 (S6.out).blk (.int .i64 1) (sv s2) (.slice (some ⟨w5.heap.size, 0, none⟩) 0 3) (.slice none 0 0)
      have ⟨gc, _⟩ := blk_cells G
      have ⟨hc, hf⟩ := blk_cells (S6.out).blk
      go_wp2
      refine bodyPost_ret (v := .agg #[.int .i64 1, sv s2, .slice (some ⟨w5.heap.size, 0, none⟩) 0 3, .slice none 0 0]) ?_ rfl ?_
      · simp [results, Tryd.results29, go_sem, gc]
      · exact stmt_close ⟨1, s2, [s3, s4, s5].take 0, []⟩ (.slice (some ⟨w5.heap.size, 0, none⟩) 0 3) (.slice none 0 0) (.inr (.inr (.inr (.inr ⟨rfl, hs2, ⟨by simp, by simp [hs3, hs4, hs5]⟩, rfl⟩)))) (S6.out).tape (S6.out).but hlt (S6.out).blk (SliceAt.front hu.out 0 (by omega)) SliceAt.nil
    · skip
      have G := set4 (S6.out).blk (.int .i64 1) (sv s2) (.slice (some ⟨w5.heap.size, 0, none⟩) 1 3) (.slice none 0 0)
      have ⟨gc, _⟩ := blk_cells G
      have ⟨hc, hf⟩ := blk_cells (S6.out).blk
      go_wp2
      refine bodyPost_ret (v := .agg #[.int .i64 1, sv s2, .slice (some ⟨w5.heap.size, 0, none⟩) 1 3, .slice none 0 0]) ?_ rfl ?_
      · simp [results, Tryd.results29, go_sem, gc]
      · exact stmt_close ⟨1, s2, [s3, s4, s5].take 1, []⟩ (.slice (some ⟨w5.heap.size, 0, none⟩) 1 3) (.slice none 0 0) (.inr (.inr (.inr (.inr ⟨rfl, hs2, ⟨by simp, by simp [hs3, hs4, hs5]⟩, rfl⟩)))) (S6.out).tape (S6.out).but hlt (S6.out).blk (SliceAt.front hu.out 1 (by omega)) SliceAt.nil
    · skip
      have G := set4 (S6.out).blk (.int .i64 1) (sv s2) (.slice (some ⟨w5.heap.size, 0, none⟩) 2 3) (.slice none 0 0)
      have ⟨gc, _⟩ := blk_cells G
      have ⟨hc, hf⟩ := blk_cells (S6.out).blk
      go_wp2
      refine bodyPost_ret (v := .agg #[.int .i64 1, sv s2, .slice (some ⟨w5.heap.size, 0, none⟩) 2 3, .slice none 0 0]) ?_ rfl ?_
      · simp [results, Tryd.results29, go_sem, gc]
      · exact stmt_close ⟨1, s2, [s3, s4, s5].take 2, []⟩ (.slice (some ⟨w5.heap.size, 0, none⟩) 2 3) (.slice none 0 0) (.inr (.inr (.inr (.inr ⟨rfl, hs2, ⟨by simp, by simp [hs3, hs4, hs5]⟩, rfl⟩)))) (S6.out).tape (S6.out).but hlt (S6.out).blk (SliceAt.front hu.out 2 (by omega)) SliceAt.nil
    · skip
      have G := set4 (S6.out).blk (.int .i64 1) (sv s2) (.slice (some ⟨w5.heap.size, 0, none⟩) 3 3) (.slice none 0 0)
      have ⟨gc, _⟩ := blk_cells G
      have ⟨hc, hf⟩ := blk_cells (S6.out).blk
      go_wp2
      refine bodyPost_ret (v := .agg #[.int .i64 1, sv s2, .slice (some ⟨w5.heap.size, 0, none⟩) 3 3, .slice none 0 0]) ?_ rfl ?_
      · simp [results, Tryd.results29, go_sem, gc]
      · exact stmt_close ⟨1, s2, [s3, s4, s5].take 3, []⟩ (.slice (some ⟨w5.heap.size, 0, none⟩) 3 3) (.slice none 0 0) (.inr (.inr (.inr (.inr ⟨rfl, hs2, ⟨by simp, by simp [hs3, hs4, hs5]⟩, rfl⟩)))) (S6.out).tape (S6.out).but hlt (S6.out).blk (SliceAt.front hu.out 3 (by omega)) SliceAt.nil
  · skip
    go_wp2_with fail
    refine (name_any (S1.out).tape).mono ?_
    rintro e w2 ⟨s2, hs2, rfl, t2, b2⟩
    have S2 := Lib.hid ((S1.out).call hlt t2 b2)
    clear t2 b2
    go_wp2_with fail
    refine (name_any (S2.out).tape).mono ?_
    rintro e w3 ⟨s3, hs3, rfl, t3, b3⟩
    have S3 := Lib.hid ((S2.out).call hlt t3 b3)
    clear t3 b3
    go_wp2_with fail
    refine (next_any (S3.out.alloc (.cells #[sv s2, sv s3] 9)).tape _ (by omega)).mono ?_
    rintro e w4 ⟨r, q1, q2, rfl, t4, b4⟩
    have S4 := Lib.hid ((S3.out.alloc (.cells #[sv s2, sv s3] 9)).call hlt t4 b4)
    have hu : Hid (StrsAt w4 (.slice (some ⟨w3.heap.size, 0, none⟩) 2 2) [s2, s3]) := SliceAt.same (SliceAt.new [sv s2, sv s3] 2 rfl (by unfold maxLen; omega)) (SameT.but b4 (by rw [(S3.out.alloc (.cells #[sv s2, sv s3] 9)).tape.ty]; decide))
    clear t4 b4
    have hr : r = 0 ∨ r = 1 := by omega
    rcases hr with rfl | rfl
    · skip
      have G := set4 (S4.out).blk (.int .i64 2) (.string ⟨#[]⟩) (.slice (some ⟨w3.heap.size, 0, none⟩) 1 2) (.slice none 0 0)
      have ⟨gc, _⟩ := blk_cells G
      have ⟨hc, hf⟩ := blk_cells (S4.out).blk
      go_wp2
      refine bodyPost_ret (v := .agg #[.int .i64 2, .string ⟨#[]⟩, .slice (some ⟨w3.heap.size, 0, none⟩) 1 2, .slice none 0 0]) ?_ rfl ?_
      · simp [results, Tryd.results29, go_sem, gc]
      · exact stmt_close ⟨2, [], [s2, s3].take 1, []⟩ (.slice (some ⟨w3.heap.size, 0, none⟩) 1 2) (.slice none 0 0) (.inl ⟨rfl, rfl, ⟨by simp, by simp, by simp [hs2, hs3]⟩, rfl⟩) (S4.out).tape (S4.out).but hlt (S4.out).blk (SliceAt.front hu.out 1 (by omega)) SliceAt.nil
    · skip
      have G := set4 (S4.out).blk (.int .i64 2) (.string ⟨#[]⟩) (.slice (some ⟨w3.heap.size, 0, none⟩) 2 2) (.slice none 0 0)
      have ⟨gc, _⟩ := blk_cells G
      have ⟨hc, hf⟩ := blk_cells (S4.out).blk
      go_wp2
      refine bodyPost_ret (v := .agg #[.int .i64 2, .string ⟨#[]⟩, .slice (some ⟨w3.heap.size, 0, none⟩) 2 2, .slice none 0 0]) ?_ rfl ?_
      · simp [results, Tryd.results29, go_sem, gc]
      · exact stmt_close ⟨2, [], [s2, s3].take 2, []⟩ (.slice (some ⟨w3.heap.size, 0, none⟩) 2 2) (.slice none 0 0) (.inl ⟨rfl, rfl, ⟨by simp, by simp, by simp [hs2, hs3]⟩, rfl⟩) (S4.out).tape (S4.out).but hlt (S4.out).blk (SliceAt.front hu.out 2 (by omega)) SliceAt.nil
  · skip
    go_wp2_with fail
    refine (name_any (S1.out).tape).mono ?_
    rintro e w2 ⟨s2, hs2, rfl, t2, b2⟩
    have S2 := Lib.hid ((S1.out).call hlt t2 b2)
    clear t2 b2
    have G := set4 (S2.out).blk (.int .i64 4) (sv s2) (.slice none 0 0) (.slice none 0 0)
    have ⟨gc, _⟩ := blk_cells G
    have ⟨hc, hf⟩ := blk_cells (S2.out).blk
    go_wp2
    refine bodyPost_ret (v := .agg #[.int .i64 4, sv s2, .slice none 0 0, .slice none 0 0]) ?_ rfl ?_
    · simp [results, Tryd.results29, go_sem, gc]
    · exact stmt_close ⟨4, s2, [], []⟩ (.slice none 0 0) (.slice none 0 0) (.inr (.inl ⟨.inl rfl, hs2, rfl, rfl⟩)) (S2.out).tape (S2.out).but hlt (S2.out).blk SliceAt.nil SliceAt.nil
  · skip
    go_wp2_with fail
    refine (name_any (S1.out).tape).mono ?_
    rintro e w2 ⟨s2, hs2, rfl, t2, b2⟩
    have S2 := Lib.hid ((S1.out).call hlt t2 b2)
    clear t2 b2
    have G := set4 (S2.out.alloc (.cells #[sv s2] 9)).blk (.int .i64 5) (.string ⟨#[]⟩) (.slice (some ⟨w2.heap.size, 0, none⟩) 1 1) (.slice none 0 0)
    have ⟨gc, _⟩ := blk_cells G
    have ⟨hc, hf⟩ := blk_cells (S2.out.alloc (.cells #[sv s2] 9)).blk
    go_wp2
    refine bodyPost_ret (v := .agg #[.int .i64 5, .string ⟨#[]⟩, .slice (some ⟨w2.heap.size, 0, none⟩) 1 1, .slice none 0 0]) ?_ rfl ?_
    · simp [results, Tryd.results29, go_sem, gc]
    · exact stmt_close ⟨5, [], [s2], []⟩ (.slice (some ⟨w2.heap.size, 0, none⟩) 1 1) (.slice none 0 0) (.inr (.inr (.inl ⟨rfl, rfl, ⟨s2, hs2, rfl⟩, rfl⟩))) (S2.out.alloc (.cells #[sv s2] 9)).tape (S2.out.alloc (.cells #[sv s2] 9)).but hlt (S2.out.alloc (.cells #[sv s2] 9)).blk (SliceAt.new [sv s2] 1 rfl (by unfold maxLen; omega)) SliceAt.nil
  · skip
    go_wp2_with fail
    refine (name_any (S1.out).tape).mono ?_
    rintro e w2 ⟨s2, hs2, rfl, t2, b2⟩
    have S2 := Lib.hid ((S1.out).call hlt t2 b2)
    clear t2 b2
    have G := set4 (S2.out).blk (.int .i64 6) (sv s2) (.slice none 0 0) (.slice none 0 0)
    have ⟨gc, _⟩ := blk_cells G
    have ⟨hc, hf⟩ := blk_cells (S2.out).blk
    go_wp2
    refine bodyPost_ret (v := .agg #[.int .i64 6, sv s2, .slice none 0 0, .slice none 0 0]) ?_ rfl ?_
    · simp [results, Tryd.results29, go_sem, gc]
    · exact stmt_close ⟨6, s2, [], []⟩ (.slice none 0 0) (.slice none 0 0) (.inr (.inl ⟨.inr rfl, hs2, rfl, rfl⟩)) (S2.out).tape (S2.out).but hlt (S2.out).blk SliceAt.nil SliceAt.nil
  · skip
    go_wp2_with fail
    refine (next_any (S1.out.alloc (.cells #[sv [109], sv [102], sv [103]] 9)).tape _ (by omega)).mono ?_
    rintro e w2 ⟨r, q1, q2, rfl, t2, b2⟩
    have S2 := Lib.hid ((S1.out.alloc (.cells #[sv [109], sv [102], sv [103]] 9)).call hlt t2 b2)
    have hc2 : ∀ o, w2.cell? ⟨w1.heap.size, o, none⟩ = _ := (blk_cells (b2.blk (heap_alloc_new w1 (.cells #[sv [109], sv [102], sv [103]] 9)) (by have := S1.out.tape.lt; omega))).1
    clear t2 b2
    have hr : (r = 0 ∧ (((0 : Nat) : Int) < F)) ∨ (r = 1 ∧ (((1 : Nat) : Int) < F)) ∨ (r = 2 ∧ (((2 : Nat) : Int) < F)) := by omega
    have HF := Lib.hid hr
    have hr2 : r = 0 ∨ r = 1 ∨ r = 2 := by omega
    clear hr
    rcases hr2 with rfl | rfl | rfl
    · skip
      have G := set4 (S2.out.alloc (.cells #[sv [109]] 9)).blk (.int .i64 3) (.string ⟨#[]⟩) (.slice none 0 0) (.slice (some ⟨w2.heap.size, 0, none⟩) 1 1)
      have ⟨gc, _⟩ := blk_cells G
      have ⟨hc, hf⟩ := blk_cells (S2.out.alloc (.cells #[sv [109]] 9)).blk
      go_wp2
      refine bodyPost_ret (v := .agg #[.int .i64 3, .string ⟨#[]⟩, .slice none 0 0, .slice (some ⟨w2.heap.size, 0, none⟩) 1 1]) ?_ rfl ?_
      · simp [results, Tryd.results29, go_sem, gc]
      · exact stmt_close ⟨3, [], [], [[109]]⟩ (.slice none 0 0) (.slice (some ⟨w2.heap.size, 0, none⟩) 1 1) (.inr (.inr (.inr (.inl ⟨rfl, rfl, rfl, 0, by have := HF.out; omega, _, rfl, rfl⟩)))) (S2.out.alloc (.cells #[sv [109]] 9)).tape (S2.out.alloc (.cells #[sv [109]] 9)).but hlt (S2.out.alloc (.cells #[sv [109]] 9)).blk SliceAt.nil (SliceAt.new [sv [109]] 1 rfl (by unfold maxLen; omega))
    · skip
      have G := set4 (S2.out.alloc (.cells #[sv [102]] 9)).blk (.int .i64 3) (.string ⟨#[]⟩) (.slice none 0 0) (.slice (some ⟨w2.heap.size, 0, none⟩) 1 1)
      have ⟨gc, _⟩ := blk_cells G
      have ⟨hc, hf⟩ := blk_cells (S2.out.alloc (.cells #[sv [102]] 9)).blk
      go_wp2
      refine bodyPost_ret (v := .agg #[.int .i64 3, .string ⟨#[]⟩, .slice none 0 0, .slice (some ⟨w2.heap.size, 0, none⟩) 1 1]) ?_ rfl ?_
      · simp [results, Tryd.results29, go_sem, gc]
      · exact stmt_close ⟨3, [], [], [[102]]⟩ (.slice none 0 0) (.slice (some ⟨w2.heap.size, 0, none⟩) 1 1) (.inr (.inr (.inr (.inl ⟨rfl, rfl, rfl, 1, by have := HF.out; omega, _, rfl, rfl⟩)))) (S2.out.alloc (.cells #[sv [102]] 9)).tape (S2.out.alloc (.cells #[sv [102]] 9)).but hlt (S2.out.alloc (.cells #[sv [102]] 9)).blk SliceAt.nil (SliceAt.new [sv [102]] 1 rfl (by unfold maxLen; omega))
    · skip
      have G := set4 (S2.out.alloc (.cells #[sv [103]] 9)).blk (.int .i64 3) (.string ⟨#[]⟩) (.slice none 0 0) (.slice (some ⟨w2.heap.size, 0, none⟩) 1 1)
      have ⟨gc, _⟩ := blk_cells G
      have ⟨hc, hf⟩ := blk_cells (S2.out.alloc (.cells #[sv [103]] 9)).blk
      go_wp2
      refine bodyPost_ret (v := .agg #[.int .i64 3, .string ⟨#[]⟩, .slice none 0 0, .slice (some ⟨w2.heap.size, 0, none⟩) 1 1]) ?_ rfl ?_
      · simp [results, Tryd.results29, go_sem, gc]
      · exact stmt_close ⟨3, [], [], [[103]]⟩ (.slice none 0 0) (.slice (some ⟨w2.heap.size, 0, none⟩) 1 1) (.inr (.inr (.inr (.inl ⟨rfl, rfl, rfl, 2, by have := HF.out; omega, _, rfl, rfl⟩)))) (S2.out.alloc (.cells #[sv [103]] 9)).tape (S2.out.alloc (.cells #[sv [103]] 9)).but hlt (S2.out.alloc (.cells #[sv [103]] 9)).blk SliceAt.nil (SliceAt.new [sv [103]] 1 rfl (by unfold maxLen; omega))
  · skip
    go_wp2_with fail
    refine (next_any (S1.out.alloc (.cells #[sv [109], sv [102], sv [103]] 9)).tape _ (by omega)).mono ?_
    rintro e w2 ⟨r, q1, q2, rfl, t2, b2⟩
    have S2 := Lib.hid ((S1.out.alloc (.cells #[sv [109], sv [102], sv [103]] 9)).call hlt t2 b2)
    have hc2 : ∀ o, w2.cell? ⟨w1.heap.size, o, none⟩ = _ := (blk_cells (b2.blk (heap_alloc_new w1 (.cells #[sv [109], sv [102], sv [103]] 9)) (by have := S1.out.tape.lt; omega))).1
    clear t2 b2
    have hr : (r = 0 ∧ (((0 : Nat) : Int) < F)) ∨ (r = 1 ∧ (((1 : Nat) : Int) < F)) ∨ (r = 2 ∧ (((2 : Nat) : Int) < F)) := by omega
    have HF := Lib.hid hr
    have hr2 : r = 0 ∨ r = 1 ∨ r = 2 := by omega
    clear hr
    rcases hr2 with rfl | rfl | rfl
    · skip
      have G := set4 (S2.out.alloc (.cells #[sv [109]] 9)).blk (.int .i64 3) (.string ⟨#[]⟩) (.slice none 0 0) (.slice (some ⟨w2.heap.size, 0, none⟩) 1 1)
      have ⟨gc, _⟩ := blk_cells G
      have ⟨hc, hf⟩ := blk_cells (S2.out.alloc (.cells #[sv [109]] 9)).blk
      go_wp2
      refine bodyPost_ret (v := .agg #[.int .i64 3, .string ⟨#[]⟩, .slice none 0 0, .slice (some ⟨w2.heap.size, 0, none⟩) 1 1]) ?_ rfl ?_
      · simp [results, Tryd.results29, go_sem, gc]
      · exact stmt_close ⟨3, [], [], [[109]]⟩ (.slice none 0 0) (.slice (some ⟨w2.heap.size, 0, none⟩) 1 1) (.inr (.inr (.inr (.inl ⟨rfl, rfl, rfl, 0, by have := HF.out; omega, _, rfl, rfl⟩)))) (S2.out.alloc (.cells #[sv [109]] 9)).tape (S2.out.alloc (.cells #[sv [109]] 9)).but hlt (S2.out.alloc (.cells #[sv [109]] 9)).blk SliceAt.nil (SliceAt.new [sv [109]] 1 rfl (by unfold maxLen; omega))
    · skip
      have G := set4 (S2.out.alloc (.cells #[sv [102]] 9)).blk (.int .i64 3) (.string ⟨#[]⟩) (.slice none 0 0) (.slice (some ⟨w2.heap.size, 0, none⟩) 1 1)
      have ⟨gc, _⟩ := blk_cells G
      have ⟨hc, hf⟩ := blk_cells (S2.out.alloc (.cells #[sv [102]] 9)).blk
      go_wp2
      refine bodyPost_ret (v := .agg #[.int .i64 3, .string ⟨#[]⟩, .slice none 0 0, .slice (some ⟨w2.heap.size, 0, none⟩) 1 1]) ?_ rfl ?_
      · simp [results, Tryd.results29, go_sem, gc]
      · exact stmt_close ⟨3, [], [], [[102]]⟩ (.slice none 0 0) (.slice (some ⟨w2.heap.size, 0, none⟩) 1 1) (.inr (.inr (.inr (.inl ⟨rfl, rfl, rfl, 1, by have := HF.out; omega, _, rfl, rfl⟩)))) (S2.out.alloc (.cells #[sv [102]] 9)).tape (S2.out.alloc (.cells #[sv [102]] 9)).but hlt (S2.out.alloc (.cells #[sv [102]] 9)).blk SliceAt.nil (SliceAt.new [sv [102]] 1 rfl (by unfold maxLen; omega))
    · skip
      have G := set4 (S2.out.alloc (.cells #[sv [103]] 9)).blk (.int .i64 3) (.string ⟨#[]⟩) (.slice none 0 0) (.slice (some ⟨w2.heap.size, 0, none⟩) 1 1)
      have ⟨gc, _⟩ := blk_cells G
      have ⟨hc, hf⟩ := blk_cells (S2.out.alloc (.cells #[sv [103]] 9)).blk
      go_wp2
      refine bodyPost_ret (v := .agg #[.int .i64 3, .string ⟨#[]⟩, .slice none 0 0, .slice (some ⟨w2.heap.size, 0, none⟩) 1 1]) ?_ rfl ?_
      · simp [results, Tryd.results29, go_sem, gc]
      · exact stmt_close ⟨3, [], [], [[103]]⟩ (.slice none 0 0) (.slice (some ⟨w2.heap.size, 0, none⟩) 1 1) (.inr (.inr (.inr (.inl ⟨rfl, rfl, rfl, 2, by have := HF.out; omega, _, rfl, rfl⟩)))) (S2.out.alloc (.cells #[sv [103]] 9)).tape (S2.out.alloc (.cells #[sv [103]] 9)).but hlt (S2.out.alloc (.cells #[sv [103]] 9)).blk SliceAt.nil (SliceAt.new [sv [103]] 1 rfl (by unfold maxLen; omega))
  · skip
    go_wp2_with fail
    refine (name_any (S1.out).tape).mono ?_
    rintro e w2 ⟨s2, hs2, rfl, t2, b2⟩
    have S2 := Lib.hid ((S1.out).call hlt t2 b2)
    clear t2 b2
    go_wp2_with fail
    refine (name_any (S2.out).tape).mono ?_
    rintro e w3 ⟨s3, hs3, rfl, t3, b3⟩
    have S3 := Lib.hid ((S2.out).call hlt t3 b3)
    clear t3 b3
    go_wp2_with fail
    refine (name_any (S3.out).tape).mono ?_
    rintro e w4 ⟨s4, hs4, rfl, t4, b4⟩
    have S4 := Lib.hid ((S3.out).call hlt t4 b4)
    clear t4 b4
    go_wp2_with fail
    refine (name_any (S4.out).tape).mono ?_
    rintro e w5 ⟨s5, hs5, rfl, t5, b5⟩
    have S5 := Lib.hid ((S4.out).call hlt t5 b5)
    clear t5 b5
    go_wp2_with fail
    refine (next_any (S5.out.alloc (.cells #[sv s3, sv s4, sv s5] 9)).tape _ (by omega)).mono ?_
    rintro e w6 ⟨r, q1, q2, rfl, t6, b6⟩
    have S6 := Lib.hid ((S5.out.alloc (.cells #[sv s3, sv s4, sv s5] 9)).call hlt t6 b6)
    have hu : Hid (StrsAt w6 (.slice (some ⟨w5.heap.size, 0, none⟩) 3 3) [s3, s4, s5]) := SliceAt.same (SliceAt.new [sv s3, sv s4, sv s5] 3 rfl (by unfold maxLen; omega)) (SameT.but b6 (by rw [(S5.out.alloc (.cells #[sv s3, sv s4, sv s5] 9)).tape.ty]; decide))
    clear t6 b6
    have hr : r = 0 ∨ r = 1 ∨ r = 2 ∨ r = 3 := by omega
    rcases hr with rfl | rfl | rfl | rfl
    · skip
      have G := set4 (S6.out).blk (.int .i64 1) (sv s2) (.slice (some ⟨w5.heap.size, 0, none⟩) 0 3) (.slice none 0 0)
      have ⟨gc, _⟩ := blk_cells G
      have ⟨hc, hf⟩ := blk_cells (S6.out).blk
      go_wp2
      refine bodyPost_ret (v := .agg #[.int .i64 1, sv s2, .slice (some ⟨w5.heap.size, 0, none⟩) 0 3, .slice none 0 0]) ?_ rfl ?_
      · simp [results, Tryd.results29, go_sem, gc]
      · exact stmt_close ⟨1, s2, [s3, s4, s5].take 0, []⟩ (.slice (some ⟨w5.heap.size, 0, none⟩) 0 3) (.slice none 0 0) (.inr (.inr (.inr (.inr ⟨rfl, hs2, ⟨by simp, by simp [hs3, hs4, hs5]⟩, rfl⟩)))) (S6.out).tape (S6.out).but hlt (S6.out).blk (SliceAt.front hu.out 0 (by omega)) SliceAt.nil
    · skip
      have G := set4 (S6.out).blk (.int .i64 1) (sv s2) (.slice (some ⟨w5.heap.size, 0, none⟩) 1 3) (.slice none 0 0)
      have ⟨gc, _⟩ := blk_cells G
      have ⟨hc, hf⟩ := blk_cells (S6.out).blk
      go_wp2
      refine bodyPost_ret (v := .agg #[.int .i64 1, sv s2, .slice (some ⟨w5.heap.size, 0, none⟩) 1 3, .slice none 0 0]) ?_ rfl ?_
      · simp [results, Tryd.results29, go_sem, gc]
      · exact stmt_close ⟨1, s2, [s3, s4, s5].take 1, []⟩ (.slice (some ⟨w5.heap.size, 0, none⟩) 1 3) (.slice none 0 0) (.inr (.inr (.inr (.inr ⟨rfl, hs2, ⟨by simp, by simp [hs3, hs4, hs5]⟩, rfl⟩)))) (S6.out).tape (S6.out).but hlt (S6.out).blk (SliceAt.front hu.out 1 (by omega)) SliceAt.nil
    · skip
      have G := set4 (S6.out).blk (.int .i64 1) (sv s2) (.slice (some ⟨w5.heap.size, 0, none⟩) 2 3) (.slice none 0 0)
      have ⟨gc, _⟩ := blk_cells G
      have ⟨hc, hf⟩ := blk_cells (S6.out).blk
      go_wp2
      refine bodyPost_ret (v := .agg #[.int .i64 1, sv s2, .slice (some ⟨w5.heap.size, 0, none⟩) 2 3, .slice none 0 0]) ?_ rfl ?_
      · simp [results, Tryd.results29, go_sem, gc]
      · exact stmt_close ⟨1, s2, [s3, s4, s5].take 2, []⟩ (.slice (some ⟨w5.heap.size, 0, none⟩) 2 3) (.slice none 0 0) (.inr (.inr (.inr (.inr ⟨rfl, hs2, ⟨by simp, by simp [hs3, hs4, hs5]⟩, rfl⟩)))) (S6.out).tape (S6.out).but hlt (S6.out).blk (SliceAt.front hu.out 2 (by omega)) SliceAt.nil
    · skip
      have G := set4 (S6.out).blk (.int .i64 1) (sv s2) (.slice (some ⟨w5.heap.size, 0, none⟩) 3 3) (.slice none 0 0)
      have ⟨gc, _⟩ := blk_cells G
      have ⟨hc, hf⟩ := blk_cells (S6.out).blk
      go_wp2
      refine bodyPost_ret (v := .agg #[.int .i64 1, sv s2, .slice (some ⟨w5.heap.size, 0, none⟩) 3 3, .slice none 0 0]) ?_ rfl ?_
      · simp [results, Tryd.results29, go_sem, gc]
      · exact stmt_close ⟨1, s2, [s3, s4, s5].take 3, []⟩ (.slice (some ⟨w5.heap.size, 0, none⟩) 3 3) (.slice none 0 0) (.inr (.inr (.inr (.inr ⟨rfl, hs2, ⟨by simp, by simp [hs3, hs4, hs5]⟩, rfl⟩)))) (S6.out).tape (S6.out).but hlt (S6.out).blk (SliceAt.front hu.out 3 (by omega)) SliceAt.nil
  · skip
    go_wp2_with fail
    refine (name_any (S1.out).tape).mono ?_
    rintro e w2 ⟨s2, hs2, rfl, t2, b2⟩
    have S2 := Lib.hid ((S1.out).call hlt t2 b2)
    clear t2 b2
    go_wp2_with fail
    refine (name_any (S2.out).tape).mono ?_
    rintro e w3 ⟨s3, hs3, rfl, t3, b3⟩
    have S3 := Lib.hid ((S2.out).call hlt t3 b3)
    clear t3 b3
    go_wp2_with fail
    refine (name_any (S3.out).tape).mono ?_
    rintro e w4 ⟨s4, hs4, rfl, t4, b4⟩
    have S4 := Lib.hid ((S3.out).call hlt t4 b4)
    clear t4 b4
    go_wp2_with fail
    refine (name_any (S4.out).tape).mono ?_
    rintro e w5 ⟨s5, hs5, rfl, t5, b5⟩
    have S5 := Lib.hid ((S4.out).call hlt t5 b5)
    clear t5 b5
    go_wp2_with fail
    refine (next_any (S5.out.alloc (.cells #[sv s3, sv s4, sv s5] 9)).tape _ (by omega)).mono ?_
    rintro e w6 ⟨r, q1, q2, rfl, t6, b6⟩
    have S6 := Lib.hid ((S5.out.alloc (.cells #[sv s3, sv s4, sv s5] 9)).call hlt t6 b6)
    have hu : Hid (StrsAt w6 (.slice (some ⟨w5.heap.size, 0, none⟩) 3 3) [s3, s4, s5]) := SliceAt.same (SliceAt.new [sv s3, sv s4, sv s5] 3 rfl (by unfold maxLen; omega)) (SameT.but b6 (by rw [(S5.out.alloc (.cells #[sv s3, sv s4, sv s5] 9)).tape.ty]; decide))
    clear t6 b6
    have hr : r = 0 ∨ r = 1 ∨ r = 2 ∨ r = 3 := by omega
    rcases hr with rfl | rfl | rfl | rfl
    · skip
      have G := set4 (S6.out).blk (.int .i64 1) (sv s2) (.slice (some ⟨w5.heap.size, 0, none⟩) 0 3) (.slice none 0 0)
      have ⟨gc, _⟩ := blk_cells G
      have ⟨hc, hf⟩ := blk_cells (S6.out).blk
      go_wp2
      refine bodyPost_ret (v := .agg #[.int .i64 1, sv s2, .slice (some ⟨w5.heap.size, 0, none⟩) 0 3, .slice none 0 0]) ?_ rfl ?_
      · simp [results, Tryd.results29, go_sem, gc]
      · exact stmt_close ⟨1, s2, [s3, s4, s5].take 0, []⟩ (.slice (some ⟨w5.heap.size, 0, none⟩) 0 3) (.slice none 0 0) (.inr (.inr (.inr (.inr ⟨rfl, hs2, ⟨by simp, by simp [hs3, hs4, hs5]⟩, rfl⟩)))) (S6.out).tape (S6.out).but hlt (S6.out).blk (SliceAt.front hu.out 0 (by omega)) SliceAt.nil
    · skip
      have G := set4 (S6.out).blk (.int .i64 1) (sv s2) (.slice (some ⟨w5.heap.size, 0, none⟩) 1 3) (.slice none 0 0)
      have ⟨gc, _⟩ := blk_cells G
      have ⟨hc, hf⟩ := blk_cells (S6.out).blk
      go_wp2
      refine bodyPost_ret (v := .agg #[.int .i64 1, sv s2, .slice (some ⟨w5.heap.size, 0, none⟩) 1 3, .slice none 0 0]) ?_ rfl ?_
      · simp [results, Tryd.results29, go_sem, gc]
      · exact stmt_close ⟨1, s2, [s3, s4, s5].take 1, []⟩ (.slice (some ⟨w5.heap.size, 0, none⟩) 1 3) (.slice none 0 0) (.inr (.inr (.inr (.inr ⟨rfl, hs2, ⟨by simp, by simp [hs3, hs4, hs5]⟩, rfl⟩)))) (S6.out).tape (S6.out).but hlt (S6.out).blk (SliceAt.front hu.out 1 (by omega)) SliceAt.nil
    · skip
      have G := set4 (S6.out).blk (.int .i64 1) (sv s2) (.slice (some ⟨w5.heap.size, 0, none⟩) 2 3) (.slice none 0 0)
      have ⟨gc, _⟩ := blk_cells G
      have ⟨hc, hf⟩ := blk_cells (S6.out).blk
      go_wp2
      refine bodyPost_ret (v := .agg #[.int .i64 1, sv s2, .slice (some ⟨w5.heap.size, 0, none⟩) 2 3, .slice none 0 0]) ?_ rfl ?_
      · simp [results, Tryd.results29, go_sem, gc]
      · exact stmt_close ⟨1, s2, [s3, s4, s5].take 2, []⟩ (.slice (some ⟨w5.heap.size, 0, none⟩) 2 3) (.slice none 0 0) (.inr (.inr (.inr (.inr ⟨rfl, hs2, ⟨by simp, by simp [hs3, hs4, hs5]⟩, rfl⟩)))) (S6.out).tape (S6.out).but hlt (S6.out).blk (SliceAt.front hu.out 2 (by omega)) SliceAt.nil
    · skip
      have G := set4 (S6.out).blk (.int .i64 1) (sv s2) (.slice (some ⟨w5.heap.size, 0, none⟩) 3 3) (.slice none 0 0)
      have ⟨gc, _⟩ := blk_cells G
      have ⟨hc, hf⟩ := blk_cells (S6.out).blk
      go_wp2
      refine bodyPost_ret (v := .agg #[.int .i64 1, sv s2, .slice (some ⟨w5.heap.size, 0, none⟩) 3 3, .slice none 0 0]) ?_ rfl ?_
      · simp [results, Tryd.results29, go_sem, gc]
      · exact stmt_close ⟨1, s2, [s3, s4, s5].take 3, []⟩ (.slice (some ⟨w5.heap.size, 0, none⟩) 3 3) (.slice none 0 0) (.inr (.inr (.inr (.inr ⟨rfl, hs2, ⟨by simp, by simp [hs3, hs4, hs5]⟩, rfl⟩)))) (S6.out).tape (S6.out).but hlt (S6.out).blk (SliceAt.front hu.out 3 (by omega)) SliceAt.nil
end Go.Proofs.YtpnfdmajpkpjoaaDoor


