/- Walk: the law's generator of operations. -/
import Derived.Test.YtgmlnbheceeklaaDoorScL1
import Derived.Test.YtgmlnbheceeklaaDoorTape
import Derived.Test.YtgmlnbheceeklaaDoorHold2
set_option linter.unusedVariables false
set_option linter.unusedSimpArgs false
set_option linter.unusedSectionVars false
namespace Go.Proofs.YtgmlnbheceeklaaDoor
open Go.RowKit
variable [Base]

def NextPos (B bt : Nat) (n : Int) (w : World) (e : Ending) (w' : World) : Prop := ∃ r : Nat, (r : Int) < n ∧ e = .returned (.int .i64 (r : Int)) ∧ TapeOk B w' bt ∧ But bt w w'
theorem next_pos {B bt : Nat} {w : World} (ht : TapeOk B w bt) (n : Int) (hn : 1 ≤ n) (hn' : n ≤ 9223372036854775807) :
    Calls Tryd.prog 14 #[.pointer (some ⟨bt, 0, none⟩), .int .i64 n] w (NextPos B bt n w) :=
  (next_any ht n hn').mono fun _ _ ⟨r, h1, h2, h3, h4, h5⟩ => by
    obtain ⟨k, rfl⟩ := Int.eq_ofNat_of_zero_le h1
    exact ⟨k, by omega, h3, h4, h5⟩
/-- What stands while an operation is drawn. -/
structure OpG (B bt c : Nat) (w wx : World) (o : POp) : Prop where
  tape : TapeOk B wx bt
  but : But bt w wx
  res : wx.heap[w.heap.size]? = some (.cells (opC zeroO) 24 (0, 0))
  cur : wx.heap[c]? = some (.cells (opC o) 24 (0, 0))
  old : bt < w.heap.size ∧ w.heap.size < c
theorem OpG.call {B bt c : Nat} {w wx w2 : World} {o : POp} (h : OpG B bt c w wx o) (ht : TapeOk B w2 bt) (hb : But bt wx w2) : OpG B bt c w w2 o := by
  obtain ⟨o1, o2⟩ := h.old
  exact ⟨ht, h.but.trans hb, (hb.block w.heap.size (lt_heap h.res) (by omega)).trans h.res, (hb.block c (lt_heap h.cur) (by omega)).trans h.cur, h.old⟩
theorem OpG.alloc {B bt c : Nat} {w wx : World} {o : POp} (h : OpG B bt c w wx o) (x : Obj) : OpG B bt c w (wx.alloc x) o := h.call (h.tape.alloc x) ((But.refl _ _).alloc x)
theorem OpG.draws {B bt c : Nat} {w wx : World} {o : POp} (h : OpG B bt c w wx o) (n : Nat) : OpG B bt c w (wx.drewN n) o := h.call (h.tape.drewN n) ((But.refl _ _).drewN n)
theorem OpG.set {B bt c k : Nat} {w wx : World} {o o2 : POp} {v : Value} (h : OpG B bt c w wx o) (he : (opC o).setIfInBounds k v = opC o2) : OpG B bt c w (wx.setCell ⟨c, k, none⟩ v) o2 := by
  obtain ⟨o1, o2⟩ := h.old
  have hge := h.tape.ge
  have hc := h.cur
  refine ⟨h.tape.setCell (by show c ≠ bt; omega) (by show B ≤ c; omega) _, h.but.setCell _ (.inr (by show w.heap.size ≤ c; omega)) _, ?_, ?_, h.old⟩
  · rw [Below.heap_setCell _ _ _ _ (by show w.heap.size ≠ c; omega)]; exact h.res
  · rw [← he]
    simp [World.setCell, Array.getElem?_modify, hc]
theorem OpG.ids {B bt c : Nat} {w wx : World} {k a n m : Int} {x y z : Str} (h : OpG B bt c w wx ⟨k, x, y, a, n, m⟩) : OpG B bt c w (wx.setCell ⟨c, 1, none⟩ (qs z)) ⟨k, z, y, a, n, m⟩ := h.set rfl
theorem OpG.txt {B bt c : Nat} {w wx : World} {k a n m : Int} {x y z : Str} (h : OpG B bt c w wx ⟨k, x, y, a, n, m⟩) : OpG B bt c w (wx.setCell ⟨c, 2, none⟩ (qs z)) ⟨k, x, z, a, n, m⟩ := h.set rfl
theorem OpG.an {B bt c : Nat} {w wx : World} {k a n m z : Int} {x y : Str} (h : OpG B bt c w wx ⟨k, x, y, a, n, m⟩) : OpG B bt c w (wx.setCell ⟨c, 3, none⟩ (.int .i64 z)) ⟨k, x, y, z, n, m⟩ := h.set rfl
theorem OpG.nd {B bt c : Nat} {w wx : World} {k a n m z : Int} {x y : Str} (h : OpG B bt c w wx ⟨k, x, y, a, n, m⟩) : OpG B bt c w (wx.setCell ⟨c, 4, none⟩ (.int .i64 z)) ⟨k, x, y, a, z, m⟩ := h.set rfl
theorem OpG.nn {B bt c : Nat} {w wx : World} {k a n m z : Int} {x y : Str} (h : OpG B bt c w wx ⟨k, x, y, a, n, m⟩) : OpG B bt c w (wx.setCell ⟨c, 5, none⟩ (.int .i64 z)) ⟨k, x, y, a, n, z⟩ := h.set rfl
theorem OpG.fin {B bt c : Nat} {w wx : World} {o : POp} (h : OpG B bt c w wx o) (v0 v1 v2 v3 v4 v5 : Value) :
    TapeOk B ((((((wx.setCell ⟨w.heap.size, 0, none⟩ v0).setCell ⟨w.heap.size, 1, none⟩ v1).setCell ⟨w.heap.size, 2, none⟩ v2).setCell ⟨w.heap.size, 3, none⟩ v3).setCell ⟨w.heap.size, 4, none⟩ v4).setCell ⟨w.heap.size, 5, none⟩ v5) bt ∧
    But bt w ((((((wx.setCell ⟨w.heap.size, 0, none⟩ v0).setCell ⟨w.heap.size, 1, none⟩ v1).setCell ⟨w.heap.size, 2, none⟩ v2).setCell ⟨w.heap.size, 3, none⟩ v3).setCell ⟨w.heap.size, 4, none⟩ v4).setCell ⟨w.heap.size, 5, none⟩ v5) := by
  obtain ⟨o1, o2⟩ := h.old
  have hge := h.tape.ge
  constructor
  · repeat (first | with_reducible exact h.tape | refine TapeOk.setCell ?_ (by show w.heap.size ≠ bt; omega) (by show B ≤ w.heap.size; omega) _)
  · repeat (first | with_reducible exact h.but | refine But.setCell ?_ _ (.inr (Nat.le_refl _)) _)
def ids5 : List Str := [[97], [113, 49], [], [117, 115, 101], [66, 95, 50]]
def txts6 : List Str := [[112], [120, 32, 121], [32, 120], [120, 32], [97, 10, 98], [35]]
def ints7 : List Int := [0, 5, -1, 512, 513, 1048576, 1048577]
theorem row_at {w w2 : World} {bt g : Nat} {arr : Array Value} {t : TypeId} (hg : w.heap.size = g) (hb : But bt (w.alloc (.cells arr t)) w2) (hne : g ≠ bt) (k : Nat) : w2.cell? ⟨g, k, none⟩ = arr[k]? := by
  subst hg
  rw [hb.cell w.heap.size k (by simp) hne, World.cell?_alloc_new]
def OpPost (B bt : Nat) (w : World) (e : Ending) (w' : World) : Prop := ∃ o : POp, e = .returned (opV o) ∧ o.id.length ≤ 16 ∧ o.text.length ≤ 16 ∧ TapeOk B w' bt ∧ But bt w w'
set_option maxHeartbeats 2000000 in
theorem op_any {B bt : Nat} {w : World} (ht : TapeOk B w bt) : Calls Tryd.prog 7 #[.pointer (some ⟨bt, 0, none⟩)] w (OpPost B bt w) := by
  have hud : ∀ b : Bool, (undef = Value.bool b) = False := fun b => by simp [undef]
  have hlt := ht.lt
  have HT := Lib.hid ht
  clear ht
  go_enter Tryd.func7, Tryd.ntmps7
  go_wp2_with fail
  refine (next_pos (HT.out.alloc _) 11 (by omega) (by omega)).mono ?_
  rintro e w1 ⟨k, k1, rfl, t1, b1⟩
  have R1 := Lib.hid (show w1.heap[w.heap.size]? = some (.cells (opC zeroO) 24 (0, 0)) from (b1.block w.heap.size (by simp) (by omega)).trans (heap_alloc_new _ _))
  have B1 := Lib.hid (((But.refl bt w).alloc (.cells #[.int .i64 0, .string ⟨#[]⟩, .string ⟨#[]⟩, .int .i64 0, .int .i64 0, .int .i64 0] 24)).trans b1)
  have T1 := Lib.hid t1
  have hs1 : w.heap.size < w1.heap.size := lt_heap R1.out
  clear t1 b1
  go_wp2_with fail
  refine (next_pos (T1.out.alloc _) 5 (by omega) (by omega)).mono ?_
  rintro e w2 ⟨q, q1, rfl, t2, b2⟩
  have R2 := Lib.hid (show w2.heap[w.heap.size]? = some (.cells (opC zeroO) 24 (0, 0)) from (b2.block w.heap.size (by simp; omega) (by omega)).trans (lies_alloc _ R1.out))
  have hrow := row_at rfl b2 (by omega) q
  have B2 := Lib.hid ((B1.out.alloc _).trans b2)
  have T2 := Lib.hid t2
  have hs2 : w.heap.size < w2.heap.size := lt_heap R2.out
  obtain ⟨s, hsl, hs⟩ : ∃ s : Str, s.length ≤ 16 ∧ (#[qs [97], qs [113, 49], qs [], qs [117, 115, 101], qs [66, 95, 50]] : Array Value)[q]? = some (qs s) := by
    have hq : q = 0 ∨ q = 1 ∨ q = 2 ∨ q = 3 ∨ q = 4 := by omega
    rcases hq with rfl | rfl | rfl | rfl | rfl <;> exact ⟨_, by decide, rfl⟩
  have hrow2 := hrow.trans hs
  clear t2 b2 hrow hs
  obtain ⟨V, hV⟩ : ∃ V, w2.alloc (.cells #[.int .i64 k, qs s, .string ⟨#[]⟩, .int .i64 0, .int .i64 0, .int .i64 0] 24) = V := ⟨_, rfl⟩
  obtain ⟨c, hc⟩ : ∃ c, w2.heap.size = c := ⟨_, rfl⟩
  have J0 := Lib.hid (show OpG B bt c w V ⟨k, s, [], 0, 0, 0⟩ by
    rw [← hV, ← hc]
    exact ⟨T2.out.alloc _, B2.out.alloc _, lies_alloc _ R2.out, heap_alloc_new _ _, hlt, hs2⟩)
  have HV := Lib.hid hV
  have hcb : c ≠ bt := by omega
  have hrc : w.heap.size ≠ c := by omega
  have hcr : c ≠ w.heap.size := by omega
  clear hV
  go_wp2_with fail
  rw [show w2.alloc (.cells #[.int .i64 k, qs s, .string ⟨#[]⟩, .int .i64 0, .int .i64 0, .int .i64 0] 24) = V from HV.out]
  refine (next_pos J0.out.tape 5 (by omega) (by omega)).mono ?_
  rintro e w3 ⟨z, z1, rfl, t3, b3⟩
  have J1 := Lib.hid (J0.out.call t3 b3)
  clear t3 b3 hrow2
  have hc3 : c < w3.heap.size := lt_heap J1.out.cur
  try rw [hc]
  have hz : z = 0 ∨ z = 1 ∨ z = 2 ∨ z = 3 ∨ z = 4 := by omega
  clear z1
  rcases hz with rfl | rfl | rfl | rfl | rfl
  · go_wp2_with fail
    refine (next_pos (J1.out.tape.alloc _) 6 (by omega) (by omega)).mono ?_
    rintro e w4 ⟨p, p1, rfl, t4, b4⟩
    have hrow := row_at rfl b4 (by omega) p
    obtain ⟨s2, hsl2, hs⟩ : ∃ s : Str, s.length ≤ 16 ∧ (#[qs [112], qs [120, 32, 121], qs [32, 120], qs [120, 32], qs [97, 10, 98], qs [35]] : Array Value)[p]? = some (qs s) := by
      have hq : p = 0 ∨ p = 1 ∨ p = 2 ∨ p = 3 ∨ p = 4 ∨ p = 5 := by omega
      rcases hq with rfl | rfl | rfl | rfl | rfl | rfl <;> exact ⟨_, by decide, rfl⟩
    have hrow2 := hrow.trans hs
    have J2 := Lib.hid ((J1.out.alloc _).call t4 b4)
    clear t4 b4 hrow hs
    have x0 := (lies_cells J2.out.cur).1 0
    have q0 := (lies_cells J2.out.cur).2 0
    have r0 := (lies_cells J2.out.res).1 0
    have f0 := (lies_cells J2.out.res).2 0
    have x1 := (lies_cells J2.out.cur).1 1
    have q1 := (lies_cells J2.out.cur).2 1
    have r1 := (lies_cells J2.out.res).1 1
    have f1 := (lies_cells J2.out.res).2 1
    have x2 := (lies_cells J2.out.cur).1 2
    have q2 := (lies_cells J2.out.cur).2 2
    have r2 := (lies_cells J2.out.res).1 2
    have f2 := (lies_cells J2.out.res).2 2
    have x3 := (lies_cells J2.out.cur).1 3
    have q3 := (lies_cells J2.out.cur).2 3
    have r3 := (lies_cells J2.out.res).1 3
    have f3 := (lies_cells J2.out.res).2 3
    have x4 := (lies_cells J2.out.cur).1 4
    have q4 := (lies_cells J2.out.cur).2 4
    have r4 := (lies_cells J2.out.res).1 4
    have f4 := (lies_cells J2.out.res).2 4
    have x5 := (lies_cells J2.out.cur).1 5
    have q5 := (lies_cells J2.out.cur).2 5
    have r5 := (lies_cells J2.out.res).1 5
    have f5 := (lies_cells J2.out.res).2 5
    simp only [opC, zeroO, List.getElem?_toArray, List.getElem?_cons_zero, List.getElem?_cons_succ] at x0 x1 x2 x3 x4 x5 r0 r1 r2 r3 r4 r5
    have J3 := Lib.hid (J2.out.txt (z := s2))
    go_wp2
    refine bodyPost_ret (v := opV ⟨k, s, s2, 0, 0, 0⟩) (by simp [results, Tryd.results7, go_sem, hrc, hcr, x0, x1, x2, x3, x4, x5, r0, r1, r2, r3, r4, r5]) rfl ⟨⟨k, s, s2, 0, 0, 0⟩, rfl, (by first | exact hsl | simp), (by first | exact hsl | exact hsl2 | simp), ((J3.out).fin _ _ _ _ _ _).1, ((J3.out).fin _ _ _ _ _ _).2⟩
  · go_wp2_with fail
    refine (next_pos J1.out.tape 6 (by omega) (by omega)).mono ?_
    rintro e w4 ⟨p, p1, rfl, t4, b4⟩
    have J2 := Lib.hid (J1.out.call t4 b4)
    clear t4 b4
    go_wp2_with fail
    refine (next_pos J2.out.tape 260 (by omega) (by omega)).mono ?_
    rintro e w5 ⟨m, m1, rfl, t5, b5⟩
    have J3 := Lib.hid (J2.out.call t5 b5)
    clear t5 b5
    have hm : IntKind.i64.wrap ((m : Int) - 1) = (m : Int) - 1 := IntWalk.i64_in _ (by omega)
    go_wp2_with fail
    refine (next_pos J3.out.tape 5 (by omega) (by omega)).mono ?_
    rintro e w6 ⟨h, h1, rfl, t6, b6⟩
    have J4 := Lib.hid (J3.out.call t6 b6)
    clear t6 b6
    have x0 := (lies_cells J4.out.cur).1 0
    have q0 := (lies_cells J4.out.cur).2 0
    have r0 := (lies_cells J4.out.res).1 0
    have f0 := (lies_cells J4.out.res).2 0
    have x1 := (lies_cells J4.out.cur).1 1
    have q1 := (lies_cells J4.out.cur).2 1
    have r1 := (lies_cells J4.out.res).1 1
    have f1 := (lies_cells J4.out.res).2 1
    have x2 := (lies_cells J4.out.cur).1 2
    have q2 := (lies_cells J4.out.cur).2 2
    have r2 := (lies_cells J4.out.res).1 2
    have f2 := (lies_cells J4.out.res).2 2
    have x3 := (lies_cells J4.out.cur).1 3
    have q3 := (lies_cells J4.out.cur).2 3
    have r3 := (lies_cells J4.out.res).1 3
    have f3 := (lies_cells J4.out.res).2 3
    have x4 := (lies_cells J4.out.cur).1 4
    have q4 := (lies_cells J4.out.cur).2 4
    have r4 := (lies_cells J4.out.res).1 4
    have f4 := (lies_cells J4.out.res).2 4
    have x5 := (lies_cells J4.out.cur).1 5
    have q5 := (lies_cells J4.out.cur).2 5
    have r5 := (lies_cells J4.out.res).1 5
    have f5 := (lies_cells J4.out.res).2 5
    simp only [opC, zeroO, List.getElem?_toArray, List.getElem?_cons_zero, List.getElem?_cons_succ] at x0 x1 x2 x3 x4 x5 r0 r1 r2 r3 r4 r5
    have J5 := Lib.hid ((((J4.out.txt (z := [112])).an (z := (p : Int))).nd (z := (m : Int) - 1)).nn (z := (h : Int)))
    go_wp2
    refine bodyPost_ret (v := opV ⟨k, s, [112], p, (m : Int) - 1, h⟩) (by simp [results, Tryd.results7, go_sem, hrc, hcr, x0, x1, x2, x3, x4, x5, r0, r1, r2, r3, r4, r5]) rfl ⟨⟨k, s, [112], p, (m : Int) - 1, h⟩, rfl, (by first | exact hsl | simp), (by first | exact hsl | exact hsl2 | simp), ((J5.out).fin _ _ _ _ _ _).1, ((J5.out).fin _ _ _ _ _ _).2⟩
  · go_wp2_with fail
    have JD := Lib.hid (J1.out.draws 1)
    refine wp_region_D (S := fun _ => True) (st := 8) (by kernel_rfl) ?_
    refine wpAnyT_pure 1 ?v1 rfl (by kernel_rfl) (by kernel_rfl) (by kernel_rfl) (by kernel_rfl) (fun _ _ _ h => h) trivial rfl ?run1 ?rest1
    case run1 => intro w hS; go_simp; rfl
    refine wpAnyT_pure 5 ?v2 rfl (by kernel_rfl) (by kernel_rfl) (by kernel_rfl) (by kernel_rfl) (fun _ _ _ h => h) trivial rfl ?run2 ?rest2
    case run2 => intro w hS; go_simp; rfl
    refine wpAnyT_all (rs := [0, 2]) (by kernel_rfl) (by decide) ?_
    intro i hi
    have hi2 : i = 0 ∨ i = 2 := by simpa using hi
    clear hi
    rcases hi2 with rfl | rfl
    · skip
      refine wpOp_of_list rfl ?_
      go_wp2
      refine ⟨fun _ => trivial, ?_⟩
      obtain ⟨Y3, hY3⟩ : ∃ Y, (w3.drewN 1).alloc (.cells #[.int .i64 0, .int .i64 5, .int .i64 (-1), .int .i64 512, .int .i64 513, .int .i64 1048576, .int .i64 1048577] 3) = Y := ⟨_, rfl⟩
      rw [hY3]
      have J4 := Lib.hid (show OpG B bt c w Y3 _ by rw [← hY3]; exact JD.out.alloc _)
      have RG5 : Hid (∀ j, Y3.cell? ⟨w3.heap.size, j, none⟩ = (#[.int .i64 0, .int .i64 5, .int .i64 (-1), .int .i64 512, .int .i64 513, .int .i64 1048576, .int .i64 1048577] : Array Value)[j]?) := Lib.hid (fun j => by rw [← hY3]; exact World.cell?_alloc_new _ _ _ _)
      have hgY3 : w3.heap.size ≠ c := by have := lt_heap JD.out.cur; have h7 : c < w3.heap.size := this; omega
      have hbY3 : w3.heap.size ≠ bt := by have h7 := JD.out.tape.lt; have h8 : bt < w3.heap.size := h7; omega
      have hlY3 : w3.heap.size < Y3.heap.size := by rw [← hY3]; simp
      clear hY3
      refine wpAnyT_all (rs := [2]) (by kernel_rfl) (by decide) ?_
      intro i hi
      obtain rfl : i = 2 := by simpa using hi
      clear hi
      refine wpOp_of_list rfl ?_
      go_wp2_with fail
      refine (next_pos J4.out.tape 7 (by omega) (by omega)).mono ?_
      rintro e wN6 ⟨p, p1, rfl, t4, b4⟩
      have J7 := Lib.hid (J4.out.call t4 b4)
      obtain ⟨v, hv⟩ : ∃ v : Int, (#[.int .i64 0, .int .i64 5, .int .i64 (-1), .int .i64 512, .int .i64 513, .int .i64 1048576, .int .i64 1048577] : Array Value)[p]? = some (.int .i64 v) := by
        have hq : p = 0 ∨ p = 1 ∨ p = 2 ∨ p = 3 ∨ p = 4 ∨ p = 5 ∨ p = 6 := by omega
        rcases hq with rfl | rfl | rfl | rfl | rfl | rfl | rfl <;> exact ⟨_, rfl⟩
      have RG8 : Hid (∀ j, wN6.cell? ⟨w3.heap.size, j, none⟩ = (#[.int .i64 0, .int .i64 5, .int .i64 (-1), .int .i64 512, .int .i64 513, .int .i64 1048576, .int .i64 1048577] : Array Value)[j]?) := Lib.hid (fun j => (b4.cell w3.heap.size j hlY3 hbY3).trans (RG5.out j))
      have hlwN6 : w3.heap.size < wN6.heap.size := Nat.lt_of_lt_of_le hlY3 b4.size
      have hgwN6 := hgY3
      have hbwN6 := hbY3
      clear t4 b4
      go_wp2
      refine ⟨fun _ => trivial, ?_⟩
      have hrow9 := (RG8.out p).trans hv
      refine wpAnyT_pure 3 ?v10 rfl (by kernel_rfl) (by kernel_rfl) (by kernel_rfl) (by kernel_rfl) (fun _ _ _ h => h) trivial rfl ?run10 ?rest10
      case run10 => intro w hS; go_simp; rfl
      refine wpAnyT_all (rs := [4, 6]) (by kernel_rfl) (by decide) ?_
      intro i hi
      have hi2 : i = 4 ∨ i = 6 := by simpa using hi
      clear hi
      rcases hi2 with rfl | rfl
      · skip
        refine wpOp_of_list rfl ?_
        go_wp2
        refine ⟨fun _ => trivial, ?_⟩
        refine wpAnyT_all (rs := [6]) (by kernel_rfl) (by decide) ?_
        intro i hi
        obtain rfl : i = 6 := by simpa using hi
        clear hi
        refine wpOp_of_list rfl ?_
        have xx13 := (lies_cells J7.out.cur).1 1
        have fxx13 := (lies_cells J7.out.cur).2 1
        simp only [opC, List.getElem?_toArray, List.getElem?_cons_zero, List.getElem?_cons_succ] at xx13
        go_wp2
        refine ⟨fun _ => trivial, ?_⟩
        obtain ⟨Z11, hZ11⟩ : ∃ Z, (wN6).setCell ⟨c, 1, none⟩ (qs []) = Z := ⟨_, rfl⟩
        rw [hZ11]
        have J12 := Lib.hid (show OpG B bt c w Z11 _ by rw [← hZ11]; exact J7.out.ids (z := []))
        have RG14 : Hid (∀ j, Z11.cell? ⟨w3.heap.size, j, none⟩ = (#[.int .i64 0, .int .i64 5, .int .i64 (-1), .int .i64 512, .int .i64 513, .int .i64 1048576, .int .i64 1048577] : Array Value)[j]?) := Lib.hid (fun j => by rw [← hZ11]; exact (World.cell?_of_block (Below.heap_setCell _ _ _ _ hgwN6)).trans (RG8.out j))
        have hlZ11 : w3.heap.size < Z11.heap.size := by rw [← hZ11]; simpa [World.setCell] using hlwN6
        have hgZ11 := hgwN6
        have hbZ11 := hbwN6
        clear hZ11 xx13 fxx13
        have hrow15 := (RG14.out p).trans hv
        refine wpAnyT_pure 7 ?v16 rfl (by kernel_rfl) (by kernel_rfl) (by kernel_rfl) (by kernel_rfl) (fun _ _ _ h => h) trivial rfl ?run16 ?rest16
        case run16 => intro w hS; go_simp; rfl
        refine wpAnyT_all (rs := [8]) (by kernel_rfl) (by decide) ?_
        intro i hi
        obtain rfl : i = 8 := by simpa using hi
        clear hi
        refine wpOp_of_list rfl ?_
        have xx17 := (lies_cells J12.out.cur).1 5
        have fxx17 := (lies_cells J12.out.cur).2 5
        simp only [opC, List.getElem?_toArray, List.getElem?_cons_zero, List.getElem?_cons_succ] at xx17
        go_wp2
        refine ⟨fun h => absurd rfl h, ?_⟩
        obtain ⟨Z19, hZ19⟩ : ∃ Z, (Z11).setCell ⟨c, 5, none⟩ (.int .i64 v) = Z := ⟨_, rfl⟩
        rw [hZ19]
        have J18 := Lib.hid (show OpG B bt c w Z19 ⟨k, [], [], 0, 0, v⟩ by rw [← hZ19]; exact J12.out.nn (z := v))
        clear hZ19 xx17 fxx17
        refine wpAnyT_done (by kernel_rfl) ?_ _
        have x0 := (lies_cells J18.out.cur).1 0
        have q0 := (lies_cells J18.out.cur).2 0
        have r0 := (lies_cells J18.out.res).1 0
        have f0 := (lies_cells J18.out.res).2 0
        have x1 := (lies_cells J18.out.cur).1 1
        have q1 := (lies_cells J18.out.cur).2 1
        have r1 := (lies_cells J18.out.res).1 1
        have f1 := (lies_cells J18.out.res).2 1
        have x2 := (lies_cells J18.out.cur).1 2
        have q2 := (lies_cells J18.out.cur).2 2
        have r2 := (lies_cells J18.out.res).1 2
        have f2 := (lies_cells J18.out.res).2 2
        have x3 := (lies_cells J18.out.cur).1 3
        have q3 := (lies_cells J18.out.cur).2 3
        have r3 := (lies_cells J18.out.res).1 3
        have f3 := (lies_cells J18.out.res).2 3
        have x4 := (lies_cells J18.out.cur).1 4
        have q4 := (lies_cells J18.out.cur).2 4
        have r4 := (lies_cells J18.out.res).1 4
        have f4 := (lies_cells J18.out.res).2 4
        have x5 := (lies_cells J18.out.cur).1 5
        have q5 := (lies_cells J18.out.cur).2 5
        have r5 := (lies_cells J18.out.res).1 5
        have f5 := (lies_cells J18.out.res).2 5
        simp only [opC, zeroO, List.getElem?_toArray, List.getElem?_cons_zero, List.getElem?_cons_succ] at x0 x1 x2 x3 x4 x5 r0 r1 r2 r3 r4 r5
        go_wp2
        refine bodyPost_ret (v := opV ⟨k, [], [], 0, 0, v⟩) (by simp [results, Tryd.results7, go_sem, hrc, hcr, x0, x1, x2, x3, x4, x5, r0, r1, r2, r3, r4, r5]) rfl ⟨⟨k, [], [], 0, 0, v⟩, rfl, (by first | exact hsl | simp), (by first | exact hsl | exact hsl2 | simp), ((J18.out).fin _ _ _ _ _ _).1, ((J18.out).fin _ _ _ _ _ _).2⟩
      · skip
        refine wpOp_of_list rfl ?_
        have xx22 := (lies_cells J7.out.cur).1 1
        have fxx22 := (lies_cells J7.out.cur).2 1
        simp only [opC, List.getElem?_toArray, List.getElem?_cons_zero, List.getElem?_cons_succ] at xx22
        go_wp2
        refine ⟨fun _ => trivial, ?_⟩
        obtain ⟨Z20, hZ20⟩ : ∃ Z, (wN6).setCell ⟨c, 1, none⟩ (qs []) = Z := ⟨_, rfl⟩
        rw [hZ20]
        have J21 := Lib.hid (show OpG B bt c w Z20 _ by rw [← hZ20]; exact J7.out.ids (z := []))
        have RG23 : Hid (∀ j, Z20.cell? ⟨w3.heap.size, j, none⟩ = (#[.int .i64 0, .int .i64 5, .int .i64 (-1), .int .i64 512, .int .i64 513, .int .i64 1048576, .int .i64 1048577] : Array Value)[j]?) := Lib.hid (fun j => by rw [← hZ20]; exact (World.cell?_of_block (Below.heap_setCell _ _ _ _ hgwN6)).trans (RG8.out j))
        have hlZ20 : w3.heap.size < Z20.heap.size := by rw [← hZ20]; simpa [World.setCell] using hlwN6
        have hgZ20 := hgwN6
        have hbZ20 := hbwN6
        clear hZ20 xx22 fxx22
        have hrow24 := (RG23.out p).trans hv
        refine wpAnyT_all (rs := [4]) (by kernel_rfl) (by decide) ?_
        intro i hi
        obtain rfl : i = 4 := by simpa using hi
        clear hi
        refine wpOp_of_list rfl ?_
        go_wp2
        refine ⟨fun _ => trivial, ?_⟩
        refine wpAnyT_pure 7 ?v25 rfl (by kernel_rfl) (by kernel_rfl) (by kernel_rfl) (by kernel_rfl) (fun _ _ _ h => h) trivial rfl ?run25 ?rest25
        case run25 => intro w hS; go_simp; rfl
        refine wpAnyT_all (rs := [8]) (by kernel_rfl) (by decide) ?_
        intro i hi
        obtain rfl : i = 8 := by simpa using hi
        clear hi
        refine wpOp_of_list rfl ?_
        have xx26 := (lies_cells J21.out.cur).1 5
        have fxx26 := (lies_cells J21.out.cur).2 5
        simp only [opC, List.getElem?_toArray, List.getElem?_cons_zero, List.getElem?_cons_succ] at xx26
        go_wp2
        refine ⟨fun h => absurd rfl h, ?_⟩
        obtain ⟨Z28, hZ28⟩ : ∃ Z, (Z20).setCell ⟨c, 5, none⟩ (.int .i64 v) = Z := ⟨_, rfl⟩
        rw [hZ28]
        have J27 := Lib.hid (show OpG B bt c w Z28 ⟨k, [], [], 0, 0, v⟩ by rw [← hZ28]; exact J21.out.nn (z := v))
        clear hZ28 xx26 fxx26
        refine wpAnyT_done (by kernel_rfl) ?_ _
        have x0 := (lies_cells J27.out.cur).1 0
        have q0 := (lies_cells J27.out.cur).2 0
        have r0 := (lies_cells J27.out.res).1 0
        have f0 := (lies_cells J27.out.res).2 0
        have x1 := (lies_cells J27.out.cur).1 1
        have q1 := (lies_cells J27.out.cur).2 1
        have r1 := (lies_cells J27.out.res).1 1
        have f1 := (lies_cells J27.out.res).2 1
        have x2 := (lies_cells J27.out.cur).1 2
        have q2 := (lies_cells J27.out.cur).2 2
        have r2 := (lies_cells J27.out.res).1 2
        have f2 := (lies_cells J27.out.res).2 2
        have x3 := (lies_cells J27.out.cur).1 3
        have q3 := (lies_cells J27.out.cur).2 3
        have r3 := (lies_cells J27.out.res).1 3
        have f3 := (lies_cells J27.out.res).2 3
        have x4 := (lies_cells J27.out.cur).1 4
        have q4 := (lies_cells J27.out.cur).2 4
        have r4 := (lies_cells J27.out.res).1 4
        have f4 := (lies_cells J27.out.res).2 4
        have x5 := (lies_cells J27.out.cur).1 5
        have q5 := (lies_cells J27.out.cur).2 5
        have r5 := (lies_cells J27.out.res).1 5
        have f5 := (lies_cells J27.out.res).2 5
        simp only [opC, zeroO, List.getElem?_toArray, List.getElem?_cons_zero, List.getElem?_cons_succ] at x0 x1 x2 x3 x4 x5 r0 r1 r2 r3 r4 r5
        go_wp2
        refine bodyPost_ret (v := opV ⟨k, [], [], 0, 0, v⟩) (by simp [results, Tryd.results7, go_sem, hrc, hcr, x0, x1, x2, x3, x4, x5, r0, r1, r2, r3, r4, r5]) rfl ⟨⟨k, [], [], 0, 0, v⟩, rfl, (by first | exact hsl | simp), (by first | exact hsl | exact hsl2 | simp), ((J27.out).fin _ _ _ _ _ _).1, ((J27.out).fin _ _ _ _ _ _).2⟩
    · skip
      refine wpOp_of_list rfl ?_
      go_wp2_with fail
      refine (next_pos JD.out.tape 7 (by omega) (by omega)).mono ?_
      rintro e wN29 ⟨p, p1, rfl, t4, b4⟩
      have J30 := Lib.hid (JD.out.call t4 b4)
      obtain ⟨v, hv⟩ : ∃ v : Int, (#[.int .i64 0, .int .i64 5, .int .i64 (-1), .int .i64 512, .int .i64 513, .int .i64 1048576, .int .i64 1048577] : Array Value)[p]? = some (.int .i64 v) := by
        have hq : p = 0 ∨ p = 1 ∨ p = 2 ∨ p = 3 ∨ p = 4 ∨ p = 5 ∨ p = 6 := by omega
        rcases hq with rfl | rfl | rfl | rfl | rfl | rfl | rfl <;> exact ⟨_, rfl⟩
      clear t4 b4
      go_wp2
      refine ⟨fun _ => trivial, ?_⟩
      refine wpAnyT_all (rs := [0, 6]) (by kernel_rfl) (by decide) ?_
      intro i hi
      have hi2 : i = 0 ∨ i = 6 := by simpa using hi
      clear hi
      rcases hi2 with rfl | rfl
      · skip
        refine wpOp_of_list rfl ?_
        go_wp2
        refine ⟨fun _ => trivial, ?_⟩
        obtain ⟨Y31, hY31⟩ : ∃ Y, (wN29).alloc (.cells #[.int .i64 0, .int .i64 5, .int .i64 (-1), .int .i64 512, .int .i64 513, .int .i64 1048576, .int .i64 1048577] 3) = Y := ⟨_, rfl⟩
        rw [hY31]
        have J32 := Lib.hid (show OpG B bt c w Y31 _ by rw [← hY31]; exact J30.out.alloc _)
        have RG33 : Hid (∀ j, Y31.cell? ⟨wN29.heap.size, j, none⟩ = (#[.int .i64 0, .int .i64 5, .int .i64 (-1), .int .i64 512, .int .i64 513, .int .i64 1048576, .int .i64 1048577] : Array Value)[j]?) := Lib.hid (fun j => by rw [← hY31]; exact World.cell?_alloc_new _ _ _ _)
        have hgY31 : wN29.heap.size ≠ c := by have := lt_heap J30.out.cur; have h7 : c < wN29.heap.size := this; omega
        have hbY31 : wN29.heap.size ≠ bt := by have h7 := J30.out.tape.lt; have h8 : bt < wN29.heap.size := h7; omega
        have hlY31 : wN29.heap.size < Y31.heap.size := by rw [← hY31]; simp
        clear hY31
        have hrow34 := (RG33.out p).trans hv
        refine wpAnyT_pure 3 ?v35 rfl (by kernel_rfl) (by kernel_rfl) (by kernel_rfl) (by kernel_rfl) (fun _ _ _ h => h) trivial rfl ?run35 ?rest35
        case run35 => intro w hS; go_simp; rfl
        refine wpAnyT_all (rs := [4, 6]) (by kernel_rfl) (by decide) ?_
        intro i hi
        have hi2 : i = 4 ∨ i = 6 := by simpa using hi
        clear hi
        rcases hi2 with rfl | rfl
        · skip
          refine wpOp_of_list rfl ?_
          go_wp2
          refine ⟨fun _ => trivial, ?_⟩
          refine wpAnyT_all (rs := [6]) (by kernel_rfl) (by decide) ?_
          intro i hi
          obtain rfl : i = 6 := by simpa using hi
          clear hi
          refine wpOp_of_list rfl ?_
          have xx38 := (lies_cells J32.out.cur).1 1
          have fxx38 := (lies_cells J32.out.cur).2 1
          simp only [opC, List.getElem?_toArray, List.getElem?_cons_zero, List.getElem?_cons_succ] at xx38
          go_wp2
          refine ⟨fun _ => trivial, ?_⟩
          obtain ⟨Z36, hZ36⟩ : ∃ Z, (Y31).setCell ⟨c, 1, none⟩ (qs []) = Z := ⟨_, rfl⟩
          rw [hZ36]
          have J37 := Lib.hid (show OpG B bt c w Z36 _ by rw [← hZ36]; exact J32.out.ids (z := []))
          have RG39 : Hid (∀ j, Z36.cell? ⟨wN29.heap.size, j, none⟩ = (#[.int .i64 0, .int .i64 5, .int .i64 (-1), .int .i64 512, .int .i64 513, .int .i64 1048576, .int .i64 1048577] : Array Value)[j]?) := Lib.hid (fun j => by rw [← hZ36]; exact (World.cell?_of_block (Below.heap_setCell _ _ _ _ hgY31)).trans (RG33.out j))
          have hlZ36 : wN29.heap.size < Z36.heap.size := by rw [← hZ36]; simpa [World.setCell] using hlY31
          have hgZ36 := hgY31
          have hbZ36 := hbY31
          clear hZ36 xx38 fxx38
          have hrow40 := (RG39.out p).trans hv
          refine wpAnyT_pure 7 ?v41 rfl (by kernel_rfl) (by kernel_rfl) (by kernel_rfl) (by kernel_rfl) (fun _ _ _ h => h) trivial rfl ?run41 ?rest41
          case run41 => intro w hS; go_simp; rfl
          refine wpAnyT_all (rs := [8]) (by kernel_rfl) (by decide) ?_
          intro i hi
          obtain rfl : i = 8 := by simpa using hi
          clear hi
          refine wpOp_of_list rfl ?_
          have xx42 := (lies_cells J37.out.cur).1 5
          have fxx42 := (lies_cells J37.out.cur).2 5
          simp only [opC, List.getElem?_toArray, List.getElem?_cons_zero, List.getElem?_cons_succ] at xx42
          go_wp2
          refine ⟨fun h => absurd rfl h, ?_⟩
          obtain ⟨Z44, hZ44⟩ : ∃ Z, (Z36).setCell ⟨c, 5, none⟩ (.int .i64 v) = Z := ⟨_, rfl⟩
          rw [hZ44]
          have J43 := Lib.hid (show OpG B bt c w Z44 ⟨k, [], [], 0, 0, v⟩ by rw [← hZ44]; exact J37.out.nn (z := v))
          clear hZ44 xx42 fxx42
          refine wpAnyT_done (by kernel_rfl) ?_ _
          have x0 := (lies_cells J43.out.cur).1 0
          have q0 := (lies_cells J43.out.cur).2 0
          have r0 := (lies_cells J43.out.res).1 0
          have f0 := (lies_cells J43.out.res).2 0
          have x1 := (lies_cells J43.out.cur).1 1
          have q1 := (lies_cells J43.out.cur).2 1
          have r1 := (lies_cells J43.out.res).1 1
          have f1 := (lies_cells J43.out.res).2 1
          have x2 := (lies_cells J43.out.cur).1 2
          have q2 := (lies_cells J43.out.cur).2 2
          have r2 := (lies_cells J43.out.res).1 2
          have f2 := (lies_cells J43.out.res).2 2
          have x3 := (lies_cells J43.out.cur).1 3
          have q3 := (lies_cells J43.out.cur).2 3
          have r3 := (lies_cells J43.out.res).1 3
          have f3 := (lies_cells J43.out.res).2 3
          have x4 := (lies_cells J43.out.cur).1 4
          have q4 := (lies_cells J43.out.cur).2 4
          have r4 := (lies_cells J43.out.res).1 4
          have f4 := (lies_cells J43.out.res).2 4
          have x5 := (lies_cells J43.out.cur).1 5
          have q5 := (lies_cells J43.out.cur).2 5
          have r5 := (lies_cells J43.out.res).1 5
          have f5 := (lies_cells J43.out.res).2 5
          simp only [opC, zeroO, List.getElem?_toArray, List.getElem?_cons_zero, List.getElem?_cons_succ] at x0 x1 x2 x3 x4 x5 r0 r1 r2 r3 r4 r5
          go_wp2
          refine bodyPost_ret (v := opV ⟨k, [], [], 0, 0, v⟩) (by simp [results, Tryd.results7, go_sem, hrc, hcr, x0, x1, x2, x3, x4, x5, r0, r1, r2, r3, r4, r5]) rfl ⟨⟨k, [], [], 0, 0, v⟩, rfl, (by first | exact hsl | simp), (by first | exact hsl | exact hsl2 | simp), ((J43.out).fin _ _ _ _ _ _).1, ((J43.out).fin _ _ _ _ _ _).2⟩
        · skip
          refine wpOp_of_list rfl ?_
          have xx47 := (lies_cells J32.out.cur).1 1
          have fxx47 := (lies_cells J32.out.cur).2 1
          simp only [opC, List.getElem?_toArray, List.getElem?_cons_zero, List.getElem?_cons_succ] at xx47
          go_wp2
          refine ⟨fun _ => trivial, ?_⟩
          obtain ⟨Z45, hZ45⟩ : ∃ Z, (Y31).setCell ⟨c, 1, none⟩ (qs []) = Z := ⟨_, rfl⟩
          rw [hZ45]
          have J46 := Lib.hid (show OpG B bt c w Z45 _ by rw [← hZ45]; exact J32.out.ids (z := []))
          have RG48 : Hid (∀ j, Z45.cell? ⟨wN29.heap.size, j, none⟩ = (#[.int .i64 0, .int .i64 5, .int .i64 (-1), .int .i64 512, .int .i64 513, .int .i64 1048576, .int .i64 1048577] : Array Value)[j]?) := Lib.hid (fun j => by rw [← hZ45]; exact (World.cell?_of_block (Below.heap_setCell _ _ _ _ hgY31)).trans (RG33.out j))
          have hlZ45 : wN29.heap.size < Z45.heap.size := by rw [← hZ45]; simpa [World.setCell] using hlY31
          have hgZ45 := hgY31
          have hbZ45 := hbY31
          clear hZ45 xx47 fxx47
          have hrow49 := (RG48.out p).trans hv
          refine wpAnyT_all (rs := [4]) (by kernel_rfl) (by decide) ?_
          intro i hi
          obtain rfl : i = 4 := by simpa using hi
          clear hi
          refine wpOp_of_list rfl ?_
          go_wp2
          refine ⟨fun _ => trivial, ?_⟩
          refine wpAnyT_pure 7 ?v50 rfl (by kernel_rfl) (by kernel_rfl) (by kernel_rfl) (by kernel_rfl) (fun _ _ _ h => h) trivial rfl ?run50 ?rest50
          case run50 => intro w hS; go_simp; rfl
          refine wpAnyT_all (rs := [8]) (by kernel_rfl) (by decide) ?_
          intro i hi
          obtain rfl : i = 8 := by simpa using hi
          clear hi
          refine wpOp_of_list rfl ?_
          have xx51 := (lies_cells J46.out.cur).1 5
          have fxx51 := (lies_cells J46.out.cur).2 5
          simp only [opC, List.getElem?_toArray, List.getElem?_cons_zero, List.getElem?_cons_succ] at xx51
          go_wp2
          refine ⟨fun h => absurd rfl h, ?_⟩
          obtain ⟨Z53, hZ53⟩ : ∃ Z, (Z45).setCell ⟨c, 5, none⟩ (.int .i64 v) = Z := ⟨_, rfl⟩
          rw [hZ53]
          have J52 := Lib.hid (show OpG B bt c w Z53 ⟨k, [], [], 0, 0, v⟩ by rw [← hZ53]; exact J46.out.nn (z := v))
          clear hZ53 xx51 fxx51
          refine wpAnyT_done (by kernel_rfl) ?_ _
          have x0 := (lies_cells J52.out.cur).1 0
          have q0 := (lies_cells J52.out.cur).2 0
          have r0 := (lies_cells J52.out.res).1 0
          have f0 := (lies_cells J52.out.res).2 0
          have x1 := (lies_cells J52.out.cur).1 1
          have q1 := (lies_cells J52.out.cur).2 1
          have r1 := (lies_cells J52.out.res).1 1
          have f1 := (lies_cells J52.out.res).2 1
          have x2 := (lies_cells J52.out.cur).1 2
          have q2 := (lies_cells J52.out.cur).2 2
          have r2 := (lies_cells J52.out.res).1 2
          have f2 := (lies_cells J52.out.res).2 2
          have x3 := (lies_cells J52.out.cur).1 3
          have q3 := (lies_cells J52.out.cur).2 3
          have r3 := (lies_cells J52.out.res).1 3
          have f3 := (lies_cells J52.out.res).2 3
          have x4 := (lies_cells J52.out.cur).1 4
          have q4 := (lies_cells J52.out.cur).2 4
          have r4 := (lies_cells J52.out.res).1 4
          have f4 := (lies_cells J52.out.res).2 4
          have x5 := (lies_cells J52.out.cur).1 5
          have q5 := (lies_cells J52.out.cur).2 5
          have r5 := (lies_cells J52.out.res).1 5
          have f5 := (lies_cells J52.out.res).2 5
          simp only [opC, zeroO, List.getElem?_toArray, List.getElem?_cons_zero, List.getElem?_cons_succ] at x0 x1 x2 x3 x4 x5 r0 r1 r2 r3 r4 r5
          go_wp2
          refine bodyPost_ret (v := opV ⟨k, [], [], 0, 0, v⟩) (by simp [results, Tryd.results7, go_sem, hrc, hcr, x0, x1, x2, x3, x4, x5, r0, r1, r2, r3, r4, r5]) rfl ⟨⟨k, [], [], 0, 0, v⟩, rfl, (by first | exact hsl | simp), (by first | exact hsl | exact hsl2 | simp), ((J52.out).fin _ _ _ _ _ _).1, ((J52.out).fin _ _ _ _ _ _).2⟩
      · skip
        refine wpOp_of_list rfl ?_
        have xx56 := (lies_cells J30.out.cur).1 1
        have fxx56 := (lies_cells J30.out.cur).2 1
        simp only [opC, List.getElem?_toArray, List.getElem?_cons_zero, List.getElem?_cons_succ] at xx56
        go_wp2
        refine ⟨fun _ => trivial, ?_⟩
        obtain ⟨Z54, hZ54⟩ : ∃ Z, (wN29).setCell ⟨c, 1, none⟩ (qs []) = Z := ⟨_, rfl⟩
        rw [hZ54]
        have J55 := Lib.hid (show OpG B bt c w Z54 _ by rw [← hZ54]; exact J30.out.ids (z := []))
        clear hZ54 xx56 fxx56
        refine wpAnyT_all (rs := [0]) (by kernel_rfl) (by decide) ?_
        intro i hi
        obtain rfl : i = 0 := by simpa using hi
        clear hi
        refine wpOp_of_list rfl ?_
        go_wp2
        refine ⟨fun _ => trivial, ?_⟩
        obtain ⟨Y57, hY57⟩ : ∃ Y, (Z54).alloc (.cells #[.int .i64 0, .int .i64 5, .int .i64 (-1), .int .i64 512, .int .i64 513, .int .i64 1048576, .int .i64 1048577] 3) = Y := ⟨_, rfl⟩
        rw [hY57]
        have J58 := Lib.hid (show OpG B bt c w Y57 _ by rw [← hY57]; exact J55.out.alloc _)
        have RG59 : Hid (∀ j, Y57.cell? ⟨Z54.heap.size, j, none⟩ = (#[.int .i64 0, .int .i64 5, .int .i64 (-1), .int .i64 512, .int .i64 513, .int .i64 1048576, .int .i64 1048577] : Array Value)[j]?) := Lib.hid (fun j => by rw [← hY57]; exact World.cell?_alloc_new _ _ _ _)
        have hgY57 : Z54.heap.size ≠ c := by have := lt_heap J55.out.cur; have h7 : c < Z54.heap.size := this; omega
        have hbY57 : Z54.heap.size ≠ bt := by have h7 := J55.out.tape.lt; have h8 : bt < Z54.heap.size := h7; omega
        have hlY57 : Z54.heap.size < Y57.heap.size := by rw [← hY57]; simp
        clear hY57
        have hrow60 := (RG59.out p).trans hv
        refine wpAnyT_pure 3 ?v61 rfl (by kernel_rfl) (by kernel_rfl) (by kernel_rfl) (by kernel_rfl) (fun _ _ _ h => h) trivial rfl ?run61 ?rest61
        case run61 => intro w hS; go_simp; rfl
        refine wpAnyT_all (rs := [4]) (by kernel_rfl) (by decide) ?_
        intro i hi
        obtain rfl : i = 4 := by simpa using hi
        clear hi
        refine wpOp_of_list rfl ?_
        go_wp2
        refine ⟨fun _ => trivial, ?_⟩
        refine wpAnyT_pure 7 ?v62 rfl (by kernel_rfl) (by kernel_rfl) (by kernel_rfl) (by kernel_rfl) (fun _ _ _ h => h) trivial rfl ?run62 ?rest62
        case run62 => intro w hS; go_simp; rfl
        refine wpAnyT_all (rs := [8]) (by kernel_rfl) (by decide) ?_
        intro i hi
        obtain rfl : i = 8 := by simpa using hi
        clear hi
        refine wpOp_of_list rfl ?_
        have xx63 := (lies_cells J58.out.cur).1 5
        have fxx63 := (lies_cells J58.out.cur).2 5
        simp only [opC, List.getElem?_toArray, List.getElem?_cons_zero, List.getElem?_cons_succ] at xx63
        go_wp2
        refine ⟨fun h => absurd rfl h, ?_⟩
        obtain ⟨Z65, hZ65⟩ : ∃ Z, (Y57).setCell ⟨c, 5, none⟩ (.int .i64 v) = Z := ⟨_, rfl⟩
        rw [hZ65]
        have J64 := Lib.hid (show OpG B bt c w Z65 ⟨k, [], [], 0, 0, v⟩ by rw [← hZ65]; exact J58.out.nn (z := v))
        clear hZ65 xx63 fxx63
        refine wpAnyT_done (by kernel_rfl) ?_ _
        have x0 := (lies_cells J64.out.cur).1 0
        have q0 := (lies_cells J64.out.cur).2 0
        have r0 := (lies_cells J64.out.res).1 0
        have f0 := (lies_cells J64.out.res).2 0
        have x1 := (lies_cells J64.out.cur).1 1
        have q1 := (lies_cells J64.out.cur).2 1
        have r1 := (lies_cells J64.out.res).1 1
        have f1 := (lies_cells J64.out.res).2 1
        have x2 := (lies_cells J64.out.cur).1 2
        have q2 := (lies_cells J64.out.cur).2 2
        have r2 := (lies_cells J64.out.res).1 2
        have f2 := (lies_cells J64.out.res).2 2
        have x3 := (lies_cells J64.out.cur).1 3
        have q3 := (lies_cells J64.out.cur).2 3
        have r3 := (lies_cells J64.out.res).1 3
        have f3 := (lies_cells J64.out.res).2 3
        have x4 := (lies_cells J64.out.cur).1 4
        have q4 := (lies_cells J64.out.cur).2 4
        have r4 := (lies_cells J64.out.res).1 4
        have f4 := (lies_cells J64.out.res).2 4
        have x5 := (lies_cells J64.out.cur).1 5
        have q5 := (lies_cells J64.out.cur).2 5
        have r5 := (lies_cells J64.out.res).1 5
        have f5 := (lies_cells J64.out.res).2 5
        simp only [opC, zeroO, List.getElem?_toArray, List.getElem?_cons_zero, List.getElem?_cons_succ] at x0 x1 x2 x3 x4 x5 r0 r1 r2 r3 r4 r5
        go_wp2
        refine bodyPost_ret (v := opV ⟨k, [], [], 0, 0, v⟩) (by simp [results, Tryd.results7, go_sem, hrc, hcr, x0, x1, x2, x3, x4, x5, r0, r1, r2, r3, r4, r5]) rfl ⟨⟨k, [], [], 0, 0, v⟩, rfl, (by first | exact hsl | simp), (by first | exact hsl | exact hsl2 | simp), ((J64.out).fin _ _ _ _ _ _).1, ((J64.out).fin _ _ _ _ _ _).2⟩
  · have x0 := (lies_cells J1.out.cur).1 0
    have q0 := (lies_cells J1.out.cur).2 0
    have r0 := (lies_cells J1.out.res).1 0
    have f0 := (lies_cells J1.out.res).2 0
    have x1 := (lies_cells J1.out.cur).1 1
    have q1 := (lies_cells J1.out.cur).2 1
    have r1 := (lies_cells J1.out.res).1 1
    have f1 := (lies_cells J1.out.res).2 1
    have x2 := (lies_cells J1.out.cur).1 2
    have q2 := (lies_cells J1.out.cur).2 2
    have r2 := (lies_cells J1.out.res).1 2
    have f2 := (lies_cells J1.out.res).2 2
    have x3 := (lies_cells J1.out.cur).1 3
    have q3 := (lies_cells J1.out.cur).2 3
    have r3 := (lies_cells J1.out.res).1 3
    have f3 := (lies_cells J1.out.res).2 3
    have x4 := (lies_cells J1.out.cur).1 4
    have q4 := (lies_cells J1.out.cur).2 4
    have r4 := (lies_cells J1.out.res).1 4
    have f4 := (lies_cells J1.out.res).2 4
    have x5 := (lies_cells J1.out.cur).1 5
    have q5 := (lies_cells J1.out.cur).2 5
    have r5 := (lies_cells J1.out.res).1 5
    have f5 := (lies_cells J1.out.res).2 5
    simp only [opC, zeroO, List.getElem?_toArray, List.getElem?_cons_zero, List.getElem?_cons_succ] at x0 x1 x2 x3 x4 x5 r0 r1 r2 r3 r4 r5
    have J2 := Lib.hid (J1.out.ids (z := []))
    go_wp2
    refine bodyPost_ret (v := opV ⟨k, [], [], 0, 0, 0⟩) (by simp [results, Tryd.results7, go_sem, hrc, hcr, x0, x1, x2, x3, x4, x5, r0, r1, r2, r3, r4, r5]) rfl ⟨⟨k, [], [], 0, 0, 0⟩, rfl, (by first | exact hsl | simp), (by first | exact hsl | exact hsl2 | simp), ((J2.out).fin _ _ _ _ _ _).1, ((J2.out).fin _ _ _ _ _ _).2⟩
  · have x0 := (lies_cells J1.out.cur).1 0
    have q0 := (lies_cells J1.out.cur).2 0
    have r0 := (lies_cells J1.out.res).1 0
    have f0 := (lies_cells J1.out.res).2 0
    have x1 := (lies_cells J1.out.cur).1 1
    have q1 := (lies_cells J1.out.cur).2 1
    have r1 := (lies_cells J1.out.res).1 1
    have f1 := (lies_cells J1.out.res).2 1
    have x2 := (lies_cells J1.out.cur).1 2
    have q2 := (lies_cells J1.out.cur).2 2
    have r2 := (lies_cells J1.out.res).1 2
    have f2 := (lies_cells J1.out.res).2 2
    have x3 := (lies_cells J1.out.cur).1 3
    have q3 := (lies_cells J1.out.cur).2 3
    have r3 := (lies_cells J1.out.res).1 3
    have f3 := (lies_cells J1.out.res).2 3
    have x4 := (lies_cells J1.out.cur).1 4
    have q4 := (lies_cells J1.out.cur).2 4
    have r4 := (lies_cells J1.out.res).1 4
    have f4 := (lies_cells J1.out.res).2 4
    have x5 := (lies_cells J1.out.cur).1 5
    have q5 := (lies_cells J1.out.cur).2 5
    have r5 := (lies_cells J1.out.res).1 5
    have f5 := (lies_cells J1.out.res).2 5
    simp only [opC, zeroO, List.getElem?_toArray, List.getElem?_cons_zero, List.getElem?_cons_succ] at x0 x1 x2 x3 x4 x5 r0 r1 r2 r3 r4 r5
    go_wp2
    refine bodyPost_ret (v := opV ⟨k, s, [], 0, 0, 0⟩) (by simp [results, Tryd.results7, go_sem, hrc, hcr, x0, x1, x2, x3, x4, x5, r0, r1, r2, r3, r4, r5]) rfl ⟨⟨k, s, [], 0, 0, 0⟩, rfl, (by first | exact hsl | simp), (by first | exact hsl | exact hsl2 | simp), ((J1.out).fin _ _ _ _ _ _).1, ((J1.out).fin _ _ _ _ _ _).2⟩
end Go.Proofs.YtgmlnbheceeklaaDoor
