/- 'append(v, ys...)' onto a row of the call's own, whatever slice ys is; the row that slices.Grow makes. No program in sight. -/
import Derived.Test.YtpnfdmajpkpjoaaDoorQMem
import Derived.Maps.AppendAt
import Derived.Lib.AppendZerosOnto
import Derived.Test.YtpnfdmajpkpjoaaDoorRows
import Derived.Test.YtpnfdmajpkpjoaaDoorQGenS
import Derived.WalkKit
import Derived.WalkSpells
import Derived.WalkLawsBesides
import Derived.Lib.SliceRun
import Derived.Test.YtpnfdmajpkpjoaaDoorQSpP
import Derived.Test.YtpnfdmajpkpjoaaDoorQSyn2
set_option linter.unusedVariables false
set_option linter.unusedSimpArgs false
namespace Go.Proofs.YtpnfdmajpkpjoaaDoor
open Go.RowKit

theorem run_append_nil {P : Program} (w : World) (base : Nat) (t ty e : TypeId) (i : TypeInfo) (size : Nat) (ht : P.underlying t = some (.slice e)) (hi : P.info? e = some i)
    (v : Value) (n : Nat) (xs : List Value) (hown : w.ownsRow base e size v n xs) : (Builtin.append_ #[t, t] ty #[v, .slice none 0 0]).run P w = .ok v w := by
  rcases hown.2 with ⟨rfl, rfl⟩ | ⟨g, cap, cur, rfl, _, _, hnc, _⟩
  · simp [Builtin.append_, run_underlying ht, sizeOf, typeInfo, hi, Builtin.lenOf, Builtin.firstCells]
  · simp [Builtin.append_, run_underlying ht, sizeOf, typeInfo, hi, Builtin.lenOf, Builtin.firstCells, hnc, storeCells]

theorem addr_add (b off j : Nat) : (⟨b, off, none⟩ : Addr).add j = ⟨b, off + j, none⟩ := by
  unfold Addr.add
  split
  · rename_i h; subst h; rfl
  · rfl
/-- A row's value as the walk writes it. -/
theorem own_slice {w : World} {base : Nat} {e : TypeId} {size : Nat} {v : Value} {n : Nat} {xs : List Value} (h : w.ownsRow base e size v n xs) : ∃ a c, v = .slice a n c ∧ n ≤ c ∧ c ≤ maxLen := by
  rcases h.2 with ⟨rfl, rfl⟩ | ⟨g, cap, cur, rfl, _, _, hnc, hc, _⟩
  · exact ⟨none, 0, rfl, Nat.le_refl _, Nat.zero_le _⟩
  · exact ⟨_, _, rfl, hnc, hc⟩

theorem run_append_sl {P : Program} (w : World) (base : Nat) (t ty e : TypeId) (z : Value) (size bytes : Nat) (ht : P.underlying t = some (.slice e)) (hi : (P.info? e).map (fun i => (i.zero, i.size, i.bytes)) = some (some z, size, bytes))
    (hzs : z.cells.size = size) (hsz : 0 < size) (v : Value) (n : Nat) (xs : List Value) (hown : w.ownsRow base e size v n xs)
    (u : Value) (m : Nat) (ys : List Value) (hsl : SliceAt w e size u ys) (hm : ys.length = m * size) (h1 : ys.all Value.oneCell' = true)
    (h63 : n + m ≤ maxLen) (hbytes : (n + m) * bytes ≤ 140737488355328) (hbase : base ≤ w.heap.size) :
    ∃ a c w', (Builtin.append_ #[t, t] ty #[v, u]).run P w = .ok (.slice a (n + m) c) w' ∧ w'.ownsRow base e size (.slice a (n + m) c) (n + m) (xs ++ ys) ∧ w.grownBy w' v.ownBlock := by
  obtain ⟨i, hi', hz, hs1, hs2⟩ := info_parts hi
  obtain ⟨m', cap, e1, e2, e3, h4⟩ := hsl
  have hmm : m' = m := Nat.eq_of_mul_eq_mul_right hsz (e1.symm.trans hm)
  subst hmm
  rcases h4 with ⟨rfl, rfl⟩ | ⟨b, off, c, fr, rfl, hb, hc⟩
  · have hy : ys = [] := List.length_eq_zero_iff.1 (by omega)
    subst hy
    obtain ⟨a, c, rfl, _⟩ := own_slice hown
    refine ⟨a, c, w, run_append_nil w base t ty e i size ht hi' _ n xs hown, by simpa using hown, World.grownBy.refl w _⟩
  · have hcells : ∀ j u, ys[j]? = some u → w.cell? ((⟨b, off, none⟩ : Addr).add j) = some u := by
      intro j u hu
      have hj := (List.getElem?_eq_some_iff.1 hu).1
      rw [addr_add, ← hu, ← hc j hj]
      simp [World.cell?, hb]
    obtain ⟨v', w', hrun, h2, h3, _, _⟩ := run_append_own_at (P := P) w base t ty e i z size bytes ht hi' hz hs1 hs2 hzs hsz v n xs hown ⟨b, off, none⟩ m' cap ys e1 hcells (fun u hu => List.all_eq_true.1 h1 u hu) h63 hbytes hbase
    obtain ⟨a, c, rfl, _⟩ := own_slice h2
    exact ⟨a, c, w', hrun, h2, h3⟩

theorem wp_append_sl {P : Program} {w : World} {o : Oper} {a : Act} {K : Act → World → Prop} {Q : Exit → Act → World → Prop} (s x : Operand) (t : TypeId)
    (ho : o.op = .call { callee := .builtin .append, args := #[s, x], argTypes := #[t, t] })
    (base : Nat) (e : TypeId) (z : Value) (size bytes : Nat) (ht : P.underlying t = some (.slice e)) (hi : (P.info? e).map (fun i => (i.zero, i.size, i.bytes)) = some (some z, size, bytes))
    (hzs : z.cells.size = size) (hsz : 0 < size) (v : Value) (n : Nat) (xs : List Value) (hown : w.ownsRow base e size v n xs) (hs : a.eval s = v)
    (u : Value) (m : Nat) (ys : List Value) (hx : a.eval x = u) (hsl : SliceAt w e size u ys) (hm : ys.length = m * size) (h1 : ys.all Value.oneCell' = true)
    (h63 : n + m ≤ maxLen) (hbytes : (n + m) * bytes ≤ 140737488355328) (hbase : base ≤ w.heap.size)
    (h : ∀ g c w', w'.ownsRow base e size (.slice g (n + m) c) (n + m) (xs ++ ys) → w.grownBy w' v.ownBlock → K (a.put o.dst (.slice g (n + m) c)) w') : o.wp P a w K Q := by
  obtain ⟨g, c, w', hrun, h2, h3⟩ := run_append_sl (P := P) w base t o.type e z size bytes ht hi hzs hsz v n xs hown u m ys hsl hm h1 h63 hbytes hbase
  unfold Oper.wp execOp
  simp only [ho, resolve, invoke, builtin, Sem.run_bind, Sem.run_pure, Result.andThen_ok, List.map_toArray, List.map_cons, List.map_nil, hs, hx, hrun]
  exact h g c w' h2 h3

theorem wpList_append_sl {P : Program} {w : World} {ops : Array Oper} {rest : List Oper} {o : Oper} {a : Act} {Q : Exit → Act → World → Prop} (hgd : o.guard = none) (s x : Operand) (t : TypeId)
    (ho : o.op = .call { callee := .builtin .append, args := #[s, x], argTypes := #[t, t] })
    (base : Nat) (e : TypeId) (z : Value) (size bytes : Nat) (ht : P.underlying t = some (.slice e)) (hi : (P.info? e).map (fun i => (i.zero, i.size, i.bytes)) = some (some z, size, bytes))
    (hzs : z.cells.size = size) (hsz : 0 < size) (v : Value) (n : Nat) (xs : List Value) (hown : w.ownsRow base e size v n xs) (hs : a.eval s = v)
    (u : Value) (m : Nat) (ys : List Value) (hx : a.eval x = u) (hsl : SliceAt w e size u ys) (hm : ys.length = m * size) (h1 : ys.all Value.oneCell' = true)
    (h63 : n + m ≤ maxLen) (hbytes : (n + m) * bytes ≤ 140737488355328) (hbase : base ≤ w.heap.size)
    (h : ∀ g c w', w'.ownsRow base e size (.slice g (n + m) c) (n + m) (xs ++ ys) → w.grownBy w' v.ownBlock → wpList P ops Q rest (a.put o.dst (.slice g (n + m) c)) w') : wpList P ops Q (o :: rest) a w :=
  wpList_plain hgd fun _ hK => wp_append_sl s x t ho base e z size bytes ht hi hzs hsz v n xs hown hs u m ys hx hsl hm h1 h63 hbytes hbase fun g c w' h2 h3 => hK _ _ (h g c w' h2 h3)

/-- 'append([]T(nil), make([]T, n)...)[:0]': the row of slices.Grow(nil, n), n > 0: it owns no element. -/
theorem run_grow_nil {P : Program} (w : World) (t t3 e : TypeId) (z : Value) (size bytes : Nat) (ht : P.underlying t = some (.slice e)) (h3 : P.underlying t3 = some (.int .i64)) (hi : (P.info? e).map (fun i => (i.zero, i.size, i.bytes)) = some (some z, size, bytes))
    (hsz : 0 < size) (n : Nat) (hn : 0 < n) (h63 : n ≤ 4611686018427387904) (hbytes : n * bytes ≤ 140737488355328) :
    ∃ cap, n ≤ cap ∧ cap ≤ maxLen ∧ ∀ ty, (Builtin.append_ #[t, t3] ty #[.slice none 0 0, .int .i64 (n : Int)]).run P w = .ok (.slice (some ⟨w.heap.size, 0, none⟩) n cap) (w.drew.alloc (.cells (Builtin.zeroCells z.cells n ++ Builtin.zeroCells z.cells (cap - n)) e)) := by
  obtain ⟨i, hi', hz, hs1, hs2⟩ := info_parts hi
  subst hs1 hs2
  refine ⟨grownCap w n 0 e, grownCap_ge w _ _ _, grownCap_le_maxLen w n 0 e (by unfold maxLen; omega), fun ty => ?_⟩
  have h := Lib.run_append_grow_zeros w t t3 ty e i z .i64 .i64 ht h3 hi' hz none 0 0 [] (run_firstCells_none w.drew i.size 0 0 0) n hn hsz (by omega) (by omega) (by omega) (by rw [Nat.zero_add]; exact growslice_fits (by omega) hbytes)
  rw [Nat.zero_add] at h
  simpa using h
end Go.Proofs.YtpnfdmajpkpjoaaDoor

/- Walks of package slices at string. Printed by wip/gen_slc.py. -/
namespace Go.Proofs.YtpnfdmajpkpjoaaDoor
open Go.RowKit

theorem info_str : (Tryd.prog.info? 9).map (fun i => (i.zero, i.size, i.bytes)) = some (some (Value.string ⟨#[]⟩), 1, 16) := by kernel_rfl
def Ownstr (w : World) (n : Nat) (xs : List Value) (e : Ending) (w' : World) : Prop :=
  ∃ a c, e = .returned (.slice a n c) ∧ w'.ownsRow w.heap.size 9 1 (.slice a n c) n xs ∧ Below w.heap.size w w'
theorem grown_str {w : World} {n cap : Nat} (h1 : n ≤ cap) (h2 : cap ≤ maxLen) : (w.drew.alloc (.cells (Builtin.zeroCells ((Value.string ⟨#[]⟩) : Value).cells n ++ Builtin.zeroCells ((Value.string ⟨#[]⟩) : Value).cells (cap - n)) 9)).ownsRow w.heap.size 9 1 (.slice (some ⟨w.heap.size, 0, none⟩) 0 cap) 0 [] := by
  refine ⟨rfl, .inr ⟨w.heap.size, cap, _, rfl, Nat.le_refl _, heap_alloc_new w.drew _, Nat.zero_le _, h2, ?_, rfl⟩⟩
  rw [Array.size_append, size_zeroCells, size_zeroCells]
  show n * 1 + (cap - n) * 1 = cap * 1
  rw [← Nat.add_mul]
  congr 1
  omega
set_option maxRecDepth 100000 in
theorem grow_str (n : Nat) (hn : n ≤ 1000000) (w : World) : Calls Tryd.prog 99 #[.slice none 0 0, .int .i64 n] w (Ownstr w 0 []) := by
  by_cases h0 : n = 0
  · subst h0
    go_enter Tryd.func99, Tryd.ntmps99
    go_wp2
    go_ret
    exact ⟨none, 0, rfl, World.ownsRow_nil _ _ _ _, Below.refl _ _⟩
  · have hpos : 0 < n := by omega
    obtain ⟨cap, h1, h2, hr⟩ := run_grow_nil (P := Tryd.prog) w 39 3 9 (Value.string ⟨#[]⟩) 1 16 Tryd.underlying39 Tryd.underlying3 info_str (by decide) n hpos (by omega) (by omega)
    obtain ⟨C, hC⟩ : ∃ C, (Builtin.zeroCells ((Value.string ⟨#[]⟩) : Value).cells n ++ Builtin.zeroCells ((Value.string ⟨#[]⟩) : Value).cells (cap - n)) = C := ⟨_, rfl⟩
    rw [hC] at hr
    have HC := Lib.hid hC
    clear h0 hC
    have hn' : (n : Int) > 0 := by omega
    have H1 := Lib.hid h1
    have H2 := Lib.hid h2
    have h3 : n ≤ cap := h1
    unfold maxLen at h2
    clear h1
    go_enter Tryd.func99, Tryd.ntmps99
    go_wp2_with (at_builtin; refine Lib.wpList_append_run _ rfl _ _ _ _ rfl _ _ rfl rfl _ _ (hr _) ?_)
    go_ret
    exact ⟨_, _, rfl, HC.out ▸ grown_str H1.out H2.out, ((Below.refl _ _).alloc (Nat.le_refl _) _ : Below w.heap.size w (w.alloc _)).drew⟩

set_option maxRecDepth 100000 in
set_option maxHeartbeats 1000000 in
theorem concat_str {a1 : Option Addr} {n1 c1 : Nat} {xs1 : List Value} {a2 : Option Addr} {n2 c2 : Nat} {xs2 : List Value} {a3 : Option Addr} {n3 c3 : Nat} {xs3 : List Value} (b : Nat) (w : World) (hb : w.heap[b]? = some (.cells #[.slice a1 n1 c1, .slice a2 n2 c2, .slice a3 n3 c3] 39 (0, 0))) (h1 : SliceAt w 9 1 (.slice a1 n1 c1) xs1) (h2 : SliceAt w 9 1 (.slice a2 n2 c2) xs2) (h3 : SliceAt w 9 1 (.slice a3 n3 c3) xs3) (l1 : xs1.length = n1 * 1) (l2 : xs2.length = n2 * 1) (l3 : xs3.length = n3 * 1) (o1 : xs1.all Value.oneCell' = true) (o2 : xs2.all Value.oneCell' = true) (o3 : xs3.all Value.oneCell' = true) (hn : n1 + n2 + n3 ≤ 1000000) :
    Calls Tryd.prog 93 #[.slice (some ⟨b, 0, none⟩) 3 3] w (Ownstr w (n1 + n2 + n3) (xs1 ++ xs2 ++ xs3)) := by
  have H1 := Lib.hid h1
  have L1 := Lib.hid l1
  have O1 := Lib.hid o1
  have H2 := Lib.hid h2
  have L2 := Lib.hid l2
  have O2 := Lib.hid o2
  have H3 := Lib.hid h3
  have L3 := Lib.hid l3
  have O3 := Lib.hid o3
  have HB := Lib.hid hb
  have hlt := lt_heap hb
  have c1_ := (blk_cells hb).1 0
  have c2_ := (blk_cells hb).1 1
  have c3_ := (blk_cells hb).1 2
  simp at c1_ c2_ c3_
  clear hb h1 l1 o1 h2 l2 o2 h3 l3 o3
  have hs : (n1 : Int) + (n2 : Int) + (n3 : Int) = ((n1 + n2 + n3 : Nat) : Int) := by simp
  have HS := Lib.hid hs
  clear hs
  go_enter Tryd.func93, Tryd.ntmps93
  go_wp2
  refine wp_loop_rounds 4 ?_
  rw [rounds_succ]
  go_wp2_with fail
  rw [rounds_succ]
  go_wp2_with fail
  rw [rounds_succ]
  go_wp2_with fail
  rw [rounds_succ]
  go_wp2_with fail
  rw [HS.out]
  refine (grow_str (n1 + n2 + n3) hn w).mono ?_
  rintro e v0 ⟨g0, d0, rfl, own0, b0⟩
  have OW0 := Lib.hid own0
  have B0 := Lib.hid b0
  clear own0 b0
  clear c1_
  clear c2_
  clear c3_
  have c1_ := (blk_cells ((B0.out.block b hlt).trans HB.out)).1 0
  have c2_ := (blk_cells ((B0.out.block b hlt).trans HB.out)).1 1
  have c3_ := (blk_cells ((B0.out.block b hlt).trans HB.out)).1 2
  simp at c1_ c2_ c3_
  go_wp2
  refine wp_loop_rounds 4 ?_
  rw [rounds_succ]
  go_wp2_with (at_builtin; refine wpList_append_sl rfl _ _ 39 rfl w.heap.size 9 _ 1 16 Tryd.underlying39 info_str rfl (by decide) _ _ _ OW0.out rfl _ n1 _ rfl (SliceAt.same H1.out (SameT.below B0.out)) L1.out O1.out (by unfold maxLen; omega) (by omega) (by have := B0.out.size; omega) ?_; intro g1 d1 v1 own1 gr1; simp only [Nat.zero_add, List.nil_append] at own1; have OW1 := Lib.hid own1; have B1 := Lib.hid (B0.out.trans (Below.of_grown gr1 OW0.out (by have := B0.out.size; omega))); clear own1 gr1 c1_ c2_ c3_; have c1_ := (blk_cells ((B1.out.block b hlt).trans HB.out)).1 0; have c2_ := (blk_cells ((B1.out.block b hlt).trans HB.out)).1 1; have c3_ := (blk_cells ((B1.out.block b hlt).trans HB.out)).1 2; simp at c1_ c2_ c3_)
  rw [rounds_succ]
  go_wp2_with (at_builtin; refine wpList_append_sl rfl _ _ 39 rfl w.heap.size 9 _ 1 16 Tryd.underlying39 info_str rfl (by decide) _ _ _ OW1.out rfl _ n2 _ rfl (SliceAt.same H2.out (SameT.below B1.out)) L2.out O2.out (by unfold maxLen; omega) (by omega) (by have := B1.out.size; omega) ?_; intro g2 d2 v2 own2 gr2; have OW2 := Lib.hid own2; have B2 := Lib.hid (B1.out.trans (Below.of_grown gr2 OW1.out (by have := B1.out.size; omega))); clear own2 gr2 c1_ c2_ c3_; have c1_ := (blk_cells ((B2.out.block b hlt).trans HB.out)).1 0; have c2_ := (blk_cells ((B2.out.block b hlt).trans HB.out)).1 1; have c3_ := (blk_cells ((B2.out.block b hlt).trans HB.out)).1 2; simp at c1_ c2_ c3_)
  rw [rounds_succ]
  go_wp2_with (at_builtin; refine wpList_append_sl rfl _ _ 39 rfl w.heap.size 9 _ 1 16 Tryd.underlying39 info_str rfl (by decide) _ _ _ OW2.out rfl _ n3 _ rfl (SliceAt.same H3.out (SameT.below B2.out)) L3.out O3.out (by unfold maxLen; omega) (by omega) (by have := B2.out.size; omega) ?_; intro g3 d3 v3 own3 gr3; have OW3 := Lib.hid own3; have B3 := Lib.hid (B2.out.trans (Below.of_grown gr3 OW2.out (by have := B2.out.size; omega))); clear own3 gr3 c1_ c2_ c3_; have c1_ := (blk_cells ((B3.out.block b hlt).trans HB.out)).1 0; have c2_ := (blk_cells ((B3.out.block b hlt).trans HB.out)).1 1; have c3_ := (blk_cells ((B3.out.block b hlt).trans HB.out)).1 2; simp at c1_ c2_ c3_)
  rw [rounds_succ]
  go_wp2
  go_ret
  have OK := OW3.out
  simp only [Nat.zero_add, List.nil_append] at OK ⊢
  exact ⟨_, _, rfl, OK, B3.out⟩

theorem empty_str (w : World) : (w.alloc (.cells #[] 9)).ownsRow w.heap.size 9 1 (.slice (some ⟨w.heap.size, 0, none⟩) 0 0) 0 [] :=
  ⟨rfl, .inr ⟨w.heap.size, 0, #[], rfl, Nat.le_refl _, heap_alloc_new w _, Nat.le_refl _, Nat.zero_le _, rfl, rfl⟩⟩
set_option maxRecDepth 100000 in
set_option maxHeartbeats 1000000 in
theorem clone_str (v : Value) (n : Nat) (xs : List Value) (w : World) (h : SliceAt w 9 1 v xs) (hl : xs.length = n * 1) (ho : xs.all Value.oneCell' = true) (hn : n ≤ 1000000) :
    Calls Tryd.prog 89 #[v] w (Ownstr w n xs) := by
  have H := Lib.hid h
  have L := Lib.hid hl
  have O := Lib.hid ho
  obtain ⟨m, cap, e1, e2, e3, h4⟩ := h
  have hm : m = n := by omega
  subst hm
  rcases h4 with ⟨rfl, rfl⟩ | ⟨b, off, c, fr, rfl, hb, hc⟩
  · have hx : xs = [] := List.length_eq_zero_iff.1 (by omega)
    subst hx
    clear hl ho e1 H L O
    have q := fun (w : World) (a : Option Addr) (n c n' c' : Nat) => Lib.run_eql_slice_nil (P := Tryd.prog) w 39 9 a n c n' c' Tryd.underlying39
    go_enter Tryd.func89, Tryd.ntmps89
    go_wp2
    go_ret
    exact ⟨none, 0, rfl, World.ownsRow_nil _ _ _ _, Below.refl _ _⟩
  · unfold maxLen at e3
    have OW := Lib.hid (empty_str w)
    clear hl ho e1 hb hc
    have q := fun (w : World) (a : Option Addr) (n c n' c' : Nat) => Lib.run_eql_slice_nil (P := Tryd.prog) w 39 9 a n c n' c' Tryd.underlying39
    go_enter Tryd.func89, Tryd.ntmps89
    go_wp2_with (at_builtin; refine wpList_append_sl rfl _ _ 39 rfl w.heap.size 9 _ 1 16 Tryd.underlying39 info_str rfl (by decide) _ _ _ OW.out rfl _ m _ rfl (SliceAt.same H.out SameT.alloc) L.out O.out (by unfold maxLen; omega) (by omega) (by simp) ?_; intro g d w1 own1 gr1; simp only [Nat.zero_add, List.nil_append] at own1; have OW1 := Lib.hid own1; have B1 := Lib.hid (((Below.refl w.heap.size w).alloc (Nat.le_refl _) _).trans (Below.of_grown gr1 OW.out (by simp))); clear own1 gr1)
    go_ret
    exact ⟨_, _, by simp, OW1.out, B1.out⟩
end Go.Proofs.YtpnfdmajpkpjoaaDoor

/- Walk: the words of a statement. -/
namespace Go.Proofs.YtpnfdmajpkpjoaaDoor
open Go.RowKit

def StrsQ (l : List Str) (w : World) (e : Ending) (w' : World) : Prop := ∃ a c, e = .returned (.slice a l.length c) ∧ StrsAt w' (.slice a l.length c) l ∧ Below w.heap.size w w'
theorem own_new {w : World} {T : TypeId} {sz : Nat} (xs : List Value) (n : Nat) (h : xs.length = n * sz) (hn : n ≤ maxLen) : (w.alloc (.cells xs.toArray T)).ownsRow w.heap.size T sz (.slice (some ⟨w.heap.size, 0, none⟩) n n) n xs :=
  ⟨h, .inr ⟨w.heap.size, n, xs.toArray, rfl, Nat.le_refl _, heap_alloc_new w _, Nat.le_refl _, hn, by simpa using h, by rw [← h]; simp⟩⟩
theorem all_sv (l : List Str) : (l.map sv).all Value.oneCell' = true := by
  rw [List.all_eq_true]
  intro x hx
  obtain ⟨s, _, rfl⟩ := List.mem_map.1 hx
  rfl
def wordsS (s : PStmt) : List Str := (stmtL s).map Prod.snd
theorem wordsS_assign {s : PStmt} (h : s.op = 1) : wordsS s = [s.dfn, [61]] ++ s.uses := by
  unfold wordsS stmtL
  rw [if_pos h]
  simp [word, Function.comp_def]
theorem wordsS_other {s : PStmt} (hs : stmtB s = true) (h : s.op ≠ 1) : wordsS s = [kwOf s.op] ++ ((if s.dfn = [] then [] else [s.dfn]) ++ (s.uses ++ s.targets)) := by
  obtain ⟨hu, ht, ho⟩ := stmtB_fields hs
  obtain ⟨op, d, us, ts⟩ := s
  simp only at hu ht ho h
  have hc : op = 2 ∨ op = 3 ∨ op = 4 ∨ op = 5 ∨ op = 6 ∨ op = 7 ∨ op = 8 ∨ op = 9 := by
    unfold opB at ho
    by_cases h2 : op = 2; · omega
    by_cases h3 : op = 3; · omega
    by_cases h4 : op = 4; · omega
    by_cases h5 : op = 5; · omega
    by_cases h6 : op = 6; · omega
    by_cases h7 : op = 7; · omega
    by_cases h8 : op = 8; · omega
    by_cases h9 : op = 9; · omega
    rw [if_neg h, if_neg h2, if_neg h5, if_neg (by omega), if_neg (by omega), if_neg h8, if_neg h9] at ho
    cases ho
  have hn : nameB d = true → d ≠ [] := by
    intro hd e
    subst e
    revert hd
    decide
  rcases hc with rfl | rfl | rfl | rfl | rfl | rfl | rfl | rfl
  · have h2 : d.isEmpty = true ∧ 1 ≤ us.length ∧ ts.length = 0 := by simpa [opB, Nat.succ_le_iff] using ho
    obtain rfl : d = [] := isEmpty_nil h2.1
    obtain rfl : ts = [] := List.length_eq_zero_iff.1 h2.2.2
    simp [wordsS, stmtL, kwOf, word, Function.comp_def]
  · have h2 : d.isEmpty = true ∧ us.length = 0 ∧ ts.length = 1 := by simpa [opB] using ho
    obtain rfl : d = [] := isEmpty_nil h2.1
    obtain rfl : us = [] := List.length_eq_zero_iff.1 h2.2.1
    simp [wordsS, stmtL, kwOf, word, Function.comp_def]
  · have h2 : nameB d = true ∧ us.length = 0 ∧ ts.length = 0 := by simpa [opB] using ho
    obtain rfl : us = [] := List.length_eq_zero_iff.1 h2.2.1
    obtain rfl : ts = [] := List.length_eq_zero_iff.1 h2.2.2
    simp [wordsS, stmtL, kwOf, word, hn h2.1]
  · have h2 : d.isEmpty = true ∧ us.length = 1 ∧ ts.length = 0 := by simpa [opB] using ho
    obtain rfl : d = [] := isEmpty_nil h2.1
    obtain rfl : ts = [] := List.length_eq_zero_iff.1 h2.2.2
    simp [wordsS, stmtL, kwOf, word, Function.comp_def]
  · have h2 : nameB d = true ∧ us.length = 0 ∧ ts.length = 0 := by simpa [opB] using ho
    obtain rfl : us = [] := List.length_eq_zero_iff.1 h2.2.1
    obtain rfl : ts = [] := List.length_eq_zero_iff.1 h2.2.2
    simp [wordsS, stmtL, kwOf, word, hn h2.1]
  · have h2 : d.isEmpty = true ∧ us.length = 0 ∧ ts.length = 1 := by simpa [opB] using ho
    obtain rfl : d = [] := isEmpty_nil h2.1
    obtain rfl : us = [] := List.length_eq_zero_iff.1 h2.2.1
    simp [wordsS, stmtL, kwOf, word, Function.comp_def]
  · have h2 : d.isEmpty = true ∧ us.length = 1 ∧ ts.length = 2 := by simpa [opB] using ho
    obtain rfl : d = [] := isEmpty_nil h2.1
    simp [wordsS, stmtL, kwOf, word, Function.comp_def]
  · have h2 : d.isEmpty = true ∧ us.length = 0 ∧ ts.length = 0 := by simpa [opB] using ho
    obtain rfl : d = [] := isEmpty_nil h2.1
    obtain rfl : us = [] := List.length_eq_zero_iff.1 h2.2.1
    obtain rfl : ts = [] := List.length_eq_zero_iff.1 h2.2.2
    simp [wordsS, stmtL, kwOf, word]

theorem own_new1 {w : World} {T : TypeId} {sz : Nat} {o : Obj} (xs : List Value) (n : Nat) (h : xs.length = n * sz) (hn : n ≤ maxLen) : ((w.alloc o).alloc (.cells xs.toArray T)).ownsRow (w.heap.size + 1) T sz (.slice (some ⟨w.heap.size + 1, 0, none⟩) n n) n xs := by
  have h2 := own_new (w := w.alloc o) (T := T) xs n h hn
  rw [World.size_alloc] at h2
  exact h2
theorem lies_new3 {w : World} (a b c : Obj) : (((w.alloc a).alloc b).alloc c).heap[w.heap.size + 1 + 1]? = some c := by
  have h := heap_alloc_new ((w.alloc a).alloc b) c
  rw [World.size_alloc, World.size_alloc] at h
  exact h
set_option maxRecDepth 100000 in
set_option maxHeartbeats 1000000 in
theorem words_assign {s : PStmt} (h1 : s.op = 1) (u t : Value) (w : World) (hu : StrsAt w u s.uses) (ht : StrsAt w t s.targets) (hlu : s.uses.length ≤ 1000) :
    Calls Tryd.prog 76 #[.agg #[.int .i64 s.op, sv s.dfn, u, t]] w (StrsQ (wordsS s) w) := by
  obtain ⟨R, hR⟩ : ∃ R, wordsS s = R := ⟨_, rfl⟩
  rw [hR]
  rw [wordsS_assign h1] at hR
  have HR := Lib.hid hR
  clear hR
  obtain ⟨op, d, us, ts⟩ := s
  dsimp only at h1 hu ht hlu HR ⊢
  subst h1
  obtain ⟨ua, uc, rfl, -, -⟩ := hu.cell
  obtain ⟨ta, tc, rfl, -, -⟩ := ht.cell
  have HU := Lib.hid hu
  obtain ⟨n, hn⟩ : ∃ n, us.length = n := ⟨_, rfl⟩
  obtain ⟨m, hm⟩ : ∃ n, ts.length = n := ⟨_, rfl⟩
  rw [hn] at HU hlu ⊢
  rw [hm]
  have HN := Lib.hid hn
  have OW := Lib.hid (own_new1 (w := w) (T := 9) (sz := 1) (o := .cells #[.int .i64 1, sv d, .slice ua n uc, .slice ta m tc] 67) [sv d, .string ⟨#[61]⟩] 2 rfl (by decide))
  clear hu ht hm hn
  go_enter Tryd.func76, Tryd.ntmps76
  go_wp2_with (at_builtin; refine wpList_append_sl rfl _ _ 39 rfl (w.heap.size + 1) 9 _ 1 16 Tryd.underlying39 info_str rfl (by decide) _ _ _ OW.out rfl _ n _ rfl (SliceAt.same HU.out (SameT.alloc.trans SameT.alloc)) (by have := HN.out; simp; omega) (all_sv us) (by unfold maxLen; omega) (by omega) (by simp) ?_; intro g c w1 own1 gr1; have OW1 := Lib.hid own1; have B1 := Lib.hid ((((Below.refl w.heap.size w).alloc (Nat.le_refl _) (.cells #[.int .i64 1, sv d, .slice ua n uc, .slice ta m tc] 67)).alloc (by simp) (.cells #[sv d, .string ⟨#[61]⟩] 9)).trans ((Below.of_grown gr1 OW.out (by simp)).mono (by omega))); clear own1 gr1)
  go_ret
  have hl : R.length = 2 + n := by rw [← HR.out, List.length_append, HN.out]; rfl
  refine ⟨g, c, by rw [hl]; rfl, ?_, B1.out⟩
  have h2 := SliceAt.of_owns OW1.out
  unfold StrsAt
  rw [hl, ← HR.out]
  simpa using h2

set_option maxRecDepth 100000 in
set_option maxHeartbeats 1000000 in
theorem words_other0 {s : PStmt} (hs : stmtB s = true) (h1 : s.op ≠ 1) (hd : s.dfn = []) (u t : Value) (w : World) (hu : StrsAt w u s.uses) (ht : StrsAt w t s.targets) (hlu : s.uses.length ≤ 1000) (hlt : s.targets.length ≤ 1000) :
    Calls Tryd.prog 76 #[.agg #[.int .i64 s.op, sv s.dfn, u, t]] w (StrsQ (wordsS s) w) := by
  obtain ⟨R, hR⟩ : ∃ R, wordsS s = R := ⟨_, rfl⟩
  rw [hR]
  rw [wordsS_other hs h1] at hR
  obtain ⟨op, d, us, ts⟩ := s
  dsimp only at h1 hd hu ht hlu hlt hs hR ⊢
  subst hd
  rw [if_pos rfl] at hR
  obtain ⟨ua, uc, rfl, -, -⟩ := hu.cell
  obtain ⟨ta, tc, rfl, -, -⟩ := ht.cell
  have HU := Lib.hid hu
  have HT := Lib.hid ht
  obtain ⟨n, hn⟩ : ∃ n, us.length = n := ⟨_, rfl⟩
  obtain ⟨m, hm⟩ : ∃ n, ts.length = n := ⟨_, rfl⟩
  rw [hn] at HU hlu ⊢
  rw [hm] at HT hlt ⊢
  have HN := Lib.hid hn
  have HM := Lib.hid hm
  have hne : (op == 1) = false := by rw [beq_eq_false_iff_ne]; exact h1
  obtain ⟨kw, hkw⟩ : ∃ k, kwOf op = k := ⟨_, rfl⟩
  have K := Lib.hid (fun w => keyword_any op w)
  rw [hkw] at K hR
  have HR := Lib.hid hR
  clear hR
  have OW := Lib.hid (own_new1 (w := w) (T := 9) (sz := 1) (o := .cells #[.int .i64 op, sv [], .slice ua n uc, .slice ta m tc] 67) [sv kw] 1 rfl (by decide))
  have B0 := Lib.hid (((Below.refl w.heap.size w).alloc (Nat.le_refl _) (.cells #[.int .i64 op, sv [], .slice ua n uc, .slice ta m tc] 67)).alloc (by simp) (.cells #[sv kw] 9))
  clear hu ht hn hm h1 hs hkw
  go_enter Tryd.func76, Tryd.ntmps76
  go_wp2_with fail
  refine (K.out _).mono ?_
  rintro e w1 ⟨rfl, rfl⟩
  go_wp2_with fail
  refine (concat_str _ _ (lies_new3 _ _ _) (SliceAt.same (SliceAt.of_owns OW.out) SameT.alloc) (SliceAt.same HU.out (SameT.below (B0.out.alloc B0.out.size _))) (SliceAt.same HT.out (SameT.below (B0.out.alloc B0.out.size _))) rfl (by have := HN.out; simp; omega) (by have := HM.out; simp; omega) rfl (all_sv us) (all_sv ts) (by omega)).mono ?_
  rintro e w2 ⟨a, c, rfl, own2, b2⟩
  have OW2 := Lib.hid own2
  have B2 := Lib.hid ((B0.out.alloc B0.out.size _).trans (b2.mono (by have := B0.out.size; simp; simp at this; omega)))
  clear own2 b2
  go_wp2
  go_ret
  have hl : R.length = 1 + n + m := by rw [← HR.out]; simp [HN.out, HM.out]; omega
  refine ⟨a, c, by rw [hl]; rfl, ?_, B2.out⟩
  have h2 := SliceAt.of_owns OW2.out
  unfold StrsAt
  rw [hl, ← HR.out]
  simpa using h2

set_option maxRecDepth 100000 in
set_option maxHeartbeats 1000000 in
theorem words_other1 {s : PStmt} (hs : stmtB s = true) (h1 : s.op ≠ 1) (hd : s.dfn ≠ []) (u t : Value) (w : World) (hu : StrsAt w u s.uses) (ht : StrsAt w t s.targets) (hlu : s.uses.length ≤ 1000) (hlt : s.targets.length ≤ 1000) :
    Calls Tryd.prog 76 #[.agg #[.int .i64 s.op, sv s.dfn, u, t]] w (StrsQ (wordsS s) w) := by
  obtain ⟨R, hR⟩ : ∃ R, wordsS s = R := ⟨_, rfl⟩
  rw [hR]
  rw [wordsS_other hs h1] at hR
  obtain ⟨op, d, us, ts⟩ := s
  dsimp only at h1 hd hu ht hlu hlt hs hR ⊢
  rw [if_neg hd] at hR
  cases d with
  | nil => exact absurd rfl hd
  | cons c0 r0 =>
  clear hd
  obtain ⟨ua, uc, rfl, -, -⟩ := hu.cell
  obtain ⟨ta, tc, rfl, -, -⟩ := ht.cell
  have HU := Lib.hid hu
  have HT := Lib.hid ht
  obtain ⟨n, hn⟩ : ∃ n, us.length = n := ⟨_, rfl⟩
  obtain ⟨m, hm⟩ : ∃ n, ts.length = n := ⟨_, rfl⟩
  rw [hn] at HU hlu ⊢
  rw [hm] at HT hlt ⊢
  have HN := Lib.hid hn
  have HM := Lib.hid hm
  have hne : (op == 1) = false := by rw [beq_eq_false_iff_ne]; exact h1
  obtain ⟨kw, hkw⟩ : ∃ k, kwOf op = k := ⟨_, rfl⟩
  have K := Lib.hid (fun w => keyword_any op w)
  rw [hkw] at K hR
  have HR := Lib.hid hR
  clear hR
  have OW := Lib.hid (own_new1 (w := w) (T := 9) (sz := 1) (o := .cells #[.int .i64 op, sv (c0 :: r0), .slice ua n uc, .slice ta m tc] 67) [sv kw] 1 rfl (by decide))
  have B0 := Lib.hid (((Below.refl w.heap.size w).alloc (Nat.le_refl _) (.cells #[.int .i64 op, sv (c0 :: r0), .slice ua n uc, .slice ta m tc] 67)).alloc (by simp) (.cells #[sv kw] 9))
  clear hu ht hn hm h1 hs hkw
  go_enter Tryd.func76, Tryd.ntmps76
  go_wp2_with fail
  refine (K.out _).mono ?_
  rintro e w1 ⟨rfl, rfl⟩
  go_wp2_with (at_builtin; refine wpList_pushH [sv (c0 :: r0)] rfl _ _ 39 rfl (w.heap.size + 1) 9 _ 1 16 Tryd.underlying39 info_str rfl (by decide) _ _ _ OW.out rfl _ rfl (by simp) rfl rfl (by unfold maxLen; omega) (by omega) (by simp) ?_; intro g cap w2 own2 g1 g2 g3; have OW2 := Lib.hid own2; have B1 := Lib.hid (B0.out.trans ((Below.of_grown g1 OW.out (by simp)).mono (by omega))); have hbx := ((Below.of_grown g1 OW.out (by simp)).block w.heap.size (by omega)).trans (alloc_blk _ (heap_alloc_new w (.cells #[.int .i64 op, sv (c0 :: r0), .slice ua n uc, .slice ta m tc] 67))); have x2 := (blk_cells hbx).1 2; have x3 := (blk_cells hbx).1 3; clear own2 g1 g2 g3 hbx; simp at x2 x3)
  go_wp2_with fail
  refine (concat_str _ _ (heap_alloc_new _ _) (SliceAt.same (SliceAt.of_owns OW2.out) SameT.alloc) (SliceAt.same HU.out (SameT.below (B1.out.alloc B1.out.size _))) (SliceAt.same HT.out (SameT.below (B1.out.alloc B1.out.size _))) rfl (by have := HN.out; simp; omega) (by have := HM.out; simp; omega) rfl (all_sv us) (all_sv ts) (by omega)).mono ?_
  rintro e w3 ⟨a, c, rfl, own2, b2⟩
  have OW3 := Lib.hid own2
  have B2 := Lib.hid ((B1.out.alloc B1.out.size _).trans (b2.mono (by have := B1.out.size; simp; omega)))
  clear own2 b2
  go_wp2
  go_ret
  have hl : R.length = 1 + 1 + n + m := by rw [← HR.out]; simp [HN.out, HM.out]; omega
  refine ⟨a, c, by rw [hl]; rfl, ?_, B2.out⟩
  have h2 := SliceAt.of_owns OW3.out
  unfold StrsAt
  rw [hl, ← HR.out]
  simpa using h2

theorem words5_any {s : PStmt} (hs : stmtB s = true) (u t : Value) (w : World) (hu : StrsAt w u s.uses) (ht : StrsAt w t s.targets) :
    Calls Tryd.prog 76 #[.agg #[.int .i64 s.op, sv s.dfn, u, t]] w (StrsQ (wordsS s) w) := by
  have hlu : s.uses.length ≤ 1000 ∧ s.targets.length ≤ 1000 := by
    unfold stmtB namesB at hs
    simp only [Bool.and_eq_true, decide_eq_true_eq] at hs
    omega
  by_cases h1 : s.op = 1
  · exact words_assign h1 u t w hu ht hlu.1
  · by_cases hd : s.dfn = []
    · exact words_other0 hs h1 hd u t w hu ht hlu.1 hlu.2
    · exact words_other1 hs h1 hd u t w hu ht hlu.1 hlu.2
end Go.Proofs.YtpnfdmajpkpjoaaDoor

