/- 'append(v, ys...)' onto a row of the call's own, whatever slice ys is; the row that slices.Grow makes. No program in sight. -/
import Derived.Test.YtbgoogjhgeoapaaMem
import Derived.Maps.AppendAt
import Derived.Lib.AppendZerosOnto
set_option linter.unusedVariables false
set_option linter.unusedSimpArgs false
set_option linter.unusedSectionVars false
namespace Go.Proofs.Ytbgoogjhgeoapaa
open Go.RowKit
variable [Base]

theorem run_append_nil {P : Program} (ea : Option Addr) (w : World) (base : Nat) (t ty e : TypeId) (i : TypeInfo) (size : Nat) (ht : P.underlying t = some (.slice e)) (hi : P.info? e = some i)
    (v : Value) (n : Nat) (xs : List Value) (hown : w.ownsRow base e size v n xs) : (Builtin.append_ #[t, t] ty #[v, .slice ea 0 0]).run P w = .ok v w := by
  have hz : ∀ a : Addr, (loadCells a 0).run P w = .ok #[] w := fun a => by simp [loadCells, loadCellsFrom]
  rcases hown.2 with ⟨rfl, rfl⟩ | ⟨g, cap, cur, rfl, _, _, hnc, _⟩
  · cases ea <;> simp [Builtin.append_, run_underlying ht, sizeOf, typeInfo, hi, Builtin.lenOf, Builtin.firstCells, hz]
  · cases ea <;> simp [Builtin.append_, run_underlying ht, sizeOf, typeInfo, hi, Builtin.lenOf, Builtin.firstCells, hz, hnc, storeCells]

theorem addr_add (b off j : Nat) : (⟨b, off, none⟩ : Addr).add j = ⟨b, off + j, none⟩ := by
  unfold Addr.add
  split
  · rename_i h; subst h; rfl
  · rfl
/-- A row's value as the walk writes it. -/
theorem own_slice {w : World} {base : Nat} {e : TypeId} {size : Nat} {v : Value} {n : Nat} {xs : List Value} (h : w.ownsRow base e size v n xs) : ∃ a c, v = .slice a n c ∧ n ≤ c ∧ c ≤ maxLen := by
  rcases h.2 with ⟨rfl, rfl⟩ | ⟨g, cap, cur, rfl, _, _, hnc, hc, _⟩
  · exact ⟨none, 0, rfl, Nat.le_refl _, Nat.zero_le _⟩
  · exact ⟨_, _, rfl, hnc, hc⟩

theorem run_append_sl {P : Program} (w : World) (base : Nat) (t ty e : TypeId) (z : Value) (size bytes : Nat) (ht : P.underlying t = some (.slice e)) (hi : (P.info? e).map (fun i => (i.zero, i.size, i.bytes)) = some (some z, size, bytes))
    (hzs : z.cells.size = size) (hsz : 0 < size) (v : Value) (n : Nat) (xs : List Value) (hown : w.ownsRow base e size v n xs)
    (u : Value) (m : Nat) (ys : List Value) (hsl : SliceAt w e size u ys) (hm : ys.length = m * size) (h1 : ys.all Value.oneCell' = true)
    (h63 : n + m ≤ maxLen) (hbytes : (n + m) * bytes ≤ 140737488355328) (hbase : base ≤ w.heap.size) :
    ∃ a c w', (Builtin.append_ #[t, t] ty #[v, u]).run P w = .ok (.slice a (n + m) c) w' ∧ w'.ownsRow base e size (.slice a (n + m) c) (n + m) (xs ++ ys) ∧ w.grownBy w' v.ownBlock := by
  obtain ⟨i, hi', hz, hs1, hs2⟩ := info_parts hi
  obtain ⟨m', cap, e1, e2, e3, h4⟩ := hsl
  have hmm : m' = m := Nat.eq_of_mul_eq_mul_right hsz (e1.symm.trans hm)
  subst hmm
  rcases h4 with ⟨⟨ea, rfl⟩, rfl⟩ | ⟨b, off, c, fr, rfl, hb, hc⟩
  · have hy : ys = [] := List.length_eq_zero_iff.1 (by omega)
    subst hy
    obtain ⟨a, c, rfl, _⟩ := own_slice hown
    refine ⟨a, c, w, run_append_nil ea w base t ty e i size ht hi' _ n xs hown, by simpa using hown, World.grownBy.refl w _⟩
  · have hcells : ∀ j u, ys[j]? = some u → w.cell? ((⟨b, off, none⟩ : Addr).add j) = some u := by
      intro j u hu
      have hj := (List.getElem?_eq_some_iff.1 hu).1
      rw [addr_add, ← hu, ← hc j hj]
      exact hb.cell _
    obtain ⟨v', w', hrun, h2, h3, _, _⟩ := run_append_own_at (P := P) w base t ty e i z size bytes ht hi' hz hs1 hs2 hzs hsz v n xs hown ⟨b, off, none⟩ m' cap ys e1 hcells (fun u hu => List.all_eq_true.1 h1 u hu) h63 hbytes hbase
    obtain ⟨a, c, rfl, _⟩ := own_slice h2
    exact ⟨a, c, w', hrun, h2, h3⟩

theorem wp_append_sl {P : Program} {w : World} {o : Oper} {a : Act} {K : Act → World → Prop} {Q : Exit → Act → World → Prop} (s x : Operand) (t : TypeId)
    (ho : o.op = .call { callee := .builtin .append, args := #[s, x], argTypes := #[t, t] })
    (base : Nat) (e : TypeId) (z : Value) (size bytes : Nat) (ht : P.underlying t = some (.slice e)) (hi : (P.info? e).map (fun i => (i.zero, i.size, i.bytes)) = some (some z, size, bytes))
    (hzs : z.cells.size = size) (hsz : 0 < size) (v : Value) (n : Nat) (xs : List Value) (hown : w.ownsRow base e size v n xs) (hs : a.eval s = v)
    (u : Value) (m : Nat) (ys : List Value) (hx : a.eval x = u) (hsl : SliceAt w e size u ys) (hm : ys.length = m * size) (h1 : ys.all Value.oneCell' = true)
    (h63 : n + m ≤ maxLen) (hbytes : (n + m) * bytes ≤ 140737488355328) (hbase : base ≤ w.heap.size)
    (h : ∀ g c w', w'.ownsRow base e size (.slice g (n + m) c) (n + m) (xs ++ ys) → w.grownBy w' v.ownBlock → K (a.put o.dst (.slice g (n + m) c)) w') : o.wp P a w K Q := by
  obtain ⟨g, c, w', hrun, h2, h3⟩ := run_append_sl (P := P) w base t o.type e z size bytes ht hi hzs hsz v n xs hown u m ys hsl hm h1 h63 hbytes hbase
  unfold Oper.wp execOp
  simp only [ho, resolve, invoke, builtin, Sem.run_bind, Sem.run_pure, Result.andThen_ok, List.map_toArray, List.map_cons, List.map_nil, hs, hx, hrun]
  exact h g c w' h2 h3

theorem wpList_append_sl {P : Program} {w : World} {ops : Array Oper} {rest : List Oper} {o : Oper} {a : Act} {Q : Exit → Act → World → Prop} (hgd : o.guard = none) (s x : Operand) (t : TypeId)
    (ho : o.op = .call { callee := .builtin .append, args := #[s, x], argTypes := #[t, t] })
    (base : Nat) (e : TypeId) (z : Value) (size bytes : Nat) (ht : P.underlying t = some (.slice e)) (hi : (P.info? e).map (fun i => (i.zero, i.size, i.bytes)) = some (some z, size, bytes))
    (hzs : z.cells.size = size) (hsz : 0 < size) (v : Value) (n : Nat) (xs : List Value) (hown : w.ownsRow base e size v n xs) (hs : a.eval s = v)
    (u : Value) (m : Nat) (ys : List Value) (hx : a.eval x = u) (hsl : SliceAt w e size u ys) (hm : ys.length = m * size) (h1 : ys.all Value.oneCell' = true)
    (h63 : n + m ≤ maxLen) (hbytes : (n + m) * bytes ≤ 140737488355328) (hbase : base ≤ w.heap.size)
    (h : ∀ g c w', w'.ownsRow base e size (.slice g (n + m) c) (n + m) (xs ++ ys) → w.grownBy w' v.ownBlock → wpList P ops Q rest (a.put o.dst (.slice g (n + m) c)) w') : wpList P ops Q (o :: rest) a w :=
  wpList_plain hgd fun _ hK => wp_append_sl s x t ho base e z size bytes ht hi hzs hsz v n xs hown hs u m ys hx hsl hm h1 h63 hbytes hbase fun g c w' h2 h3 => hK _ _ (h g c w' h2 h3)

theorem step_append_sl {P : Program} {w : World} {ops : Array Oper} {o : Oper} {a : Act} {K : Act → World → Prop} {Q : Exit → Act → World → Prop} {E : Prop} (hgd : o.guard = none) (s x : Operand) (t : TypeId)
    (ho : o.op = .call { callee := .builtin .append, args := #[s, x], argTypes := #[t, t] })
    (base : Nat) (e : TypeId) (z : Value) (size bytes : Nat) (ht : P.underlying t = some (.slice e)) (hi : (P.info? e).map (fun i => (i.zero, i.size, i.bytes)) = some (some z, size, bytes))
    (hzs : z.cells.size = size) (hsz : 0 < size) (v : Value) (n : Nat) (xs : List Value) (hown : w.ownsRow base e size v n xs) (hs : a.eval s = v)
    (u : Value) (m : Nat) (ys : List Value) (hx : a.eval x = u) (hsl : SliceAt w e size u ys) (hm : ys.length = m * size) (h1 : ys.all Value.oneCell' = true)
    (h63 : n + m ≤ maxLen) (hbytes : (n + m) * bytes ≤ 140737488355328) (hbase : base ≤ w.heap.size)
    (h : ∀ g c w', w'.ownsRow base e size (.slice g (n + m) c) (n + m) (xs ++ ys) → w.grownBy w' v.ownBlock → K (a.put o.dst (.slice g (n + m) c)) w') :
    if Region.wanted o (yielded ops a.tmps) = true then o.wp P a w K Q else E := by
  have hw : Region.wanted o (yielded ops a.tmps) = true := by simp [Region.wanted, hgd]
  rw [if_pos hw]
  exact wp_append_sl s x t ho base e z size bytes ht hi hzs hsz v n xs hown hs u m ys hx hsl hm h1 h63 hbytes hbase h

/-- 'append([]T(nil), make([]T, n)...)[:0]': the row of slices.Grow(nil, n), n > 0: it owns no element. -/
theorem run_grow_nil {P : Program} (w : World) (t t3 e : TypeId) (z : Value) (size bytes : Nat) (ht : P.underlying t = some (.slice e)) (h3 : P.underlying t3 = some (.int .i64)) (hi : (P.info? e).map (fun i => (i.zero, i.size, i.bytes)) = some (some z, size, bytes))
    (hsz : 0 < size) (n : Nat) (hn : 0 < n) (h63 : n ≤ 4611686018427387904) (hbytes : n * bytes ≤ 140737488355328) :
    ∃ cap, n ≤ cap ∧ cap ≤ maxLen ∧ ∀ ty, (Builtin.append_ #[t, t3] ty #[.slice none 0 0, .int .i64 (n : Int)]).run P w = .ok (.slice (some ⟨w.heap.size, 0, none⟩) n cap) (w.drew.alloc (.cells (Builtin.zeroCells z.cells n ++ Builtin.zeroCells z.cells (cap - n)) e)) := by
  obtain ⟨i, hi', hz, hs1, hs2⟩ := info_parts hi
  subst hs1 hs2
  refine ⟨grownCap w n 0 e, grownCap_ge w _ _ _, grownCap_le_maxLen w n 0 e (by unfold maxLen; omega), fun ty => ?_⟩
  have h := Lib.run_append_grow_zeros w t t3 ty e i z .i64 .i64 ht h3 hi' hz none 0 0 [] (run_firstCells_none w.drew i.size 0 0 0) n hn hsz (by omega) (by omega) (by omega) (by rw [Nat.zero_add]; exact growslice_fits (by omega) hbytes)
  rw [Nat.zero_add] at h
  simpa using h
end Go.Proofs.Ytbgoogjhgeoapaa
