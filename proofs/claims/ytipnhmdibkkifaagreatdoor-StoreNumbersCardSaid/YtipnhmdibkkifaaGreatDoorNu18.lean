/- A part of the proof. -/
import Derived.Test.YtipnhmdibkkifaaGreatDoorNu17
import Derived.Test.YtipnhmdibkkifaaGreatDoorProg
import Derived.Shelf.Sort.Plain
import Derived.Shelf.Slices.In.SortNone
set_option linter.unusedVariables false
set_option linter.unusedSimpArgs false
set_option linter.unusedVariables false
set_option linter.unusedSimpArgs false
set_option linter.unusedSectionVars false
namespace Go.Proofs.YtipnhmdibkkifaaGreatDoor
open Go.RowKit
variable [Base]
def sortI (l : List Int) : List Int := l.mergeSort fun x y => decide (x ≤ y)
theorem sortI_perm (l : List Int) : (sortI l).Perm l := List.mergeSort_perm _ _
theorem sortI_len (l : List Int) : (sortI l).length = l.length := (sortI_perm l).length_eq
theorem sortI_mem {l : List Int} {x : Int} : x ∈ sortI l ↔ x ∈ l := (sortI_perm l).mem_iff
theorem sortI_asc {l : List Int} (h : l.Nodup) : Asc (sortI l) := by
  have h1 : (sortI l).Pairwise (fun x y : Int => decide (x ≤ y) = true) := List.pairwise_mergeSort (by intro a b c h1 h2; simp at *; omega) (by intro a b; simp; omega) l
  have h2 : (sortI l).Nodup := (sortI_perm l).nodup_iff.2 h
  unfold Asc
  unfold List.Nodup at h2
  exact (h1.and h2).imp fun {a b} h => by
    have := h.1
    simp at this
    have h3 := h.2
    omega
def SortOk : Prop := ∀ (z : Nat) (l : List Int) (v : Value) (w : World), z ≤ w.heap.size → l.length ≤ 1000 → w.ownsRow z IN 1 v l.length (l.map iv) →
  Calls Tryz.prog 52 #[v] w (fun e w' => e = .returned (.tuple #[]) ∧ w'.ownsRow z IN 1 v (sortI l).length ((sortI l).map iv) ∧ w.grownBy w' v.ownBlock)
theorem sorted_succ {p : List PFunc} (hck : checkE p = 0) {S P : List (List Int)} (hg : GrE (funcsN p 0).length ((edgesL p (funcsN p 0)).map (numE (funcsN p 0))) S P) : S.map sortI = succsP p ∧ P.map sortI = predsP p := by
  have hN := nodes_eq hck
  have hnd : (funcsN p 0).Nodup := nodup_nodes p 0
  have hc := check_ckd hck
  have key : ∀ i j : Nat, i < (funcsN p 0).length → j < (funcsN p 0).length → ((i, j) ∈ (edgesL p (funcsN p 0)).map (numE (funcsN p 0)) ↔ edgeB p (funcsN p 0) i j = true) := by
    intro i j hi hj
    have ni : (funcsN p 0)[i]? = some ((funcsN p 0)[i]) := List.getElem?_eq_getElem hi
    have nj : (funcsN p 0)[j]? = some ((funcsN p 0)[j]) := List.getElem?_eq_getElem hj
    have num : ∀ {k : Nat} {x : PNode}, (funcsN p 0)[k]? = some x → numT (funcsN p 0) x = k := fun {k x} hx => by
      have hm := List.mem_of_getElem? hx
      unfold numT numN
      rw [if_pos hm, idxI_nodup hnd hx]
      simp
    constructor
    · intro h
      obtain ⟨⟨x, y⟩, hxy, e⟩ := List.mem_map.1 h
      obtain ⟨h1, h2⟩ := (edge_iff hc x y).1 hxy
      have h3 := next_mem hc h1 h2
      unfold numE at e
      injection e with e1 e2
      have f1 := (numT_lt h1).2
      have f2 := (numT_lt h3).2
      simp only at e1 e2
      rw [e1] at f1
      rw [e2] at f2
      unfold edgeB
      rw [f1, f2]
      simpa using h2
    · intro h
      unfold edgeB at h
      rw [ni, nj] at h
      have h2 : (funcsN p 0)[j] ∈ nextN p (funcsN p 0) ((funcsN p 0)[i]) := by simpa using h
      exact List.mem_map.2 ⟨((funcsN p 0)[i], (funcsN p 0)[j]), (edge_iff hc _ _).2 ⟨List.mem_of_getElem? ni, h2⟩, by unfold numE; rw [num ni, num nj]⟩
  refine ⟨List.ext_getElem? fun i => ?_, List.ext_getElem? fun j => ?_⟩
  · unfold succsP
    rw [List.getElem?_map, List.getElem?_map, hN]
    rcases Nat.lt_or_ge i (funcsN p 0).length with hi | hi
    · obtain ⟨r, hr⟩ : ∃ r, S[i]? = some r := ⟨_, List.getElem?_eq_getElem (by rw [hg.sl]; exact hi)⟩
      rw [hr, List.getElem?_range hi]
      simp only [Option.map_some]
      congr 1
      obtain ⟨h1, h2⟩ := hg.sn i r hr
      refine asc_ext (sortI_asc h1) (by unfold succP; exact asc_rowF _ _) fun x => ?_
      rw [sortI_mem, h2 x]
      unfold succP
      rw [hN, mem_rowF]
      constructor
      · rintro ⟨j, e, m⟩
        have hj := (hg.rng _ m).2
        exact ⟨j, e, hj, (key i j hi hj).1 m⟩
      · rintro ⟨j, e, hj, m⟩
        exact ⟨j, e, (key i j hi hj).2 m⟩
    · rw [List.getElem?_eq_none (by rw [hg.sl]; exact hi), List.getElem?_eq_none (by simpa using hi)]
      rfl
  · unfold predsP
    rw [List.getElem?_map, List.getElem?_map, hN]
    rcases Nat.lt_or_ge j (funcsN p 0).length with hj | hj
    · obtain ⟨r, hr⟩ : ∃ r, P[j]? = some r := ⟨_, List.getElem?_eq_getElem (by rw [hg.pl]; exact hj)⟩
      rw [hr, List.getElem?_range hj]
      simp only [Option.map_some]
      congr 1
      obtain ⟨h1, h2⟩ := hg.pn j r hr
      refine asc_ext (sortI_asc h1) (by unfold predP; exact asc_rowF _ _) fun x => ?_
      rw [sortI_mem, h2 x]
      unfold predP
      rw [hN, mem_rowF]
      constructor
      · rintro ⟨i, e, m⟩
        have hi := (hg.rng _ m).1
        exact ⟨i, e, hi, (key i j hi hj).1 m⟩
      · rintro ⟨i, e, hi, m⟩
        exact ⟨i, e, (key i j hi hj).2 m⟩
    · rw [List.getElem?_eq_none (by rw [hg.pl]; exact hj), List.getElem?_eq_none (by simpa using hj)]
      rfl
def SortTo (k : Nat) (S T : List (List Int)) : Prop := T.length = S.length ∧ ∀ i, T[i]? = if i < k then (S[i]?).map sortI else S[i]?
theorem SortTo.zero (S : List (List Int)) : SortTo 0 S S := ⟨rfl, fun i => by simp⟩
theorem SortTo.step {k : Nat} {S T : List (List Int)} {r : List Int} (h : SortTo k S T) (hr : T[k]? = some r) : S[k]? = some r ∧ SortTo (k + 1) S (T.set k (sortI r)) := by
  have h0 : S[k]? = some r := by have := h.2 k; rw [if_neg (by omega)] at this; rw [← this]; exact hr
  refine ⟨h0, by simpa using h.1, fun i => ?_⟩
  by_cases e : k = i
  · subst e
    rw [List.getElem?_set_self (List.getElem?_eq_some_iff.1 hr).1, if_pos (by omega), h0]
    rfl
  · rw [List.getElem?_set_ne e, h.2 i]
    by_cases e2 : i < k
    · rw [if_pos e2, if_pos (by omega)]
    · rw [if_neg e2, if_neg (by omega)]
theorem SortTo.all {k : Nat} {S T : List (List Int)} (h : SortTo k S T) (hk : S.length ≤ k) : T = S.map sortI := by
  refine List.ext_getElem? fun i => ?_
  rw [h.2 i, List.getElem?_map]
  by_cases e : i < k
  · rw [if_pos e]
  · rw [if_neg e, List.getElem?_eq_none (by omega)]
    rfl
theorem RowsD.put {z : Nat} {w w5 : World} {vs : List Value} {R : List (List Int)} {i : Nat} {v : Value} {r r' : List Int} (h : RowsD z w vs R) (hv : vs[i]? = some v) (hr : R[i]? = some r)
    (ho : w5.ownsRow z IN 1 v r'.length (r'.map iv)) (hg : w.grownBy w5 v.ownBlock) : RowsD z w5 vs (R.set i r') := by
  have hi : i < vs.length := (List.getElem?_eq_some_iff.1 hv).1
  refine ⟨by simp [h.len], fun j u s hu hs => ?_, h.apart⟩
  by_cases hij : i = j
  · subst hij
    rw [List.getElem?_set_self (by rw [← h.len]; exact hi)] at hs
    rw [hv] at hu
    injection hu with hu
    injection hs with hs
    subst hu hs
    exact ho
  · rw [List.getElem?_set_ne hij] at hs
    refine own_heap (h.own j u s hu hs) fun b c fr hb _ => hg.block b (own_lt (h.own j u s hu hs) hb).1 ?_
    intro e
    exact h.apart i j v u b hij hv hu e.symm hb
theorem Bld.put {z bt sb pb mb : Nat} {nv : Value} {N : List PNode} {S P : List (List Int)} {w : World} (hbs : Base.b ≤ z) (h : Bld z bt sb pb mb nv N S P w) (hz : z ≤ w.heap.size) {a : Nat} (ha : a < N.length) :
    (∃ v r, S[a]? = some r ∧ w.cell? ⟨sb, a, none⟩ = some v ∧ w.ownsRow z IN 1 v r.length (r.map iv) ∧ ∀ r' w5, w5.ownsRow z IN 1 v r'.length (r'.map iv) → w.grownBy w5 v.ownBlock → Bld z bt sb pb mb nv N (S.set a r') P w5 ∧ KeepE z w w5) ∧
    (∃ v r, P[a]? = some r ∧ w.cell? ⟨pb, a, none⟩ = some v ∧ w.ownsRow z IN 1 v r.length (r.map iv) ∧ ∀ r' w5, w5.ownsRow z IN 1 v r'.length (r'.map iv) → w.grownBy w5 v.ownBlock → Bld z bt sb pb mb nv N S (P.set a r') w5 ∧ KeepE z w w5) := by
  obtain ⟨vs, us, h1, h2, h3, h4, h5, h6⟩ := h.rows
  have h7 : P.length = N.length := by have := h6.len; simp at this; omega
  have go : ∀ (i : Nat) (v : Value) (r r' : List Int) (w5 : World), (vs ++ us)[i]? = some v → (S ++ P)[i]? = some r → w5.ownsRow z IN 1 v r'.length (r'.map iv) → w.grownBy w5 v.ownBlock →
      w5.heap[bt]? = w.heap[bt]? ∧ w5.heap[sb]? = w.heap[sb]? ∧ w5.heap[pb]? = w.heap[pb]? ∧ NumM w5 mb N.length N ∧ RowsD z w5 (vs ++ us) ((S ++ P).set i r') ∧ KeepE z w w5 := fun i v r r' w5 hv hr ho hg => by
    have own := h6.own i v r hv hr
    obtain ⟨es, c0, hm⟩ := h.mp.isMap
    exact ⟨hg.block _ (lt_heap h.bl) (own_off own h.bl (not_int (by decide))), hg.block _ (lt_heap h1) (own_off own h1 (not_int (by decide))), hg.block _ (lt_heap h2) (own_off own h2 (not_int (by decide))), h.mp.block (hg.block _ (lt_heap hm) (own_off own hm (by intro c fr e; cases e))), h6.put hv hr ho hg, Below.of_grown hg own hz, fun T _ hT => SameT.grown hg own hT hbs⟩
  constructor
  · obtain ⟨v, hv⟩ : ∃ v, vs[a]? = some v := ⟨_, List.getElem?_eq_getElem (by rw [h3]; exact ha)⟩
    obtain ⟨r, hr⟩ : ∃ r, S[a]? = some r := ⟨_, List.getElem?_eq_getElem (by rw [h5]; exact ha)⟩
    have hv2 : (vs ++ us)[a]? = some v := by rw [List.getElem?_append_left (by rw [h3]; exact ha)]; exact hv
    have hr2 : (S ++ P)[a]? = some r := by rw [List.getElem?_append_left (by rw [h5]; exact ha)]; exact hr
    refine ⟨v, r, hr, ?_, h6.own a v r hv2 hr2, fun r' w5 ho hg => ?_⟩
    · have := (blk_cells h1).1 a
      rw [this]
      simpa using hv
    · obtain ⟨k1, k2, k3, k4, k5, k6⟩ := go a v r r' w5 hv2 hr2 ho hg
      rw [List.set_append_left _ _ (by rw [h5]; exact ha)] at k5
      exact ⟨⟨h.zs, k1.trans h.bl, k4, h.ne, vs, us, k2.trans h1, k3.trans h2, h3, h4, by simpa using h5, k5⟩, k6⟩
  · obtain ⟨v, hv⟩ : ∃ v, us[a]? = some v := ⟨_, List.getElem?_eq_getElem (by rw [h4]; exact ha)⟩
    obtain ⟨r, hr⟩ : ∃ r, P[a]? = some r := ⟨_, List.getElem?_eq_getElem (by rw [h7]; exact ha)⟩
    have hv2 : (vs ++ us)[N.length + a]? = some v := by rw [List.getElem?_append_right (by omega), h3, Nat.add_sub_cancel_left]; exact hv
    have hr2 : (S ++ P)[N.length + a]? = some r := by rw [List.getElem?_append_right (by omega), h5, Nat.add_sub_cancel_left]; exact hr
    refine ⟨v, r, hr, ?_, h6.own _ v r hv2 hr2, fun r' w5 ho hg => ?_⟩
    · have := (blk_cells h2).1 a
      rw [this]
      simpa using hv
    · obtain ⟨k1, k2, k3, k4, k5, k6⟩ := go _ v r r' w5 hv2 hr2 ho hg
      rw [List.set_append_right _ _ (by omega), h5, Nat.add_sub_cancel_left] at k5
      exact ⟨⟨h.zs, k1.trans h.bl, k4, h.ne, vs, us, k2.trans h1, k3.trans h2, h3, h4, h5, k5⟩, k6⟩
def intEl : RowEl (List Int) where
  T := IT
  sz := 1
  pos := by omega
  C := fun w cs l => ∃ u, cs = [u] ∧ IntsAt w u l
  inner := [IN]
  len := fun {w cs x} h => by obtain ⟨u, rfl, -⟩ := h; rfl
  keep := fun {w w' cs x} hs h => by
    obtain ⟨u, rfl, h⟩ := h
    exact ⟨u, rfl, h.same (hs IN (by simp))⟩
theorem singles_flat : ∀ vs : List Value, (vs.map fun v => [v]).flatten = vs
  | [] => rfl
  | x :: r => by
    have := singles_flat r
    simp only [List.map_cons, List.flatten_cons, this]
    rfl
theorem rows_at {z b n : Nat} {w : World} {vs : List Value} {R : List (List Int)} (hb : w.heap[b]? = some (.cells vs.toArray IT (0, 0))) (hn : vs.length = n) (hm : n ≤ maxLen) (h : ∀ (i : Nat) (v : Value) (r : List Int), vs[i]? = some v → R[i]? = some r → w.ownsRow z IN 1 v r.length (r.map iv)) (hl : vs.length = R.length) : RowsAt intEl w (.slice (some ⟨b, 0, none⟩) n n) R := by
  refine ⟨vs.map fun v => [v], ⟨n, n, by rw [singles_flat]; simp [hn, intEl], Nat.le_refl _, hm, .inr ⟨b, 0, vs.toArray, (0, 0), rfl, .of hb, fun i hi => ?_⟩⟩, ?_⟩
  · rw [singles_flat]
    simp
  · clear hb hn hm
    induction vs generalizing R with
    | nil => cases R with | nil => trivial | cons x r => simp at hl
    | cons x r ih =>
      cases R with
      | nil => simp at hl
      | cons q R =>
        refine ⟨⟨x, rfl, SliceAt.of_owns (h 0 x q rfl rfl)⟩, ih (fun i v s hv hs => h (i + 1) v s (by simpa using hv) (by simpa using hs)) (by simpa using hl)⟩
end Go.Proofs.YtipnhmdibkkifaaGreatDoor
set_option linter.unusedVariables false
set_option linter.unusedSimpArgs false
set_option linter.unusedSectionVars false
namespace Go.Proofs
open Go.Shelf
def Tryz.lays189_ren : Go.Shelf.Ren := ⟨fun | 189 => 52 | 125 => 82 | 257 => 81 | 128 => 122 | 129 => 123 | 294 => 113 | 295 => 114 | 296 => 115 | 297 => 116 | 298 => 117 | 299 => 118 | 216 => 119 | 300 => 120 | 301 => 121 | 328 => 135 | 329 => 136 | 330 => 137 | 331 => 138 | 332 => 139 | 215 => 140 | 343 => 158 | n => n, fun | 28 => 120 | 3 => 3 | 46 => 163 | 0 => 0 | 51 => 206 | 53 => 208 | 4 => 4 | 183 => 199 | 182 => 198 | 131 => 43 | 5 => 5 | 9 => 9 | 218 => 222 | 222 => 226 | 228 => 240 | 229 => 107 | n => n, fun | n => n⟩
theorem Tryz.lays189 : Go.Proofs.Lays.n189 Tryz.prog Tryz.lays189_ren := {
  mixed := by kernel_rfl
  f125 := Tryz.func82.trans (congrArg some (by kernel_rfl))
  f128 := Tryz.func122.trans (congrArg some (by kernel_rfl))
  f129 := Tryz.func123.trans (congrArg some (by kernel_rfl))
  f189 := Tryz.func52.trans (congrArg some (by kernel_rfl))
  f215 := Tryz.func140.trans (congrArg some (by kernel_rfl))
  f216 := Tryz.func119.trans (congrArg some (by kernel_rfl))
  f257 := Tryz.func81.trans (congrArg some (by kernel_rfl))
  f294 := Tryz.func113.trans (congrArg some (by kernel_rfl))
  f295 := Tryz.func114.trans (congrArg some (by kernel_rfl))
  f296 := Tryz.func115.trans (congrArg some (by kernel_rfl))
  f297 := Tryz.func116.trans (congrArg some (by kernel_rfl))
  f298 := Tryz.func117.trans (congrArg some (by kernel_rfl))
  f299 := Tryz.func118.trans (congrArg some (by kernel_rfl))
  f300 := Tryz.func120.trans (congrArg some (by kernel_rfl))
  f301 := Tryz.func121.trans (congrArg some (by kernel_rfl))
  f328 := Tryz.func135.trans (congrArg some (by kernel_rfl))
  f329 := Tryz.func136.trans (congrArg some (by kernel_rfl))
  f330 := Tryz.func137.trans (congrArg some (by kernel_rfl))
  f331 := Tryz.func138.trans (congrArg some (by kernel_rfl))
  f332 := Tryz.func139.trans (congrArg some (by kernel_rfl))
  f343 := Tryz.func158.trans (congrArg some (by kernel_rfl))
  t0 := Tryz.underlying0
  a0 := Tryz.isAgg0
  z0 := Tryz.sizeOf0
  v0 := Tryz.zeroValue0
  t3 := Tryz.underlying3
  a3 := Tryz.isAgg3
  z3 := Tryz.sizeOf3
  v3 := Tryz.zeroValue3
  t4 := Tryz.underlying4
  a4 := Tryz.isAgg4
  z4 := Tryz.sizeOf4
  v4 := Tryz.zeroValue4
  t5 := Tryz.underlying5
  a5 := Tryz.isAgg5
  z5 := Tryz.sizeOf5
  v5 := Tryz.zeroValue5
  t9 := Tryz.underlying9
  a9 := Tryz.isAgg9
  z9 := Tryz.sizeOf9
  v9 := Tryz.zeroValue9
  t28 := Tryz.underlying120
  a28 := Tryz.isAgg120
  z28 := Tryz.sizeOf120
  v28 := Tryz.zeroValue120
  t46 := Tryz.underlying163
  a46 := Tryz.isAgg163
  z46 := Tryz.sizeOf163
  v46 := Tryz.zeroValue163
  t51 := Tryz.underlying206
  a51 := Tryz.isAgg206
  z51 := Tryz.sizeOf206
  v51 := Tryz.zeroValue206
  t53 := Tryz.underlying208
  a53 := Tryz.isAgg208
  z53 := Tryz.sizeOf208
  v53 := Tryz.zeroValue208
  t131 := Tryz.underlying43
  a131 := Tryz.isAgg43
  z131 := Tryz.sizeOf43
  v131 := Tryz.zeroValue43
  t182 := Tryz.underlying198
  a182 := Tryz.isAgg198
  z182 := Tryz.sizeOf198
  v182 := Tryz.zeroValue198
  t183 := Tryz.underlying199
  a183 := Tryz.isAgg199
  z183 := Tryz.sizeOf199
  v183 := Tryz.zeroValue199
  t218 := Tryz.underlying222
  a218 := Tryz.isAgg222
  z218 := Tryz.sizeOf222
  v218 := Tryz.zeroValue222
  t222 := Tryz.underlying226
  a222 := Tryz.isAgg226
  z222 := Tryz.sizeOf226
  v222 := Tryz.zeroValue226
  t228 := Tryz.underlying240
  a228 := Tryz.isAgg240
  z228 := Tryz.sizeOf240
  v228 := Tryz.zeroValue240
  t229 := Tryz.underlying107
  a229 := Tryz.isAgg107
  z229 := Tryz.sizeOf107
  v229 := Tryz.zeroValue107 }
open Go.Sort Go.RowKit in
theorem Tryz.slices_Sort_int (blk off cap : Nat) (zs : List Int) (w : World) (hH : Holds (Value.int .i64) w blk off zs.toArray) (hblk : blk < w.heap.size) (hsz : zs.length < 4611686018427387904) :
    Calls Tryz.prog 52 #[.slice (some ⟨blk, off, none⟩) zs.length cap] w fun e w' =>
      e = .returned (.tuple #[]) ∧ ∃ n os, w' = grow (putRow (Value.int .i64) (Sort.ahead w n) blk off (zs.mergeSort fun x y => decide (x ≤ y)).toArray) os := Any.slices_Sort_int Tryz.lays189 blk off cap zs w hH hblk hsz
open Go.RowKit in
theorem Tryz.slices_Sort_int_none (p : Option Addr) (cap : Nat) (w : World) :
    Calls Tryz.prog 52 #[.slice p 0 cap] w fun e w' => e = .returned (.tuple #[]) ∧ w' = w := Any.slices_Sort_int_none Tryz.lays189 p cap w
end Go.Proofs
set_option linter.unusedVariables false
set_option linter.unusedSimpArgs false
set_option linter.unusedSectionVars false
namespace Go.Proofs.YtipnhmdibkkifaaGreatDoor
open Go.RowKit
variable [Base]
theorem grow_heap {w : World} {enc : Int → Value} {n g : Nat} {d : Array Int} {os : Array Obj} {cur : Array Value} {t : TypeId} {fr : Nat × Nat} (hg : w.heap[g]? = some (.cells cur t fr)) :
    (Sort.grow (Sort.putRow enc (Sort.ahead w n) g 0 d) os).heap[g]? = some (.cells (Sort.putCells enc 0 d cur) t fr) := by
  have hlt := lt_heap hg
  rw [Sort.heap_grow_old _ _ (by simpa using hlt)]
  unfold Sort.putRow Sort.mapBlock
  simp [Array.getElem?_modify, Sort.ahead, hg, Sort.onCells]
theorem grow_other {w : World} {enc : Int → Value} {n g k : Nat} {d : Array Int} {os : Array Obj} (hk : k < w.heap.size) (hne : k ≠ g) :
    (Sort.grow (Sort.putRow enc (Sort.ahead w n) g 0 d) os).heap[k]? = w.heap[k]? := by
  rw [Sort.heap_grow_old _ _ (by simpa using hk)]
  unfold Sort.putRow Sort.mapBlock
  simp [Array.getElem?_modify, Sort.ahead, Ne.symm hne]
theorem sort_ok : SortOk := by
  intro z l v w hz hl ho
  obtain ⟨h1, h2⟩ := ho
  rcases h2 with ⟨rfl, h0⟩ | ⟨g, cap, cur, rfl, hg, hh, hn, hc, hs, ht⟩
  · have hl0 : l = [] := List.length_eq_zero_iff.1 h0
    subst hl0
    refine (Tryz.slices_Sort_int_none none 0 w).mono ?_
    rintro e w' ⟨rfl, rfl⟩
    exact ⟨rfl, by simp [World.ownsRow, sortI], ⟨rfl, rfl, rfl, Nat.le_refl _, fun _ _ _ => rfl⟩⟩
  · rw [Nat.mul_one] at ht hs
    have hlt := lt_heap hh
    have hcur : ∀ j (hj : j < l.length), cur[j]? = some (iv (l[j])) := fun j hj => by
      have e : (cur.toList.take l.length)[j]? = (l.map iv)[j]? := by rw [ht]
      rw [List.getElem?_take_of_lt hj] at e
      simpa [hj] using e
    have hH : Sort.Holds (Value.int .i64) w g 0 l.toArray := fun j hj => by
      have hj' : j < l.length := by simpa using hj
      refine ⟨?_, by simp [World.frozen?, hh]⟩
      simp only [Nat.zero_add, World.cell?, hh]
      simp [hcur j hj', hj']
    refine (Tryz.slices_Sort_int g 0 cap l w hH hlt (by omega)).mono ?_
    rintro e w' ⟨rfl, n, os, rfl⟩
    refine ⟨rfl, ⟨by simp, .inr ⟨g, cap, Sort.putCells (Value.int .i64) 0 (sortI l).toArray cur, by rw [sortI_len], hg, grow_heap hh, by rw [sortI_len]; exact hn, hc, by simp [Sort.putCells, hs], ?_⟩⟩, ?_⟩
    · rw [Nat.mul_one]
      apply List.ext_getElem?
      intro j
      rw [List.getElem?_map]
      rcases Nat.lt_or_ge j (sortI l).length with hj | hj
      · rw [List.getElem?_take_of_lt hj]
        have hjl : j < l.length := by rw [← sortI_len l]; exact hj
        have hjc : j < cur.size := by omega
        simp [Sort.putCells, hjc, hj]
      · rw [List.getElem?_eq_none (by rw [List.length_take]; omega), List.getElem?_eq_none hj]
        rfl
    · refine ⟨rfl, rfl, rfl, by simp, fun k hk hne => grow_other hk fun e => hne (by rw [e]; rfl)⟩
end Go.Proofs.YtipnhmdibkkifaaGreatDoor
