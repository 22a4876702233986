/- A part of the proof. -/
import Derived.Test.YtipnhmdibkkifaaGreatDoorNu14
import Derived.Test.YtipnhmdibkkifaaGreatDoorNu11
set_option linter.unusedVariables false
set_option linter.unusedSimpArgs false
set_option linter.unusedVariables false
set_option linter.unusedSimpArgs false
set_option linter.unusedSectionVars false
namespace Go.Proofs.YtipnhmdibkkifaaGreatDoor
open Go.RowKit
variable [Base]
abbrev IT : TypeId := 120
abbrev IN : TypeId := 3
abbrev BT : TypeId := 114
set_option maxRecDepth 100000 in
set_option maxHeartbeats 4000000 in
theorem index_ints (l : List Int) (v : Value) (x : Int) (w : World) (h : IntsAt w v l) :
    Calls Tryz.prog 110 #[v, iv x] w (fun e w' => e = .returned (iv (idxI l x)) ∧ w' = w) := by
  obtain ⟨a, c, rfl, hn, -, -, hc⟩ := h.cell
  have HC := Lib.hid hc
  obtain ⟨n, hl⟩ : ∃ n, l.length = n := ⟨_, rfl⟩
  rw [hl] at hn ⊢
  have HL := Lib.hid hl
  clear hc h hl
  unfold maxLen at hn
  go_enter Tryz.func110, Tryz.ntmps110
  go_wp2
  go_loopw [8] (fun y wr => ∃ k : Nat, k ≤ n ∧ y = .int .i64 k ∧ w = wr ∧ Hid (x ∉ l.take k)) (fun y _ => n - (intOf y).toNat)
  case atStart => exact ⟨0, Nat.zero_le _, rfl, rfl, by unfold Hid; simp⟩
  case round =>
    obtain ⟨k, hk, rfl, rfl, HNI⟩ := hrel
    by_cases hlt : k < n
    · obtain ⟨y, hy⟩ : ∃ y, l[k]? = some y := ⟨_, List.getElem?_eq_getElem (by rw [HL.out]; exact hlt)⟩
      obtain ⟨b1, o1, rfl, hb1, g1⟩ := HC.out k y hy
      by_cases hxy : y = x
      · subst hxy
        have HK := Lib.hid (show idxI l y = (k : Int) from idxI_first hy HNI.out)
        clear hy
        go_wp2
        go_ret
        exact ⟨ret_intQ HK.out.symm, rfl⟩
      · have HN1 := Lib.hid (show x ∉ l.take (k + 1) by
          rw [List.take_add_one, hy]
          intro h
          rcases List.mem_append.1 h with h | h
          · exact HNI.out h
          · simp at h; exact hxy h.symm)
        have he1 : (x == y) = false := by simpa using fun e => hxy (Eq.symm e)
        clear hy hxy
        go_wp2
        go_roundw
        case rel => exact ⟨k + 1, by omega, by go_num, (by first | rfl | trivial), HN1⟩
        case measure => simp [intOf]; omega
    · have HK := Lib.hid (show idxI l x = -1 by
        unfold idxI
        rw [if_neg (fun h => HNI.out (by rwa [List.take_of_length_le (by rw [HL.out]; omega)]))])
      go_wp2
      go_ret
      exact ⟨ret_intQ HK.out.symm, rfl⟩
theorem contains_ints (l : List Int) (v : Value) (x : Int) (w : World) (h : IntsAt w v l) :
    Calls Tryz.prog 77 #[v, iv x] w (fun e w' => e = .returned (.bool (decide (x ∈ l))) ∧ w' = w) := by
  have K := Lib.hid (index_ints l v x w h)
  have HD := Lib.hid (show decide (x ∈ l) = decide (0 ≤ idxI l x) by
    unfold idxI
    by_cases hm : x ∈ l
    · rw [if_pos hm]; simp [hm]
    · rw [if_neg hm]; simp [hm])
  obtain ⟨a, c, rfl, -⟩ := h.cell
  obtain ⟨i, hi⟩ : ∃ i, idxI l x = i := ⟨_, rfl⟩
  rw [hi] at K HD
  rw [HD.out]
  clear h hi HD
  go_enter Tryz.func77, Tryz.ntmps77
  go_wp2_with fail
  refine K.out.mono ?_
  rintro e w' ⟨rfl, rfl⟩
  go_wp2
  go_ret
  exact ⟨rfl, rfl⟩
structure RowsD (z : Nat) (w : World) (vs : List Value) (R : List (List Int)) : Prop where
  len : vs.length = R.length
  own : ∀ (i : Nat) (v : Value) (r : List Int), vs[i]? = some v → R[i]? = some r → w.ownsRow z IN 1 v r.length (r.map iv)
  apart : ∀ (i j : Nat) (v u : Value) (b : Nat), i ≠ j → vs[i]? = some v → vs[j]? = some u → v.ownBlock = some b → u.ownBlock ≠ some b
theorem own_heap {w w' : World} {base : Nat} {e : TypeId} {size : Nat} {v : Value} {n : Nat} {xs : List Value} (h : w.ownsRow base e size v n xs) (hb : ∀ b c fr, v.ownBlock = some b → w.heap[b]? = some (.cells c e fr) → w'.heap[b]? = w.heap[b]?) : w'.ownsRow base e size v n xs := by
  obtain ⟨h1, h2⟩ := h
  refine ⟨h1, ?_⟩
  rcases h2 with h2 | ⟨g, cap, cur, e1, e2, e3, e4⟩
  · exact .inl h2
  · exact .inr ⟨g, cap, cur, e1, e2, (hb g cur (0, 0) (by rw [e1]; rfl) e3).trans e3, e4⟩
theorem RowsD.keep {z : Nat} {w w' : World} {vs : List Value} {R : List (List Int)} (h : RowsD z w vs R) (hb : ∀ (b : Nat) (c : Array Value) (fr : Nat × Nat), w.heap[b]? = some (Obj.cells c IN fr) → w'.heap[b]? = w.heap[b]?) : RowsD z w' vs R :=
  ⟨h.len, fun i v r hv hr => own_heap (h.own i v r hv hr) fun b c fr _ hc => hb b c fr hc, h.apart⟩
theorem own_lt {w : World} {base : Nat} {e : TypeId} {size : Nat} {v : Value} {n b : Nat} {xs : List Value} (h : w.ownsRow base e size v n xs) (hb : v.ownBlock = some b) : b < w.heap.size ∧ base ≤ b := by
  rcases h.2 with ⟨rfl, _⟩ | ⟨g, cap, cur, rfl, hg, hh, _⟩
  · simp [Value.ownBlock] at hb
  · simp [Value.ownBlock] at hb
    subst hb
    exact ⟨lt_heap hh, hg⟩
theorem RowsD.push {z g cap : Nat} {w w5 : World} {vs : List Value} {R : List (List Int)} {i : Nat} {v : Value} {r : List Int} {x : Int} (h : RowsD z w vs R) (hv : vs[i]? = some v) (hr : R[i]? = some r)
    (ho : w5.ownsRow z IN 1 (.slice (some ⟨g, 0, none⟩) (r.length + 1) cap) (r.length + 1) (r.map iv ++ [iv x])) (hg : w.grownBy w5 v.ownBlock) (hn : v.ownBlock = some g ∨ w.heap.size ≤ g) :
    RowsD z w5 (vs.set i (.slice (some ⟨g, 0, none⟩) (r.length + 1) cap)) (R.set i (r ++ [x])) := by
  have hi : i < vs.length := (List.getElem?_eq_some_iff.1 hv).1
  refine ⟨by simp [h.len], fun j u s hu hs => ?_, fun j k u y b hne hu hy hb => ?_⟩
  · by_cases hij : i = j
    · subst hij
      rw [List.getElem?_set_self hi] at hu
      rw [List.getElem?_set_self (by rw [← h.len]; exact hi)] at hs
      injection hu with hu
      injection hs with hs
      subst hu hs
      simpa using ho
    · rw [List.getElem?_set_ne hij] at hu hs
      refine own_heap (h.own j u s hu hs) fun b c fr hb _ => hg.block b (own_lt (h.own j u s hu hs) hb).1 ?_
      intro e
      exact h.apart i j v u b hij hv hu e.symm hb
  · have key : ∀ q t, i ≠ q → vs[q]? = some t → t.ownBlock ≠ some g := fun q t hq ht e => by
      obtain ⟨s, hs⟩ : ∃ s, R[q]? = some s := ⟨_, List.getElem?_eq_getElem (by rw [← h.len]; exact (List.getElem?_eq_some_iff.1 ht).1)⟩
      rcases hn with hn | hn
      · exact h.apart i q v t g hq hv ht hn e
      · have := (own_lt (h.own q t s ht hs) e).1
        omega
    by_cases hij : i = j
    · subst hij
      rw [List.getElem?_set_self hi] at hu
      injection hu with hu
      subst hu
      rw [List.getElem?_set_ne hne] at hy
      simp [Value.ownBlock] at hb
      subst hb
      exact key k y hne hy
    · rw [List.getElem?_set_ne hij] at hu
      by_cases hik : i = k
      · subst hik
        rw [List.getElem?_set_self hi] at hy
        injection hy with hy
        subst hy
        intro e
        simp [Value.ownBlock] at e
        subst e
        exact key j u hij hu hb
      · rw [List.getElem?_set_ne hik] at hy
        exact h.apart j k u y b hne hu hy hb
structure KeepE (z : Nat) (w w' : World) : Prop where
  below : Below z w w'
  same : ∀ T, T ≠ IT → T ≠ IN → SameT T w w'
theorem KeepE.refl (z : Nat) (w : World) (h : z ≤ w.heap.size) : KeepE z w w := ⟨(Below.refl _ _).mono h, fun _ _ _ => SameT.refl⟩
theorem KeepE.trans {z : Nat} {a b c : World} (h : KeepE z a b) (k : KeepE z b c) : KeepE z a c := ⟨h.below.trans k.below, fun T h1 h2 => (h.same T h1 h2).trans (k.same T h1 h2)⟩
theorem KeepE.of {z : Nat} {w w' : World} (h : Below w.heap.size w w') (hz : z ≤ w.heap.size) : KeepE z w w' := ⟨h.mono hz, fun _ _ _ => SameT.below h⟩
structure Bld (z bt sb pb mb : Nat) (nv : Value) (N : List PNode) (S P : List (List Int)) (w : World) : Prop where
  zs : z ≤ bt ∧ z ≤ sb ∧ z ≤ pb ∧ z ≤ mb
  bl : w.heap[bt]? = some (.cells #[nv, .slice (some ⟨sb, 0, none⟩) N.length N.length, .slice (some ⟨pb, 0, none⟩) N.length N.length, .map (some mb)] BT (0, 0))
  mp : NumM w mb N.length N
  ne : sb ≠ pb
  rows : ∃ vs us : List Value, w.heap[sb]? = some (.cells vs.toArray IT (0, 0)) ∧ w.heap[pb]? = some (.cells us.toArray IT (0, 0)) ∧ vs.length = N.length ∧ us.length = N.length ∧ S.length = N.length ∧ RowsD z w (vs ++ us) (S ++ P)
theorem Bld.keep {z bt sb pb mb : Nat} {nv : Value} {N : List PNode} {S P : List (List Int)} {w w' : World} (h : Bld z bt sb pb mb nv N S P w) (hb : ∀ k, k < w.heap.size → w'.heap[k]? = w.heap[k]?) : Bld z bt sb pb mb nv N S P w' := by
  obtain ⟨vs, us, h1, h2, h3, h4, h5, h6⟩ := h.rows
  exact ⟨h.zs, (hb _ (lt_heap h.bl)).trans h.bl, h.mp.block (hb _ h.mp.lt), h.ne, vs, us, (hb _ (lt_heap h1)).trans h1, (hb _ (lt_heap h2)).trans h2, h3, h4, h5, h6.keep fun b c fr hc => hb b (lt_heap hc)⟩
theorem Bld.below {z bt sb pb mb : Nat} {nv : Value} {N : List PNode} {S P : List (List Int)} {w w' : World} (h : Bld z bt sb pb mb nv N S P w) (b : Below w.heap.size w w') : Bld z bt sb pb mb nv N S P w' := h.keep b.block
theorem set_list {w : World} {b i : Nat} {vs : List Value} {t : TypeId} {fr : Nat × Nat} (h : w.heap[b]? = some (.cells vs.toArray t fr)) (x : Value) : (w.setCell ⟨b, i, none⟩ x).heap[b]? = some (.cells (vs.set i x).toArray t fr) := by
  simp [World.setCell, Array.getElem?_modify, h]
theorem set_off {w : World} {b k o : Nat} (h : b ≠ k) (x : Value) : (w.setCell ⟨b, o, none⟩ x).heap[k]? = w.heap[k]? := by
  simp [World.setCell, Array.getElem?_modify, h]
theorem not_int {c : Array Value} {t : TypeId} {f : Nat × Nat} (h : t ≠ IN) : ∀ c' fr, Obj.cells c t f ≠ .cells c' IN fr := by
  intro c' fr e
  injection e with _ e
  exact h e
theorem Bld.grow {z bt sb pb mb g cap i : Nat} {nv v : Value} {N : List PNode} {S P : List (List Int)} {w w5 : World} {vs us : List Value} {r : List Int} {x : Int} (hbs : Base.b ≤ z) (h : Bld z bt sb pb mb nv N S P w)
    (h1 : w.heap[sb]? = some (.cells vs.toArray IT (0, 0))) (h2 : w.heap[pb]? = some (.cells us.toArray IT (0, 0))) (h3 : vs.length = N.length) (h4 : us.length = N.length) (h6 : RowsD z w (vs ++ us) (S ++ P))
    (hv : (vs ++ us)[i]? = some v) (hr : (S ++ P)[i]? = some r)
    (ho : w5.ownsRow z IN 1 (.slice (some ⟨g, 0, none⟩) (r.length + 1) cap) (r.length + 1) (r.map iv ++ [iv x])) (hg : w.grownBy w5 v.ownBlock) (hn : v.ownBlock = some g ∨ w.heap.size ≤ g) (hz : z ≤ w.heap.size) :
    w5.heap[bt]? = w.heap[bt]? ∧ w5.heap[sb]? = w.heap[sb]? ∧ w5.heap[pb]? = w.heap[pb]? ∧ NumM w5 mb N.length N ∧ RowsD z w5 ((vs ++ us).set i (.slice (some ⟨g, 0, none⟩) (r.length + 1) cap)) ((S ++ P).set i (r ++ [x])) ∧ KeepE z w w5 := by
  have own := h6.own i v r hv hr
  obtain ⟨es, c0, hm⟩ := h.mp.isMap
  refine ⟨hg.block _ (lt_heap h.bl) (own_off own h.bl (not_int (by decide))), hg.block _ (lt_heap h1) (own_off own h1 (not_int (by decide))), hg.block _ (lt_heap h2) (own_off own h2 (not_int (by decide))), h.mp.block (hg.block _ (lt_heap hm) (own_off own hm (by intro c fr e; cases e))), h6.push hv hr ho hg hn, ?_⟩
  exact ⟨Below.of_grown hg own hz, fun T _ hT => SameT.grown hg own hT hbs⟩
theorem rows_setCell {z b o : Nat} {w : World} {vs : List Value} {R : List (List Int)} {c : Array Value} {fr : Nat × Nat} (h : RowsD z w vs R) (hb : w.heap[b]? = some (.cells c IT fr)) (x : Value) : RowsD z (w.setCell ⟨b, o, none⟩ x) vs R :=
  h.keep fun k c' fr' hc => set_off (by rintro rfl; rw [hb] at hc; injection hc with hc; injection hc with _ hc; exact absurd hc (by decide)) x
theorem keep_setCell {z b o : Nat} {w w' : World} {c : Array Value} (h : KeepE z w w') (hb : w'.heap[b]? = some (.cells c IT (0, 0))) (hz : z ≤ b) (hbs : Base.b ≤ z) (x : Value) : KeepE z w (w'.setCell ⟨b, o, none⟩ x) :=
  ⟨h.below.setCell (p := ⟨b, o, none⟩) hz _, fun T h1 h2 => (h.same T h1 h2).trans (SameT.setCell (U := IT) (tyAt_of hb (Nat.le_trans hbs hz)) h1)⟩
theorem Bld.rowS {z bt sb pb mb : Nat} {nv : Value} {N : List PNode} {S P : List (List Int)} {w : World} (hbs : Base.b ≤ z) (h : Bld z bt sb pb mb nv N S P w) (hz : z ≤ w.heap.size) {a : Nat} (ha : a < N.length) :
    ∃ v r, S[a]? = some r ∧ w.cell? ⟨sb, a, none⟩ = some v ∧ w.ownsRow z IN 1 v r.length (r.map iv) ∧ ∀ g cap w5 x, w5.ownsRow z IN 1 (.slice (some ⟨g, 0, none⟩) (r.length + 1) cap) (r.length + 1) (r.map iv ++ [iv x]) → w.grownBy w5 v.ownBlock → (v.ownBlock = some g ∨ w.heap.size ≤ g) →
      (w5.heap[bt]? = w.heap[bt]? ∧ w5.heap[sb]? = w.heap[sb]?) ∧ Bld z bt sb pb mb nv N (S.set a (r ++ [x])) P (w5.setCell ⟨sb, a, none⟩ (.slice (some ⟨g, 0, none⟩) (r.length + 1) cap)) ∧ KeepE z w (w5.setCell ⟨sb, a, none⟩ (.slice (some ⟨g, 0, none⟩) (r.length + 1) cap)) := by
  obtain ⟨vs, us, h1, h2, h3, h4, h5, h6⟩ := h.rows
  obtain ⟨v, hv⟩ : ∃ v, vs[a]? = some v := ⟨_, List.getElem?_eq_getElem (by rw [h3]; exact ha)⟩
  obtain ⟨r, hr⟩ : ∃ r, S[a]? = some r := ⟨_, List.getElem?_eq_getElem (by rw [h5]; exact ha)⟩
  have hv2 : (vs ++ us)[a]? = some v := by rw [List.getElem?_append_left (by rw [h3]; exact ha)]; exact hv
  have hr2 : (S ++ P)[a]? = some r := by rw [List.getElem?_append_left (by rw [h5]; exact ha)]; exact hr
  refine ⟨v, r, hr, ?_, h6.own a v r hv2 hr2, fun g cap w5 x ho hg hn => ?_⟩
  · have := (blk_cells h1).1 a
    rw [this]
    simpa using hv
  · obtain ⟨k1, k2, k3, k4, k5, k6⟩ := h.grow hbs h1 h2 h3 h4 h6 hv2 hr2 ho hg hn hz
    have s5 := k2.trans h1
    have p5 := k3.trans h2
    obtain ⟨es, c0, hm⟩ := k4.isMap
    have hms : sb ≠ mb := by rintro rfl; rw [s5] at hm; cases hm
    have hbs2 : sb ≠ bt := by
      rintro rfl
      rw [k1.trans h.bl] at s5
      injection s5 with s5
      injection s5 with _ s5
      exact absurd s5 (by decide)
    refine ⟨⟨k1, k2⟩, ⟨h.zs, (set_off hbs2 _).trans (k1.trans h.bl), k4.block (set_off hms _), h.ne, vs.set a (.slice (some ⟨g, 0, none⟩) (r.length + 1) cap), us, set_list s5 _, (set_off h.ne _).trans p5, by simpa using h3, h4, by simpa using h5, ?_⟩, keep_setCell k6 s5 h.zs.2.1 hbs _⟩
    have := rows_setCell (o := a) k5 s5 (.slice (some ⟨g, 0, none⟩) (r.length + 1) cap)
    rw [List.set_append_left _ _ (by rw [h3]; exact ha), List.set_append_left _ _ (by rw [h5]; exact ha)] at this
    exact this
theorem Bld.rowP {z bt sb pb mb : Nat} {nv : Value} {N : List PNode} {S P : List (List Int)} {w : World} (hbs : Base.b ≤ z) (h : Bld z bt sb pb mb nv N S P w) (hz : z ≤ w.heap.size) {a : Nat} (ha : a < N.length) :
    ∃ v r, P[a]? = some r ∧ w.cell? ⟨pb, a, none⟩ = some v ∧ w.ownsRow z IN 1 v r.length (r.map iv) ∧ ∀ g cap w5 x, w5.ownsRow z IN 1 (.slice (some ⟨g, 0, none⟩) (r.length + 1) cap) (r.length + 1) (r.map iv ++ [iv x]) → w.grownBy w5 v.ownBlock → (v.ownBlock = some g ∨ w.heap.size ≤ g) →
      (w5.heap[bt]? = w.heap[bt]? ∧ w5.heap[pb]? = w.heap[pb]?) ∧ Bld z bt sb pb mb nv N S (P.set a (r ++ [x])) (w5.setCell ⟨pb, a, none⟩ (.slice (some ⟨g, 0, none⟩) (r.length + 1) cap)) ∧ KeepE z w (w5.setCell ⟨pb, a, none⟩ (.slice (some ⟨g, 0, none⟩) (r.length + 1) cap)) := by
  obtain ⟨vs, us, h1, h2, h3, h4, h5, h6⟩ := h.rows
  have h7 : P.length = N.length := by have := h6.len; simp at this; omega
  obtain ⟨v, hv⟩ : ∃ v, us[a]? = some v := ⟨_, List.getElem?_eq_getElem (by rw [h4]; exact ha)⟩
  obtain ⟨r, hr⟩ : ∃ r, P[a]? = some r := ⟨_, List.getElem?_eq_getElem (by rw [h7]; exact ha)⟩
  have hv2 : (vs ++ us)[N.length + a]? = some v := by rw [List.getElem?_append_right (by omega), h3, Nat.add_sub_cancel_left]; exact hv
  have hr2 : (S ++ P)[N.length + a]? = some r := by rw [List.getElem?_append_right (by omega), h5, Nat.add_sub_cancel_left]; exact hr
  refine ⟨v, r, hr, ?_, h6.own _ v r hv2 hr2, fun g cap w5 x ho hg hn => ?_⟩
  · have := (blk_cells h2).1 a
    rw [this]
    simpa using hv
  · obtain ⟨k1, k2, k3, k4, k5, k6⟩ := h.grow hbs h1 h2 h3 h4 h6 hv2 hr2 ho hg hn hz
    have s5 := k2.trans h1
    have p5 := k3.trans h2
    obtain ⟨es, c0, hm⟩ := k4.isMap
    have hms : pb ≠ mb := by rintro rfl; rw [p5] at hm; cases hm
    have hbs2 : pb ≠ bt := by
      rintro rfl
      rw [k1.trans h.bl] at p5
      injection p5 with p5
      injection p5 with _ p5
      exact absurd p5 (by decide)
    refine ⟨⟨k1, k3⟩, ⟨h.zs, (set_off hbs2 _).trans (k1.trans h.bl), k4.block (set_off hms _), h.ne, vs, us.set a (.slice (some ⟨g, 0, none⟩) (r.length + 1) cap), (set_off h.ne.symm _).trans s5, set_list p5 _, h3, by simpa using h4, h5, ?_⟩, keep_setCell k6 p5 h.zs.2.2.1 hbs _⟩
    have := rows_setCell (o := a) k5 p5 (.slice (some ⟨g, 0, none⟩) (r.length + 1) cap)
    rw [List.set_append_right _ _ (by omega), List.set_append_right _ _ (by omega), h3, h5, Nat.add_sub_cancel_left] at this
    exact this
section
variable {P : Program} {ops : Array Oper} {Q : Exit → Act → World → Prop} {md : Region.Mode} {S : World → Prop}
theorem wpAnyT_push {st : Nat} (i : Nat) (d : Option Tmp) {oi : Oper} {fuel : Nat} {listed : Array Bool} {a : Act} {w E : World} (news : List Value) (e : TypeId) (hE : w.alloc (.cells news.toArray e) = E) (hi : ops[i]? = some oi)
    (hr : Region.ready md ops listed = [i]) (hwant : Region.wanted oi (yielded ops a.tmps) = true) (hd : oi.dst = d) (s x : Operand) (t : TypeId)
    (ho : oi.op = .call { callee := .builtin .append, args := #[s, x], argTypes := #[t, t] })
    (base : Nat) (z : Value) (size bytes : Nat) (ht : P.underlying t = some (.slice e)) (hin : (P.info? e).map (fun i => (i.zero, i.size, i.bytes)) = some (some z, size, bytes))
    (hzs : z.cells.size = size) (hsz : 0 < size) (v : Value) (n : Nat) (xs : List Value) (hown : w.ownsRow base e size v n xs) (hs : a.eval s = v)
    (hx : a.eval x = .slice (some ⟨w.heap.size, 0, none⟩) 1 1) (hl : news.length = size) (h1 : news.all Value.oneCell' = true)
    (h63 : n + 1 ≤ maxLen) (hbytes : (n + 1) * bytes ≤ 140737488355328) (hbase : base ≤ w.heap.size)
    (h : ∀ g cap w', w'.ownsRow base e size (.slice (some ⟨g, 0, none⟩) (n + 1) cap) (n + 1) (xs ++ news) → w.grownBy w' v.ownBlock → (v.ownBlock = some g ∨ w.heap.size ≤ g) →
      (i ≠ st → S w') ∧ wpAnyT P md ops Q S st fuel (listed.setIfInBounds i true) (a.put d (.slice (some ⟨g, 0, none⟩) (n + 1) cap)) w') :
    wpAnyT P md ops Q S st (fuel + 1) listed a E := by
  subst hd hE
  obtain ⟨ii, hi', hz, hs1, hs2⟩ := info_parts hin
  refine wpAnyT_oper i hi hr hwant ?_
  refine wp_append_lies _ s x t ho base e ii z size bytes ht hi' hz hs1 hs2 hzs hsz v n xs hs (hown.alloc _) ⟨w.heap.size, 0, none⟩ 1 1 news hx (by omega)
    block_new (fun u hu => List.all_eq_true.1 h1 u hu) (by omega) h63 hbytes (by simp; omega) _ rfl ?_
  intro g cap w' h2 h3 h4 h5
  have ha := World.grownBy_alloc w (.cells news.toArray e) v.ownBlock
  refine h g cap w' h2 ⟨h3.os.trans ha.os, h3.tape.trans ha.tape, h3.output.trans ha.output, Nat.le_trans ha.size h3.size, fun k hk hn => (h3.block k (Nat.lt_of_lt_of_le hk ha.size) hn).trans (ha.block k hk hn)⟩ ?_
  rcases h4 with h4 | h4
  · exact .inl h4
  · exact .inr (by rw [h4]; simp)
end
end Go.Proofs.YtipnhmdibkkifaaGreatDoor
