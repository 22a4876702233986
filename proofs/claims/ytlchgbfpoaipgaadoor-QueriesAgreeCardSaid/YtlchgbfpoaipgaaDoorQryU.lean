/- What the loop of Unload holds. No walk. -/
import Derived.Test.YtlchgbfpoaipgaaDoorQryN
import Derived.OneCell
set_option linter.unusedVariables false
set_option linter.unusedSimpArgs false
set_option linter.unusedSectionVars false
namespace Go.Proofs.YtlchgbfpoaipgaaDoor
open Go.RowKit
variable [Base]

theorem ownB {base sz n : Nat} {e : TypeId} {v : Value} {xs : List Value} {w w' : World} (h : w.ownsRow base e sz v n xs) (hb : Below w.heap.size w w') : w'.ownsRow base e sz v n xs := by
  refine ⟨h.1, ?_⟩
  rcases h.2 with hn | ⟨g, cap, cur, rfl, hg, hh, rest⟩
  · exact .inl hn
  · exact .inr ⟨g, cap, cur, rfl, hg, (hb.block g (lt_heap hh)).trans hh, rest⟩
theorem own_set {w : World} {base sz g n c : Nat} {T : TypeId} {xs : List Value} (h : w.ownsRow base T sz (.slice (some ⟨g, 0, none⟩) n c) n xs) (j : Nat) (v : Value) : (w.setCell ⟨g, j, none⟩ v).ownsRow base T sz (.slice (some ⟨g, 0, none⟩) n c) n (xs.set j v) := by
  refine ⟨by rw [List.length_set]; exact h.1, ?_⟩
  rcases h.2 with ⟨h1, _⟩ | ⟨g', cap, cur, e, hg, hh, h1, h2, h3, h4⟩
  · cases h1
  · injection e with e1 _ e2
    injection e1 with e1
    injection e1 with e1
    subst e1 e2
    refine .inr ⟨g, c, cur.setIfInBounds j v, rfl, hg, by simp [World.setCell, Array.getElem?_modify, hh], h1, h2, by rw [Array.size_setIfInBounds]; exact h3, ?_⟩
    rw [Array.toList_setIfInBounds, List.take_set, h4]
theorem own_type {w : World} {base sz n : Nat} {T : TypeId} {v : Value} {xs : List Value} (h : w.ownsRow base T sz v n xs) {b : Nat} (hb : v.ownBlock = some b) (hbs : Base.b ≤ base := by omega) : tyAt w b = some T ∧ base ≤ b := by
  rcases h.2 with ⟨rfl, _⟩ | ⟨g, cap, cur, rfl, hg, hh, _⟩
  · simp [Value.ownBlock] at hb
  · simp [Value.ownBlock] at hb
    subst hb
    exact ⟨tyAt_of hh, hg⟩
theorem own_grown {w w' : World} {base sz sz2 n m : Nat} {T U : TypeId} {v u : Value} {xs ys : List Value} (h : w.ownsRow base T sz v n xs) (hi : w.ownsRow base U sz2 u m ys) (hg : w.grownBy w' u.ownBlock) (hne : T ≠ U) (hbs : Base.b ≤ base := by omega) : w'.ownsRow base T sz v n xs := by
  refine ⟨h.1, ?_⟩
  rcases h.2 with hn | ⟨g, cap, cur, rfl, hb, hh, rest⟩
  · exact .inl hn
  · exact .inr ⟨g, cap, cur, rfl, hb, (SameT.grown hg hi hne).own hh, rest⟩
theorem own_off {w : World} {base sz n g j : Nat} {T U : TypeId} {v x : Value} {xs : List Value} (h : w.ownsRow base T sz v n xs) (hg : tyAt w g = some U) (hne : T ≠ U) : (w.setCell ⟨g, j, none⟩ x).ownsRow base T sz v n xs := by
  refine ⟨h.1, ?_⟩
  rcases h.2 with hn | ⟨b, cap, cur, rfl, hb, hh, rest⟩
  · exact .inl hn
  · exact .inr ⟨b, cap, cur, rfl, hb, (SameT.setCell (U := U) hg hne).own hh, rest⟩
def idsU (l : List QRec) (p : Int) (i : Nat) : List Str := ((l.take i).filter (hitB p)).map (·.id)
def tabU (l : List QRec) (p : Int) (i : Nat) : List QRec := (l.take i).map (unload1 p) ++ l.drop i
structure UIn (w0 w : World) (l : List QRec) (p : Int) (n i : Nat) (ov iv : Value) : Prop where
  below : Below w0.heap.size w0 w
  rows : ∃ xss, w.ownsRow w0.heap.size 31 8 ov n xss.flatten ∧ All2 (RecCells w) xss (tabU l p i)
  ids : w.ownsRow w0.heap.size 9 1 iv (idsU l p i).length ((idsU l p i).map qs)
theorem tabU_at {l : List QRec} {p : Int} {i : Nat} {r : QRec} (h : l[i]? = some r) : (tabU l p i)[i]? = some r := by
  obtain ⟨h1, rfl⟩ := List.getElem?_eq_some_iff.1 h
  unfold tabU
  rw [List.getElem?_append_right (by rw [List.length_map, List.length_take]; omega), List.length_map, List.length_take, Nat.min_eq_left (by omega), Nat.sub_self, List.getElem?_drop, Nat.add_zero]
  exact h
theorem tabU_set {l : List QRec} {p : Int} {i : Nat} {r : QRec} (h : l[i]? = some r) : tabU l p (i + 1) = (tabU l p i).set i (unload1 p r) := by
  obtain ⟨h1, rfl⟩ := List.getElem?_eq_some_iff.1 h
  unfold tabU
  rw [List.set_append_right _ _ (by rw [List.length_map, List.length_take]; omega), List.length_map, List.length_take, Nat.min_eq_left (by omega), Nat.sub_self, List.drop_eq_getElem_cons h1, List.set_cons_zero, List.take_add_one, List.getElem?_eq_getElem h1, List.map_append]
  simp
theorem idsU_hit {l : List QRec} {p : Int} {i : Nat} {r : QRec} (h : l[i]? = some r) (hh : hitB p r = true) : idsU l p (i + 1) = idsU l p i ++ [r.id] := by
  unfold idsU
  rw [List.take_add_one, h, List.filter_append]
  simp [hh]
theorem idsU_miss {l : List QRec} {p : Int} {i : Nat} {r : QRec} (h : l[i]? = some r) (hh : hitB p r = false) : idsU l p (i + 1) = idsU l p i := by
  unfold idsU
  rw [List.take_add_one, h, List.filter_append]
  simp [hh]
theorem tabU_end {l : List QRec} {p : Int} {i : Nat} (h : l.length ≤ i) (ht : tabB l = true) : tabU l p i = unloadQ l p := by
  unfold tabU unloadQ
  rw [List.take_of_length_le h, List.drop_eq_nil_of_le h, ht]
  simp
theorem idsU_end {l : List QRec} {p : Int} {i : Nat} (h : l.length ≤ i) (ht : tabB l = true) : idsU l p i = unloadIds l p := by
  unfold idsU unloadIds
  rw [List.take_of_length_le h, ht]
  simp
theorem UIn.lt {w0 w : World} {l : List QRec} {p : Int} {n i : Nat} {ov iv : Value} (h : UIn w0 w l p n i ov iv) : w0.heap.size ≤ w.heap.size := h.below.size
theorem UIn.alloc {w0 w : World} {l : List QRec} {p : Int} {n i : Nat} {ov iv : Value} (h : UIn w0 w l p n i ov iv) (o : Obj) : UIn w0 (w.alloc o) l p n i ov iv := by
  obtain ⟨xss, h1, h2⟩ := h.rows
  have hb : Below w.heap.size w (w.alloc o) := (Below.refl _ _).alloc (Nat.le_refl _) _
  exact ⟨h.below.alloc h.lt o, ⟨xss, ownB h1 hb, h2.mono fun _ _ hx => RecCells.keep SameT.alloc hx⟩, ownB h.ids hb⟩
theorem UIn.miss {w0 w : World} {l : List QRec} {p : Int} {n i : Nat} {ov iv : Value} {r : QRec} (h : UIn w0 w l p n i ov iv) (hr : l[i]? = some r) (hh : hitB p r = false) : UIn w0 w l p n (i + 1) ov iv := by
  have h1 : tabU l p (i + 1) = tabU l p i := by
    rw [tabU_set hr, show unload1 p r = r by unfold unload1; simp [hh]]
    obtain ⟨h2, h3⟩ := List.getElem?_eq_some_iff.1 (tabU_at (p := p) hr)
    rw [← h3, List.set_getElem_self]
  exact ⟨h.below, h1 ▸ h.rows, by rw [idsU_miss hr hh]; exact h.ids⟩
theorem UIn.hit {w0 w w' : World} {o : Obj} {l : List QRec} {p : Int} {n d i g : Nat} {iv iv' : Value} {r : QRec} (h : UIn w0 w l p n i (.slice (some ⟨g, 0, none⟩) n d) iv) (hr : l[i]? = some r) (hh : hitB p r = true) (hty : tyAt w g = some 31) (hw : w0.heap.size ≤ g)
    (hown : w'.ownsRow w0.heap.size 9 1 iv' ((idsU l p i).length + 1) ((idsU l p i).map qs ++ [qs r.id])) (hg : ((w.setCell ⟨g, i * 8 + 5, none⟩ (.int .i64 4)).alloc o).grownBy w' iv.ownBlock) (hbs : Base.b ≤ w0.heap.size := by omega) : UIn w0 w' l p n (i + 1) (.slice (some ⟨g, 0, none⟩) n d) iv' := by
  obtain ⟨xss, h1, h2⟩ := h.rows
  have hb : Below (w.setCell ⟨g, i * 8 + 5, none⟩ (.int .i64 4)).heap.size (w.setCell ⟨g, i * 8 + 5, none⟩ (.int .i64 4)) ((w.setCell ⟨g, i * 8 + 5, none⟩ (.int .i64 4)).alloc o) := (Below.refl _ _).alloc (Nat.le_refl _) _
  have hi : ((w.setCell ⟨g, i * 8 + 5, none⟩ (.int .i64 4)).alloc o).ownsRow w0.heap.size 9 1 iv (idsU l p i).length ((idsU l p i).map qs) := ownB (own_off h.ids hty (by decide)) hb
  have hu : SameT 61 w w' := (SameT.words hty).trans ((SameT.below hb).trans (SameT.grown hg hi (by decide)))
  obtain ⟨x, hx, u, e, hu2⟩ := h2.satR (tabU_at (p := p) hr)
  have hsz : w0.heap.size ≤ (w.setCell ⟨g, i * 8 + 5, none⟩ (.int .i64 4)).heap.size := by simpa using h.lt
  refine ⟨((h.below.setCell hw _).trans (hb.mono hsz)).trans (Below.of_grown hg hi (Nat.le_trans hsz hb.size)), ⟨xss.set i (x.set 5 (.int .i64 4)), ?_, ?_⟩, ?_⟩
  · rw [← flatten_set 8 _ 5 (by omega) xss i x (rows_len h2) hx]
    exact own_grown (ownB (own_set h1 _ _) hb) hi hg (by decide)
  · rw [tabU_set hr]
    refine All2.set ?_ i (h2.mono fun _ _ hx => RecCells.keep hu hx)
    rw [e]
    exact ⟨u, by unfold unload1; rw [hh]; rfl, by unfold unload1; rw [hh]; exact hu2.keep hu⟩
  · rw [idsU_hit hr hh, List.map_append, List.length_append]
    exact hown
end Go.Proofs.YtlchgbfpoaipgaaDoor
