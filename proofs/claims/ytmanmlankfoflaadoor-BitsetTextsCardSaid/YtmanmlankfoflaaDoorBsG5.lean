/- Walks: changed sets (Tape.SpoilSet). Printed by wip/gen_qrg5.py. -/
import Derived.Test.YtmanmlankfoflaaDoorBsG2
import Derived.Test.YtmanmlankfoflaaDoorSlU
import Derived.Test.YtmanmlankfoflaaDoorMem2
import Derived.Deep.RegionHeld3
import Derived.Deep.RegionLaw
import Derived.Deep.CutRange
import Derived.RegionTactic
import Derived.BigRegion
import Derived.IntWalk
set_option linter.unusedVariables false
set_option linter.unusedSimpArgs false
set_option linter.unusedSectionVars false
namespace Go.Proofs.YtmanmlankfoflaaDoor
open Go.RowKit
variable [Base]

theorem own_pos {w : World} {base : Nat} {T : TypeId} {sz n c : Nat} {a : Option Addr} {xs : List Value} (h : w.ownsRow base T sz (.slice a n c) n xs) (hn : 0 < n) (hbs : Base.b ≤ base := by omega) :
    ∃ g, a = some ⟨g, 0, none⟩ ∧ base ≤ g ∧ g < w.heap.size ∧ tyAt w g = some T ∧ (∀ j, j < xs.length → w.cell? ⟨g, j, none⟩ = xs[j]?) ∧ ∀ j, w.frozen? ⟨g, j, none⟩ = false := by
  obtain ⟨h1, h2⟩ := h
  rcases h2 with ⟨h3, _⟩ | ⟨g, cap, cur, e, hb, hg, hn', hc, hs, ht⟩
  · injection h3 with _ h3; omega
  · injection e with e _ _
    subst e
    refine ⟨g, rfl, hb, lt_heap hg, tyAt_of hg, fun j hj => ?_, fun j => by simp [World.frozen?, hg]⟩
    have h5 : w.cell? ⟨g, j, none⟩ = cur[j]? := by simp [World.cell?, hg]
    rw [h5, ← ht, List.getElem?_take_of_lt (by omega)]
    simp

theorem ownB_s {base sz n : Nat} {e : TypeId} {v : Value} {xs : List Value} {w w' : World} (h : w.ownsRow base e sz v n xs) (hb : Below w.heap.size w w') : w'.ownsRow base e sz v n xs := by
  refine ⟨h.1, ?_⟩
  rcases h.2 with hn | ⟨g, cap, cur, rfl, hg, hh, rest⟩
  · exact .inl hn
  · exact .inr ⟨g, cap, cur, rfl, hg, (hb.block g (lt_heap hh)).trans hh, rest⟩
theorem own_off_s {w : World} {base sz n g j : Nat} {T U : TypeId} {v x : Value} {xs : List Value} (h : w.ownsRow base T sz v n xs) (hg : tyAt w g = some U) (hne : T ≠ U) : (w.setCell ⟨g, j, none⟩ x).ownsRow base T sz v n xs := by
  refine ⟨h.1, ?_⟩
  rcases h.2 with hn | ⟨b, cap, cur, rfl, hb, hh, rest⟩
  · exact .inl hn
  · exact .inr ⟨b, cap, cur, rfl, hb, (SameT.setCell (U := U) hg hne).own hh, rest⟩
theorem own_base_s {w : World} {b b' sz n : Nat} {e : TypeId} {v : Value} {xs : List Value} (h : w.ownsRow b e sz v n xs) (hb : b' ≤ b) : w.ownsRow b' e sz v n xs := by
  refine ⟨h.1, ?_⟩
  rcases h.2 with hn | ⟨g, cap, cur, rfl, hg, rest⟩
  · exact .inl hn
  · exact .inr ⟨g, cap, cur, rfl, Nat.le_trans hb hg, rest⟩
theorem empty_u641 (w : World) (o : Obj) : ((w.alloc o).alloc (.cells #[] 62)).ownsRow (w.heap.size + 1) 62 1 (.slice (some ⟨w.heap.size + 1, 0, none⟩) 0 0) 0 [] := by
  have h := empty_u64 (w.alloc o)
  rw [World.size_alloc] at h
  exact h
theorem words_all (l : List Nat) : (l.map uv).all Value.oneCell' = true := by
  rw [List.all_eq_true]
  intro x hx
  obtain ⟨y, _, rfl⟩ := List.mem_map.1 hx
  rfl
/-- What stands while a set is changed: the result's cells, the set's cells, its words, which are the call's own. -/
structure SpIn (B bt r c : Nat) (w wx : World) (d : Int) (v : Value) (ws : List Nat) : Prop where
  tape : TapeOk B wx bt
  but : But bt w wx
  res : wx.heap[r]? = some (.cells #[.int .i64 0, .slice none 0 0] 25 (0, 0))
  cur : wx.heap[c]? = some (.cells #[.int .i64 d, v] 25 (0, 0))
  own : wx.ownsRow w.heap.size 62 1 v ws.length (ws.map uv)
  ok : wordsOk ws
  old : w.heap.size ≤ r ∧ w.heap.size ≤ c ∧ r ≠ c ∧ bt < w.heap.size ∧ B ≤ w.heap.size
theorem SpIn.mkA {B bt r base : Nat} {w v1 : World} {d : Int} {v : Value} {ws : List Nat} (ht : TapeOk B w bt) (hb : Below w.heap.size w v1) (hr : v1.heap[r]? = some (.cells #[.int .i64 0, .slice none 0 0] 25 (0, 0))) (own : v1.ownsRow base 62 1 v ws.length (ws.map uv)) (hbase : w.heap.size ≤ base) (ok : wordsOk ws) (hw : w.heap.size ≤ r) :
    SpIn B bt r v1.heap.size w (v1.alloc (.cells #[.int .i64 d, v] 25)) d v ws := by
  have hlt := ht.lt
  have hge := ht.ge
  have hbs := ht.bs
  exact ⟨(ht.below hb).alloc _, ((But.refl bt w).below hb).alloc _, lies_alloc _ hr, heap_alloc_new _ _, ownB_s (own_base_s own hbase) ((Below.refl _ _).alloc (Nat.le_refl _) _), ok, hw, hb.size, by have := lt_heap hr; omega, hlt, by omega⟩
theorem SpIn.mkB {B bt r c base : Nat} {w v1 : World} {d : Int} {v : Value} {ws : List Nat} (ht : TapeOk B w bt) (hb : Below w.heap.size w v1) (hr : v1.heap[r]? = some (.cells #[.int .i64 0, .slice none 0 0] 25 (0, 0))) (hz : v1.heap[c]? = some (.cells #[.int .i64 0, .slice none 0 0] 25 (0, 0))) (own : v1.ownsRow base 62 1 v ws.length (ws.map uv)) (hbase : w.heap.size ≤ base) (ok : wordsOk ws) (hw : w.heap.size ≤ r) (hc : w.heap.size ≤ c) (hrc : r ≠ c) :
    SpIn B bt r c w ((v1.setCell ⟨c, 0, none⟩ (.int .i64 d)).setCell ⟨c, 1, none⟩ v) d v ws := by
  have hlt := ht.lt
  have hge := ht.ge
  have hbs := ht.bs
  have hty : tyAt v1 c = some 25 := tyAt_of hz
  refine ⟨((ht.below hb).setCell (by show c ≠ bt; omega) (by show B ≤ c; omega) _).setCell (by show c ≠ bt; omega) (by show B ≤ c; omega) _, ((((But.refl bt w).below hb).setCell ⟨c, 0, none⟩ (.inr hc) _).setCell ⟨c, 1, none⟩ (.inr hc) _), ?_, ?_, own_off_s (own_off_s (own_base_s own hbase) hty (by decide)) ((tyAt_set c).trans hty) (by decide), ok, hw, hc, hrc, hlt, by omega⟩
  · rw [Below.heap_setCell _ _ _ _ (by show r ≠ c; omega), Below.heap_setCell _ _ _ _ (by show r ≠ c; omega)]
    exact hr
  · simp [World.setCell, Array.getElem?_modify, hz]
theorem But.undrew1 {bt n : Nat} {w w' : World} (h : But bt (w.drewN n) w') : But bt w w' := ⟨h.os, h.tape, h.output, h.size, h.block⟩
def NextPos2 (B bt : Nat) (n : Int) (w : World) (e : Ending) (w' : World) : Prop := ∃ r : Int, 0 ≤ r ∧ r < n ∧ e = .returned (.int .i64 r) ∧ TapeOk B w' bt ∧ But bt w w'
theorem next_pos2 {B bt : Nat} {w : World} (ht : TapeOk B w bt) (n : Int) (hn : 1 ≤ n) (hn' : n ≤ 9223372036854775807) :
    Calls Tryd.prog 12 #[.pointer (some ⟨bt, 0, none⟩), .int .i64 n] w (NextPos2 B bt n w) :=
  (next_any ht n hn').mono fun _ _ ⟨r, h1, h2, h3, h4, h5⟩ => ⟨r, h1, by omega, h3, h4, h5⟩
theorem SpIn.next {B bt r c : Nat} {w wr w2 : World} {d : Int} {v : Value} {ws : List Nat} (h : SpIn B bt r c w wr d v ws) (ht : TapeOk B w2 bt) (hb : But bt wr w2) : SpIn B bt r c w w2 d v ws := by
  obtain ⟨o1, o2, o3, o4, o5⟩ := h.old
  have hbs := h.tape.bs
  refine ⟨ht, h.but.trans hb, (hb.block r (lt_heap h.res) (by omega)).trans h.res, (hb.block c (lt_heap h.cur) (by omega)).trans h.cur, ?_, h.ok, h.old⟩
  refine ⟨h.own.1, ?_⟩
  rcases h.own.2 with hn | ⟨g, cap, cur, rfl, hg, hh, rest⟩
  · exact .inl hn
  · exact .inr ⟨g, cap, cur, rfl, hg, (hb.block g (lt_heap hh) (by omega)).trans hh, rest⟩
theorem SpIn.setw {B bt r c : Nat} {w wx : World} {d d2 : Int} {v : Value} {ws : List Nat} (h : SpIn B bt r c w wx d v ws) : SpIn B bt r c w (wx.setCell ⟨c, 0, none⟩ (.int .i64 d2)) d2 v ws := by
  obtain ⟨o1, o2, o3, o4, o5⟩ := h.old
  have hbs := h.tape.bs
  have hc := h.cur
  refine ⟨h.tape.setCell (by show c ≠ bt; omega) (by show B ≤ c; omega) _, h.but.setCell ⟨c, 0, none⟩ (.inr o2) _, ?_, ?_, own_off_s h.own (tyAt_of h.cur) (by decide), h.ok, h.old⟩
  · rw [Below.heap_setCell _ _ _ _ (by show r ≠ c; omega)]
    exact h.res
  · simp [World.setCell, Array.getElem?_modify, hc]
theorem SpIn.fin {B bt r c : Nat} {w wx : World} {d : Int} {v x y : Value} {ws : List Nat} (h : SpIn B bt r c w wx d v ws) : WordsAt ((wx.setCell ⟨r, 0, none⟩ x).setCell ⟨r, 1, none⟩ y) v ws ∧ TapeOk B ((wx.setCell ⟨r, 0, none⟩ x).setCell ⟨r, 1, none⟩ y) bt ∧ But bt w ((wx.setCell ⟨r, 0, none⟩ x).setCell ⟨r, 1, none⟩ y) := by
  obtain ⟨o1, o2, o3, o4, o5⟩ := h.old
  have hbs := h.tape.bs
  have hty := tyAt_of h.res
  exact ⟨WordsAt.keep ⟨SliceAt.of_owns h.own, h.ok⟩ (SameT.trans (SameT.setCell (U := 25) hty (by decide)) (SameT.setCell (U := 25) ((tyAt_set r).trans hty) (by decide))),
    (h.tape.setCell (by show r ≠ bt; omega) (by show B ≤ r; omega) _).setCell (by show r ≠ bt; omega) (by show B ≤ r; omega) _,
    (h.but.setCell ⟨r, 0, none⟩ (.inr o1) _).setCell ⟨r, 1, none⟩ (.inr o1) _⟩
theorem SpIn.push {B bt r c : Nat} {w wx w4 : World} {d : Int} {v v2 : Value} {ws : List Nat} {x : Nat} (h : SpIn B bt r c w wx d v ws) (hx : x < 18446744073709551616) (own : w4.ownsRow w.heap.size 62 1 v2 (ws.length + 1) (ws.map uv ++ [uv x])) (hg : wx.grownBy w4 v.ownBlock) :
    SpIn B bt r c w (w4.setCell ⟨c, 1, none⟩ v2) d v2 (ws ++ [x]) := by
  obtain ⟨o1, o2, o3, o4, o5⟩ := h.old
  have hbs := h.tape.bs
  have hge := h.tape.ge
  have hb : Below w.heap.size wx w4 := Below.of_grown hg h.own (by have := h.but.size; omega)
  have hc : w4.heap[c]? = _ := (SameT.grown hg h.own (by decide)).own h.cur
  have hr : w4.heap[r]? = _ := (SameT.grown hg h.own (by decide)).own h.res
  have ht : TapeOk B w4 bt := h.tape.keep (hb.block bt o4) (fun k hk => hb.block k (by omega)) hb.size
  have hbut : But bt w w4 := ⟨hb.os.trans h.but.os, hb.tape.trans h.but.tape, hb.output.trans h.but.output, Nat.le_trans h.but.size hb.size, fun k hk hn => (hb.block k hk).trans (h.but.block k hk hn)⟩
  refine ⟨ht.setCell (by show c ≠ bt; omega) (by show B ≤ c; omega) _, hbut.setCell ⟨c, 1, none⟩ (.inr o2) _, ?_, ?_, ?_, ?_, h.old⟩
  · rw [Below.heap_setCell _ _ _ _ (by show r ≠ c; omega)]
    exact hr
  · simp [World.setCell, Array.getElem?_modify, hc]
  · rw [List.length_append, List.map_append]
    exact own_off_s own (tyAt_of hc) (by decide)
  · intro y hy
    rcases List.mem_append.1 hy with hy | hy
    · exact h.ok y hy
    · simp at hy; omega
theorem own_set_s {w : World} {base sz g n c : Nat} {T : TypeId} {xs : List Value} (h : w.ownsRow base T sz (.slice (some ⟨g, 0, none⟩) n c) n xs) (j : Nat) (v : Value) : (w.setCell ⟨g, j, none⟩ v).ownsRow base T sz (.slice (some ⟨g, 0, none⟩) n c) n (xs.set j v) := by
  refine ⟨by rw [List.length_set]; exact h.1, ?_⟩
  rcases h.2 with ⟨h1, _⟩ | ⟨g', cap, cur, e, hg, hh, h1, h2, h3, h4⟩
  · cases h1
  · injection e with e1 _ e2
    injection e1 with e1
    injection e1 with e1
    subst e1 e2
    refine .inr ⟨g, c, cur.setIfInBounds j v, rfl, hg, by simp [World.setCell, Array.getElem?_modify, hh], h1, h2, by rw [Array.size_setIfInBounds]; exact h3, ?_⟩
    rw [Array.toList_setIfInBounds, List.take_set, h4]
theorem SpIn.word {B bt r c g k j y : Nat} {w wx : World} {d : Int} {ws : List Nat} (h : SpIn B bt r c w wx d (.slice (some ⟨g, 0, none⟩) ws.length k) ws) (hg : w.heap.size ≤ g) (hty : tyAt wx g = some 62) (hy : y < 18446744073709551616) :
    SpIn B bt r c w (wx.setCell ⟨g, j, none⟩ (.int .u64 (y : Int))) d (.slice (some ⟨g, 0, none⟩) ws.length k) (ws.set j y) := by
  obtain ⟨o1, o2, o3, o4, o5⟩ := h.old
  have hbs := h.tape.bs
  have hge := h.tape.ge
  have hcg : c ≠ g := by rintro rfl; rw [tyAt_of h.cur] at hty; injection hty with hty; exact absurd hty (by decide)
  have hrg : r ≠ g := by rintro rfl; rw [tyAt_of h.res] at hty; injection hty with hty; exact absurd hty (by decide)
  refine ⟨h.tape.setCell (by show g ≠ bt; omega) (by show B ≤ g; omega) _, h.but.setCell ⟨g, j, none⟩ (.inr hg) _, ?_, ?_, ?_, ?_, h.old⟩
  · rw [Below.heap_setCell _ _ _ _ hrg]; exact h.res
  · rw [Below.heap_setCell _ _ _ _ hcg]; exact h.cur
  · rw [List.length_set, List.map_set]
    exact own_set_s h.own j _
  · intro x hx
    rcases List.mem_or_eq_of_mem_set hx with hx | rfl
    · exact h.ok x hx
    · exact hy
theorem or_word (x q : Nat) (hx : x < 18446744073709551616) : ∃ y : Nat, bits .or .u64 (x : Int) (IntKind.u64.wrap (2 ^ q)) = (y : Int) ∧ y < 18446744073709551616 := by
  obtain ⟨z, hz⟩ : ∃ z : Nat, IntKind.u64.wrap (2 ^ q) = (z : Int) ∧ z < 18446744073709551616 := by
    rw [IntKind.wrap_u64]
    generalize (2 : Int) ^ q = p
    exact ⟨(p % 18446744073709551616).toNat, by omega, by omega⟩
  rw [hz.1, or_nat x z hx hz.2]
  exact ⟨_, rfl, lt_or hx hz.2⟩
def SpoilPost (B bt : Nat) (w : World) (e : Ending) (w' : World) : Prop := ∃ s u, e = .returned (setV s u) ∧ WordsAt w' u s.words ∧ TapeOk B w' bt ∧ But bt w w'
set_option maxHeartbeats 4000000 in
theorem spoilset_any {B bt : Nat} (s : QSet) (u : Value) (w : World) (ht : TapeOk B w bt) (hu : WordsAt w u s.words) (hd1 : -1000 ≤ s.width) (hd2 : s.width ≤ 1000) (hl : s.words.length ≤ 1000) : Calls Tryd.prog 13 #[.pointer (some ⟨bt, 0, none⟩), setV s u] w (SpoilPost B bt w) := by
  have hlt := ht.lt
  have hbs := ht.bs
  have HT := Lib.hid ht
  obtain ⟨ua, uc, rfl, -, -⟩ := hu.cell
  obtain ⟨n, hn⟩ : ∃ n, s.words.length = n := ⟨_, rfl⟩
  rw [hn] at hu hl ⊢
  obtain ⟨W, hW⟩ : ∃ W, (w.alloc (.cells #[.int .i64 s.width, .slice ua n uc] 25)).alloc (.cells #[.int .i64 0, .slice none 0 0] 25) = W := ⟨_, rfl⟩
  have B0 : Below w.heap.size w W := by rw [← hW]; exact ((Below.refl _ _).alloc (Nat.le_refl _) _).alloc (by simp) _
  have HB1 : W.heap[w.heap.size]? = some (.cells #[.int .i64 s.width, .slice ua n uc] 25 (0, 0)) := by rw [← hW]; exact lies_alloc _ (heap_alloc_new _ _)
  have HB2 : W.heap[w.heap.size + 1]? = some (.cells #[.int .i64 0, .slice none 0 0] 25 (0, 0)) := by rw [← hW]; exact lies_new2 _ _
  have x0 := (lies_cells HB1).1 0
  have x1 := (lies_cells HB1).1 1
  simp only [List.getElem?_toArray, List.getElem?_cons_zero, List.getElem?_cons_succ] at x0 x1
  have H1 := Lib.hid HB1
  have H2 := Lib.hid HB2
  have HW := Lib.hid hW
  have BB := Lib.hid B0
  have HU := Lib.hid hu
  have HN := Lib.hid hn
  have hz1 := lt_heap HB1
  have hz2 := lt_heap HB2
  have SA := Lib.hid (hu.below B0).1
  have OC := Lib.hid (words_all s.words)
  have LN := Lib.hid (show (s.words.map uv).length = n * 1 by rw [List.length_map, hn, Nat.mul_one])
  clear hW HB1 HB2 B0 hn hu ht
  go_enter Tryd.func13, Tryd.ntmps13
  go_upto_region 1 with fail
  rw [show (w.alloc (.cells #[.int .i64 s.width, .slice ua n uc] 25)).alloc (.cells #[.int .i64 0, .slice none 0 0] 25) = W from HW.out]
  go_cut [5] from 6 to 13 (fun y5 wx => ∃ c v wy, wy = wx ∧ y5 = .pointer (some ⟨c, 0, none⟩) ∧ Hid (SpIn B bt (w.heap.size + 1) c w wy s.width v s.words))
  case first =>
    go_region_held3 (fun w' => w'.cell? ⟨w.heap.size, 0, none⟩ = some (.int .i64 s.width) ∧ w'.cell? ⟨w.heap.size, 1, none⟩ = some (.slice ua n uc)) (first | go_keep | exact ⟨cell_off (by omega) (cell_off (by omega) p0), cell_off (by omega) (cell_off (by omega) p1)⟩) ((first | (refine step_append_sl rfl (.tmp 8) (.tmp 10) 23 rfl W.drew.heap.size 62 _ 1 8 Tryd.underlying23 info_u64 rfl (by decide) _ _ _ (empty_u64 W.drew) rfl _ n (s.words.map uv) rfl (SliceAt.same (w := W.drew) SA.out SameT.alloc) LN.out OC.out (by unfold maxLen; omega) (by omega) (by first | (simp; done) | (simp; omega)) ?_; intro g1 d1 v1 own1 gr1; simp only [Nat.zero_add, List.nil_append] at own1; have OW1 := Lib.hid own1; have BV1 := Lib.hid (show Below W.drew.heap.size W.drew v1 from ((Below.refl W.drew.heap.size W.drew).alloc (Nat.le_refl _) (.cells #[] 62)).trans (Below.of_grown gr1 (empty_u64 W.drew) (by first | (simp; done) | (simp; omega)))); have b0 := lies_below (w := W.drew) H1.out BV1.out hz1; have p0 := (lies_cells b0).1 0; have p1 := (lies_cells b0).1 1; simp only [List.getElem?_toArray, List.getElem?_cons_zero, List.getElem?_cons_succ] at p0 p1; skip; clear own1 gr1 b0) | (refine step_append_sl rfl (.tmp 8) (.tmp 10) 23 rfl W.drew.heap.size 62 _ 1 8 Tryd.underlying23 info_u64 rfl (by decide) _ _ _ ((empty_u64 W.drew).alloc (.cells #[.int .i64 0, .slice none 0 0] 25)) rfl _ n (s.words.map uv) rfl (SliceAt.same (w := W.drew) SA.out (SameT.trans SameT.alloc SameT.alloc)) LN.out OC.out (by unfold maxLen; omega) (by omega) (by first | (simp; done) | (simp; omega)) ?_; intro g1 d1 v1 own1 gr1; simp only [Nat.zero_add, List.nil_append] at own1; have OW1 := Lib.hid own1; have BV1 := Lib.hid (show Below W.drew.heap.size W.drew v1 from (((Below.refl W.drew.heap.size W.drew).alloc (Nat.le_refl _) (.cells #[] 62)).alloc (by first | (simp; done) | (simp; omega)) (.cells #[.int .i64 0, .slice none 0 0] 25)).trans (Below.of_grown gr1 ((empty_u64 W.drew).alloc (.cells #[.int .i64 0, .slice none 0 0] 25)) (by first | (simp; done) | (simp; omega)))); have b0 := lies_below (w := W.drew) H1.out BV1.out hz1; have p0 := (lies_cells b0).1 0; have p1 := (lies_cells b0).1 1; simp only [List.getElem?_toArray, List.getElem?_cons_zero, List.getElem?_cons_succ] at p0 p1; have hz := (gr1.block (W.heap.size + 1) (lt_heap (lies_new2 (w := W.drew) (.cells #[] 62) (.cells #[.int .i64 0, .slice none 0 0] 25))) (by show ¬ some (W.heap.size + 1) = some W.heap.size; simp)).trans (lies_new2 (w := W.drew) (.cells #[] 62) (.cells #[.int .i64 0, .slice none 0 0] 25)); have z0 := (lies_cells hz).1 0; have z1 := (lies_cells hz).1 1; have f0 := (lies_cells hz).2 0; have f1 := (lies_cells hz).2 1; simp only [List.getElem?_toArray, List.getElem?_cons_zero, List.getElem?_cons_succ] at z0 z1; have HZ := Lib.hid hz; clear hz; clear own1 gr1 b0) | (refine step_append_sl rfl (.tmp 8) (.tmp 10) 23 rfl (W.drew.heap.size + 1) 62 _ 1 8 Tryd.underlying23 info_u64 rfl (by decide) _ _ _ (empty_u641 W.drew (.cells #[.int .i64 0, .slice none 0 0] 25)) rfl _ n (s.words.map uv) rfl (SliceAt.same (w := W.drew) SA.out (SameT.trans SameT.alloc SameT.alloc)) LN.out OC.out (by unfold maxLen; omega) (by omega) (by first | (simp; done) | (simp; omega)) ?_; intro g1 d1 v1 own1 gr1; simp only [Nat.zero_add, List.nil_append] at own1; have OW1 := Lib.hid own1; have BV1 := Lib.hid (show Below W.drew.heap.size W.drew v1 from (((Below.refl W.drew.heap.size W.drew).alloc (Nat.le_refl _) (.cells #[.int .i64 0, .slice none 0 0] 25)).alloc (by first | (simp; done) | (simp; omega)) (.cells #[] 62)).trans ((Below.of_grown gr1 (empty_u641 W.drew (.cells #[.int .i64 0, .slice none 0 0] 25)) (by first | (simp; done) | (simp; omega))).mono (Nat.le_succ _))); have b0 := lies_below (w := W.drew) H1.out BV1.out hz1; have p0 := (lies_cells b0).1 0; have p1 := (lies_cells b0).1 1; simp only [List.getElem?_toArray, List.getElem?_cons_zero, List.getElem?_cons_succ] at p0 p1; have hz := (gr1.block W.heap.size (lt_heap (lies_alloc (.cells #[] 62) (heap_alloc_new W.drew (.cells #[.int .i64 0, .slice none 0 0] 25)))) (by show ¬ some W.heap.size = some (W.heap.size + 1); simp)).trans (lies_alloc (.cells #[] 62) (heap_alloc_new W.drew (.cells #[.int .i64 0, .slice none 0 0] 25))); have z0 := (lies_cells hz).1 0; have z1 := (lies_cells hz).1 1; have f0 := (lies_cells hz).2 0; have f1 := (lies_cells hz).2 1; simp only [List.getElem?_toArray, List.getElem?_cons_zero, List.getElem?_cons_succ] at z0 z1; have HZ := Lib.hid hz; clear hz; clear own1 gr1 b0)))
    · go_wp2_with fail
      go_meet
      case rel => exact ⟨_, _, _, rfl, rfl, SpIn.mkA HT.out (BB.out.drew.trans (BV1.out.mono BB.out.size)) ((BV1.out.block (w.heap.size + 1) hz2).trans H2.out) (by rw [HN.out]; exact OW1.out) BB.out.size HU.out.2 (Nat.le_succ _)⟩
    · go_wp2_with fail
      go_meet
      case rel => exact ⟨_, _, _, rfl, rfl, SpIn.mkB HT.out (BB.out.drew.trans (BV1.out.mono BB.out.size)) ((BV1.out.block (w.heap.size + 1) hz2).trans H2.out) HZ.out (by rw [HN.out]; exact OW1.out) BB.out.size HU.out.2 (Nat.le_succ _) (by omega) (by omega)⟩
    · go_wp2_with fail
      go_meet
      case rel => exact ⟨_, _, _, rfl, rfl, SpIn.mkB HT.out (BB.out.drew.trans (BV1.out.mono BB.out.size)) ((BV1.out.block (w.heap.size + 1) hz2).trans H2.out) HZ.out (by rw [HN.out]; exact OW1.out) (Nat.le_succ_of_le BB.out.size) HU.out.2 (Nat.le_succ _) (by omega) (by omega)⟩
  case rest =>
    clear x0 x1 hz1 hz2 SA OC LN
    obtain ⟨c, v, wy, rfl, rfl, J0⟩ := hcut
    obtain ⟨d, hd⟩ : ∃ d, s.width = d := ⟨_, rfl⟩
    obtain ⟨ws, hws⟩ : ∃ l, s.words = l := ⟨_, rfl⟩
    have hn2 := HN.out
    rw [hd] at hd1 hd2 J0
    rw [hws] at J0 hn2
    obtain ⟨va, vc, rfl, hvc, hvm⟩ := own_slice J0.out.own
    rw [hn2] at hvc J0
    have HN2 := Lib.hid hn2
    unfold maxLen at hvm
    clear HN hws hd hn2 H1 H2 HW BB HU
    go_wp2_with fail
    refine (next_pos2 J0.out.tape 4 (by omega) (by omega)).mono ?_
    rintro e w2 ⟨z, z1, z2, rfl, t2, b2⟩
    have J := Lib.hid (J0.out.next t2 b2)
    have hlt2 := J.out.old.2.2.2.1
    have hcr := J.out.old.2.2.1
    clear t2 b2 J0
    have k0 := (lies_cells J.out.cur).1 0; have k1 := (lies_cells J.out.cur).1 1; have k2 := (lies_cells J.out.cur).2 0; have k3 := (lies_cells J.out.cur).2 1; have r0 := (lies_cells J.out.res).1 0; have r1 := (lies_cells J.out.res).1 1; have r2 := (lies_cells J.out.res).2 0; have r3 := (lies_cells J.out.res).2 1; simp only [List.getElem?_toArray, List.getElem?_cons_zero, List.getElem?_cons_succ] at k0 k1 r0 r1
    by_cases h0 : z = 0
    · subst h0
      go_wp2_with fail
      go_region_law (first | (go_simp; go_at_call 12; go_must (refine (next_pos2 (J.out.tape.drewN 1) 5 (by omega) (by omega)).mono ?_; rintro e w3 ⟨q, q1, q2, rfl, t3, b3⟩; have J3 := Lib.hid (J.out.next t3 (But.undrew1 b3)); clear t3 b3; have e1 : IntKind.i64.wrap (q - 2) = q - 2 := IntWalk.i64_in _ (by omega); have e2 : IntKind.i64.wrap (d + (q - 2)) = d + (q - 2) := IntWalk.i64_in _ (by omega); clear k0 k1 k2 k3 r0 r1 r2 r3; have k0 := (lies_cells J3.out.cur).1 0; have k1 := (lies_cells J3.out.cur).1 1; have k2 := (lies_cells J3.out.cur).2 0; have k3 := (lies_cells J3.out.cur).2 1; have r0 := (lies_cells J3.out.res).1 0; have r1 := (lies_cells J3.out.res).1 1; have r2 := (lies_cells J3.out.res).2 0; have r3 := (lies_cells J3.out.res).2 1; simp only [List.getElem?_toArray, List.getElem?_cons_zero, List.getElem?_cons_succ] at k0 k1 r0 r1)) | fail)
      all_goals
        go_wp2
        refine bodyPost_ret (v := .agg #[.int .i64 (d + (q - 2)), .slice va n vc]) (by simp [results, Tryd.results13, go_sem, k0, k1, r0, r1, hcr, Ne.symm hcr]) rfl ⟨⟨d + (q - 2), ws⟩, _, rfl, (J3.out.setw (d2 := d + (q - 2))).fin.1, (J3.out.setw (d2 := d + (q - 2))).fin.2.1, (J3.out.setw (d2 := d + (q - 2))).fin.2.2⟩
    by_cases h1 : z = 1
    · subst h1
      go_wp2_with fail
      go_region_law (first | (go_simp; go_at_call 12; go_must (refine (next_pos2 (J.out.tape.drewN 1) 2 (by omega) (by omega)).mono ?_; rintro e w3 ⟨q, q1, q2, rfl, t3, b3⟩; obtain ⟨q, rfl⟩ := Int.eq_ofNat_of_zero_le q1; have J3 := Lib.hid (J.out.next t3 (But.undrew1 b3)); clear t3 b3 q1; have hcz := lt_heap J3.out.cur; have e1 : IntKind.u64.wrap (q : Int) = (q : Int) := (by rw [IntKind.wrap_u64]; omega); clear k0 k1 k2 k3 r0 r1 r2 r3; have k0 := (lies_cells J3.out.cur).1 0; have k1 := (lies_cells J3.out.cur).1 1; have k2 := (lies_cells J3.out.cur).2 0; have k3 := (lies_cells J3.out.cur).2 1; have r0 := (lies_cells J3.out.res).1 0; have r1 := (lies_cells J3.out.res).1 1; have r2 := (lies_cells J3.out.res).2 0; have r3 := (lies_cells J3.out.res).2 1; simp only [List.getElem?_toArray, List.getElem?_cons_zero, List.getElem?_cons_succ] at k0 k1 r0 r1)) | (go_must (refine step_push [uv q] rfl (.tmp 33) (.tmp 37) 23 (by rfl) w.heap.size 62 _ 1 8 Tryd.underlying23 info_u64 rfl (by omega) _ n _ (by rw [← HN2.out]; exact J3.out.own) (by rfl) (by rfl) rfl rfl (by unfold maxLen; omega) (by omega) (by have := J3.out.but.size; omega) ?_; intro g cap w4 own4 gr4 g1 g2; have OW4 := Lib.hid own4; have GR4 := Lib.hid gr4; have c4 : w4.heap[c]? = _ := (SameT.grown GR4.out J3.out.own (by decide)).own J3.out.cur; have r4 : w4.heap[w.heap.size + 1]? = _ := (SameT.grown GR4.out J3.out.own (by decide)).own J3.out.res; clear k0 k1 k2 k3 r0 r1 r2 r3; have k0 := (lies_cells c4).1 0; have k1 := (lies_cells c4).1 1; have k2 := (lies_cells c4).2 0; have k3 := (lies_cells c4).2 1; have r0 := (lies_cells r4).1 0; have r1 := (lies_cells r4).1 1; have r2 := (lies_cells r4).2 0; have r3 := (lies_cells r4).2 1; simp only [List.getElem?_toArray, List.getElem?_cons_zero, List.getElem?_cons_succ] at k0 k1 r0 r1; clear own4 gr4 g1 g2 c4 r4)) | fail)
      all_goals
        go_wp2
        have J4 := Lib.hid (J3.out.push (x := q) (by omega) (by rw [HN2.out]; exact OW4.out) GR4.out)
        refine bodyPost_ret (v := .agg #[.int .i64 d, .slice (some ⟨g, 0, none⟩) (n + 1) cap]) (by simp [results, Tryd.results13, go_sem, k0, k1, r0, r1, hcr, Ne.symm hcr]) rfl ⟨⟨d, ws ++ [q]⟩, _, rfl, J4.out.fin.1, J4.out.fin.2.1, J4.out.fin.2.2⟩
    by_cases h2 : z = 2
    · subst h2
      by_cases hn0 : n = 0
      · subst hn0
        go_wp2
        refine bodyPost_ret (v := .agg #[.int .i64 d, .slice va 0 vc]) (by simp [results, Tryd.results13, go_sem, k0, k1, r0, r1, hcr, Ne.symm hcr]) rfl ⟨⟨d, ws⟩, _, rfl, J.out.fin.1, J.out.fin.2.1, J.out.fin.2.2⟩
      have hpos : 0 < n := by omega
      have hpi : (0 : Int) < (n : Int) := by omega
      obtain ⟨g, hgv, hg1, hg2, hty, hgc, hgf⟩ := own_pos (by have := J.out.own; rw [HN2.out] at this; exact this) hpos
      subst hgv
      obtain ⟨x, hx⟩ : ∃ x, ws[n - 1]? = some x := ⟨_, List.getElem?_eq_getElem (show n - 1 < ws.length by have := HN2.out; omega)⟩
      have hxl : x < 18446744073709551616 := J.out.ok x (List.mem_of_getElem? hx)
      have m0 := hgc (n - 1) (by rw [List.length_map]; have := HN2.out; omega)
      rw [List.getElem?_map, hx] at m0
      simp only [Option.map_some] at m0
      have m1 := hgf (n - 1)
      have hgb : g ≠ bt := by have := J.out.old.2.2.2.1; omega
      have s1 : IntKind.i64.wrap ((n : Int) - 1) = (n : Int) - 1 := IntWalk.i64_in _ (by omega)
      have s2 : 0 ≤ (n : Int) - 1 := by omega
      have s3 : ((n : Int) - 1).toNat = n - 1 := by omega
      have s4 : (n : Int) - 1 < (n : Int) := by omega
      have s5 : (1 : Int) ≤ (n : Int) := by omega
      have hcg : c ≠ g := by rintro rfl; rw [tyAt_of J.out.cur] at hty; injection hty with hty; exact absurd hty (by decide)
      have hrg : w.heap.size + 1 ≠ g := by intro e; rw [← e, tyAt_of J.out.res] at hty; injection hty with hty; exact absurd hty (by decide)
      clear hgc hgf hx hn0
      go_wp2_with fail
      go_region_law (first | (go_simp; go_at_call 12; go_must (refine (next_pos2 (J.out.tape.drewN 1) 64 (by omega) (by omega)).mono ?_; rintro e w3 ⟨q, q1, q2, rfl, t3, b3⟩; obtain ⟨q, rfl⟩ := Int.eq_ofNat_of_zero_le q1; have b3 := But.undrew1 b3; have J3 := Lib.hid (J.out.next t3 b3); have m2 := (b3.cell g (n - 1) hg2 hgb).trans m0; have m3 := (b3.frozen g (n - 1) hg2 hgb).trans m1; have TY := Lib.hid ((tyAt_heap (b3.block g hg2 hgb)).trans hty); obtain ⟨y, hy, hyl⟩ := or_word x q hxl; have e1 : IntKind.u64.wrap (q : Int) = (q : Int) := (by rw [IntKind.wrap_u64]; omega); clear t3 b3 q1; clear k0 k1 k2 k3 r0 r1 r2 r3; have k0 := (lies_cells J3.out.cur).1 0; have k1 := (lies_cells J3.out.cur).1 1; have k2 := (lies_cells J3.out.cur).2 0; have k3 := (lies_cells J3.out.cur).2 1; have r0 := (lies_cells J3.out.res).1 0; have r1 := (lies_cells J3.out.res).1 1; have r2 := (lies_cells J3.out.res).2 0; have r3 := (lies_cells J3.out.res).2 1; simp only [List.getElem?_toArray, List.getElem?_cons_zero, List.getElem?_cons_succ] at k0 k1 r0 r1)) | fail)
      all_goals
        go_wp2
        have J4 := SpIn.word (k := vc) (j := n - 1) (y := y) (ws := ws) (by rw [HN2.out]; exact J3.out) hg1 TY.out hyl
        rw [HN2.out] at J4
        refine bodyPost_ret (v := .agg #[.int .i64 d, .slice (some ⟨g, 0, none⟩) n vc]) (by simp [results, Tryd.results13, go_sem, k0, k1, r0, r1, hcr, Ne.symm hcr, hcg, hrg, Ne.symm hcg, Ne.symm hrg]) rfl ⟨⟨d, ws.set (n - 1) y⟩, _, rfl, J4.fin.1, J4.fin.2.1, J4.fin.2.2⟩
    obtain rfl : z = 3 := by omega
    clear h0 h1 h2
    go_wp2_with fail
    refine (next_pos2 (J.out.tape.alloc _) 4 (by omega) (by omega)).mono ?_
    rintro e w3 ⟨q, q1, q2, rfl, t3, b3⟩
    have hc : ∀ o, w3.cell? ⟨w2.heap.size, o, none⟩ = _ := fun o => b3.cell w2.heap.size o (by simp) (by have := J.out.but.size; omega)
    have J3 := Lib.hid (J.out.next t3 (((But.refl bt w2).alloc _).trans b3))
    clear k0 k1 k2 k3 r0 r1 r2 r3; have k0 := (lies_cells J3.out.cur).1 0; have k1 := (lies_cells J3.out.cur).1 1; have k2 := (lies_cells J3.out.cur).2 0; have k3 := (lies_cells J3.out.cur).2 1; have r0 := (lies_cells J3.out.res).1 0; have r1 := (lies_cells J3.out.res).1 1; have r2 := (lies_cells J3.out.res).2 0; have r3 := (lies_cells J3.out.res).2 1; simp only [List.getElem?_toArray, List.getElem?_cons_zero, List.getElem?_cons_succ] at k0 k1 r0 r1
    clear t3 b3
    have hq : q = 0 ∨ q = 1 ∨ q = 2 ∨ q = 3 := by omega
    rcases hq with rfl | rfl | rfl | rfl
    · go_wp2
      refine bodyPost_ret (v := .agg #[.int .i64 (-1), .slice va n vc]) (by simp [results, Tryd.results13, go_sem, k0, k1, r0, r1, hcr, Ne.symm hcr]) rfl ⟨⟨-1, ws⟩, _, rfl, (J3.out.setw (d2 := -1)).fin.1, (J3.out.setw (d2 := -1)).fin.2.1, (J3.out.setw (d2 := -1)).fin.2.2⟩
    · go_wp2
      refine bodyPost_ret (v := .agg #[.int .i64 (257), .slice va n vc]) (by simp [results, Tryd.results13, go_sem, k0, k1, r0, r1, hcr, Ne.symm hcr]) rfl ⟨⟨257, ws⟩, _, rfl, (J3.out.setw (d2 := 257)).fin.1, (J3.out.setw (d2 := 257)).fin.2.1, (J3.out.setw (d2 := 257)).fin.2.2⟩
    · go_wp2
      refine bodyPost_ret (v := .agg #[.int .i64 (320), .slice va n vc]) (by simp [results, Tryd.results13, go_sem, k0, k1, r0, r1, hcr, Ne.symm hcr]) rfl ⟨⟨320, ws⟩, _, rfl, (J3.out.setw (d2 := 320)).fin.1, (J3.out.setw (d2 := 320)).fin.2.1, (J3.out.setw (d2 := 320)).fin.2.2⟩
    · go_wp2
      refine bodyPost_ret (v := .agg #[.int .i64 (0), .slice va n vc]) (by simp [results, Tryd.results13, go_sem, k0, k1, r0, r1, hcr, Ne.symm hcr]) rfl ⟨⟨0, ws⟩, _, rfl, (J3.out.setw (d2 := 0)).fin.1, (J3.out.setw (d2 := 0)).fin.2.1, (J3.out.setw (d2 := 0)).fin.2.2⟩
end Go.Proofs.YtmanmlankfoflaaDoor
