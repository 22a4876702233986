/- The reference's parser: blocks and functions. Printed by wip/gen_rsyn9.py. -/
import Derived.Test.YtpnfdmajpkpjoaaDoorQRSyn8
import Derived.Test.YtpnfdmajpkpjoaaDoorQSyn7
set_option linter.unusedVariables false
set_option linter.unusedSimpArgs false
namespace Go.Proofs.YtpnfdmajpkpjoaaDoor.R
open Go.RowKit

/-- Inside a list's loop: the parser, the result's block R, the list's holder bb, whose last field is the slice v of n things of type E. -/
structure LpL (U E : TypeId) (esz B bp R bb : Nat) (zR : Obj) (pre : List Value) (T : List Tok) (w0 : World) (s : PS) (w : World) (v : Value) (n : Nat) (xs : List Value) : Prop where
  p : PSt B bp T s w
  but : But bp w0 w
  lt : bp < w0.heap.size
  ne : R ≠ bp
  rb : R < bb
  ge : w0.heap.size ≤ bb
  res : w.heap[R]? = some zR
  loc : w.heap[bb]? = some (.cells (pre ++ [v]).toArray U (0, 0))
  own : w.ownsRow (bb + 1) E esz v n xs
section
variable {U E : TypeId} {esz B bp R bb : Nat} {zR : Obj} {pre : List Value} {T : List Tok} {w0 w w' : World} {s s' : PS} {v : Value} {n : Nat} {xs : List Value}
theorem LpL.call (h : LpL U E esz B bp R bb zR pre T w0 s w v n xs) (hp : PSt B bp T s' w') (hb : But bp w w') : LpL U E esz B bp R bb zR pre T w0 s' w' v n xs :=
  ⟨hp, h.but.trans hb, h.lt, h.ne, h.rb, h.ge, hb.blk h.res h.ne, hb.blk h.loc (by have := h.lt; have := h.ge; omega), ownsRow_but h.own hb (by have := h.lt; have := h.ge; omega)⟩
theorem LpL.drewN (h : LpL U E esz B bp R bb zR pre T w0 s w v n xs) (k : Nat) : LpL U E esz B bp R bb zR pre T w0 s (w.drewN k) v n xs := h.call (h.p.drewN k) ((But.refl _ _).drewN k)
theorem LpL.same (h : LpL U E esz B bp R bb zR pre T w0 s w v n xs) {ts : List TypeId} (ht : 82 ∉ ts) (hb : But bp w w') : SameTs ts w w' := fun t hm => SameT.but hb (by rw [h.p.ty]; intro e; injection e with e; exact ht (e ▸ hm))
theorem LpL.lth (h : LpL U E esz B bp R bb zR pre T w0 s w v n xs) : bb + 1 ≤ w.heap.size := lt_heap h.loc
/-- After 'append', ahead of the store. -/
theorem LpL.cell1 (h : LpL U E esz B bp R bb zR pre T w0 s w v n xs) (hg : w.grownBy w' v.ownBlock) : w'.heap[bb]? = some (.cells (pre ++ [v]).toArray U (0, 0)) :=
  ((Below.of_grown hg h.own h.lth).block bb (by omega)).trans h.loc
theorem LpL.push (h : LpL U E esz B bp R bb zR pre T w0 s w v n xs) {news : List Value} {v' : Value} (ho : w'.ownsRow (bb + 1) E esz v' (n + 1) (xs ++ news)) (hg : w.grownBy w' v.ownBlock) (hUT : 64 ≠ U) (hET : 64 ≠ E) (f : Nat) (hf : f = pre.length) :
    LpL U E esz B bp R bb zR pre T w0 s (w'.setCell ⟨bb, f, none⟩ v') v' (n + 1) (xs ++ news) := by
  subst hf
  have hlt := h.lt
  have hge := h.ge
  have hrb := h.rb
  have hpg := h.p.ge
  have hl1 := h.lth
  have hbel := Below.of_grown hg h.own h.lth
  have c1 := h.cell1 hg
  refine ⟨?_, ?_, hlt, h.ne, hrb, hge, ?_, ?_, ?_⟩
  · exact (h.p.grown hg h.own hET (by omega) h.lth).setOther (tyAt_of c1) hUT (by omega) (by omega) _
  · exact (h.but.belowB hbel (by omega)).setCell _ (.inr hge) _
  · exact (Below.heap_setCell _ _ _ _ (by show R ≠ bb; omega)).trans ((hbel.block R (by omega)).trans h.res)
  · simp [World.setCell, Array.getElem?_modify, c1]
  · exact ownsRow_setCell_below ho (by show bb < bb + 1; omega) _
theorem LpL.pushSame (h : LpL U E esz B bp R bb zR pre T w0 s w v n xs) {ts : List TypeId} (hE : E ∉ ts) (hU : U ∉ ts) (hg : w.grownBy w' v.ownBlock) (f : Nat) (x : Value) : SameTs ts w (w'.setCell ⟨bb, f, none⟩ x) := fun t hm =>
  (SameT.grown hg h.own (fun e => hE (e ▸ hm))).trans (SameT.setCell (U := U) (tyAt_of (h.cell1 hg)) (fun e => hU (e ▸ hm)))
end

/-- The result stored, the parser and all else as before. -/
theorem LpL.store2 {U E : TypeId} {esz B bp R bb : Nat} {zR : Obj} {pre : List Value} {T : List Tok} {w0 w : World} {s : PS} {v : Value} {n : Nat} {xs : List Value} (h : LpL U E esz B bp R bb zR pre T w0 s w v n xs) (hUT : 64 ≠ U) (hR : tyAt w R = some U) (hR0 : w0.heap.size = R) (x0 x1 : Value) :
    PSt B bp T s ((w.setCell ⟨R, 0, none⟩ x0).setCell ⟨R, 1, none⟩ x1) ∧ But bp w0 ((w.setCell ⟨R, 0, none⟩ x0).setCell ⟨R, 1, none⟩ x1) := by
  have hlt := h.lt
  have hpg := h.p.ge
  exact ⟨(h.p.setOther hR hUT h.ne (by omega) _).setOther (by rw [tyAt_setCell]; exact hR) hUT h.ne (by omega) _, (h.but.setCell _ (.inr (by show w0.heap.size ≤ R; omega)) _).setCell _ (.inr (by show w0.heap.size ≤ R; omega)) _⟩
/-- What 'block' leaves. -/
def BlPost (B bp : Nat) (T : List Tok) (s : PS) (w : World) (e : Ending) (w' : World) : Prop :=
  ∃ v, e = .returned (.agg #[sv (headV T kBlock s), v]) ∧ v.oneCell' = true ∧ PSt B bp T (blockM T s).2 w' ∧ But bp w w' ∧ ((blockM T s).2.err = 0 → BlockCells w' [sv (headV T kBlock s), v] (blockM T s).1)
/-- What 'function' leaves. -/
def FnPost (B bp : Nat) (T : List Tok) (s : PS) (w : World) (e : Ending) (w' : World) : Prop :=
  ∃ v, e = .returned (.agg #[sv (headV T kFunc s), v]) ∧ v.oneCell' = true ∧ PSt B bp T (funcM T s).2 w' ∧ But bp w w' ∧ ((funcM T s).2.err = 0 → FuncCells w' [sv (headV T kFunc s), v] (funcM T s).1)

theorem LpL.name {U E : TypeId} {esz B bp R bb : Nat} {zR : Obj} {x : Value} {T : List Tok} {w0 w : World} {s : PS} {v : Value} {n : Nat} {xs : List Value} (h : LpL U E esz B bp R bb zR [x] T w0 s w v n xs) (hUT : 64 ≠ U) (y : Value) : LpL U E esz B bp R bb zR [y] T w0 s (w.setCell ⟨bb, 0, none⟩ y) v n xs := by
  have hlt := h.lt
  have hge := h.ge
  have hrb := h.rb
  have hpg := h.p.ge
  refine ⟨h.p.setOther (tyAt_of h.loc) hUT (by omega) (by omega) _, h.but.setCell _ (.inr hge) _, hlt, h.ne, hrb, hge, ?_, ?_, ?_⟩
  · exact (Below.heap_setCell _ _ _ _ (by show R ≠ bb; omega)).trans h.res
  · have := h.loc
    exact set2_0 this y
  · exact ownsRow_setCell_below h.own (by show bb < bb + 1; omega) _
/-- What a list's loop holds at its head. -/
def LpIn {X : Type} (Cells : World → List Value → X → Prop) (bg : PS → Bool) (st : PS → X × PS) (U E : TypeId) (esz B bp R bb mx : Nat) (zR : Obj) (pre : List Value) (T : List Tok) (RM : List X × PS) (w0 : World) (g : Nat) (w : World) : Prop :=
  ∃ s v n xs, LpL U E esz B bp R bb zR pre T w0 s w v n xs ∧ g + n = mx + 2 ∧ Md bg st RM mx n s (RowOK Cells w xs)
theorem Md.full {X : Type} {bg : PS → Bool} {st : PS → X × PS} {R : List X × PS} {mx : Nat} {s : PS} {OK : List X → Prop} (herr : ∀ s : PS, s.err ≠ 0 → bg s = false) (h : Md bg st R mx mx s OK) (hb : bg s = true) : R.2 = s.fail 7 ∧ (s.fail 7).err ≠ 0 := by
  rcases h with ⟨m, acc, h1, h2, h3, h4⟩ | ⟨h1, _⟩
  · obtain rfl : m = 0 := by omega
    rw [loopM_full hb] at h1
    rw [← h1]
    exact ⟨rfl, fail_errs s (by decide)⟩
  · rw [herr s h1] at hb; cases hb
theorem Md.start {X : Type} {bg : PS → Bool} {st : PS → X × PS} {R : List X × PS} {mx : Nat} {s : PS} {OK : List X → Prop} (hR : loopM bg st mx [] s = R) (hOK : OK []) : Md bg st R mx 0 s OK := .inl ⟨mx, [], hR, rfl, by omega, hOK⟩
theorem Md.le {X : Type} {bg : PS → Bool} {st : PS → X × PS} {R : List X × PS} {mx n : Nat} {s : PS} {OK : List X → Prop} (herr : ∀ s : PS, s.err ≠ 0 → bg s = false) (h : Md bg st R mx n s OK) (hb : bg s = true) : n ≤ mx := by
  rcases h with ⟨m, acc, h1, h2, h3, h4⟩ | ⟨h1, _⟩
  · omega
  · rw [herr s h1] at hb; cases hb

set_option maxHeartbeats 4000000 in
theorem block_any {B bp : Nat} {T : List Tok} {s : PS} {w : World} (h : PSt B bp T s w) (hT : T.length ≤ 1000000) :
    Calls Tryd.prog 65 #[.pointer (some ⟨bp, 0, none⟩)] w (BlPost B bp T s w) := by
  have hlt := h.lt
  have hge := h.ge
  have L0 : Hid (LpL 53 67 4 B bp w.heap.size (w.heap.size + 1) (.cells #[.string ⟨#[]⟩, .slice none 0 0] 53 (0, 0)) [.string ⟨#[]⟩] T w s ((w.alloc (.cells #[.string ⟨#[]⟩, .slice none 0 0] 53)).alloc (.cells #[.string ⟨#[]⟩, .slice none 0 0] 53)) (.slice none 0 0) 0 []) := ⟨(h.alloc _).alloc _, ((But.refl _ _).alloc _).alloc _, hlt, by omega, by omega, by omega, alloc_blk _ (heap_alloc_new _ _), by have h2 := heap_alloc_new (w.alloc (.cells #[.string ⟨#[]⟩, .slice none 0 0] 53)) (.cells #[.string ⟨#[]⟩, .slice none 0 0] 53); rw [World.size_alloc] at h2; exact h2, World.ownsRow_nil _ _ _ _⟩
  clear h
  go_enter Tryd.func65, Tryd.ntmps65
  go_wp2_with fail
  refine (word_any L0.out.p hT kBlock).mono ?_
  rintro e v1 ⟨rfl, hp, hb⟩
  have L1 := Lib.hid (L0.out.call hp hb)
  clear hp hb
  obtain ⟨s1, hs1⟩ : ∃ x, takeM (isW T kBlock s) s = x := ⟨_, rfl⟩
  rw [hs1] at L1
  have HS1 := Lib.hid hs1
  clear hs1
  go_wp2_with fail
  refine (name_any L1.out.p hT).mono ?_
  rintro e v2 ⟨rfl, hp, hb⟩
  have L2 := Lib.hid (L1.out.call hp hb)
  clear hp hb
  obtain ⟨nm, hnm⟩ : ∃ x, nameV T s1 = x := ⟨_, rfl⟩
  rw [hnm]
  have HNM := Lib.hid hnm
  clear hnm
  have c0 := (blk_cells L2.out.loc).1 0
  have cf := (blk_cells L2.out.loc).2
  simp at c0
  have L3 := Lib.hid (L2.out.name (by decide) (sv nm))
  go_wp2_with fail
  refine (end_any L3.out.p hT).mono ?_
  rintro e v4 ⟨rfl, hp, hb⟩
  have L4 := Lib.hid (L3.out.call hp hb)
  clear hp hb
  clear c0 cf
  have hs5 : endM T (nameM T s1) = headM T kBlock s := by unfold headM; rw [HS1.out]
  rw [hs5] at L4
  clear hs5
  obtain ⟨s4, hs4⟩ : ∃ x, headM T kBlock s = x := ⟨_, rfl⟩
  rw [hs4] at L4
  have HS4 := Lib.hid hs4
  clear hs4
  go_wp2_with fail
  refine (begins_any L4.out.p).mono ?_
  rintro e v5 ⟨rfl, hp, hb⟩
  have L5 := Lib.hid (L4.out.call hp hb)
  clear hp hb
  obtain ⟨s5, hs5⟩ : ∃ x, (if (startsB T) s4 = true then s4 else s4.fail 4) = x := ⟨_, rfl⟩
  have HS5 := Lib.hid hs5
  obtain ⟨RM, hRM⟩ : ∃ x, loopM (startsB T) (stS T) 32 [] s5 = x := ⟨_, rfl⟩
  have HRM := Lib.hid hRM
  clear hRM
  cases hb0 : (startsB T) s4
  · have HB0 := Lib.hid hb0
    rw [hb0, if_neg (by decide)] at hs5
    clear hb0
    go_wp2_with fail
    refine (fail_any L5.out.p 4 (by decide)).mono ?_
    rintro e v6 ⟨rfl, hp, hb⟩
    have L6 := Lib.hid (L5.out.call hp hb)
    clear hp hb
    rw [hs5] at L6
    clear hs5
    have I0 : Hid (LpIn StmtCells (startsB T) (stS T) 53 67 4 B bp w.heap.size (w.heap.size + 1) 32 (.cells #[.string ⟨#[]⟩, .slice none 0 0] 53 (0, 0)) [sv nm] T RM w 34 v6) := ⟨s5, .slice none 0 0, 0, [], L6.out, rfl, Md.start HRM.out ⟨[], rfl, trivial⟩⟩
    clear L6
    go_wp2
    go_loopg [] 34 (fun g wr => Hid (LpIn StmtCells (startsB T) (stS T) 53 67 4 B bp w.heap.size (w.heap.size + 1) 32 (.cells #[.string ⟨#[]⟩, .slice none 0 0] 53 (0, 0)) [sv nm] T RM w g wr))
    case atStart => exact I0
    case round =>
      obtain ⟨s6, v, n, xs, l6, hgn, md⟩ := hrel.out
      obtain ⟨va, vc, rfl⟩ := own_form l6.own
      have L6 := Lib.hid l6
      have MD := Lib.hid md
      clear l6 md hrel I0
      go_wp2_with fail
      refine (begins_any L6.out.p).mono ?_
      rintro e v7 ⟨rfl, hp, hb⟩
      have L7 := Lib.hid (L6.out.call hp hb)
      have K7 := Lib.hid (L6.out.same (ts := [9]) (by decide) hb)
      clear hp hb
      cases hbg : (startsB T) s6
      · have HBG := Lib.hid hbg
        clear hbg
        obtain ⟨hr2, hok⟩ := Hd.done (show Hd _ _ RM 32 n s6 _ false from .inl ⟨HBG.out.symm, MD.out⟩)
        have HR2 := Lib.hid hr2
        have HOK := Lib.hid hok
        clear hr2 hok MD
        have KX := Lib.hid K7.out
        have c1 := (blk_cells L7.out.loc).1 1
        have c0 := (blk_cells L7.out.loc).1 0
        have cf := (blk_cells L7.out.loc).2
        have r0 := (blk_cells L7.out.res).1 0
        have r1 := (blk_cells L7.out.res).1 1
        have rf := (blk_cells L7.out.res).2
        simp at c0 c1 r0 r1
        go_wp2
        have G := set2_1 (set2_0 L7.out.res (sv nm)) (.slice va n vc)
        have ⟨gc, _⟩ := blk_cells G
        have ⟨q1, q2⟩ := L7.out.store2 (by decide) (tyAt_of L7.out.res) rfl (sv nm) (.slice va n vc)
        refine bodyPost_ret (v := .agg #[sv nm, .slice va n vc]) ?_ rfl ?_
        · simp [results, Tryd.results65, go_sem, gc]
        have hv : headV T kBlock s = nm := by unfold headV; rw [HS1.out, HNM.out]
        have hM : blockM T s = (⟨nm, RM.1⟩, RM.2) := by
          unfold blockM
          dsimp only
          rw [hv, HS4.out, HS5.out, stmtsM_loop]
          rw [show loopM (startsB T) (stS T) 32 [] s5 = RM from HRM.out]
        unfold BlPost
        rw [hM, hv]
        refine ⟨_, rfl, rfl, by rw [HR2.out]; exact q1, q2, fun h0 => ?_⟩
        have hrow := HOK.out (by rw [← HR2.out]; exact h0)
        have hk := KX.out.trans <| sameTs_set2 (ts := [9]) (tyAt_of L7.out.res) (by decide) (sv nm) (.slice va n vc)
        obtain ⟨xss, ex, hall⟩ := hrow.mono (sameTs_stmt hk)
        refine ⟨_, rfl, xss, ?_, hall⟩
        rw [← ex]
        exact (SliceAt.of_owns L7.out.own).same (sameTs_set2 (ts := [67]) (tyAt_of L7.out.res) (by decide) _ _ _ (by simp))
      · have HBG := Lib.hid hbg
        have hle := Md.le (fun _ h => starts_err h) MD.out hbg
        clear hbg
        have c1 := (blk_cells L7.out.loc).1 1
        have cf := (blk_cells L7.out.loc).2
        have hlth := L7.out.lth
        simp at c1
        by_cases hfull : (n : Int) = 32
        · obtain rfl : n = 32 := by omega
          have ⟨hr2, hne⟩ := Md.full (fun _ h => starts_err h) MD.out HBG.out
          have HR2 := Lib.hid hr2
          have HNE := Lib.hid hne
          clear hr2 hne hfull MD
          go_wp2_with fail
          refine (fail_any L7.out.p 7 (by decide)).mono ?_
          rintro e v8 ⟨rfl, hp, hb⟩
          have L8 := Lib.hid (L7.out.call hp hb)
          clear hp hb c1 cf
          have c1 := (blk_cells L8.out.loc).1 1
          have c0 := (blk_cells L8.out.loc).1 0
          have cf := (blk_cells L8.out.loc).2
          have r0 := (blk_cells L8.out.res).1 0
          have r1 := (blk_cells L8.out.res).1 1
          have rf := (blk_cells L8.out.res).2
          simp at c0 c1 r0 r1
          go_wp2
          have G := set2_1 (set2_0 L8.out.res (sv nm)) (.slice va 32 vc)
          have ⟨gc, _⟩ := blk_cells G
          have ⟨q1, q2⟩ := L8.out.store2 (by decide) (tyAt_of L8.out.res) rfl (sv nm) (.slice va 32 vc)
          refine bodyPost_ret (v := .agg #[sv nm, .slice va 32 vc]) ?_ rfl ?_
          · simp [results, Tryd.results65, go_sem, gc]
          have hv : headV T kBlock s = nm := by unfold headV; rw [HS1.out, HNM.out]
          have hM : blockM T s = (⟨nm, RM.1⟩, RM.2) := by
            unfold blockM
            dsimp only
            rw [hv, HS4.out, HS5.out, stmtsM_loop]
            rw [show loopM (startsB T) (stS T) 32 [] s5 = RM from HRM.out]
          unfold BlPost
          rw [hM, hv]
          refine ⟨_, rfl, rfl, by rw [HR2.out]; exact q1, q2, fun h0 => absurd h0 (by rw [HR2.out]; exact HNE.out)⟩
        · have hnf : ((n : Int) == 32) = false := by rw [beq_eq_false_iff_ne]; exact hfull
          have hroom : roomS 32 n s6 = s6 := by unfold roomS; exact if_neg (by omega)
          have HRM2 := Lib.hid hroom
          clear hroom
          have hn32 : n < 32 := by omega
          clear hfull
          go_wp2_with fail
          refine wp_region_D (S := fun w' => w'.cell? ⟨w.heap.size + 1, 1, none⟩ = some (.slice va n vc)) (st := 7) (by kernel_rfl) ?_
          refine wpAnyT_pure 0 ?z1 rfl (by kernel_rfl) (by kernel_rfl) (by kernel_rfl) (by kernel_rfl) (fun _ _ _ h => h) c1 rfl ?rz1 ?sz1
          case rz1 => intro w hS; go_simp; rfl
          case sz1 =>
          refine wpAnyT_pure 1 ?z2 rfl (by kernel_rfl) (by kernel_rfl) (by kernel_rfl) (by kernel_rfl) (fun _ _ _ h => h) c1 rfl ?rz2 ?sz2
          case rz2 => intro w hS; go_simp; rfl
          case sz2 =>
          refine wpAnyT_pure 2 ?z3 rfl (by kernel_rfl) (by kernel_rfl) (by kernel_rfl) (by kernel_rfl) (fun _ _ _ h => h) c1 rfl ?rz3 ?sz3
          case rz3 => intro w hS; go_simp; rfl
          case sz3 =>
          refine wpAnyT_all (rs := [3]) (by kernel_rfl) (by decide) ?_
          intro i hi
          obtain rfl : i = 3 := by simpa using hi
          clear hi
          refine wpOp_of_list rfl ?_
          go_wp2_with fail
          refine (rstmt_any (L7.out.drewN 1).p hT HBG.out).mono ?_
          rintro e v8 ⟨op, d, us, ts, rfl, hu, ht, hp, hb, hc⟩
          have hb := But.undrew hb
          have L8 := Lib.hid (L7.out.call hp hb)
          have K8 := Lib.hid (K7.out.trans (L7.out.same (ts := [9]) (by decide) hb))
          have HC := Lib.hid hc
          have HU := Lib.hid (show List.all [.int .i64 op, sv d, us, ts] Value.oneCell' = true by simp only [List.all_cons, List.all_nil, hu, ht]; rfl)
          clear c1 cf hp hb hc hu ht
          have c1 := (blk_cells L8.out.loc).1 1
          have cf := (blk_cells L8.out.loc).2
          simp at c1
          have hl8 := L8.out.lth
          go_wp2
          refine ⟨fun _ => c1, ?_⟩
          refine wpAnyT_all (rs := [4]) (by kernel_rfl) (by decide) ?_
          intro i hi
          obtain rfl : i = 4 := by simpa using hi
          clear hi
          refine wpOp_of_list rfl ?_
          have c1a := (((Below.refl v8.heap.size v8).alloc (Nat.le_refl _) (.cells #[.int .i64 op, sv d, us, ts] 67)).cell (p := ⟨w.heap.size + 1, 1, none⟩) hl8).trans c1
          go_wp2
          refine ⟨fun _ => c1a, ?_⟩
          refine wpAnyT_all (rs := [5]) (by kernel_rfl) (by decide) ?_
          intro i hi
          obtain rfl : i = 5 := by simpa using hi
          clear hi
          refine wpOp_of_list rfl ?_
          refine wpList_pushH [.int .i64 op, sv d, us, ts] rfl _ _ 51 rfl (w.heap.size + 1 + 1) 67 _ 4 72 Tryd.underlying51 infoStmt rfl (by omega) _ n xs L8.out.own rfl _ rfl (by simp) rfl HU.out (by unfold maxLen; omega) (by omega) (by omega) ?_
          intro g cap w9 hown1 hg1 hg2 hg3
          have c1b := (blk_cells (L8.out.cell1 hg1)).1 1
          have cfb := (blk_cells (L8.out.cell1 hg1)).2
          simp at c1b
          have hl9 := lt_heap (L8.out.cell1 hg1)
          have L9 := Lib.hid (L8.out.push hown1 hg1 (by decide) (by decide) 1 rfl)
          have K9 := Lib.hid (L8.out.pushSame (ts := [9]) (by decide) (by decide) hg1 1 (.slice (some ⟨g, 0, none⟩) (n + 1) cap))
          clear hown1 hg1 c1 cf c1a
          have c1 := c1b
          have cf := cfb
          clear c1b cfb
          go_wp2
          refine ⟨fun _ => c1, ?_⟩
          refine wpAnyT_pure 6 ?z4 rfl (by kernel_rfl) (by kernel_rfl) (by kernel_rfl) (by kernel_rfl) (fun _ _ _ h => h) c1 rfl ?rz4 ?sz4
          case rz4 => intro w hS; go_simp; rfl
          case sz4 =>
          refine wpAnyT_all (rs := [7]) (by kernel_rfl) (by decide) ?_
          intro i hi
          obtain rfl : i = 7 := by simpa using hi
          clear hi
          refine wpOp_of_list rfl ?_
          go_wp2
          refine ⟨fun h => absurd rfl h, ?_⟩
          refine wpAnyT_done (by kernel_rfl) ?_ _
          clear c1 cf
          go_wp2
          go_roundg (gk - 1)
          case measure => omega
          case rel =>
            refine ⟨_, _, n + 1, _, L9.out, by omega, ?_⟩
            have st := Hd.step (OK' := RowOK StmtCells (w9.setCell ⟨w.heap.size + 1, 1, none⟩ (.slice (some ⟨g, 0, none⟩) (n + 1) cap)) (xs ++ [.int .i64 op, sv d, us, ts])) (st_no T) (fun _ h => starts_err h) (by decide) (show Hd _ _ RM 32 n s6 _ true from .inl ⟨HBG.out.symm, MD.out⟩) (fun acc hok hb hr h5 => ?_)
            · rw [HRM2.out] at st; exact st
            · exact (hok.mono (sameTs_stmt (K8.out.trans K9.out))).snoc (sameTs_stmt K9.out _ _ (HC.out hb h5))
  · have HB0 := Lib.hid hb0
    rw [hb0, if_pos rfl] at hs5
    clear hb0
    rw [hs5] at L5
    clear hs5
    have I0 : Hid (LpIn StmtCells (startsB T) (stS T) 53 67 4 B bp w.heap.size (w.heap.size + 1) 32 (.cells #[.string ⟨#[]⟩, .slice none 0 0] 53 (0, 0)) [sv nm] T RM w 34 v5) := ⟨s5, .slice none 0 0, 0, [], L5.out, rfl, Md.start HRM.out ⟨[], rfl, trivial⟩⟩
    clear L5
    go_wp2
    go_loopg [] 34 (fun g wr => Hid (LpIn StmtCells (startsB T) (stS T) 53 67 4 B bp w.heap.size (w.heap.size + 1) 32 (.cells #[.string ⟨#[]⟩, .slice none 0 0] 53 (0, 0)) [sv nm] T RM w g wr))
    case atStart => exact I0
    case round =>
      obtain ⟨s6, v, n, xs, l6, hgn, md⟩ := hrel.out
      obtain ⟨va, vc, rfl⟩ := own_form l6.own
      have L6 := Lib.hid l6
      have MD := Lib.hid md
      clear l6 md hrel I0
      go_wp2_with fail
      refine (begins_any L6.out.p).mono ?_
      rintro e v7 ⟨rfl, hp, hb⟩
      have L7 := Lib.hid (L6.out.call hp hb)
      have K7 := Lib.hid (L6.out.same (ts := [9]) (by decide) hb)
      clear hp hb
      cases hbg : (startsB T) s6
      · have HBG := Lib.hid hbg
        clear hbg
        obtain ⟨hr2, hok⟩ := Hd.done (show Hd _ _ RM 32 n s6 _ false from .inl ⟨HBG.out.symm, MD.out⟩)
        have HR2 := Lib.hid hr2
        have HOK := Lib.hid hok
        clear hr2 hok MD
        have KX := Lib.hid K7.out
        have c1 := (blk_cells L7.out.loc).1 1
        have c0 := (blk_cells L7.out.loc).1 0
        have cf := (blk_cells L7.out.loc).2
        have r0 := (blk_cells L7.out.res).1 0
        have r1 := (blk_cells L7.out.res).1 1
        have rf := (blk_cells L7.out.res).2
        simp at c0 c1 r0 r1
        go_wp2
        have G := set2_1 (set2_0 L7.out.res (sv nm)) (.slice va n vc)
        have ⟨gc, _⟩ := blk_cells G
        have ⟨q1, q2⟩ := L7.out.store2 (by decide) (tyAt_of L7.out.res) rfl (sv nm) (.slice va n vc)
        refine bodyPost_ret (v := .agg #[sv nm, .slice va n vc]) ?_ rfl ?_
        · simp [results, Tryd.results65, go_sem, gc]
        have hv : headV T kBlock s = nm := by unfold headV; rw [HS1.out, HNM.out]
        have hM : blockM T s = (⟨nm, RM.1⟩, RM.2) := by
          unfold blockM
          dsimp only
          rw [hv, HS4.out, HS5.out, stmtsM_loop]
          rw [show loopM (startsB T) (stS T) 32 [] s5 = RM from HRM.out]
        unfold BlPost
        rw [hM, hv]
        refine ⟨_, rfl, rfl, by rw [HR2.out]; exact q1, q2, fun h0 => ?_⟩
        have hrow := HOK.out (by rw [← HR2.out]; exact h0)
        have hk := KX.out.trans <| sameTs_set2 (ts := [9]) (tyAt_of L7.out.res) (by decide) (sv nm) (.slice va n vc)
        obtain ⟨xss, ex, hall⟩ := hrow.mono (sameTs_stmt hk)
        refine ⟨_, rfl, xss, ?_, hall⟩
        rw [← ex]
        exact (SliceAt.of_owns L7.out.own).same (sameTs_set2 (ts := [67]) (tyAt_of L7.out.res) (by decide) _ _ _ (by simp))
      · have HBG := Lib.hid hbg
        have hle := Md.le (fun _ h => starts_err h) MD.out hbg
        clear hbg
        have c1 := (blk_cells L7.out.loc).1 1
        have cf := (blk_cells L7.out.loc).2
        have hlth := L7.out.lth
        simp at c1
        by_cases hfull : (n : Int) = 32
        · obtain rfl : n = 32 := by omega
          have ⟨hr2, hne⟩ := Md.full (fun _ h => starts_err h) MD.out HBG.out
          have HR2 := Lib.hid hr2
          have HNE := Lib.hid hne
          clear hr2 hne hfull MD
          go_wp2_with fail
          refine (fail_any L7.out.p 7 (by decide)).mono ?_
          rintro e v8 ⟨rfl, hp, hb⟩
          have L8 := Lib.hid (L7.out.call hp hb)
          clear hp hb c1 cf
          have c1 := (blk_cells L8.out.loc).1 1
          have c0 := (blk_cells L8.out.loc).1 0
          have cf := (blk_cells L8.out.loc).2
          have r0 := (blk_cells L8.out.res).1 0
          have r1 := (blk_cells L8.out.res).1 1
          have rf := (blk_cells L8.out.res).2
          simp at c0 c1 r0 r1
          go_wp2
          have G := set2_1 (set2_0 L8.out.res (sv nm)) (.slice va 32 vc)
          have ⟨gc, _⟩ := blk_cells G
          have ⟨q1, q2⟩ := L8.out.store2 (by decide) (tyAt_of L8.out.res) rfl (sv nm) (.slice va 32 vc)
          refine bodyPost_ret (v := .agg #[sv nm, .slice va 32 vc]) ?_ rfl ?_
          · simp [results, Tryd.results65, go_sem, gc]
          have hv : headV T kBlock s = nm := by unfold headV; rw [HS1.out, HNM.out]
          have hM : blockM T s = (⟨nm, RM.1⟩, RM.2) := by
            unfold blockM
            dsimp only
            rw [hv, HS4.out, HS5.out, stmtsM_loop]
            rw [show loopM (startsB T) (stS T) 32 [] s5 = RM from HRM.out]
          unfold BlPost
          rw [hM, hv]
          refine ⟨_, rfl, rfl, by rw [HR2.out]; exact q1, q2, fun h0 => absurd h0 (by rw [HR2.out]; exact HNE.out)⟩
        · have hnf : ((n : Int) == 32) = false := by rw [beq_eq_false_iff_ne]; exact hfull
          have hroom : roomS 32 n s6 = s6 := by unfold roomS; exact if_neg (by omega)
          have HRM2 := Lib.hid hroom
          clear hroom
          have hn32 : n < 32 := by omega
          clear hfull
          go_wp2_with fail
          refine wp_region_D (S := fun w' => w'.cell? ⟨w.heap.size + 1, 1, none⟩ = some (.slice va n vc)) (st := 7) (by kernel_rfl) ?_
          refine wpAnyT_pure 0 ?z5 rfl (by kernel_rfl) (by kernel_rfl) (by kernel_rfl) (by kernel_rfl) (fun _ _ _ h => h) c1 rfl ?rz5 ?sz5
          case rz5 => intro w hS; go_simp; rfl
          case sz5 =>
          refine wpAnyT_pure 1 ?z6 rfl (by kernel_rfl) (by kernel_rfl) (by kernel_rfl) (by kernel_rfl) (fun _ _ _ h => h) c1 rfl ?rz6 ?sz6
          case rz6 => intro w hS; go_simp; rfl
          case sz6 =>
          refine wpAnyT_pure 2 ?z7 rfl (by kernel_rfl) (by kernel_rfl) (by kernel_rfl) (by kernel_rfl) (fun _ _ _ h => h) c1 rfl ?rz7 ?sz7
          case rz7 => intro w hS; go_simp; rfl
          case sz7 =>
          refine wpAnyT_all (rs := [3]) (by kernel_rfl) (by decide) ?_
          intro i hi
          obtain rfl : i = 3 := by simpa using hi
          clear hi
          refine wpOp_of_list rfl ?_
          go_wp2_with fail
          refine (rstmt_any (L7.out.drewN 1).p hT HBG.out).mono ?_
          rintro e v8 ⟨op, d, us, ts, rfl, hu, ht, hp, hb, hc⟩
          have hb := But.undrew hb
          have L8 := Lib.hid (L7.out.call hp hb)
          have K8 := Lib.hid (K7.out.trans (L7.out.same (ts := [9]) (by decide) hb))
          have HC := Lib.hid hc
          have HU := Lib.hid (show List.all [.int .i64 op, sv d, us, ts] Value.oneCell' = true by simp only [List.all_cons, List.all_nil, hu, ht]; rfl)
          clear c1 cf hp hb hc hu ht
          have c1 := (blk_cells L8.out.loc).1 1
          have cf := (blk_cells L8.out.loc).2
          simp at c1
          have hl8 := L8.out.lth
          go_wp2
          refine ⟨fun _ => c1, ?_⟩
          refine wpAnyT_all (rs := [4]) (by kernel_rfl) (by decide) ?_
          intro i hi
          obtain rfl : i = 4 := by simpa using hi
          clear hi
          refine wpOp_of_list rfl ?_
          have c1a := (((Below.refl v8.heap.size v8).alloc (Nat.le_refl _) (.cells #[.int .i64 op, sv d, us, ts] 67)).cell (p := ⟨w.heap.size + 1, 1, none⟩) hl8).trans c1
          go_wp2
          refine ⟨fun _ => c1a, ?_⟩
          refine wpAnyT_all (rs := [5]) (by kernel_rfl) (by decide) ?_
          intro i hi
          obtain rfl : i = 5 := by simpa using hi
          clear hi
          refine wpOp_of_list rfl ?_
          refine wpList_pushH [.int .i64 op, sv d, us, ts] rfl _ _ 51 rfl (w.heap.size + 1 + 1) 67 _ 4 72 Tryd.underlying51 infoStmt rfl (by omega) _ n xs L8.out.own rfl _ rfl (by simp) rfl HU.out (by unfold maxLen; omega) (by omega) (by omega) ?_
          intro g cap w9 hown1 hg1 hg2 hg3
          have c1b := (blk_cells (L8.out.cell1 hg1)).1 1
          have cfb := (blk_cells (L8.out.cell1 hg1)).2
          simp at c1b
          have hl9 := lt_heap (L8.out.cell1 hg1)
          have L9 := Lib.hid (L8.out.push hown1 hg1 (by decide) (by decide) 1 rfl)
          have K9 := Lib.hid (L8.out.pushSame (ts := [9]) (by decide) (by decide) hg1 1 (.slice (some ⟨g, 0, none⟩) (n + 1) cap))
          clear hown1 hg1 c1 cf c1a
          have c1 := c1b
          have cf := cfb
          clear c1b cfb
          go_wp2
          refine ⟨fun _ => c1, ?_⟩
          refine wpAnyT_pure 6 ?z8 rfl (by kernel_rfl) (by kernel_rfl) (by kernel_rfl) (by kernel_rfl) (fun _ _ _ h => h) c1 rfl ?rz8 ?sz8
          case rz8 => intro w hS; go_simp; rfl
          case sz8 =>
          refine wpAnyT_all (rs := [7]) (by kernel_rfl) (by decide) ?_
          intro i hi
          obtain rfl : i = 7 := by simpa using hi
          clear hi
          refine wpOp_of_list rfl ?_
          go_wp2
          refine ⟨fun h => absurd rfl h, ?_⟩
          refine wpAnyT_done (by kernel_rfl) ?_ _
          clear c1 cf
          go_wp2
          go_roundg (gk - 1)
          case measure => omega
          case rel =>
            refine ⟨_, _, n + 1, _, L9.out, by omega, ?_⟩
            have st := Hd.step (OK' := RowOK StmtCells (w9.setCell ⟨w.heap.size + 1, 1, none⟩ (.slice (some ⟨g, 0, none⟩) (n + 1) cap)) (xs ++ [.int .i64 op, sv d, us, ts])) (st_no T) (fun _ h => starts_err h) (by decide) (show Hd _ _ RM 32 n s6 _ true from .inl ⟨HBG.out.symm, MD.out⟩) (fun acc hok hb hr h5 => ?_)
            · rw [HRM2.out] at st; exact st
            · exact (hok.mono (sameTs_stmt (K8.out.trans K9.out))).snoc (sameTs_stmt K9.out _ _ (HC.out hb h5))

theorem tail_err {T : List Tok} {s : PS} (h : s.err ≠ 0) : endM T (takeM (isW T kEnd s) s) = s := by
  unfold endM
  rw [isW_err h, take_err h, isK_err h (by decide), take_err h]

set_option maxHeartbeats 4000000 in
theorem function_any {B bp : Nat} {T : List Tok} {s : PS} {w : World} (h : PSt B bp T s w) (hT : T.length ≤ 1000000) :
    Calls Tryd.prog 41 #[.pointer (some ⟨bp, 0, none⟩)] w (FnPost B bp T s w) := by
  have hlt := h.lt
  have hge := h.ge
  have L0 : Hid (LpL 50 53 2 B bp w.heap.size (w.heap.size + 1) (.cells #[.string ⟨#[]⟩, .slice none 0 0] 50 (0, 0)) [.string ⟨#[]⟩] T w s ((w.alloc (.cells #[.string ⟨#[]⟩, .slice none 0 0] 50)).alloc (.cells #[.string ⟨#[]⟩, .slice none 0 0] 50)) (.slice none 0 0) 0 []) := ⟨(h.alloc _).alloc _, ((But.refl _ _).alloc _).alloc _, hlt, by omega, by omega, by omega, alloc_blk _ (heap_alloc_new _ _), by have h2 := heap_alloc_new (w.alloc (.cells #[.string ⟨#[]⟩, .slice none 0 0] 50)) (.cells #[.string ⟨#[]⟩, .slice none 0 0] 50); rw [World.size_alloc] at h2; exact h2, World.ownsRow_nil _ _ _ _⟩
  clear h
  go_enter Tryd.func41, Tryd.ntmps41
  go_wp2_with fail
  refine (word_any L0.out.p hT kFunc).mono ?_
  rintro e v1 ⟨rfl, hp, hb⟩
  have L1 := Lib.hid (L0.out.call hp hb)
  clear hp hb
  obtain ⟨s1, hs1⟩ : ∃ x, takeM (isW T kFunc s) s = x := ⟨_, rfl⟩
  rw [hs1] at L1
  have HS1 := Lib.hid hs1
  clear hs1
  go_wp2_with fail
  refine (name_any L1.out.p hT).mono ?_
  rintro e v2 ⟨rfl, hp, hb⟩
  have L2 := Lib.hid (L1.out.call hp hb)
  clear hp hb
  obtain ⟨nm, hnm⟩ : ∃ x, nameV T s1 = x := ⟨_, rfl⟩
  rw [hnm]
  have HNM := Lib.hid hnm
  clear hnm
  have c0 := (blk_cells L2.out.loc).1 0
  have cf := (blk_cells L2.out.loc).2
  simp at c0
  have L3 := Lib.hid (L2.out.name (by decide) (sv nm))
  go_wp2_with fail
  refine (end_any L3.out.p hT).mono ?_
  rintro e v4 ⟨rfl, hp, hb⟩
  have L4 := Lib.hid (L3.out.call hp hb)
  clear hp hb
  clear c0 cf
  have hs5 : endM T (nameM T s1) = headM T kFunc s := by unfold headM; rw [HS1.out]
  rw [hs5] at L4
  clear hs5
  obtain ⟨s4, hs4⟩ : ∃ x, headM T kFunc s = x := ⟨_, rfl⟩
  rw [hs4] at L4
  have HS4 := Lib.hid hs4
  clear hs4
  go_wp2_with fail
  refine (is_any L4.out.p kBlock).mono ?_
  rintro e v5 ⟨rfl, hp, hb⟩
  have L5 := Lib.hid (L4.out.call hp hb)
  clear hp hb
  obtain ⟨s5, hs5⟩ : ∃ x, (if (isW T kBlock) s4 = true then s4 else s4.fail 4) = x := ⟨_, rfl⟩
  have HS5 := Lib.hid hs5
  obtain ⟨RM, hRM⟩ : ∃ x, loopM (isW T kBlock) (blockM T) 16 [] s5 = x := ⟨_, rfl⟩
  have HRM := Lib.hid hRM
  clear hRM
  cases hb0 : (isW T kBlock) s4
  · have HB0 := Lib.hid hb0
    rw [hb0, if_neg (by decide)] at hs5
    clear hb0
    go_wp2_with fail
    refine (fail_any L5.out.p 4 (by decide)).mono ?_
    rintro e v6 ⟨rfl, hp, hb⟩
    have L6 := Lib.hid (L5.out.call hp hb)
    clear hp hb
    rw [hs5] at L6
    clear hs5
    have I0 : Hid (LpIn BlockCells (isW T kBlock) (blockM T) 50 53 2 B bp w.heap.size (w.heap.size + 1) 16 (.cells #[.string ⟨#[]⟩, .slice none 0 0] 50 (0, 0)) [sv nm] T RM w 18 v6) := ⟨s5, .slice none 0 0, 0, [], L6.out, rfl, Md.start HRM.out ⟨[], rfl, trivial⟩⟩
    clear L6
    go_wp2
    go_loopg [] 18 (fun g wr => Hid (LpIn BlockCells (isW T kBlock) (blockM T) 50 53 2 B bp w.heap.size (w.heap.size + 1) 16 (.cells #[.string ⟨#[]⟩, .slice none 0 0] 50 (0, 0)) [sv nm] T RM w g wr))
    case atStart => exact I0
    case round =>
      obtain ⟨s6, v, n, xs, l6, hgn, md⟩ := hrel.out
      obtain ⟨va, vc, rfl⟩ := own_form l6.own
      have L6 := Lib.hid l6
      have MD := Lib.hid md
      clear l6 md hrel I0
      go_wp2_with fail
      refine (is_any L6.out.p kBlock).mono ?_
      rintro e v7 ⟨rfl, hp, hb⟩
      have L7 := Lib.hid (L6.out.call hp hb)
      have K7 := Lib.hid (L6.out.same (ts := [9, 67]) (by decide) hb)
      clear hp hb
      cases hbg : (isW T kBlock) s6
      · have HBG := Lib.hid hbg
        clear hbg
        obtain ⟨hr2, hok⟩ := Hd.done (show Hd _ _ RM 16 n s6 _ false from .inl ⟨HBG.out.symm, MD.out⟩)
        have HR2 := Lib.hid hr2
        have HOK := Lib.hid hok
        clear hr2 hok MD
        go_wp2_with fail
        refine (word_any L7.out.p hT kEnd).mono ?_
        rintro e v8 ⟨rfl, hp, hb⟩
        have L8 := Lib.hid (L7.out.call hp hb)
        have K8 := Lib.hid (K7.out.trans (L7.out.same (ts := [9, 67]) (by decide) hb))
        clear hp hb
        go_wp2_with fail
        refine (end_any L8.out.p hT).mono ?_
        rintro e v9 ⟨rfl, hp, hb⟩
        have L9 := Lib.hid (L8.out.call hp hb)
        have KX := Lib.hid (K8.out.trans (L8.out.same (ts := [9, 67]) (by decide) hb))
        clear hp hb
        have c1 := (blk_cells L9.out.loc).1 1
        have c0 := (blk_cells L9.out.loc).1 0
        have cf := (blk_cells L9.out.loc).2
        have r0 := (blk_cells L9.out.res).1 0
        have r1 := (blk_cells L9.out.res).1 1
        have rf := (blk_cells L9.out.res).2
        simp at c0 c1 r0 r1
        go_wp2
        have G := set2_1 (set2_0 L9.out.res (sv nm)) (.slice va n vc)
        have ⟨gc, _⟩ := blk_cells G
        have ⟨q1, q2⟩ := L9.out.store2 (by decide) (tyAt_of L9.out.res) rfl (sv nm) (.slice va n vc)
        refine bodyPost_ret (v := .agg #[sv nm, .slice va n vc]) ?_ rfl ?_
        · simp [results, Tryd.results41, go_sem, gc]
        have hv : headV T kFunc s = nm := by unfold headV; rw [HS1.out, HNM.out]
        have hM : funcM T s = (⟨nm, RM.1⟩, endM T (takeM (isW T kEnd RM.2) RM.2)) := by
          unfold funcM
          dsimp only
          rw [hv, HS4.out, HS5.out, blocksM_loop]
          rw [show loopM (isW T kBlock) (blockM T) 16 [] s5 = RM from HRM.out]
        unfold FnPost
        rw [hM, hv]
        refine ⟨_, rfl, rfl, by rw [HR2.out]; exact q1, q2, fun h0 => ?_⟩
        have hrow := HOK.out (by rw [HR2.out] at h0; exact tail_ok h0)
        have hk := KX.out.trans <| sameTs_set2 (ts := [9, 67]) (tyAt_of L9.out.res) (by decide) (sv nm) (.slice va n vc)
        obtain ⟨xss, ex, hall⟩ := hrow.mono (sameTs_block hk)
        refine ⟨_, rfl, xss, ?_, hall⟩
        rw [← ex]
        exact (SliceAt.of_owns L9.out.own).same (sameTs_set2 (ts := [53]) (tyAt_of L9.out.res) (by decide) _ _ _ (by simp))
      · have HBG := Lib.hid hbg
        have hle := Md.le (fun _ h => isW_err h _) MD.out hbg
        clear hbg
        have c1 := (blk_cells L7.out.loc).1 1
        have cf := (blk_cells L7.out.loc).2
        have hlth := L7.out.lth
        simp at c1
        by_cases hfull : (n : Int) = 16
        · obtain rfl : n = 16 := by omega
          have ⟨hr2, hne⟩ := Md.full (fun _ h => isW_err h _) MD.out HBG.out
          have HR2 := Lib.hid hr2
          have HNE := Lib.hid hne
          clear hr2 hne hfull MD
          go_wp2_with fail
          refine (fail_any L7.out.p 7 (by decide)).mono ?_
          rintro e v8 ⟨rfl, hp, hb⟩
          have L8 := Lib.hid (L7.out.call hp hb)
          clear hp hb c1 cf
          have c1 := (blk_cells L8.out.loc).1 1
          have c0 := (blk_cells L8.out.loc).1 0
          have cf := (blk_cells L8.out.loc).2
          have r0 := (blk_cells L8.out.res).1 0
          have r1 := (blk_cells L8.out.res).1 1
          have rf := (blk_cells L8.out.res).2
          simp at c0 c1 r0 r1
          go_wp2
          have G := set2_1 (set2_0 L8.out.res (sv nm)) (.slice va 16 vc)
          have ⟨gc, _⟩ := blk_cells G
          have ⟨q1, q2⟩ := L8.out.store2 (by decide) (tyAt_of L8.out.res) rfl (sv nm) (.slice va 16 vc)
          refine bodyPost_ret (v := .agg #[sv nm, .slice va 16 vc]) ?_ rfl ?_
          · simp [results, Tryd.results41, go_sem, gc]
          have hv : headV T kFunc s = nm := by unfold headV; rw [HS1.out, HNM.out]
          have hM : funcM T s = (⟨nm, RM.1⟩, endM T (takeM (isW T kEnd RM.2) RM.2)) := by
            unfold funcM
            dsimp only
            rw [hv, HS4.out, HS5.out, blocksM_loop]
            rw [show loopM (isW T kBlock) (blockM T) 16 [] s5 = RM from HRM.out]
          unfold FnPost
          rw [hM, hv]
          refine ⟨_, rfl, rfl, by rw [HR2.out, tail_err HNE.out]; exact q1, q2, fun h0 => absurd h0 (by rw [HR2.out, tail_err HNE.out]; exact HNE.out)⟩
        · have hnf : ((n : Int) == 16) = false := by rw [beq_eq_false_iff_ne]; exact hfull
          have hroom : roomS 16 n s6 = s6 := by unfold roomS; exact if_neg (by omega)
          have HRM2 := Lib.hid hroom
          clear hroom
          have hn32 : n < 16 := by omega
          clear hfull
          go_wp2_with fail
          refine wp_region_D (S := fun w' => w'.cell? ⟨w.heap.size + 1, 1, none⟩ = some (.slice va n vc)) (st := 7) (by kernel_rfl) ?_
          refine wpAnyT_pure 0 ?z9 rfl (by kernel_rfl) (by kernel_rfl) (by kernel_rfl) (by kernel_rfl) (fun _ _ _ h => h) c1 rfl ?rz9 ?sz9
          case rz9 => intro w hS; go_simp; rfl
          case sz9 =>
          refine wpAnyT_pure 1 ?z10 rfl (by kernel_rfl) (by kernel_rfl) (by kernel_rfl) (by kernel_rfl) (fun _ _ _ h => h) c1 rfl ?rz10 ?sz10
          case rz10 => intro w hS; go_simp; rfl
          case sz10 =>
          refine wpAnyT_pure 2 ?z11 rfl (by kernel_rfl) (by kernel_rfl) (by kernel_rfl) (by kernel_rfl) (fun _ _ _ h => h) c1 rfl ?rz11 ?sz11
          case rz11 => intro w hS; go_simp; rfl
          case sz11 =>
          refine wpAnyT_all (rs := [3]) (by kernel_rfl) (by decide) ?_
          intro i hi
          obtain rfl : i = 3 := by simpa using hi
          clear hi
          refine wpOp_of_list rfl ?_
          go_wp2_with fail
          refine (block_any (L7.out.drewN 1).p hT).mono ?_
          rintro e v8 ⟨bv, rfl, hu, hp, hb, hc⟩
          obtain ⟨bn, hbn⟩ : ∃ x, headV T kBlock s6 = x := ⟨_, rfl⟩
          rw [hbn] at hc ⊢
          clear hbn
          have hb := But.undrew hb
          have L8 := Lib.hid (L7.out.call hp hb)
          have K8 := Lib.hid (K7.out.trans (L7.out.same (ts := [9, 67]) (by decide) hb))
          have HC := Lib.hid hc
          have HU := Lib.hid (show List.all [sv bn, bv] Value.oneCell' = true by simp only [List.all_cons, List.all_nil, hu]; rfl)
          clear c1 cf hp hb hc hu
          have c1 := (blk_cells L8.out.loc).1 1
          have cf := (blk_cells L8.out.loc).2
          simp at c1
          have hl8 := L8.out.lth
          go_wp2
          refine ⟨fun _ => c1, ?_⟩
          refine wpAnyT_all (rs := [4]) (by kernel_rfl) (by decide) ?_
          intro i hi
          obtain rfl : i = 4 := by simpa using hi
          clear hi
          refine wpOp_of_list rfl ?_
          have c1a := (((Below.refl v8.heap.size v8).alloc (Nat.le_refl _) (.cells #[sv bn, bv] 53)).cell (p := ⟨w.heap.size + 1, 1, none⟩) hl8).trans c1
          go_wp2
          refine ⟨fun _ => c1a, ?_⟩
          refine wpAnyT_all (rs := [5]) (by kernel_rfl) (by decide) ?_
          intro i hi
          obtain rfl : i = 5 := by simpa using hi
          clear hi
          refine wpOp_of_list rfl ?_
          refine wpList_pushH [sv bn, bv] rfl _ _ 48 rfl (w.heap.size + 1 + 1) 53 _ 2 40 Tryd.underlying48 infoBlock rfl (by omega) _ n xs L8.out.own rfl _ rfl (by simp) rfl HU.out (by unfold maxLen; omega) (by omega) (by omega) ?_
          intro g cap w9 hown1 hg1 hg2 hg3
          have c1b := (blk_cells (L8.out.cell1 hg1)).1 1
          have cfb := (blk_cells (L8.out.cell1 hg1)).2
          simp at c1b
          have hl9 := lt_heap (L8.out.cell1 hg1)
          have L9 := Lib.hid (L8.out.push hown1 hg1 (by decide) (by decide) 1 rfl)
          have K9 := Lib.hid (L8.out.pushSame (ts := [9, 67]) (by decide) (by decide) hg1 1 (.slice (some ⟨g, 0, none⟩) (n + 1) cap))
          clear hown1 hg1 c1 cf c1a
          have c1 := c1b
          have cf := cfb
          clear c1b cfb
          go_wp2
          refine ⟨fun _ => c1, ?_⟩
          refine wpAnyT_pure 6 ?z12 rfl (by kernel_rfl) (by kernel_rfl) (by kernel_rfl) (by kernel_rfl) (fun _ _ _ h => h) c1 rfl ?rz12 ?sz12
          case rz12 => intro w hS; go_simp; rfl
          case sz12 =>
          refine wpAnyT_all (rs := [7]) (by kernel_rfl) (by decide) ?_
          intro i hi
          obtain rfl : i = 7 := by simpa using hi
          clear hi
          refine wpOp_of_list rfl ?_
          go_wp2
          refine ⟨fun h => absurd rfl h, ?_⟩
          refine wpAnyT_done (by kernel_rfl) ?_ _
          clear c1 cf
          go_wp2
          go_roundg (gk - 1)
          case measure => omega
          case rel =>
            refine ⟨_, _, n + 1, _, L9.out, by omega, ?_⟩
            have st := Hd.step (OK' := RowOK BlockCells (w9.setCell ⟨w.heap.size + 1, 1, none⟩ (.slice (some ⟨g, 0, none⟩) (n + 1) cap)) (xs ++ [sv bn, bv])) (block_no T) (fun _ h => isW_err h _) (by decide) (show Hd _ _ RM 16 n s6 _ true from .inl ⟨HBG.out.symm, MD.out⟩) (fun acc hok hb hr h5 => ?_)
            · rw [HRM2.out] at st; exact st
            · exact (hok.mono (sameTs_block (K8.out.trans K9.out))).snoc (sameTs_block K9.out _ _ (HC.out h5))
  · have HB0 := Lib.hid hb0
    rw [hb0, if_pos rfl] at hs5
    clear hb0
    rw [hs5] at L5
    clear hs5
    have I0 : Hid (LpIn BlockCells (isW T kBlock) (blockM T) 50 53 2 B bp w.heap.size (w.heap.size + 1) 16 (.cells #[.string ⟨#[]⟩, .slice none 0 0] 50 (0, 0)) [sv nm] T RM w 18 v5) := ⟨s5, .slice none 0 0, 0, [], L5.out, rfl, Md.start HRM.out ⟨[], rfl, trivial⟩⟩
    clear L5
    go_wp2
    go_loopg [] 18 (fun g wr => Hid (LpIn BlockCells (isW T kBlock) (blockM T) 50 53 2 B bp w.heap.size (w.heap.size + 1) 16 (.cells #[.string ⟨#[]⟩, .slice none 0 0] 50 (0, 0)) [sv nm] T RM w g wr))
    case atStart => exact I0
    case round =>
      obtain ⟨s6, v, n, xs, l6, hgn, md⟩ := hrel.out
      obtain ⟨va, vc, rfl⟩ := own_form l6.own
      have L6 := Lib.hid l6
      have MD := Lib.hid md
      clear l6 md hrel I0
      go_wp2_with fail
      refine (is_any L6.out.p kBlock).mono ?_
      rintro e v7 ⟨rfl, hp, hb⟩
      have L7 := Lib.hid (L6.out.call hp hb)
      have K7 := Lib.hid (L6.out.same (ts := [9, 67]) (by decide) hb)
      clear hp hb
      cases hbg : (isW T kBlock) s6
      · have HBG := Lib.hid hbg
        clear hbg
        obtain ⟨hr2, hok⟩ := Hd.done (show Hd _ _ RM 16 n s6 _ false from .inl ⟨HBG.out.symm, MD.out⟩)
        have HR2 := Lib.hid hr2
        have HOK := Lib.hid hok
        clear hr2 hok MD
        go_wp2_with fail
        refine (word_any L7.out.p hT kEnd).mono ?_
        rintro e v8 ⟨rfl, hp, hb⟩
        have L8 := Lib.hid (L7.out.call hp hb)
        have K8 := Lib.hid (K7.out.trans (L7.out.same (ts := [9, 67]) (by decide) hb))
        clear hp hb
        go_wp2_with fail
        refine (end_any L8.out.p hT).mono ?_
        rintro e v9 ⟨rfl, hp, hb⟩
        have L9 := Lib.hid (L8.out.call hp hb)
        have KX := Lib.hid (K8.out.trans (L8.out.same (ts := [9, 67]) (by decide) hb))
        clear hp hb
        have c1 := (blk_cells L9.out.loc).1 1
        have c0 := (blk_cells L9.out.loc).1 0
        have cf := (blk_cells L9.out.loc).2
        have r0 := (blk_cells L9.out.res).1 0
        have r1 := (blk_cells L9.out.res).1 1
        have rf := (blk_cells L9.out.res).2
        simp at c0 c1 r0 r1
        go_wp2
        have G := set2_1 (set2_0 L9.out.res (sv nm)) (.slice va n vc)
        have ⟨gc, _⟩ := blk_cells G
        have ⟨q1, q2⟩ := L9.out.store2 (by decide) (tyAt_of L9.out.res) rfl (sv nm) (.slice va n vc)
        refine bodyPost_ret (v := .agg #[sv nm, .slice va n vc]) ?_ rfl ?_
        · simp [results, Tryd.results41, go_sem, gc]
        have hv : headV T kFunc s = nm := by unfold headV; rw [HS1.out, HNM.out]
        have hM : funcM T s = (⟨nm, RM.1⟩, endM T (takeM (isW T kEnd RM.2) RM.2)) := by
          unfold funcM
          dsimp only
          rw [hv, HS4.out, HS5.out, blocksM_loop]
          rw [show loopM (isW T kBlock) (blockM T) 16 [] s5 = RM from HRM.out]
        unfold FnPost
        rw [hM, hv]
        refine ⟨_, rfl, rfl, by rw [HR2.out]; exact q1, q2, fun h0 => ?_⟩
        have hrow := HOK.out (by rw [HR2.out] at h0; exact tail_ok h0)
        have hk := KX.out.trans <| sameTs_set2 (ts := [9, 67]) (tyAt_of L9.out.res) (by decide) (sv nm) (.slice va n vc)
        obtain ⟨xss, ex, hall⟩ := hrow.mono (sameTs_block hk)
        refine ⟨_, rfl, xss, ?_, hall⟩
        rw [← ex]
        exact (SliceAt.of_owns L9.out.own).same (sameTs_set2 (ts := [53]) (tyAt_of L9.out.res) (by decide) _ _ _ (by simp))
      · have HBG := Lib.hid hbg
        have hle := Md.le (fun _ h => isW_err h _) MD.out hbg
        clear hbg
        have c1 := (blk_cells L7.out.loc).1 1
        have cf := (blk_cells L7.out.loc).2
        have hlth := L7.out.lth
        simp at c1
        by_cases hfull : (n : Int) = 16
        · obtain rfl : n = 16 := by omega
          have ⟨hr2, hne⟩ := Md.full (fun _ h => isW_err h _) MD.out HBG.out
          have HR2 := Lib.hid hr2
          have HNE := Lib.hid hne
          clear hr2 hne hfull MD
          go_wp2_with fail
          refine (fail_any L7.out.p 7 (by decide)).mono ?_
          rintro e v8 ⟨rfl, hp, hb⟩
          have L8 := Lib.hid (L7.out.call hp hb)
          clear hp hb c1 cf
          have c1 := (blk_cells L8.out.loc).1 1
          have c0 := (blk_cells L8.out.loc).1 0
          have cf := (blk_cells L8.out.loc).2
          have r0 := (blk_cells L8.out.res).1 0
          have r1 := (blk_cells L8.out.res).1 1
          have rf := (blk_cells L8.out.res).2
          simp at c0 c1 r0 r1
          go_wp2
          have G := set2_1 (set2_0 L8.out.res (sv nm)) (.slice va 16 vc)
          have ⟨gc, _⟩ := blk_cells G
          have ⟨q1, q2⟩ := L8.out.store2 (by decide) (tyAt_of L8.out.res) rfl (sv nm) (.slice va 16 vc)
          refine bodyPost_ret (v := .agg #[sv nm, .slice va 16 vc]) ?_ rfl ?_
          · simp [results, Tryd.results41, go_sem, gc]
          have hv : headV T kFunc s = nm := by unfold headV; rw [HS1.out, HNM.out]
          have hM : funcM T s = (⟨nm, RM.1⟩, endM T (takeM (isW T kEnd RM.2) RM.2)) := by
            unfold funcM
            dsimp only
            rw [hv, HS4.out, HS5.out, blocksM_loop]
            rw [show loopM (isW T kBlock) (blockM T) 16 [] s5 = RM from HRM.out]
          unfold FnPost
          rw [hM, hv]
          refine ⟨_, rfl, rfl, by rw [HR2.out, tail_err HNE.out]; exact q1, q2, fun h0 => absurd h0 (by rw [HR2.out, tail_err HNE.out]; exact HNE.out)⟩
        · have hnf : ((n : Int) == 16) = false := by rw [beq_eq_false_iff_ne]; exact hfull
          have hroom : roomS 16 n s6 = s6 := by unfold roomS; exact if_neg (by omega)
          have HRM2 := Lib.hid hroom
          clear hroom
          have hn32 : n < 16 := by omega
          clear hfull
          go_wp2_with fail
          refine wp_region_D (S := fun w' => w'.cell? ⟨w.heap.size + 1, 1, none⟩ = some (.slice va n vc)) (st := 7) (by kernel_rfl) ?_
          refine wpAnyT_pure 0 ?z13 rfl (by kernel_rfl) (by kernel_rfl) (by kernel_rfl) (by kernel_rfl) (fun _ _ _ h => h) c1 rfl ?rz13 ?sz13
          case rz13 => intro w hS; go_simp; rfl
          case sz13 =>
          refine wpAnyT_pure 1 ?z14 rfl (by kernel_rfl) (by kernel_rfl) (by kernel_rfl) (by kernel_rfl) (fun _ _ _ h => h) c1 rfl ?rz14 ?sz14
          case rz14 => intro w hS; go_simp; rfl
          case sz14 =>
          refine wpAnyT_pure 2 ?z15 rfl (by kernel_rfl) (by kernel_rfl) (by kernel_rfl) (by kernel_rfl) (fun _ _ _ h => h) c1 rfl ?rz15 ?sz15
          case rz15 => intro w hS; go_simp; rfl
          case sz15 =>
          refine wpAnyT_all (rs := [3]) (by kernel_rfl) (by decide) ?_
          intro i hi
          obtain rfl : i = 3 := by simpa using hi
          clear hi
          refine wpOp_of_list rfl ?_
          go_wp2_with fail
          refine (block_any (L7.out.drewN 1).p hT).mono ?_
          rintro e v8 ⟨bv, rfl, hu, hp, hb, hc⟩
          obtain ⟨bn, hbn⟩ : ∃ x, headV T kBlock s6 = x := ⟨_, rfl⟩
          rw [hbn] at hc ⊢
          clear hbn
          have hb := But.undrew hb
          have L8 := Lib.hid (L7.out.call hp hb)
          have K8 := Lib.hid (K7.out.trans (L7.out.same (ts := [9, 67]) (by decide) hb))
          have HC := Lib.hid hc
          have HU := Lib.hid (show List.all [sv bn, bv] Value.oneCell' = true by simp only [List.all_cons, List.all_nil, hu]; rfl)
          clear c1 cf hp hb hc hu
          have c1 := (blk_cells L8.out.loc).1 1
          have cf := (blk_cells L8.out.loc).2
          simp at c1
          have hl8 := L8.out.lth
          go_wp2
          refine ⟨fun _ => c1, ?_⟩
          refine wpAnyT_all (rs := [4]) (by kernel_rfl) (by decide) ?_
          intro i hi
          obtain rfl : i = 4 := by simpa using hi
          clear hi
          refine wpOp_of_list rfl ?_
          have c1a := (((Below.refl v8.heap.size v8).alloc (Nat.le_refl _) (.cells #[sv bn, bv] 53)).cell (p := ⟨w.heap.size + 1, 1, none⟩) hl8).trans c1
          go_wp2
          refine ⟨fun _ => c1a, ?_⟩
          refine wpAnyT_all (rs := [5]) (by kernel_rfl) (by decide) ?_
          intro i hi
          obtain rfl : i = 5 := by simpa using hi
          clear hi
          refine wpOp_of_list rfl ?_
          refine wpList_pushH [sv bn, bv] rfl _ _ 48 rfl (w.heap.size + 1 + 1) 53 _ 2 40 Tryd.underlying48 infoBlock rfl (by omega) _ n xs L8.out.own rfl _ rfl (by simp) rfl HU.out (by unfold maxLen; omega) (by omega) (by omega) ?_
          intro g cap w9 hown1 hg1 hg2 hg3
          have c1b := (blk_cells (L8.out.cell1 hg1)).1 1
          have cfb := (blk_cells (L8.out.cell1 hg1)).2
          simp at c1b
          have hl9 := lt_heap (L8.out.cell1 hg1)
          have L9 := Lib.hid (L8.out.push hown1 hg1 (by decide) (by decide) 1 rfl)
          have K9 := Lib.hid (L8.out.pushSame (ts := [9, 67]) (by decide) (by decide) hg1 1 (.slice (some ⟨g, 0, none⟩) (n + 1) cap))
          clear hown1 hg1 c1 cf c1a
          have c1 := c1b
          have cf := cfb
          clear c1b cfb
          go_wp2
          refine ⟨fun _ => c1, ?_⟩
          refine wpAnyT_pure 6 ?z16 rfl (by kernel_rfl) (by kernel_rfl) (by kernel_rfl) (by kernel_rfl) (fun _ _ _ h => h) c1 rfl ?rz16 ?sz16
          case rz16 => intro w hS; go_simp; rfl
          case sz16 =>
          refine wpAnyT_all (rs := [7]) (by kernel_rfl) (by decide) ?_
          intro i hi
          obtain rfl : i = 7 := by simpa using hi
          clear hi
          refine wpOp_of_list rfl ?_
          go_wp2
          refine ⟨fun h => absurd rfl h, ?_⟩
          refine wpAnyT_done (by kernel_rfl) ?_ _
          clear c1 cf
          go_wp2
          go_roundg (gk - 1)
          case measure => omega
          case rel =>
            refine ⟨_, _, n + 1, _, L9.out, by omega, ?_⟩
            have st := Hd.step (OK' := RowOK BlockCells (w9.setCell ⟨w.heap.size + 1, 1, none⟩ (.slice (some ⟨g, 0, none⟩) (n + 1) cap)) (xs ++ [sv bn, bv])) (block_no T) (fun _ h => isW_err h _) (by decide) (show Hd _ _ RM 16 n s6 _ true from .inl ⟨HBG.out.symm, MD.out⟩) (fun acc hok hb hr h5 => ?_)
            · rw [HRM2.out] at st; exact st
            · exact (hok.mono (sameTs_block (K8.out.trans K9.out))).snoc (sameTs_block K9.out _ _ (HC.out h5))
end Go.Proofs.YtpnfdmajpkpjoaaDoor.R

