/- A part of the proof. -/
import Derived.Test.YtipnhmdibkkifaaGreatDoorNu26
set_option linter.unusedVariables false
set_option linter.unusedSimpArgs false
set_option linter.unusedVariables false
set_option linter.unusedSimpArgs false
set_option linter.unusedSectionVars false
namespace Go.Proofs.YtipnhmdibkkifaaGreatDoor
open Go.RowKit
variable [Base]
theorem pstmt_any {B bp : Nat} {T : List Tok} {s : PS} {w : World} (h : PSt B bp T s w) (hT : T.length ≤ 1000000) :
    Calls Tryz.prog 66 #[.pointer (some ⟨bp, 0, none⟩)] w (StPost B bp T s w) := by
  cases hS : startsB T s
  · exact stmt_none h hT hS
  cases hN : isN T s
  · have h2 := hS
    unfold startsB at h2
    rw [hN, Bool.false_or, Bool.and_eq_true] at h2
    have h3 : opOf (s.next T).text ≠ 0 := by simpa using h2.2
    have h4 : ∀ x, opOf x = 0 ∨ opOf x = 2 ∨ opOf x = 3 ∨ opOf x = 4 ∨ opOf x = 5 ∨ opOf x = 6 ∨ opOf x = 7 ∨ opOf x = 8 ∨ opOf x = 9 := by
      intro x
      unfold opOf
      repeat' split
      all_goals omega
    rcases h4 (s.next T).text with h | e | e | e | e | e | e | e | e
    · exact absurd h h3
    · cases hN1 : isN T s.step
      · exact stmt_use0 h hT hN hS e hN1
      · exact stmt_use1 h hT hN hS e hN1
    · exact stmt_target3 h hT hN hS e
    · exact stmt_def4 h hT hN hS e
    · exact stmt_sink h hT hN hS e
    · exact stmt_def6 h hT hN hS e
    · exact stmt_target7 h hT hN hS e
    · exact stmt_branch h hT hN hS e
    · exact stmt_return h hT hN hS e
  · exact stmt_name h hT hN
theorem fail_errs (s : PS) {e : Int} (he : e ≠ 0) : (s.fail e).err ≠ 0 := by
  unfold PS.fail
  split
  · exact he
  · assumption
def loopM {X : Type} (bg : PS → Bool) (st : PS → X × PS) : Nat → List X → PS → List X × PS
  | 0, acc, s => (acc, if bg s then s.fail 7 else s)
  | m + 1, acc, s => if bg s then loopM bg st m (acc ++ [(st s).1]) (st s).2 else (acc, s)
theorem loopM_no {X : Type} {bg : PS → Bool} {st : PS → X × PS} {m : Nat} {acc : List X} {s : PS} (h : bg s = false) : loopM bg st m acc s = (acc, s) := by
  cases m <;> unfold loopM <;> rw [h] <;> rfl
theorem loopM_yes {X : Type} {bg : PS → Bool} {st : PS → X × PS} {m : Nat} {acc : List X} {s : PS} (h : bg s = true) : loopM bg st (m + 1) acc s = loopM bg st m (acc ++ [(st s).1]) (st s).2 := by
  conv => lhs; unfold loopM
  rw [if_pos h]
theorem loopM_full {X : Type} {bg : PS → Bool} {st : PS → X × PS} {acc : List X} {s : PS} (h : bg s = true) : loopM bg st 0 acc s = (acc, s.fail 7) := by
  unfold loopM
  rw [if_pos h]
def Md {X : Type} (bg : PS → Bool) (st : PS → X × PS) (R : List X × PS) (mx n : Nat) (s : PS) (OK : List X → Prop) : Prop :=
  (∃ m acc, loopM bg st m acc s = R ∧ n = acc.length ∧ n + m = mx ∧ OK acc) ∨ (s.err ≠ 0 ∧ R.2 = s)
def Hd {X : Type} (bg : PS → Bool) (st : PS → X × PS) (R : List X × PS) (mx n : Nat) (s : PS) (OK : List X → Prop) (b : Bool) : Prop :=
  (b = bg s ∧ Md bg st R mx n s OK) ∨ (b = true ∧ bg s = false ∧ n = 0 ∧ R.2 = s.fail 4)
def roomS (mx n : Nat) (s : PS) : PS := if (n : Int) = (mx : Int) then s.fail 7 else s
section
variable {X : Type} {bg : PS → Bool} {st : PS → X × PS} {R : List X × PS} {mx n : Nat} {s : PS} {OK OK' : List X → Prop}
theorem Hd.start (herr : ∀ s : PS, s.err ≠ 0 → bg s = false) (hR : loopM bg st mx [] (if bg s = true then s else s.fail 4) = R) (hOK : OK []) : Hd bg st R mx 0 s OK true := by
  cases hb : bg s
  · refine .inr ⟨rfl, hb, rfl, ?_⟩
    rw [hb, if_neg (by decide), loopM_no (herr _ (fail_errs s (by decide)))] at hR
    rw [← hR]
  · rw [hb, if_pos rfl] at hR
    exact .inl ⟨hb.symm, .inl ⟨mx, [], hR, rfl, by omega, hOK⟩⟩
theorem Hd.done (h : Hd bg st R mx n s OK false) : R.2 = s ∧ (s.err = 0 → OK R.1) := by
  rcases h with ⟨hb, h⟩ | ⟨h, _⟩
  · rcases h with ⟨m, acc, h1, h2, h3, h4⟩ | ⟨h1, h2⟩
    · rw [loopM_no hb.symm] at h1
      rw [← h1]
      exact ⟨rfl, fun _ => h4⟩
    · exact ⟨h2, fun h => absurd h h1⟩
  · cases h
theorem Hd.le (hmx : 1 ≤ mx) (herr : ∀ s : PS, s.err ≠ 0 → bg s = false) (h : Hd bg st R mx n s OK true) : n ≤ mx := by
  rcases h with ⟨hb, h⟩ | ⟨_, hb, h, h2⟩
  · rcases h with ⟨m, acc, h1, h2, h3, h4⟩ | ⟨h1, h2⟩
    · omega
    · rw [herr s h1] at hb; cases hb
  · omega
theorem Hd.step (hno : ∀ s, bg s = false → (st s).2 = s.fail 4) (herr : ∀ s : PS, s.err ≠ 0 → bg s = false) (hmx : 1 ≤ mx) (h : Hd bg st R mx n s OK true)
    (hok : ∀ acc, OK acc → bg s = true → roomS mx n s = s → (st s).2.err = 0 → OK' (acc ++ [(st s).1])) : Md bg st R mx (n + 1) (st (roomS mx n s)).2 OK' := by
  rcases h with ⟨hb, h⟩ | ⟨_, hb, h, h2⟩
  · have hb := hb.symm
    have h0 : s.err = 0 := by
      rcases Int.decEq s.err 0 with h | h
      · rw [herr s h] at hb; cases hb
      · exact h
    rcases h with ⟨m, acc, h1, h2, h3, h4⟩ | ⟨h1, h2⟩
    · cases m with
      | zero =>
        have hr : roomS mx n s = s.fail 7 := by unfold roomS; rw [if_pos (by omega)]
        rw [hr]
        have he := fail_errs s (e := 7) (by decide)
        rw [hno _ (herr _ he), fail_err he]
        rw [loopM_full hb] at h1
        exact .inr ⟨he, by rw [← h1]⟩
      | succ m =>
        have hr : roomS mx n s = s := by unfold roomS; rw [if_neg (by omega)]
        have hok := fun h5 => hok acc h4 hb hr h5
        rw [hr]
        rw [loopM_yes hb] at h1
        rcases Int.decEq (st s).2.err 0 with h5 | h5
        · rw [loopM_no (herr _ h5)] at h1
          exact .inr ⟨h5, by rw [← h1]⟩
        · exact .inl ⟨m, acc ++ [(st s).1], h1, by simp; omega, by omega, hok h5⟩
    · exact absurd h0 h1
  · have hr : roomS mx n s = s := by unfold roomS; rw [if_neg (by omega)]
    rw [hr, hno s hb]
    exact .inr ⟨fail_errs s (by decide), h2⟩
end
def SameTs (ts : List TypeId) (w w' : World) : Prop := ∀ t ∈ ts, SameT t w w'
theorem SameTs.trans {ts : List TypeId} {a b c : World} (h : SameTs ts a b) (k : SameTs ts b c) : SameTs ts a c := fun t ht => (h t ht).trans (k t ht)
def RowOK {X : Type} (Cells : World → List Value → X → Prop) (w : World) (xs : List Value) (acc : List X) : Prop := ∃ xss : List (List Value), xs = xss.flatten ∧ All2 (Cells w) xss acc
theorem RowOK.mono {X : Type} {Cells : World → List Value → X → Prop} {w w' : World} {xs : List Value} {acc : List X} (hk : ∀ cs x, Cells w cs x → Cells w' cs x) (h : RowOK Cells w xs acc) : RowOK Cells w' xs acc := by
  obtain ⟨xss, e, h⟩ := h
  exact ⟨xss, e, h.mono hk⟩
theorem RowOK.snoc {X : Type} {Cells : World → List Value → X → Prop} {w : World} {xs cs : List Value} {acc : List X} {x : X} (h : RowOK Cells w xs acc) (hc : Cells w cs x) : RowOK Cells w (xs ++ cs) (acc ++ [x]) := by
  obtain ⟨xss, e, h⟩ := h
  exact ⟨xss ++ [cs], by rw [e]; simp, h.append ⟨hc, trivial⟩⟩
structure LpL (U E : TypeId) (esz B bp R bb : Nat) (zR : Obj) (pre : List Value) (T : List Tok) (w0 : World) (s : PS) (w : World) (v : Value) (n : Nat) (xs : List Value) : Prop where
  p : PSt B bp T s w
  but : But bp w0 w
  lt : bp < w0.heap.size
  ne : R ≠ bp
  rb : R < bb
  ge : w0.heap.size ≤ bb
  res : w.heap[R]? = some zR
  loc : w.heap[bb]? = some (.cells (pre ++ [v]).toArray U (0, 0))
  own : w.ownsRow (bb + 1) E esz v n xs
section
variable {U E : TypeId} {esz B bp R bb : Nat} {zR : Obj} {pre : List Value} {T : List Tok} {w0 w w' : World} {s s' : PS} {v : Value} {n : Nat} {xs : List Value}
theorem LpL.call (h : LpL U E esz B bp R bb zR pre T w0 s w v n xs) (hp : PSt B bp T s' w') (hb : But bp w w') : LpL U E esz B bp R bb zR pre T w0 s' w' v n xs :=
  ⟨hp, h.but.trans hb, h.lt, h.ne, h.rb, h.ge, hb.blk h.res h.ne, hb.blk h.loc (by have := h.lt; have := h.ge; omega), ownsRow_but h.own hb (by have := h.lt; have := h.ge; omega)⟩
theorem LpL.drewN (h : LpL U E esz B bp R bb zR pre T w0 s w v n xs) (k : Nat) : LpL U E esz B bp R bb zR pre T w0 s (w.drewN k) v n xs := h.call (h.p.drewN k) ((But.refl _ _).drewN k)
theorem LpL.same (h : LpL U E esz B bp R bb zR pre T w0 s w v n xs) {ts : List TypeId} (ht : 70 ∉ ts) (hb : But bp w w') : SameTs ts w w' := fun t hm => SameT.but hb (by rw [h.p.ty]; intro e; injection e with e; exact ht (e ▸ hm)) (by have := h.p.kw.bs; have := h.p.ge; omega)
theorem LpL.lth (h : LpL U E esz B bp R bb zR pre T w0 s w v n xs) : bb + 1 ≤ w.heap.size := lt_heap h.loc
theorem LpL.cell1 (h : LpL U E esz B bp R bb zR pre T w0 s w v n xs) (hg : w.grownBy w' v.ownBlock) : w'.heap[bb]? = some (.cells (pre ++ [v]).toArray U (0, 0)) :=
  ((Below.of_grown hg h.own h.lth).block bb (by omega)).trans h.loc
theorem LpL.push (h : LpL U E esz B bp R bb zR pre T w0 s w v n xs) {news : List Value} {v' : Value} (ho : w'.ownsRow (bb + 1) E esz v' (n + 1) (xs ++ news)) (hg : w.grownBy w' v.ownBlock) (hUT : 78 ≠ U) (hET : 78 ≠ E) (f : Nat) (hf : f = pre.length) :
    LpL U E esz B bp R bb zR pre T w0 s (w'.setCell ⟨bb, f, none⟩ v') v' (n + 1) (xs ++ news) := by
  subst hf
  have hlt := h.lt
  have hge := h.ge
  have hrb := h.rb
  have hpg := h.p.ge
  have hbs := h.p.kw.bs
  have hl1 := h.lth
  have hbel := Below.of_grown hg h.own h.lth
  have c1 := h.cell1 hg
  refine ⟨?_, ?_, hlt, h.ne, hrb, hge, ?_, ?_, ?_⟩
  · exact (h.p.grown hg h.own hET (by omega) h.lth).setOther (tyAt_of c1) hUT (by omega) (by omega) _
  · exact (h.but.belowB hbel (by omega)).setCell _ (.inr hge) _
  · exact (Below.heap_setCell _ _ _ _ (by show R ≠ bb; omega)).trans ((hbel.block R (by omega)).trans h.res)
  · simp [World.setCell, Array.getElem?_modify, c1]
  · exact ownsRow_setCell_below ho (by show bb < bb + 1; omega) _
theorem LpL.pushSame (h : LpL U E esz B bp R bb zR pre T w0 s w v n xs) {ts : List TypeId} (hE : E ∉ ts) (hU : U ∉ ts) (hg : w.grownBy w' v.ownBlock) (f : Nat) (x : Value) : SameTs ts w (w'.setCell ⟨bb, f, none⟩ x) := fun t hm =>
  (SameT.grown hg h.own (fun e => hE (e ▸ hm)) (by have := h.p.kw.bs; have := h.p.ge; have := h.lt; have := h.ge; omega)).trans (SameT.setCell (U := U) (tyAt_of (h.cell1 hg) (by show Base.b ≤ bb; have := h.p.kw.bs; have := h.p.ge; have := h.lt; have := h.ge; omega)) (fun e => hU (e ▸ hm)))
end
def LpIn {X : Type} (Cells : World → List Value → X → Prop) (bg : PS → Bool) (st : PS → X × PS) (U E : TypeId) (esz B bp R bb mx : Nat) (zR : Obj) (pre : List Value) (T : List Tok) (RM : List X × PS) (w0 : World) (g : Nat) (w : World) (vb : Value) : Prop :=
  ∃ s v n xs b, vb = .bool b ∧ LpL U E esz B bp R bb zR pre T w0 s w v n xs ∧ g + n = mx + 2 ∧ Hd bg st RM mx n s (RowOK Cells w xs) b
theorem sameTs_stmt {w w' : World} (h : SameTs [9] w w') (cs : List Value) (x : PStmt) : StmtCells w cs x → StmtCells w' cs x := StmtCells.keep (h _ (by simp))
theorem sameTs_block {w w' : World} (h : SameTs [9, 118] w w') (cs : List Value) (x : PBlock) : BlockCells w cs x → BlockCells w' cs x := BlockCells.keep (h _ (by simp)) (h _ (by simp))
theorem sameTs_func {w w' : World} (h : SameTs [9, 118, 99] w w') (cs : List Value) (x : PFunc) : FuncCells w cs x → FuncCells w' cs x := FuncCells.keep (h _ (by simp)) (h _ (by simp)) (h _ (by simp))
def stS (T : List Tok) (s : PS) : PStmt × PS := ((stmtM T s).1, stmtS T s)
theorem stmtsM_loop (T : List Tok) : ∀ (m : Nat) (acc : List PStmt) (s : PS), stmtsM T m acc s = loopM (startsB T) (stS T) m acc s
  | 0, _, _ => rfl
  | m + 1, acc, s => by
    cases hb : startsB T s
    · rw [loopM_no hb]; unfold stmtsM; rw [hb]; rfl
    · rw [loopM_yes hb]
      have : (stS T s).2 = (stmtM T s).2 := by unfold stS stmtS; rw [hb]; rfl
      rw [this, ← stmtsM_loop T m]
      conv => lhs; unfold stmtsM
      rw [hb]
      rfl
theorem blocksM_loop (T : List Tok) : ∀ (m : Nat) (acc : List PBlock) (s : PS), blocksM T m acc s = loopM (isW T kBlock) (blockM T) m acc s
  | 0, _, _ => rfl
  | m + 1, acc, s => by
    cases hb : isW T kBlock s
    · rw [loopM_no hb]; unfold blocksM; rw [hb]; rfl
    · rw [loopM_yes hb, ← blocksM_loop T m]
      conv => lhs; unfold blocksM
      rw [hb]
      rfl
theorem funcsM_loop (T : List Tok) : ∀ (m : Nat) (acc : List PFunc) (s : PS), funcsM T m acc s = loopM (isW T kFunc) (funcM T) m acc s
  | 0, _, _ => rfl
  | m + 1, acc, s => by
    cases hb : isW T kFunc s
    · rw [loopM_no hb]; unfold funcsM; rw [hb]; rfl
    · rw [loopM_yes hb, ← funcsM_loop T m]
      conv => lhs; unfold funcsM
      rw [hb]
      rfl
theorem st_no (T : List Tok) (s : PS) (h : startsB T s = false) : (stS T s).2 = s.fail 4 := by unfold stS stmtS; rw [h]; rfl
theorem headM_no {T : List Tok} {w : Str} {s : PS} (h : isW T w s = false) : headM T w s = s.fail 4 := by
  have he := fail_errs s (e := 4) (by decide)
  have e1 : takeM (isW T w s) s = s.fail 4 := by rw [h]; rfl
  unfold headM nameM endM
  rw [e1, isN_err he, take_err he, isK_err he (by decide), take_err he]
theorem block_no (T : List Tok) (s : PS) (h : isW T kBlock s = false) : (blockM T s).2 = s.fail 4 := by
  have he := fail_errs s (e := 4) (by decide)
  unfold blockM
  dsimp only
  rw [headM_no h, starts_err he, if_neg (by decide), fail_err he, stmtsM_loop, loopM_no (starts_err he)]
theorem func_no (T : List Tok) (s : PS) (h : isW T kFunc s = false) : (funcM T s).2 = s.fail 4 := by
  have he := fail_errs s (e := 4) (by decide)
  unfold funcM
  dsimp only
  rw [headM_no h, isW_err he, if_neg (by decide), fail_err he, blocksM_loop, loopM_no (isW_err he _)]
  unfold endM
  rw [isW_err he, take_err he, isK_err he (by decide), take_err he]
theorem isW_kind {T : List Tok} {w : Str} {s : PS} (h : isW T w s = true) : (s.next T).kind ≠ 0 := by
  unfold isW at h
  simp only [Bool.and_eq_true, beq_iff_eq] at h
  omega
end Go.Proofs.YtipnhmdibkkifaaGreatDoor
