/- Walk of the generator 'Program'. Printed by wip/gen_prog.py. -/
import Derived.Test.YtpnfdmajpkpjoaaDoorQGenS
import Derived.Test.YtpnfdmajpkpjoaaDoorQMem2
import Derived.Deep.DeepMust
import Derived.Deep.RegionLaw
import Derived.Test.YtpnfdmajpkpjoaaDoorQLoop
set_option linter.unusedVariables false
set_option linter.unusedSimpArgs false
namespace Go.Proofs.YtpnfdmajpkpjoaaDoor
open Go.RowKit

noncomputable def progBody1 : Code := (Tryd.f15.body.bind firstLoop).getD .skip
noncomputable def progBody2 : Code := (firstLoop progBody1).getD .skip
noncomputable def progBody3 : Code := (firstLoop progBody2).getD .skip
def frP (bt R : Nat) (F : Int) (iv fp K k bp n : Value) (u : Nat → Value) : Act := { tmps := #[.pointer (some ⟨bt, 0, none⟩), undef, .pointer (some ⟨R, 0, none⟩), .pointer (some ⟨R + 1, 0, none⟩), .int .i64 F, iv, fp, K, k, bp, n, u 11, u 12, u 13, u 14, u 15, u 16, u 17, u 18, u 19, u 20, u 21, u 22, u 23, u 24, u 25, u 26, u 27, u 28, u 29, u 30, u 31, u 32, u 33, u 34, u 35, u 36, u 37, u 38, u 39, u 40, u 41, u 42, u 43, u 44, u 45, u 46, u 47, u 48, u 49, u 50, u 51, u 52, u 53, u 54, u 55, u 56, u 57, u 58, u 59, u 60, u 61, u 62, u 63, u 64, u 65, u 66, u 67, u 68, u 69, u 70, u 71, u 72, u 73, u 74, u 75, u 76, u 77, u 78, u 79, u 80, u 81, u 82, u 83, u 84, u 85, u 86, u 87, u 88, u 89, u 90, u 91, u 92, u 93, u 94, u 95, u 96, u 97, u 98, u 99, u 100, u 101, u 102, u 103], defers := [] }

theorem infoStmt : (Tryd.prog.info? 67).map (fun i => (i.zero, i.size, i.bytes)) = some (some (.agg #[.int .i64 0, .string ⟨#[]⟩, .slice none 0 0, .slice none 0 0]), 4, 72) := by kernel_rfl
theorem infoBlock : (Tryd.prog.info? 53).map (fun i => (i.zero, i.size, i.bytes)) = some (some (.agg #[.string ⟨#[]⟩, .slice none 0 0]), 2, 40) := by kernel_rfl
theorem infoFunc : (Tryd.prog.info? 50).map (fun i => (i.zero, i.size, i.bytes)) = some (some (.agg #[.string ⟨#[]⟩, .slice none 0 0]), 2, 40) := by kernel_rfl

def StmtsAt (w : World) (v : Value) (l : List PStmt) : Prop := ∃ xss, SliceAt w 67 4 v xss.flatten ∧ All2 (StmtCells w) xss l
def BlockCells (w : World) (cs : List Value) (b : PBlock) : Prop := ∃ v, cs = [sv b.name, v] ∧ StmtsAt w v b.stmts
def BlocksAt (w : World) (v : Value) (l : List PBlock) : Prop := ∃ xss, SliceAt w 53 2 v xss.flatten ∧ All2 (BlockCells w) xss l
def FuncCells (w : World) (cs : List Value) (f : PFunc) : Prop := ∃ v, cs = [sv f.name, v] ∧ BlocksAt w v f.blocks
def FuncsAt (w : World) (v : Value) (l : List PFunc) : Prop := ∃ xss, SliceAt w 50 2 v xss.flatten ∧ All2 (FuncCells w) xss l

theorem StmtCells.keep {w w' : World} (h9 : SameT 9 w w') {cs : List Value} {s : PStmt} (h : StmtCells w cs s) : StmtCells w' cs s := by
  obtain ⟨u, t, e, h1, h2⟩ := h
  exact ⟨u, t, e, h1.same h9, h2.same h9⟩
theorem StmtsAt.keep {w w' : World} (h9 : SameT 9 w w') (h64 : SameT 67 w w') {v : Value} {l : List PStmt} (h : StmtsAt w v l) : StmtsAt w' v l := by
  obtain ⟨xss, h1, h2⟩ := h
  exact ⟨xss, h1.same h64, h2.mono fun _ _ => StmtCells.keep h9⟩
theorem BlockCells.keep {w w' : World} (h9 : SameT 9 w w') (h64 : SameT 67 w w') {cs : List Value} {b : PBlock} (h : BlockCells w cs b) : BlockCells w' cs b := by
  obtain ⟨v, e, h1⟩ := h
  exact ⟨v, e, h1.keep h9 h64⟩
theorem BlocksAt.keep {w w' : World} (h9 : SameT 9 w w') (h64 : SameT 67 w w') (h62 : SameT 53 w w') {v : Value} {l : List PBlock} (h : BlocksAt w v l) : BlocksAt w' v l := by
  obtain ⟨xss, h1, h2⟩ := h
  exact ⟨xss, h1.same h62, h2.mono fun _ _ => BlockCells.keep h9 h64⟩
theorem FuncCells.keep {w w' : World} (h9 : SameT 9 w w') (h64 : SameT 67 w w') (h62 : SameT 53 w w') {cs : List Value} {f : PFunc} (h : FuncCells w cs f) : FuncCells w' cs f := by
  obtain ⟨v, e, h1⟩ := h
  exact ⟨v, e, h1.keep h9 h64 h62⟩
theorem FuncsAt.keep {w w' : World} (h9 : SameT 9 w w') (h64 : SameT 67 w w') (h62 : SameT 53 w w') (h59 : SameT 50 w w') {v : Value} {l : List PFunc} (h : FuncsAt w v l) : FuncsAt w' v l := by
  obtain ⟨xss, h1, h2⟩ := h
  exact ⟨xss, h1.same h59, h2.mono fun _ _ => FuncCells.keep h9 h64 h62⟩

theorem But.belowB {bt B : Nat} {a w w' : World} (h : But bt a w) (k : Below B w w') (hB : a.heap.size ≤ B) : But bt a w' :=
  ⟨k.os.trans h.os, k.tape.trans h.tape, k.output.trans h.output, Nat.le_trans h.size k.size, fun i hi hn => (k.block i (by omega)).trans (h.block i hi hn)⟩
theorem SliceAt.one {w : World} {T : TypeId} {sz : Nat} {v : Value} {xs : List Value} (h : SliceAt w T sz v xs) : v.oneCell' = true := by
  obtain ⟨n, cap, h1, h2, h3, h4⟩ := h
  rcases h4 with ⟨rfl, _⟩ | ⟨b, off, c, fr, rfl, _⟩ <;> rfl
theorem all_snoc {α : Type} {p : α → Prop} {l : List α} {s : α} (h : ∀ x ∈ l, p x) (hs : p s) : ∀ x ∈ l ++ [s], p x := by
  intro x hx
  rcases List.mem_append.1 hx with hx | hx
  · exact h x hx
  · simp at hx; rw [hx]; exact hs
def noWay : Exit → Act → World → Prop := fun _ _ _ => False
def onExit (id : Nat) (X : Act → World → Prop) : Exit → Act → World → Prop
  | .exit i, a, w => i = id ∧ X a w
  | _, _, _ => False
theorem onExit_exit (id : Nat) (X : Act → World → Prop) (a : Act) (w : World) : onExit id X (.exit id) a w = (id = id ∧ X a w) := rfl
theorem But.undrew {bt n : Nat} {w w' : World} (hb : But bt (w.drewN n) w') : But bt w w' := ⟨hb.os, hb.tape, hb.output, hb.size, hb.block⟩
theorem ownsRow_but {bt base sz n : Nat} {e : TypeId} {v : Value} {xs : List Value} {w w' : World} (h : w.ownsRow base e sz v n xs) (hb : But bt w w') (hlt : bt < base) : w'.ownsRow base e sz v n xs := by
  refine ⟨h.1, ?_⟩
  rcases h.2 with hn | ⟨g, cap, cur, rfl, hg, hh, rest⟩
  · exact .inl hn
  · exact .inr ⟨g, cap, cur, rfl, hg, hb.blk hh (by omega), rest⟩

/-- What the innermost loop holds: block bb the drawn block: its name, its statements so far. -/
structure In3 (B bt bb : Nat) (F : Int) (w0 w : World) (name : Str) (l : List PStmt) : Prop where
  tape : TapeOk B w bt
  but : But bt w0 w
  ge : w0.heap.size ≤ bb
  lt : bt < w0.heap.size
  row : ∃ v xss, w.heap[bb]? = some (.cells #[sv name, v] 53 (0, 0)) ∧ w.ownsRow (bb + 1) 67 4 v l.length xss.flatten ∧ All2 (StmtCells w) xss l

theorem In3.call {B bt bb : Nat} {F : Int} {w0 w w1 : World} {name : Str} {l : List PStmt} (h : In3 B bt bb F w0 w name l) (ht : TapeOk B w1 bt) (hb' : But bt w w1) : In3 B bt bb F w0 w1 name l := by
  obtain ⟨v, xss, h1, h2, h3⟩ := h.row
  have := h.lt
  have := h.ge
  exact ⟨ht, h.but.trans hb', h.ge, h.lt, ⟨v, xss, hb'.blk h1 (by omega), ownsRow_but h2 hb' (by omega), h3.mono fun _ _ => StmtCells.keep (SameT.but hb' (by rw [h.tape.ty]; decide))⟩⟩
/-- After 'append' and the store. -/
theorem In3.push {B bt bb : Nat} {F : Int} {w0 w w1 : World} {name : Str} {l : List PStmt} (h : In3 B bt bb F w0 w name l) (s : PStmt) (cs : List Value) (hc : StmtCells w cs s)
    {v : Value} {xss : List (List Value)} (hb : w.heap[bb]? = some (.cells #[sv name, v] 53 (0, 0))) (hown : w.ownsRow (bb + 1) 67 4 v l.length xss.flatten) (hall : All2 (StmtCells w) xss l)
    {g cap : Nat} (hown1 : w1.ownsRow (bb + 1) 67 4 (.slice (some ⟨g, 0, none⟩) (l.length + 1) cap) (l.length + 1) (xss.flatten ++ cs)) (hg : w.grownBy w1 v.ownBlock) :
    In3 B bt bb F w0 (w1.setCell ⟨bb, 1, none⟩ (.slice (some ⟨g, 0, none⟩) (l.length + 1) cap)) name (l ++ [s]) := by
  have hlt := h.lt
  have hge := h.ge
  have hbb := lt_heap hb
  have hbel : Below (bb + 1) w w1 := Below.of_grown hg hown hbb
  have h9 : SameT 9 w w1 := SameT.grown hg hown (by decide)
  have hb1 : w1.heap[bb]? = some (.cells #[sv name, v] 53 (0, 0)) := (hbel.block bb (by omega)).trans hb
  have h9' : SameT 9 w (w1.setCell ⟨bb, 1, none⟩ (.slice (some ⟨g, 0, none⟩) (l.length + 1) cap)) := h9.trans (SameT.setCell (U := 53) (tyAt_of hb1) (by decide))
  have hget := h.tape.ge
  refine ⟨?_, ?_, hge, hlt, ⟨.slice (some ⟨g, 0, none⟩) (l.length + 1) cap, xss ++ [cs], ?_, ?_, ?_⟩⟩
  · have t1 : TapeOk B w1 bt := h.tape.keep (hbel.block bt (by omega)) (fun k hk => hbel.block k (by omega)) hbel.size
    exact t1.setCell (by show bb ≠ bt; omega) (by show B ≤ bb; omega) _
  · exact (h.but.belowB hbel (by omega)).setCell _ (.inr hge) _
  · simp [World.setCell, Array.getElem?_modify, hb1]
  · rw [List.length_append, List.flatten_append]
    refine ownsRow_setCell_below ?_ (by show bb < bb + 1; omega) _
    simpa using hown1
  · exact All2.append (hall.mono fun _ _ => StmtCells.keep h9') ⟨hc.keep h9', trivial⟩

set_option maxRecDepth 100000 in
set_option maxHeartbeats 1000000 in
theorem prog_round3 {B bt bb R : Nat} {F : Int} {w0 w : World} {name : Str} {l : List PStmt} {m : Nat} (iv fp K k : Value) (u : Nat → Value) (hF1 : 1 ≤ F) (hF3 : F ≤ 3) (h : In3 B bt bb F w0 w name l) (hm : l.length + (m + 1) ≤ 3) :
    progBody3.wp Tryd.prog (Exit.then (fun a' w' => (∃ s, GenBody F s ∧ a' = frP bt R F iv fp K k (.pointer (some ⟨bb, 0, none⟩)) (.int .i64 m) (slots a') ∧ In3 B bt bb F w0 w' name (l ++ [s]))) noWay) (frP bt R F iv fp K k (.pointer (some ⟨bb, 0, none⟩)) (.int .i64 ((m + 1 : Nat) : Int)) u) w := by
  obtain ⟨v, xss, hb, hown, hall⟩ := h.row
  have hlt := h.lt
  have hge := h.ge
  have H := Lib.hid h
  have HB := Lib.hid hb
  have HO := Lib.hid hown
  have HA := Lib.hid hall
  have ⟨hc, hf⟩ := blk_cells hb
  have c1 := hc 1
  have f1 := hf 1
  simp at c1
  clear h hb hown hall hc hf
  conv => arg 2; whnf
  unfold frP
  go_wp2_with fail
  go_region_law (first
      | (go_simp; go_at_call 29; go_must (refine (stmt_any (H.out.tape.drewN 1) F hF1 hF3).mono ?_; rintro e w2 ⟨s, us, ts, gs, rfl, hu, ht, tp, bu⟩; have bu := But.undrew bu; have I2 := Lib.hid (H.out.call tp bu); have HU := Lib.hid (SliceAt.one hu); have HT := Lib.hid (SliceAt.one ht); have hcs := Lib.hid (show StmtCells w2 [.int .i64 s.op, sv s.dfn, us, ts] s from ⟨us, ts, rfl, hu, ht⟩); have HO2 := Lib.hid (ownsRow_but HO.out bu (by omega)); have HB2 := Lib.hid (bu.blk HB.out (by omega)); have HA2 := Lib.hid (HA.out.mono fun _ _ => StmtCells.keep (SameT.but bu (by rw [H.out.tape.ty]; decide))); have c2 := (blk_cells HB2.out).1 1; have hsz := lt_heap HB2.out; simp only [List.getElem?_toArray, List.getElem?_cons_succ, List.getElem?_cons_zero] at c2))
      | (refine step_push [.int .i64 s.op, sv s.dfn, us, ts] rfl _ _ 51 (by rfl) (bb + 1) 67 _ 4 72 Tryd.underlying51 infoStmt rfl (by omega) _ _ _ HO2.out (by rfl) (by rfl) rfl (by simp only [List.all_cons, List.all_nil, HU.out, HT.out]; rfl) (by unfold maxLen; omega) (by omega) (by omega) ?_; intro g cap w3 hown3 hg3 g1 g2; have hb3 := Below.of_grown hg3 HO2.out (by omega); have c3 := (hb3.cell (p := ⟨bb, 1, none⟩) (by show bb < bb + 1; omega)).trans c2; have f3 := (hb3.frozen (p := ⟨bb, 1, none⟩) (by show bb < bb + 1; omega)).trans ((blk_cells HB2.out).2 1); have HO3 := Lib.hid hown3; have HG3 := Lib.hid hg3; clear hown3 hg3 hb3)
      | fail)
  all_goals
    go_wp2
    try simp only [Exit.then]
    exact ⟨s, gs, rfl, I2.out.push s _ hcs.out HB2.out HO2.out HA2.out HO3.out HG3.out⟩

def End3 (B bt bb R : Nat) (F : Int) (w0 : World) (name : Str) (iv fp K k : Value) (a : Act) (w : World) : Prop :=
  ∃ l, a = frP bt R F iv fp K k (.pointer (some ⟨bb, 0, none⟩)) (.int .i64 ((0 : Nat) : Int)) (slots a) ∧ In3 B bt bb F w0 w name l ∧ l.length ≤ 3 ∧ ∀ s ∈ l, GenBody F s

set_option maxRecDepth 100000 in
set_option maxHeartbeats 1000000 in
theorem prog_last3 {B bt bb R : Nat} {F : Int} {w0 w : World} {name : Str} {l : List PStmt} (iv fp K k : Value) (u : Nat → Value) (h : In3 B bt bb F w0 w name l) (hm : l.length ≤ 3) (hg : ∀ s ∈ l, GenBody F s) (I : Act → World → Prop) :
    progBody3.wp Tryd.prog (Exit.then I (onExit 4 (End3 B bt bb R F w0 name iv fp K k))) (frP bt R F iv fp K k (.pointer (some ⟨bb, 0, none⟩)) (.int .i64 ((0 : Nat) : Int)) u) w := by
  have H := Lib.hid h
  clear h
  conv => arg 2; whnf
  unfold frP
  go_wp2
  exact ⟨rfl, l, rfl, H.out, hm, hg⟩

theorem prog_loop3 {B bt bb R : Nat} {F : Int} {w0 w : World} {name : Str} {l : List PStmt} {m : Nat} (iv fp K k : Value) (u : Nat → Value) (hF1 : 1 ≤ F) (hF3 : F ≤ 3) (h : In3 B bt bb F w0 w name l) (hm : l.length + m ≤ 3) (hg : ∀ s ∈ l, GenBody F s) :
    (Code.loop progBody3).wp Tryd.prog (onExit 4 (End3 B bt bb R F w0 name iv fp K k)) (frP bt R F iv fp K k (.pointer (some ⟨bb, 0, none⟩)) (.int .i64 (m : Int)) u) w := by
  refine wp_loop (fun a w => ∃ (l : List PStmt) (m : Nat), a = frP bt R F iv fp K k (.pointer (some ⟨bb, 0, none⟩)) (.int .i64 (m : Int)) (slots a) ∧ In3 B bt bb F w0 w name l ∧ l.length + m ≤ 3 ∧ ∀ s ∈ l, GenBody F s) (fun a _ => (intOf (a.tmps.getD 10 undef)).toNat) ?_ ?_
  · exact ⟨l, m, rfl, h, hm, hg⟩
  · rintro a' w' ⟨l', m', ha, h', hm', hg'⟩
    rw [ha]
    generalize slots a' = u'
    cases m' with
    | zero => exact prog_last3 iv fp K k u' h' (by omega) hg' _
    | succ m' =>
      refine wp_mono (prog_round3 (R := R) iv fp K k u' hF1 hF3 h' (by omega)) ?_
      intro e a w hq
      cases e with
      | normal =>
        obtain ⟨s, hgs, ha2, h2⟩ := hq
        refine ⟨⟨l' ++ [s], m', ha2, h2, by simp; omega, all_snoc hg' hgs⟩, ?_⟩
        rw [ha2]
        show (intOf (Value.int .i64 (m' : Int))).toNat < (intOf (Value.int .i64 ((m' + 1 : Nat) : Int))).toNat
        simp [intOf]
      | _ => exact hq.elim

theorem prog_loop3' {B bt bb R : Nat} {F : Int} {w0 w : World} {name : Str} {l : List PStmt} {m : Nat} {iv fp K k : Value} {a : Act} (hF1 : 1 ≤ F) (hF3 : F ≤ 3) (h : In3 B bt bb F w0 w name l) (hm : l.length + m ≤ 3) (hg : ∀ s ∈ l, GenBody F s)
    (ha : a = frP bt R F iv fp K k (.pointer (some ⟨bb, 0, none⟩)) (.int .i64 (m : Int)) (slots a)) {Q : Exit → Act → World → Prop} (hq : ∀ a w, End3 B bt bb R F w0 name iv fp K k a w → Q (.exit 4) a w) :
    (Code.loop progBody3).wp Tryd.prog Q a w := by
  rw [ha]
  refine wp_mono (prog_loop3 iv fp K k _ hF1 hF3 h hm hg) ?_
  intro e a w h
  cases e with
  | exit i => obtain ⟨rfl, h⟩ := h; exact hq _ _ h
  | _ => exact h.elim
end Go.Proofs.YtpnfdmajpkpjoaaDoor


