/- A part of the proof. -/
import Derived.Test.YtipnhmdibkkifaaGreatDoorNu28
import Derived.Test.YtipnhmdibkkifaaGreatDoorNu31
import Derived.BigRegion
import Derived.Test.YtipnhmdibkkifaaGreatDoorNu19
import Derived.Test.YtipnhmdibkkifaaGreatDoorNu23
set_option linter.unusedVariables false
set_option linter.unusedSimpArgs false
set_option linter.unusedVariables false
set_option linter.unusedSimpArgs false
set_option linter.unusedSectionVars false
namespace Go.Proofs.YtipnhmdibkkifaaGreatDoor
open Go.RowKit
variable [Base]
theorem set1_0 {w : World} {b : Nat} {a0 : Value} {t : TypeId} {fr : Nat × Nat} (h : w.heap[b]? = some (.cells #[a0] t fr)) (x : Value) : (w.setCell ⟨b, 0, none⟩ x).heap[b]? = some (.cells #[x] t fr) := by
  simp [World.setCell, Array.getElem?_modify, h]
theorem fin_length (op : Bool) (line col : Int) (acc : List Tok) : (fin op line col acc).length ≤ acc.length + 1 := by
  unfold fin
  split <;> simp
theorem lexF_length : ∀ (n : Nat) (l : List UInt8) (line col : Int) (op : Bool) (acc : List Tok), (lexF n l line col op acc).toks.length ≤ acc.length + 2 * l.length + 1
  | 0, _, _, _, _, _ => by simp [lexF]
  | _ + 1, [], line, col, op, acc => by have := fin_length op line col acc; show (fin op line col acc).length ≤ _; simp; omega
  | n + 1, c :: r, line, col, op, acc => by
    have hf := fin_length op line col acc
    have hd := length_dropWhile_le (fun b : UInt8 => b.toNat != 10) r
    have hd2 := length_dropWhile_le partB r
    simp only [lexF]
    split
    · have := lexF_length n r line (col + 1) op acc; simp; omega
    split
    · have := lexF_length n r line (col + 1) false (fin op line col acc); simp; omega
    split
    · have := lexF_length n (r.dropWhile fun b => b.toNat != 10) line (col + 1 + ((r.takeWhile fun b => b.toNat != 10).length : Int)) false (fin op line col acc); simp at this ⊢; omega
    split
    · have := lexF_length n r (line + 1) 1 false (fin op line col acc); simp; omega
    split
    · have := lexF_length n r line (col + 1) true (acc ++ [⟨2, [61], line, col⟩]); simp at this ⊢; omega
    split
    · rename_i hp
      split
      · simp
      split
      · simp
      have he : (c :: r).dropWhile partB = r.dropWhile partB := by rw [List.dropWhile_cons, if_pos hp]
      have := lexF_length n ((c :: r).dropWhile partB) line (col + (((c :: r).takeWhile partB).length : Int)) true (acc ++ [⟨1, (c :: r).takeWhile partB, line, col⟩])
      have hl := congrArg List.length he
      rw [hl] at this
      simp at this ⊢
      omega
    · simp
theorem scanned_length (l : List UInt8) : (scanned l).toks.length ≤ 1000000 := by
  unfold scanned
  split
  · simp
  · have := lexF_length (l.length + 1) l 1 1 false []
    unfold lex
    simp at this
    omega
def PaPost (w : World) (P : Parsed) (e : Ending) (w' : World) : Prop :=
  ∃ v, e = .returned (.tuple #[.agg #[v], .int .i64 P.line, .int .i64 P.col, .int .i64 P.err]) ∧ FuncsAt w' v P.funcs ∧ Below w.heap.size w w'
theorem funcsAt_nil (w : World) : FuncsAt w (.slice none 0 0) [] := ⟨[], SliceAt.nil, trivial⟩
theorem parse_bad {w : World} (s : ByteArray) {line col err : Int} {toks : List Tok} (h : scanned s.data.toList = ⟨toks, line, col, err⟩) (he : err ≠ 0) :
    Calls Tryz.prog 14 #[.string s] w (PaPost w ⟨[], line, col, err⟩) := by
  have HS := Lib.hid h
  have hne : (err != 0) = true := by simpa using he
  clear h he
  go_enter Tryz.func14, Tryz.ntmps14
  have ba := Lib.hid ((Below.refl w.heap.size w).alloc (Nat.le_refl _) (.cells #[.slice none 0 0] 48))
  have ha : Hid ((w.alloc (.cells #[.slice none 0 0] 48)).heap[w.heap.size]? = some (.cells #[.slice none 0 0] 48 (0, 0))) := heap_alloc_new _ _
  go_wp2_with fail
  refine (scan_is s _ toks toks.length line col err HS.out rfl).mono ?_
  rintro e w1 ⟨a, c, rfl, ht, hb⟩
  have hr := Lib.hid (Below.blk hb.out ha.out)
  have hbb := Lib.hid (ba.out.trans (hb.out.mono (by simp)))
  have c0 := (blk_cells hr.out).1 0
  have cf := (blk_cells hr.out).2
  simp at c0
  clear ht hb
  go_wp2
  have ⟨gc, _⟩ := blk_cells (set1_0 hr.out (.slice none 0 0))
  refine bodyPost_ret (v := .tuple #[.agg #[.slice none 0 0], .int .i64 line, .int .i64 col, .int .i64 err]) ?_ rfl ?_
  · simp [results, Tryz.results14, go_sem, gc]
  exact ⟨_, rfl, funcsAt_nil _, hbb.out.setCell (Nat.le_refl _) _⟩
theorem sameTs_set1 {ts : List TypeId} {U : TypeId} {w : World} {R : Nat} (hR : tyAt w R = some U) (hU : U ∉ ts) (x : Value) : SameTs ts w (w.setCell ⟨R, 0, none⟩ x) := fun t hm =>
  SameT.setCell (U := U) hR (fun e => hU (e ▸ hm))
def parsedT (T : List Tok) (fs : List PFunc) (s : PS) : Parsed :=
  if s.err = 0 then ⟨fs, 0, 0, 0⟩ else ⟨[], ((T[s.at_]?).getD ⟨0, [], 0, 0⟩).line, ((T[s.at_]?).getD ⟨0, [], 0, 0⟩).col, s.err⟩
theorem parsed_of {l : List UInt8} {T : List Tok} (h : scanned l = ⟨T, 0, 0, 0⟩) {R : List PFunc × PS} (hR : loopM (isW T kFunc) (funcM T) 8 [] (if isW T kFunc ⟨0, 0⟩ = true then ⟨0, 0⟩ else PS.fail ⟨0, 0⟩ 4) = R) :
    parsed l = parsedT T R.1 (if R.2.err = 0 ∧ R.2.at_ < T.length then R.2.fail 4 else R.2) := by
  have e : progM T = (R.1, if R.2.err = 0 ∧ R.2.at_ < T.length then R.2.fail 4 else R.2) := by
    unfold progM
    dsimp only
    rw [funcsM_loop, hR]
  unfold parsed
  rw [h]
  dsimp only
  rw [e, if_neg (by decide)]
  unfold parsedT
  dsimp only
  generalize (if R.2.err = 0 ∧ R.2.at_ < T.length then R.2.fail 4 else R.2) = q
  split
  · rfl
  · cases T[q.at_]? <;> rfl
theorem exit_post {w W w' : World} {bp R : Nat} (hb : Below w.heap.size w W) (hbut : But bp W w') (hbp : w.heap.size ≤ bp) (hW : w.heap.size ≤ W.heap.size) (hR : R = w.heap.size) (x : Value) : Below w.heap.size w (w'.setCell ⟨R, 0, none⟩ x) :=
  (hb.trans (hbut.toBelow hbp hW)).setCell (by show w.heap.size ≤ R; omega) _
set_option maxRecDepth 100000 in
set_option maxHeartbeats 2000000 in
theorem parse_good {B : Nat} {w : World} (kw : KwIn B w) (hB : B ≤ w.heap.size) (s : ByteArray) {T : List Tok} (h : scanned s.data.toList = ⟨T, 0, 0, 0⟩) :
    Calls Tryz.prog 14 #[.string s] w (PaPost w (parsed s.data.toList)) := by
  have HS := Lib.hid h
  have hT := scanned_length s.data.toList
  rw [h] at hT
  dsimp only at hT
  clear h
  go_enter Tryz.func14, Tryz.ntmps14
  have ba := Lib.hid ((Below.refl w.heap.size w).alloc (Nat.le_refl _) (.cells #[.slice none 0 0] 48))
  have ha : Hid ((w.alloc (.cells #[.slice none 0 0] 48)).heap[w.heap.size]? = some (.cells #[.slice none 0 0] 48 (0, 0))) := heap_alloc_new _ _
  go_wp2_with fail
  refine (scan_is s _ T T.length 0 0 0 HS.out rfl).mono ?_
  rintro e w1 ⟨ta, tc, rfl, ht, hb⟩
  have hr := Lib.hid (Below.blk hb.out ha.out)
  have hbb := Lib.hid (ba.out.trans (hb.out.mono (by simp)))
  have hrz := lt_heap hr.out
  have O : Hid (PSt B w1.heap.size T ⟨0, 0⟩ (w1.alloc (.cells #[.slice ta T.length tc, .int .i64 0, .int .i64 0] 70))) := ⟨kw.keep (fun k hk => (Below.heap_alloc _ _ k (by omega)).trans (hbb.out.block k (by omega))), by omega, ⟨ta, tc, heap_alloc_new _ _, SliceAt.same ht.out SameT.alloc⟩, Nat.zero_le _, by decide⟩
  have HT0 := Lib.hid (SliceAt.same ht.out (SameT.alloc (o := .cells #[.slice ta T.length tc, .int .i64 0, .int .i64 0] 70)))
  have HTY0 := Lib.hid (tyAt_of (heap_alloc_new w1 (.cells #[.slice ta T.length tc, .int .i64 0, .int .i64 0] 70)) (by show Base.b ≤ w1.heap.size; have := kw.bs; omega))
  clear ht hb ba ha
  obtain ⟨W, hW⟩ : ∃ x, w1.alloc (.cells #[.slice ta T.length tc, .int .i64 0, .int .i64 0] 70) = x := ⟨_, rfl⟩
  have HW := Lib.hid hW
  have hWz : W.heap.size = w1.heap.size + 1 := by rw [← hW]; simp
  have L4 : Hid (LpL 48 74 2 B w1.heap.size w.heap.size W.heap.size (.cells #[.slice none 0 0] 48 (0, 0)) [] T W ⟨0, 0⟩ (W.alloc (.cells #[.slice none 0 0] 48)) (.slice none 0 0) 0 []) := ⟨by rw [← hW]; exact O.out.alloc _, (But.refl _ _).alloc _, by omega, by omega, by omega, Nat.le_refl _, alloc_blk _ (by rw [← hW]; exact alloc_blk _ hr.out), heap_alloc_new W _, World.ownsRow_nil _ _ _ _⟩
  have hWb : Hid (Below w.heap.size w W) := by rw [← hW]; exact hbb.out.alloc (by omega) _
  have HTK : Hid (TokensAt W (.slice ta T.length tc) T) := by rw [← hW]; exact HT0.out
  have HTY : Hid (tyAt W w1.heap.size = some 70) := by rw [← hW]; exact HTY0.out
  clear hW O hr hbb HT0 HTY0
  obtain ⟨RM, hRM⟩ : ∃ x, loopM (isW T kFunc) (funcM T) 8 [] (if isW T kFunc ⟨0, 0⟩ = true then ⟨0, 0⟩ else PS.fail ⟨0, 0⟩ 4) = x := ⟨_, rfl⟩
  have HRM := Lib.hid hRM
  clear hRM
  have I0 : Hid (LpIn FuncCells (isW T kFunc) (funcM T) 48 74 2 B w1.heap.size w.heap.size W.heap.size 8 (.cells #[.slice none 0 0] 48 (0, 0)) [] T RM W 10 (W.alloc (.cells #[.slice none 0 0] 48)) (.bool true)) := ⟨⟨0, 0⟩, .slice none 0 0, 0, [], true, rfl, L4.out, rfl, Hd.start (fun _ h => isW_err h _) HRM.out ⟨[], rfl, trivial⟩⟩
  clear L4
  go_wp2
  rw [show w1.alloc (.cells #[.slice ta T.length tc, .int .i64 0, .int .i64 0] 70) = W from HW.out]
  obtain ⟨bb, hbb⟩ : ∃ x, W.heap.size = x := ⟨_, rfl⟩
  rw [hbb] at I0 hWz
  rw [show w1.heap.size + 1 = bb from by omega]
  have HBB := Lib.hid hbb
  clear hbb
  obtain ⟨bp, hbp⟩ : ∃ x, w1.heap.size = x := ⟨_, rfl⟩
  rw [hbp] at I0 hWz hrz HTY ⊢
  clear hbp
  have hlt1 : bp < bb := by omega
  have HWS := Lib.hid hWz
  clear hWz
  go_loopg [12] 10 (fun g vb wr => Hid (LpIn FuncCells (isW T kFunc) (funcM T) 48 74 2 B bp w.heap.size bb 8 (.cells #[.slice none 0 0] 48 (0, 0)) [] T RM W g wr vb))
  case atStart => exact I0
  case round =>
    obtain ⟨s6, v, n, xs, b, rfl, l6, hgn, hd⟩ := hrel.out
    obtain ⟨va, vc, rfl⟩ := own_form l6.own
    have L6 := Lib.hid l6
    have HD := Lib.hid hd
    have hge6 := l6.ge
    have hlth := l6.lth
    have c0 := (blk_cells l6.loc).1 0
    have cf := (blk_cells l6.loc).2
    clear l6 hd hrel I0
    simp at c0
    cases b
    · obtain ⟨hr2, hok⟩ := HD.out.done
      have HR2 := Lib.hid hr2
      have HOK := Lib.hid hok
      have HPT := Lib.hid (parsed_of HS.out HRM.out)
      rw [hr2] at HPT
      clear hr2 hok HD
      obtain ⟨pa, pc, hpb, _⟩ := L6.out.p.blk
      have hle := L6.out.p.le
      have hzr := lt_heap L6.out.res
      have p1 := (blk_cells hpb).1 1
      have p2 := (blk_cells hpb).1 2
      have r0 := (blk_cells L6.out.res).1 0
      have rf := (blk_cells L6.out.res).2
      simp at p1 p2 r0
      clear hpb
      have hTK := Lib.hid (SliceAt.same HTK.out (SameT.but L6.out.but (by rw [HTY.out]; decide) (by have := L6.out.p.kw.bs; have := L6.out.p.ge; omega)))
      obtain ⟨at6, hat⟩ : ∃ x, s6.at_ = x := ⟨_, rfl⟩
      obtain ⟨er6, her⟩ : ∃ x, s6.err = x := ⟨_, rfl⟩
      obtain ⟨tn, htn⟩ : ∃ x, T.length = x := ⟨_, rfl⟩
      rw [hat] at p1 hle
      rw [her] at p2
      have HAT := Lib.hid hat
      have HER := Lib.hid her
      clear hat her htn tn
      by_cases h0 : er6 = 0
      · subst h0
        by_cases h1 : at6 < T.length
        · have h1' : (at6 : Int) < (T.length : Int) := by omega
          have hne : ((at6 : Int) == (T.length : Int)) = false := by rw [beq_eq_false_iff_ne]; omega
          go_wp2_with fail
          refine (fail_any L6.out.p 4 (by decide)).mono ?_
          rintro e v7 ⟨rfl, hp, hb⟩
          have L7 := Lib.hid (L6.out.call hp hb)
          have hTK7 := Lib.hid (SliceAt.same hTK.out (SameT.but hb (by rw [L6.out.p.ty]; decide) (by have := L6.out.p.kw.bs; have := L6.out.p.ge; omega)))
          clear hTK hp hb p1 p2 r0 rf
          have hTK := Lib.hid hTK7.out
          clear hTK7
          obtain ⟨pa7, pc7, hpb, _⟩ := L7.out.p.blk
          have hs7 : s6.fail 4 = ⟨at6, 4⟩ := by unfold PS.fail; rw [if_pos HER.out, HAT.out]
          rw [hs7] at hpb
          clear hs7
          have p1 := (blk_cells hpb).1 1
          have p2 := (blk_cells hpb).1 2
          have r0 := (blk_cells L7.out.res).1 0
          have rf := (blk_cells L7.out.res).2
          have hzr7 := lt_heap L7.out.res
          simp at p1 p2 r0
          clear hpb
          have hlt6 : at6 < T.length := by omega
          have htk : T[at6]? = some T[at6] := List.getElem?_eq_getElem hlt6
          obtain ⟨tk, htk⟩ : ∃ x, T[at6]? = some x := ⟨_, htk⟩
          have HTKN := Lib.hid htk
          obtain ⟨a', c', e1, hml, _, _, hcell⟩ := TokensAt.form hTK.out
          injection e1 with e1 e2 e3
          subst e1 e3
          obtain ⟨tb, off, rfl, htb, htyb, h4⟩ := hcell at6 tk htk
          have t2 : v7.cell? ⟨tb, off + at6 * 4 + 2, none⟩ = some (.int .i64 tk.line) := h4 2 (by omega)
          have t3 : v7.cell? ⟨tb, off + at6 * 4 + 3, none⟩ = some (.int .i64 tk.col) := h4 3 (by omega)
          clear htk h4 hcell e2
          have hneR : tb ≠ w.heap.size := by intro h; rw [h] at htyb; exact absurd (htyb _ (tyAt_of L7.out.res (by have := L7.out.p.kw.bs; have := L7.out.p.ge; have := L7.out.lt; omega))) (by decide)
          have hRbp : (bp == w.heap.size) = false := by rw [beq_eq_false_iff_ne]; omega
          have hRtb : (tb == w.heap.size) = false := by rw [beq_eq_false_iff_ne]; exact hneR
          have h63 : (at6 : Int) < (T.length : Int) := by omega
          clear htyb hneR
          go_wp2
          go_region
          go_wp2
          have ⟨gc, _⟩ := blk_cells (set1_0 L7.out.res (.slice none 0 0))
          refine bodyPost_ret (v := .tuple #[.agg #[.slice none 0 0], .int .i64 (tk.line), .int .i64 (tk.col), .int .i64 4]) ?_ rfl ?_
          · simp [results, Tryz.results14, go_sem, gc]
          have hs7 : s6.fail 4 = ⟨at6, 4⟩ := by unfold PS.fail; rw [if_pos HER.out, HAT.out]
          rw [HPT.out, if_pos ⟨HER.out, by rw [HAT.out]; exact h1⟩, hs7]
          unfold parsedT
          rw [if_neg (show ¬ (4 : Int) = 0 by decide)]
          dsimp only
          rw [HTKN.out]
          exact ⟨_, rfl, funcsAt_nil _, (exit_post hWb.out L7.out.but (by omega) (by have := HBB.out; omega) rfl _).drew⟩
        · have h1' : at6 = T.length := by omega
          subst h1'
          clear h1 hle
          go_wp2
          have ⟨gc, _⟩ := blk_cells (set1_0 L6.out.res (.slice va n vc))
          refine bodyPost_ret (v := .tuple #[.agg #[.slice va n vc], .int .i64 0, .int .i64 0, .int .i64 0]) ?_ rfl ?_
          · simp [results, Tryz.results14, go_sem, gc]
          rw [HPT.out, if_neg (by rw [HAT.out]; omega)]
          unfold parsedT
          rw [if_pos HER.out]
          have hk := sameTs_set1 (ts := [9, 118, 99, 74]) (tyAt_of L6.out.res (by have := L6.out.p.kw.bs; have := L6.out.p.ge; have := L6.out.lt; omega)) (by decide) (.slice va n vc)
          obtain ⟨xss, ex, hall⟩ := (HOK.out HER.out).mono (sameTs_func (fun t ht => hk t (List.mem_append_left [74] ht)))
          exact ⟨_, rfl, ⟨xss, by rw [← ex]; exact (SliceAt.of_owns L6.out.own).same (hk _ (by simp)), hall⟩, exit_post hWb.out L6.out.but (by omega) (by have := HBB.out; omega) rfl _⟩
      · have hE : (er6 == 0) = false := by rw [beq_eq_false_iff_ne]; exact h0
        by_cases h1 : at6 = T.length
        · subst h1
          clear hle
          go_wp2
          have hRbp : (bp == w.heap.size) = false := by rw [beq_eq_false_iff_ne]; omega
          go_region
          go_wp2
          have ⟨gc, _⟩ := blk_cells (set1_0 L6.out.res (.slice none 0 0))
          refine bodyPost_ret (v := .tuple #[.agg #[.slice none 0 0], .int .i64 (0), .int .i64 (0), .int .i64 er6]) ?_ rfl ?_
          · simp [results, Tryz.results14, go_sem, gc]
          rw [HPT.out, if_neg (by rw [HER.out]; exact fun h => h0 h.1)]
          unfold parsedT
          rw [if_neg (by rw [HER.out]; exact h0), HAT.out, HER.out, List.getElem?_eq_none (Nat.le_refl _)]
          exact ⟨_, rfl, funcsAt_nil _, (exit_post hWb.out L6.out.but (by omega) (by have := HBB.out; omega) rfl _).drew⟩
        · have hne : ((at6 : Int) == (T.length : Int)) = false := by rw [beq_eq_false_iff_ne]; omega
          have hlt6 : at6 < T.length := by omega
          have htk : T[at6]? = some T[at6] := List.getElem?_eq_getElem hlt6
          obtain ⟨tk, htk⟩ : ∃ x, T[at6]? = some x := ⟨_, htk⟩
          have HTKN := Lib.hid htk
          obtain ⟨a', c', e1, hml, _, _, hcell⟩ := TokensAt.form hTK.out
          injection e1 with e1 e2 e3
          subst e1 e3
          obtain ⟨tb, off, rfl, htb, htyb, h4⟩ := hcell at6 tk htk
          have t2 : wr.cell? ⟨tb, off + at6 * 4 + 2, none⟩ = some (.int .i64 tk.line) := h4 2 (by omega)
          have t3 : wr.cell? ⟨tb, off + at6 * 4 + 3, none⟩ = some (.int .i64 tk.col) := h4 3 (by omega)
          clear htk h4 hcell e2
          have hneR : tb ≠ w.heap.size := by intro h; rw [h] at htyb; exact absurd (htyb _ (tyAt_of L6.out.res (by have := L6.out.p.kw.bs; have := L6.out.p.ge; have := L6.out.lt; omega))) (by decide)
          have hRbp : (bp == w.heap.size) = false := by rw [beq_eq_false_iff_ne]; omega
          have hRtb : (tb == w.heap.size) = false := by rw [beq_eq_false_iff_ne]; exact hneR
          have h63 : (at6 : Int) < (T.length : Int) := by omega
          clear htyb hneR
          go_wp2
          go_region
          go_wp2
          have ⟨gc, _⟩ := blk_cells (set1_0 L6.out.res (.slice none 0 0))
          refine bodyPost_ret (v := .tuple #[.agg #[.slice none 0 0], .int .i64 (tk.line), .int .i64 (tk.col), .int .i64 er6]) ?_ rfl ?_
          · simp [results, Tryz.results14, go_sem, gc]
          rw [HPT.out, if_neg (by rw [HER.out]; exact fun h => h0 h.1)]
          unfold parsedT
          rw [if_neg (by rw [HER.out]; exact h0), HAT.out, HER.out, HTKN.out]
          exact ⟨_, rfl, funcsAt_nil _, (exit_post hWb.out L6.out.but (by omega) (by have := HBB.out; omega) rfl _).drew⟩
    · have hle := HD.out.le (by decide) (fun _ h => isW_err h _)
      go_wp2_with fail
      refine (room_any L6.out.p n 8).mono ?_
      rintro e v7 ⟨rfl, hp, hb⟩
      have e1 : (if (n : Int) = 8 then s6.fail 7 else s6) = roomS 8 n s6 := rfl
      rw [e1] at hp
      clear e1
      obtain ⟨sh, hsh⟩ : ∃ x, roomS 8 n s6 = x := ⟨_, rfl⟩
      rw [hsh] at hp
      have HSH := Lib.hid hsh
      have L7 := Lib.hid (L6.out.call hp hb)
      have K7 := Lib.hid (L6.out.same (ts := [9, 118, 99]) (by decide) hb)
      clear hp hb c0 cf hsh
      have c1 := (blk_cells L7.out.loc).1 0
      have cf := (blk_cells L7.out.loc).2
      simp at c1
      go_wp2_with fail
      refine wp_region_D (S := fun w' => w'.cell? ⟨bb, 0, none⟩ = some (.slice va n vc)) (st := 7) (by kernel_rfl) ?_
      refine wpAnyT_pure 0 ?z1 rfl (by kernel_rfl) (by kernel_rfl) (by kernel_rfl) (by kernel_rfl) (fun _ _ _ h => h) c1 rfl ?rz1 ?sz1
      case rz1 => intro w hS; go_simp; rfl
      case sz1 =>
      refine wpAnyT_pure 1 ?z2 rfl (by kernel_rfl) (by kernel_rfl) (by kernel_rfl) (by kernel_rfl) (fun _ _ _ h => h) c1 rfl ?rz2 ?sz2
      case rz2 => intro w hS; go_simp; rfl
      case sz2 =>
      refine wpAnyT_pure 2 ?z3 rfl (by kernel_rfl) (by kernel_rfl) (by kernel_rfl) (by kernel_rfl) (fun _ _ _ h => h) c1 rfl ?rz3 ?sz3
      case rz3 => intro w hS; go_simp; rfl
      case sz3 =>
      refine wpAnyT_all (rs := [3]) (by kernel_rfl) (by decide) ?_
      intro i hi
      obtain rfl : i = 3 := by simpa using hi
      clear hi
      refine wpOp_of_list rfl ?_
      go_wp2_with fail
      refine (function_any (L7.out.drewN 1).p hT).mono ?_
      rintro e v8 ⟨bv, rfl, hu, hp, hb, hc⟩
      obtain ⟨bn, hbn⟩ : ∃ x, headV T kFunc sh = x := ⟨_, rfl⟩
      rw [hbn] at hc ⊢
      clear hbn
      have hb := But.undrew hb
      have L8 := Lib.hid (L7.out.call hp hb)
      have K8 := Lib.hid (K7.out.trans (L7.out.same (ts := [9, 118, 99]) (by decide) hb))
      have HC := Lib.hid hc
      have HU := Lib.hid (show List.all [sv bn, bv] Value.oneCell' = true by simp only [List.all_cons, List.all_nil, hu]; rfl)
      clear c1 cf hp hb hc hu
      have c1 := (blk_cells L8.out.loc).1 0
      have cf := (blk_cells L8.out.loc).2
      simp at c1
      have hl8 := L8.out.lth
      go_wp2
      refine ⟨fun _ => c1, ?_⟩
      refine wpAnyT_all (rs := [4]) (by kernel_rfl) (by decide) ?_
      intro i hi
      obtain rfl : i = 4 := by simpa using hi
      clear hi
      refine wpOp_of_list rfl ?_
      have c1a := (((Below.refl v8.heap.size v8).alloc (Nat.le_refl _) (.cells #[sv bn, bv] 74)).cell (p := ⟨bb, 0, none⟩) hl8).trans c1
      go_wp2
      refine ⟨fun _ => c1a, ?_⟩
      refine wpAnyT_all (rs := [5]) (by kernel_rfl) (by decide) ?_
      intro i hi
      obtain rfl : i = 5 := by simpa using hi
      clear hi
      refine wpOp_of_list rfl ?_
      refine wpList_pushH [sv bn, bv] rfl _ _ 46 rfl (bb + 1) 74 _ 2 40 Tryz.underlying46 infoFunc rfl (by omega) _ n xs L8.out.own rfl _ rfl (by simp) rfl HU.out (by unfold maxLen; omega) (by omega) (by omega) ?_
      intro g cap w9 hown1 hg1 hg2 hg3
      have c1b := (blk_cells (L8.out.cell1 hg1)).1 0
      have cfb := (blk_cells (L8.out.cell1 hg1)).2
      simp at c1b
      have hl9 := lt_heap (L8.out.cell1 hg1)
      have L9 := Lib.hid (L8.out.push hown1 hg1 (by decide) (by decide) 0 rfl)
      have K9 := Lib.hid (L8.out.pushSame (ts := [9, 118, 99]) (by decide) (by decide) hg1 0 (.slice (some ⟨g, 0, none⟩) (n + 1) cap))
      clear hown1 hg1 c1 cf c1a
      have c1 := c1b
      have cf := cfb
      clear c1b cfb
      go_wp2
      refine ⟨fun _ => c1, ?_⟩
      refine wpAnyT_pure 6 ?z4 rfl (by kernel_rfl) (by kernel_rfl) (by kernel_rfl) (by kernel_rfl) (fun _ _ _ h => h) c1 rfl ?rz4 ?sz4
      case rz4 => intro w hS; go_simp; rfl
      case sz4 =>
      refine wpAnyT_all (rs := [7]) (by kernel_rfl) (by decide) ?_
      intro i hi
      obtain rfl : i = 7 := by simpa using hi
      clear hi
      refine wpOp_of_list rfl ?_
      go_wp2
      refine ⟨fun h => absurd rfl h, ?_⟩
      refine wpAnyT_done (by kernel_rfl) ?_ _
      clear c1 cf
      go_wp2_with fail
      refine (is_any L9.out.p kFunc).mono ?_
      rintro e v10 ⟨rfl, hp, hb⟩
      have L10 := Lib.hid (L9.out.call hp hb)
      have K10 := Lib.hid (L9.out.same (ts := [9, 118, 99]) (by decide) hb)
      clear hp hb
      obtain ⟨tb, htb⟩ : ∃ x, (isW T kFunc) ((funcM T) sh).2 = x := ⟨_, rfl⟩
      rw [show (isW T kFunc) ((funcM T sh).2) = tb from htb]
      have HTB := Lib.hid htb
      clear htb
      go_wp2
      go_roundg (gk - 1)
      case measure => omega
      case rel =>
        refine ⟨_, _, n + 1, _, tb, rfl, L10.out, by omega, .inl ⟨HTB.out.symm, ?_⟩⟩
        have st := HD.out.step (OK' := RowOK FuncCells v10 (xs ++ [sv bn, bv])) (func_no T) (fun _ h => isW_err h _) (by decide) (fun acc hok hb hr h5 => ?_)
        · rw [HSH.out] at st; exact st
        · have hsh := HSH.out
          rw [hr] at hsh
          subst hsh
          exact (hok.mono (sameTs_func ((K8.out.trans K9.out).trans K10.out))).snoc (sameTs_func (K9.out.trans K10.out) _ _ (HC.out h5))
end Go.Proofs.YtipnhmdibkkifaaGreatDoor
set_option linter.unusedVariables false
set_option linter.unusedSimpArgs false
set_option linter.unusedSectionVars false
namespace Go.Proofs.YtipnhmdibkkifaaGreatDoor
open Go.RowKit
variable [Base]
def stP : List PFunc := [⟨[109], [⟨[98], [⟨9, [], [], []⟩]⟩]⟩]
theorem stP_check : checkE stP = 0 := by kernel_rfl
theorem stP_valid : validB stP = true := by kernel_rfl
theorem stP_nodes : (nodesP stP).length = 3 := by kernel_rfl
theorem stP_succs : succsP stP = [[1], [2], []] := by kernel_rfl
theorem stP_preds : predsP stP = [[], [0], [1]] := by kernel_rfl
theorem stP_fit : ∀ f ∈ stP, ∀ b ∈ f.blocks, ∀ s ∈ b.stmts, FitS s := by
  intro f hf b hb s hs
  simp [stP] at hf
  subst hf
  simp at hb
  subst hb
  simp at hs
  subst hs
  simp [FitS]
end Go.Proofs.YtipnhmdibkkifaaGreatDoor
