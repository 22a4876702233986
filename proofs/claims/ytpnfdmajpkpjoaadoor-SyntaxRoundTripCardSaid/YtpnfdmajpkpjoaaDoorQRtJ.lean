/- Walks: the texts of a program's lines. Printed by wip/gen_rtj.py. -/
import Derived.Test.YtpnfdmajpkpjoaaDoorQSlc
import Derived.Test.YtpnfdmajpkpjoaaDoorQShf
import Derived.Lib.JoinLaws
set_option linter.unusedVariables false
set_option linter.unusedSimpArgs false
namespace Go.Proofs.YtpnfdmajpkpjoaaDoor
open Go.RowKit

def StrQ (s : Str) (w : World) (e : Ending) (w' : World) : Prop := e = .returned (sv s) ∧ Below w.heap.size w w'
theorem join_any (ls : List Str) (sep : Str) (a : Option Addr) (n c : Nat) (w : World) (hn : ls.length = n) (hN : n ≤ 1000000) (h : StrsAt w (.slice a n c) ls) (hlen : (Lib.join ls sep).length ≤ 140737488355328) :
    Calls Tryd.prog 36 #[.slice a n c, .string ⟨sep.toArray⟩] w (StrQ (Lib.join ls sep) w) := by
  cases ls with
  | nil =>
    obtain rfl : n = 0 := hn.symm
    refine (Tryd.strings_Join_none a c ⟨sep.toArray⟩ w).mono ?_
    rintro e w' ⟨rfl, rfl⟩
    exact ⟨rfl, Below.refl _ _⟩
  | cons x r =>
    obtain ⟨a1, n1, c1, e1, h1, h2, h3, _, h5⟩ := SliceAt.form h
    injection e1 with e1 e2 e3
    subst e1 e2 e3
    obtain ⟨b, off, rfl, hb, _, hc⟩ := h5 (by rw [← hn]; simp)
    have hm : ((x :: r).map fun l : Str => (⟨l.toArray⟩ : ByteArray)).map (·.data.toList) = x :: r := by
      rw [List.map_map]
      exact (List.map_congr_left fun l _ => by simp).trans (List.map_id _)
    have h6 := Tryd.strings_Join b off c ((x :: r).map fun l : Str => (⟨l.toArray⟩ : ByteArray)) ⟨sep.toArray⟩ w (fun j y hy => by
      rw [List.getElem?_map] at hy
      cases hj : (x :: r)[j]? with
      | none => simp [hj] at hy
      | some l =>
        simp [hj] at hy
        subst hy
        have hlt := (List.getElem?_eq_some_iff.1 hj).1
        rw [hc j (by simpa using hlt), List.getElem?_map, hj]
        rfl) hb (by rw [List.length_map, hn]; omega) (by rw [List.length_map, hn]; exact h3) (by rw [hm]; exact hlen)
    rw [hm, List.length_map, hn] at h6
    exact h6
/-- What the closure's calls leave: the lines so far in the captured slice; what lies below it as it was. -/
structure TxIn (w0 : World) (bo : Nat) (acc : List Str) (w : World) : Prop where
  below : Below bo w0 w
  out : ∃ a c, w.heap[bo]? = some (.cells #[.slice a acc.length c] 39 (0, 0)) ∧ w.ownsRow (bo + 1) 9 1 (.slice a acc.length c) acc.length (acc.map sv)
theorem TxIn.lt {w0 : World} {bo : Nat} {acc : List Str} {w : World} (h : TxIn w0 bo acc w) : bo < w.heap.size := by
  obtain ⟨_, _, h1, _⟩ := h.out
  exact lt_heap h1
theorem TxIn.keep {w0 : World} {bo : Nat} {acc : List Str} {w w' : World} (h : TxIn w0 bo acc w) (hb : Below w.heap.size w w') : TxIn w0 bo acc w' := by
  have hlt := h.lt
  obtain ⟨a, c, h1, h2⟩ := h.out
  exact ⟨h.below.trans (hb.mono (by omega)), a, c, (hb.block bo hlt).trans h1, ownsRow_below h2 hb⟩
def TxQ (w0 : World) (bo : Nat) (acc : List Str) (w : World) (e : Ending) (w' : World) : Prop :=
  e = .returned (.tuple #[]) ∧ TxIn w0 bo acc w' ∧ w.heap.size ≤ w'.heap.size ∧ ∀ T, T ≠ 9 → T ≠ 39 → SameT T w w'
theorem set1 {w : World} {b : Nat} {a0 : Value} {t : TypeId} {fr : Nat × Nat} (h : w.heap[b]? = some (.cells #[a0] t fr)) (x : Value) : (w.setCell ⟨b, 0, none⟩ x).heap[b]? = some (.cells #[x] t fr) := by
  simp [World.setCell, Array.getElem?_modify, h]

set_option maxHeartbeats 1000000 in
theorem texts1_any {w0 : World} {bo : Nat} {acc : List Str} {w : World} (h : TxIn w0 bo acc w) (ws : List Str) (a : Option Addr) (n c : Nat) (hn : ws.length = n) (hN : n ≤ 1000000) (hw : StrsAt w (.slice a n c) ws) (hlen : (Lib.join ws [32]).length ≤ 1000000) (hacc : acc.length ≤ 1000000) :
    Calls Tryd.prog 57 #[.slice a n c, .pointer (some ⟨bo, 0, none⟩)] w (TxQ w0 bo (acc ++ [Lib.join ws [32]]) w) := by
  obtain ⟨oa, oc, hout, hown⟩ := h.out
  have H := Lib.hid h
  have hlt := lt_heap hout
  obtain ⟨m, hm⟩ : ∃ m, acc.length = m := ⟨_, rfl⟩
  rw [hm] at hout hown hacc
  have HM := Lib.hid hm
  have OW := Lib.hid hown
  have HO := Lib.hid hout
  have c1 : w.cell? ⟨bo, 0, none⟩ = some (.slice oa m oc) := by have := (blk_cells hout).1 0; simpa using this
  obtain ⟨x, hx⟩ : ∃ x, Lib.join ws [32] = x := ⟨_, rfl⟩
  have J := Lib.hid (fun k => join_any ws [32] a n c (w.drewN k) hn hN hw (by omega))
  rw [hx] at J hlen ⊢
  clear h hm hown hout hw hx
  go_enter Tryd.func57, Tryd.ntmps57
  go_wp2_with fail
  refine wp_region_D (S := fun w' => w'.cell? ⟨bo, 0, none⟩ = some (.slice oa m oc)) (st := 5) (by kernel_rfl) ?_
  refine wpAnyT_pure 0 ?z1 rfl (by kernel_rfl) (by kernel_rfl) (by kernel_rfl) (by kernel_rfl) (fun _ _ _ h => h) c1 rfl ?rz1 ?sz1
  case rz1 => intro w hS; go_simp; rfl
  case sz1 =>
  refine wpAnyT_pure 1 ?z2 rfl (by kernel_rfl) (by kernel_rfl) (by kernel_rfl) (by kernel_rfl) (fun _ _ _ h => h) c1 rfl ?rz2 ?sz2
  case rz2 => intro w hS; go_simp; rfl
  case sz2 =>
  refine wpAnyT_all (rs := [2]) (by kernel_rfl) (by decide) ?_
  intro i hi
  obtain rfl : i = 2 := by simpa using hi
  clear hi
  refine wpOp_of_list rfl ?_
  go_wp2_with fail
  refine (J.out 1).mono ?_
  rintro e w2 ⟨rfl, b2⟩
  have B2 : Hid (Below w.heap.size w w2) := ⟨b2.os, b2.tape, b2.output, b2.size, b2.block⟩
  clear b2 c1
  have c1 : w2.cell? ⟨bo, 0, none⟩ = some (.slice oa m oc) := by have := (blk_cells ((B2.out.block bo hlt).trans HO.out)).1 0; simpa using this
  have hlt2 : bo < w2.heap.size := Nat.lt_of_lt_of_le hlt B2.out.size
  go_wp2
  refine ⟨fun _ => c1, ?_⟩
  refine wpAnyT_all (rs := [3]) (by kernel_rfl) (by decide) ?_
  intro i hi
  obtain rfl : i = 3 := by simpa using hi
  clear hi
  refine wpOp_of_list rfl ?_
  have c1a : (w2.alloc (.cells #[sv x] 9)).cell? ⟨bo, 0, none⟩ = some (.slice oa m oc) := (((Below.refl w2.heap.size w2).alloc (Nat.le_refl _) _).cell (p := ⟨bo, 0, none⟩) hlt2).trans c1
  go_wp2
  refine ⟨fun _ => c1a, ?_⟩
  refine wpAnyT_all (rs := [4]) (by kernel_rfl) (by decide) ?_
  intro i hi
  obtain rfl : i = 4 := by simpa using hi
  clear hi
  refine wpOp_of_list rfl ?_
  refine wpList_pushH [sv x] rfl _ _ 39 rfl (bo + 1) 9 _ 1 16 Tryd.underlying39 info_str rfl (by omega) _ m _ (ownsRow_below OW.out B2.out) rfl _ rfl (by simp) rfl rfl (by unfold maxLen; omega) (by omega) (by omega) ?_
  intro g cap w3 own3 g1 g2 g3
  have OW2 := Lib.hid (ownsRow_below OW.out B2.out)
  have B3 := Lib.hid (Below.of_grown g1 OW2.out (by omega))
  have OW3 := Lib.hid own3
  have hb3 := Lib.hid ((B3.out.block bo (Nat.lt_succ_self _)).trans ((B2.out.block bo hlt).trans HO.out))
  have S3 : Hid (∀ T, T ≠ 9 → SameT T w2 w3) := fun T hT => SameT.grown g1 OW2.out hT
  have hz3 := Nat.le_trans B2.out.size g1.size
  clear own3 g1 g2 g3 c1 c1a
  have c1 : w3.cell? ⟨bo, 0, none⟩ = some (.slice oa m oc) := by have := (blk_cells hb3.out).1 0; simpa using this
  have cf := (blk_cells hb3.out).2 0
  go_wp2
  refine ⟨fun _ => c1, ?_⟩
  refine wpAnyT_all (rs := [5]) (by kernel_rfl) (by decide) ?_
  intro i hi
  obtain rfl : i = 5 := by simpa using hi
  clear hi
  refine wpOp_of_list rfl ?_
  go_wp2
  refine ⟨fun h => absurd rfl h, ?_⟩
  refine wpAnyT_done (by kernel_rfl) ?_ _
  clear c1 cf
  go_wp2
  go_end0
  refine ⟨rfl, ⟨?_, some ⟨g, 0, none⟩, cap, ?_, ?_⟩, by simpa using hz3, fun T h1 h2 => ?_⟩
  · exact ((H.out.below.trans (B2.out.mono (by omega))).trans (B3.out.mono (by omega))).setCell (by show bo ≤ bo; omega) _
  · rw [List.length_append, HM.out]
    have := set1 hb3.out (.slice (some ⟨g, 0, none⟩) (m + 1) cap)
    exact this
  · rw [List.length_append, List.map_append, HM.out]
    exact ownsRow_setCell_below OW3.out (by show bo < bo + 1; omega) _
  · exact ((SameT.below B2.out).trans (S3.out T h1)).trans (SameT.setCell (U := 39) (tyAt_of hb3.out) h2)
end Go.Proofs.YtpnfdmajpkpjoaaDoor

/- Walk: the program's 'lines', called with the closure of 'texts'. Printed by wip/gen_rtl.py. -/
namespace Go.Proofs.YtpnfdmajpkpjoaaDoor
open Go.RowKit

theorem join2 (x y : Str) : Lib.join [x, y] [32] = x ++ (32 :: y) := by rw [Lib.join_cons]; simp [Lib.joinTail]
theorem join_line (l : List KT) : Lib.join (l.map Prod.snd) [32] = joinL l := by
  cases l with
  | nil => rfl
  | cons t ws =>
    rw [List.map_cons, Lib.join_cons]
    unfold joinL Lib.joinTail
    rw [List.map_map]
    rfl
theorem join_words (s : PStmt) : Lib.join (wordsS s) [32] = lineT s := by
  unfold wordsS
  rw [join_line, stmtL_join]
theorem wordsS_len {s : PStmt} (h : stmtB s = true) : (wordsS s).length ≤ 1000 := by
  unfold stmtB namesB at h
  simp only [Bool.and_eq_true, decide_eq_true_eq] at h
  unfold wordsS stmtL
  repeat' split
  all_goals
    simp
    try omega
/-- What the loops of 'lines' hold. -/
structure LxIn (w0 : World) (bo : Nat) (w : World) (acc rest all : List Str) : Prop where
  tx : TxIn w0 bo acc w
  eq : all = acc ++ rest
def LxQ (w0 : World) (bo : Nat) (w : World) (acc rest all : List Str) (e : Ending) (w' : World) : Prop :=
  e = .returned (.tuple #[]) ∧ LxIn w0 bo w' acc rest all ∧ w.heap.size ≤ w'.heap.size ∧ ∀ T, T ≠ 9 → T ≠ 39 → SameT T w w'
theorem LxIn.push {w0 w w1 : World} {bo : Nat} {acc rest all : List Str} {x : Str} (h : LxIn w0 bo w acc (x :: rest) all) (hb : Below w.heap.size w w1) {ws : List Str} (hx : Lib.join ws [32] = x) {a : Option Addr} {n c : Nat} (hn : ws.length = n) (hN : n ≤ 1000000) (hw : StrsAt w1 (.slice a n c) ws) (hl : x.length ≤ 1000000) (hac : acc.length ≤ 4240) :
    Calls Tryd.prog 57 #[.slice a n c, .pointer (some ⟨bo, 0, none⟩)] w1 (LxQ w0 bo w1 (acc ++ [x]) rest all) := by
  refine (texts1_any (h.tx.keep hb) ws a n c hn hN hw (by rw [hx]; exact hl) (by omega)).mono ?_
  rintro e w' ⟨he, ht, hz, hS⟩
  rw [hx] at ht
  exact ⟨he, ⟨ht, by rw [h.eq]; simp⟩, hz, hS⟩
theorem strs_new2 {w : World} (o : Obj) (l : List Str) (hn : l.length ≤ maxLen) : StrsAt ((w.alloc o).alloc (.cells (l.map sv).toArray 9)) (.slice (some ⟨w.heap.size + 1, 0, none⟩) l.length l.length) l := by
  have h := SliceAt.new (w := w.alloc o) (T := 9) (sz := 1) (l.map sv) l.length (by simp) hn
  rw [World.size_alloc] at h
  exact h
theorem LxIn.push2 {w0 w : World} {bo : Nat} {acc rest all : List Str} {x : Str} (h : LxIn w0 bo w acc (x :: rest) all) (k name : Str) (o : Obj) (hac : acc.length ≤ 4240) (hl : x.length ≤ 1000000) (hx : k ++ (32 :: name) = x) :
    Calls Tryd.prog 57 #[.slice (some ⟨w.heap.size + 1, 0, none⟩) 2 2, .pointer (some ⟨bo, 0, none⟩)] ((w.alloc o).alloc (.cells #[sv k, sv name] 9)) (LxQ w0 bo ((w.alloc o).alloc (.cells #[sv k, sv name] 9)) (acc ++ [x]) rest all) := by
  exact h.push (((Below.refl _ _).alloc (Nat.le_refl _) _).alloc (by simp) _) ((join2 k name).trans hx) rfl (by decide) (strs_new2 o [k, name] (by unfold maxLen; simp)) hl hac
theorem LxIn.push1 {w0 w : World} {bo : Nat} {acc rest all : List Str} {x : Str} (h : LxIn w0 bo w acc (x :: rest) all) (hac : acc.length ≤ 4240) (hl : x.length ≤ 1000000) :
    Calls Tryd.prog 57 #[.slice (some ⟨w.heap.size, 0, none⟩) 1 1, .pointer (some ⟨bo, 0, none⟩)] (w.alloc (.cells #[sv x] 9)) (LxQ w0 bo (w.alloc (.cells #[sv x] 9)) (acc ++ [x]) rest all) :=
  h.push ((Below.refl _ _).alloc (Nat.le_refl _) _) (Lib.join_one x [32]) rfl (by decide) (SliceAt.new (w := w) (T := 9) (sz := 1) [sv x] 1 rfl (by decide)) hl hac
theorem LxIn.pushS {w0 w w1 : World} {bo : Nat} {acc rest all : List Str} {s : PStmt} (h : LxIn w0 bo w acc (lineT s :: rest) all) (hb : Below w.heap.size w w1) (hs : stmtB s = true) {a : Option Addr} {c : Nat} (hw : StrsAt w1 (.slice a (wordsS s).length c) (wordsS s)) (hac : acc.length ≤ 4240) :
    Calls Tryd.prog 57 #[.slice a (wordsS s).length c, .pointer (some ⟨bo, 0, none⟩)] w1 (LxQ w0 bo w1 (acc ++ [lineT s]) rest all) :=
  h.push hb (join_words s) rfl (by have := wordsS_len hs; omega) hw (by have := lineT_bound hs; omega) hac
def LinesQ (w0 : World) (bo : Nat) (p : List PFunc) (e : Ending) (w' : World) : Prop := e = .returned (.tuple #[]) ∧ TxIn w0 bo (linesT p) w'
set_option maxRecDepth 100000 in
set_option maxHeartbeats 4000000 in
theorem plines_any (p : List PFunc) (v : Value) {w0 w : World} {bo : Nat} (h : FuncsAt w0 v p) (hv : validB p = true) (hbo : w0.heap.size ≤ bo) (hT : TxIn w0 bo [] w) :
    Calls Tryd.prog 56 #[.agg #[v], .func (.func 57) #[] #[.pointer (some ⟨bo, 0, none⟩)]] w (LinesQ w0 bo p) := by
  obtain ⟨a, c, rfl, hn, hc⟩ := h.cell
  obtain ⟨_, hp8, hfs⟩ := validB_parts hv
  have HC := Lib.hid hc
  have HFS := Lib.hid hfs
  have HLN := Lib.hid (linesT_len hv)
  obtain ⟨n, hl⟩ : ∃ n, p.length = n := ⟨_, rfl⟩
  rw [hl] at hn hp8 ⊢
  have HL := Lib.hid hl
  have I0 : Hid (LxIn w0 bo (w.alloc (.cells #[.slice a n c] 34)) [] (linesT p) (linesT p)) := ⟨hT.keep ((Below.refl _ _).alloc (Nat.le_refl _) _), rfl⟩
  clear hc h hl hn hv hfs hT
  go_enter Tryd.func56, Tryd.ntmps56
  go_wp2
  go_loopw [13] (fun x wr => ∃ (i : Nat) (acc : List Str), i ≤ n ∧ x = .int .i64 i ∧ Hid (LxIn w0 bo wr acc (linesT (p.drop i)) (linesT p))) (fun x _ => n - (intOf x).toNat)
  case atStart => exact ⟨0, [], Nat.zero_le _, rfl, I0⟩
  case round =>
    obtain ⟨i, acc, hi, rfl, I⟩ := hrel
    clear I0
    have hac : acc.length ≤ 4240 := by have h1 := congrArg List.length I.out.eq; rw [List.length_append] at h1; have := HLN.out; omega
    have hwz := I.out.tx.lt
    by_cases hlt : i < n
    · obtain ⟨f, hf⟩ : ∃ f, p[i]? = some f := ⟨_, List.getElem?_eq_getElem (show i < p.length by have := HL.out; omega)⟩
      obtain ⟨fb, off, bv, rfl, hfb, g0, g1, hbl⟩ := HC.out i f hf
      have HFB := Lib.hid (HFS.out f (List.mem_of_getElem? hf))
      have hnl := nameB_short (funcB_parts HFB.out).1
      have HB := Lib.hid I.out.tx.below
      have g0 := (HB.out.cell (p := ⟨fb, off + i * 2, none⟩) (by show fb < bo; omega)).trans g0
      have g1 := (HB.out.cell (p := ⟨fb, off + i * 2 + 1, none⟩) (by show fb < bo; omega)).trans g1
      have I1 : Hid (LxIn w0 bo wr acc (([102, 117, 110, 99, 32] ++ f.name) :: ((f.blocks.map blockLines).flatten ++ ([101, 110, 100] :: linesT (p.drop (i + 1))))) (linesT p)) := by
        unfold Hid; rw [← lines_funcs p i f hf]; exact I.out
      obtain ⟨ba, bc, rfl, hbn, hbc⟩ := hbl.cell
      have HBC := Lib.hid hbc
      obtain ⟨bn, hbl2⟩ : ∃ n, f.blocks.length = n := ⟨_, rfl⟩
      rw [hbl2] at hbn g1
      unfold maxLen at hbn
      have HBL := Lib.hid hbl2
      have hfw : fb < wr.heap.size := by omega
      clear hf hbl hbc hbl2 I HB
      have K1 := Lib.hid (I1.out.push2 [102, 117, 110, 99] f.name (.cells #[sv f.name, .slice ba bn bc] 50) hac (by simp; omega) rfl)
      have hbx : Hid (((wr.alloc (.cells #[sv f.name, .slice ba bn bc] 50)).alloc (.cells #[sv [102, 117, 110, 99], sv f.name] 9)).heap[wr.heap.size]? = some (.cells #[sv f.name, .slice ba bn bc] 50 (0, 0))) := alloc_blk _ (heap_alloc_new _ _)
      go_wp2_with fail
      refine K1.out.mono ?_
      rintro e w5 ⟨rfl, I2, hz5, hS5⟩
      have I2 := Lib.hid I2
      have hbx5 := hS5 50 (by decide) (by decide) _ _ _ hbx.out
      have x1 := (blk_cells hbx5).1 1
      simp at x1
      clear hS5 hbx5 hbx g0 g1 K1 I1
      go_wp2
      clear x1
      obtain ⟨wo, rfl⟩ : ∃ wo : World, wo = w5 := ⟨_, rfl⟩
      go_loopw [25] (fun x wi => ∃ (k : Nat) (acc : List Str), k ≤ bn ∧ x = .int .i64 k ∧ Hid (LxIn w0 bo wi acc (((f.blocks.drop k).map blockLines).flatten ++ ([101, 110, 100] :: linesT (p.drop (i + 1)))) (linesT p))) (fun x _ => bn - (intOf x).toNat)
      case atStart => exact ⟨0, _, Nat.zero_le _, rfl, I2⟩
      case round =>
        obtain ⟨k, acc, hk, rfl, I⟩ := hrel
        clear I2
        have hac : acc.length ≤ 4240 := by have h1 := congrArg List.length I.out.eq; rw [List.length_append] at h1; have := HLN.out; omega
        have hwz := I.out.tx.lt
        by_cases hlt2 : k < bn
        · obtain ⟨b, hb⟩ : ∃ b, f.blocks[k]? = some b := ⟨_, List.getElem?_eq_getElem (show k < f.blocks.length by have := HBL.out; omega)⟩
          obtain ⟨kb, koff, sv1, rfl, hkb, k0, k1, hsl⟩ := HBC.out k b hb
          have HB := Lib.hid I.out.tx.below
          have k0 := (HB.out.cell (p := ⟨kb, koff + k * 2, none⟩) (by show kb < bo; omega)).trans k0
          have k1 := (HB.out.cell (p := ⟨kb, koff + k * 2 + 1, none⟩) (by show kb < bo; omega)).trans k1
          have HBB := Lib.hid ((funcB_parts HFB.out).2.2.2 b (List.mem_of_getElem? hb))
          have hnl2 := nameB_short (blockB_parts HBB.out).1
          have I1 : Hid (LxIn w0 bo wr acc (([98, 108, 111, 99, 107, 32] ++ b.name) :: (b.stmts.map lineT ++ (((f.blocks.drop (k + 1)).map blockLines).flatten ++ ([101, 110, 100] :: linesT (p.drop (i + 1)))))) (linesT p)) := by
            have h1 := I.out
            rw [lines_blocks f k b hb] at h1
            unfold Hid
            simpa using h1
          obtain ⟨sa, sc, rfl, hsn, hsc⟩ := hsl.cell
          have HSC := Lib.hid hsc
          obtain ⟨sn, hsl2⟩ : ∃ n, b.stmts.length = n := ⟨_, rfl⟩
          rw [hsl2] at hsn k1
          unfold maxLen at hsn
          have HSL := Lib.hid hsl2
          have hkw : kb < wr.heap.size := by omega
          clear hb hsl hsc hsl2 I HB
          have K1 := Lib.hid (I1.out.push2 [98, 108, 111, 99, 107] b.name (.cells #[sv b.name, .slice sa sn sc] 53) hac (by simp; omega) rfl)
          have hbx : Hid (((wr.alloc (.cells #[sv b.name, .slice sa sn sc] 53)).alloc (.cells #[sv [98, 108, 111, 99, 107], sv b.name] 9)).heap[wr.heap.size]? = some (.cells #[sv b.name, .slice sa sn sc] 53 (0, 0))) := alloc_blk _ (heap_alloc_new _ _)
          go_wp2_with fail
          refine K1.out.mono ?_
          rintro e w6 ⟨rfl, I2, hz5, hS5⟩
          have I2 := Lib.hid I2
          have hbx5 := hS5 53 (by decide) (by decide) _ _ _ hbx.out
          have x1 := (blk_cells hbx5).1 1
          simp at x1
          clear hS5 hbx5 hbx k0 k1 K1 I1
          go_wp2
          clear x1
          obtain ⟨wo2, rfl⟩ : ∃ wo : World, wo = w6 := ⟨_, rfl⟩
          go_loopw [37] (fun x wi => ∃ (j : Nat) (acc : List Str), j ≤ sn ∧ x = .int .i64 j ∧ Hid (LxIn w0 bo wi acc ((b.stmts.drop j).map lineT ++ (((f.blocks.drop (k + 1)).map blockLines).flatten ++ ([101, 110, 100] :: linesT (p.drop (i + 1))))) (linesT p))) (fun x _ => sn - (intOf x).toNat)
          case atStart => exact ⟨0, _, Nat.zero_le _, rfl, I2⟩
          case round =>
            obtain ⟨j, acc, hj, rfl, I⟩ := hrel
            clear I2
            have hac : acc.length ≤ 4240 := by have h1 := congrArg List.length I.out.eq; rw [List.length_append] at h1; have := HLN.out; omega
            have hwz := I.out.tx.lt
            by_cases hlt3 : j < sn
            · obtain ⟨s, hs⟩ : ∃ s, b.stmts[j]? = some s := ⟨_, List.getElem?_eq_getElem (show j < b.stmts.length by have := HSL.out; omega)⟩
              obtain ⟨jb, joff, su, tu, rfl, hjb, g0, g1, g2, g3, hsu, htu⟩ := HSC.out j s hs
              have HB := Lib.hid I.out.tx.below
              have g0 := (HB.out.cell (p := ⟨jb, joff + j * 4, none⟩) (by show jb < bo; omega)).trans g0
              have g1 := (HB.out.cell (p := ⟨jb, joff + j * 4 + 1, none⟩) (by show jb < bo; omega)).trans g1
              have g2 := (HB.out.cell (p := ⟨jb, joff + j * 4 + 2, none⟩) (by show jb < bo; omega)).trans g2
              have g3 := (HB.out.cell (p := ⟨jb, joff + j * 4 + 3, none⟩) (by show jb < bo; omega)).trans g3
              have I1 : Hid (LxIn w0 bo wr acc (lineT s :: ((b.stmts.drop (j + 1)).map lineT ++ (((f.blocks.drop (k + 1)).map blockLines).flatten ++ ([101, 110, 100] :: linesT (p.drop (i + 1)))))) (linesT p)) := by
                have h1 := I.out
                rw [lines_map b j s hs] at h1
                exact h1
              have hsb := (blockB_parts HBB.out).2.2.2 s (List.mem_of_getElem? hs)
              obtain ⟨sua, suc, rfl, -, -⟩ := hsu.cell
              obtain ⟨tua, tuc, rfl, -, -⟩ := htu.cell
              have hjw : jb < wr.heap.size := by omega
              have K1 := Lib.hid (words5_any hsb _ _ (wr.alloc (.cells #[.int .i64 s.op, sv s.dfn, .slice sua s.uses.length suc, .slice tua s.targets.length tuc] 67)) (SliceAt.same hsu (SameT.below (HB.out.mono hbo |>.alloc (by omega) _))) (SliceAt.same htu (SameT.below (HB.out.mono hbo |>.alloc (by omega) _))))
              have HSB := Lib.hid hsb
              clear hs hsu htu I HB hsb
              go_wp2_with fail
              refine K1.out.mono ?_
              rintro e w7 ⟨a7, c7, rfl, hs7, hb7⟩
              have K2 := Lib.hid (I1.out.pushS (((Below.refl wr.heap.size wr).alloc (Nat.le_refl _) _).trans (hb7.mono (by simp))) HSB.out hs7 hac)
              clear hb7 hs7 K1 I1 g0 g1 g2 g3
              go_wp2_with fail
              refine K2.out.mono ?_
              rintro e w8 ⟨rfl, I2, hz5, hS5⟩
              have I2 := Lib.hid I2
              clear hS5 K2
              go_wp2
              go_roundw
              case rel => exact ⟨j + 1, _, by omega, by go_num, I2⟩
              case measure => simp [intOf]; omega
            · have I2 : Hid (LxIn w0 bo wr acc (((f.blocks.drop (k + 1)).map blockLines).flatten ++ ([101, 110, 100] :: linesT (p.drop (i + 1)))) (linesT p)) := by
                have h1 := I.out
                rw [List.drop_of_length_le (by have := HSL.out; omega)] at h1
                exact h1
              clear I
              go_wp2
              go_roundw
              case rel => exact ⟨k + 1, acc, by omega, by go_num, I2⟩
              case measure => simp [intOf]; omega
        · have I1 : Hid (LxIn w0 bo wr acc ([101, 110, 100] :: linesT (p.drop (i + 1))) (linesT p)) := by
            have h1 := I.out
            rw [List.drop_of_length_le (by have := HBL.out; omega)] at h1
            exact h1
          have K1 := Lib.hid (I1.out.push1 hac (by decide))
          clear I I1
          go_wp2_with fail
          refine K1.out.mono ?_
          rintro e w6 ⟨rfl, I2, hz5, hS5⟩
          have I2 := Lib.hid I2
          clear hS5 K1
          go_wp2
          go_roundw
          case rel => exact ⟨i + 1, _, by omega, by go_num, I2⟩
          case measure => simp [intOf]; omega
    · have e := I.out.eq
      rw [List.drop_of_length_le (by have := HL.out; omega)] at e
      have E : Hid (linesT p = acc) := by unfold Hid; rw [e]; simp [linesT]
      have T := Lib.hid I.out.tx
      clear e I
      go_wp2
      go_end0
      refine ⟨rfl, ?_⟩
      rw [E.out]
      exact T.out
end Go.Proofs.YtpnfdmajpkpjoaaDoor

