/- A part of the proof. -/
import Derived.Test.YtipnhmdibkkifaaGreatDoorNu22
import Derived.Test.YtipnhmdibkkifaaGreatDoorNu09
set_option linter.unusedVariables false
set_option linter.unusedSimpArgs false
set_option linter.unusedVariables false
set_option linter.unusedSimpArgs false
set_option linter.unusedSectionVars false
namespace Go.Proofs.YtipnhmdibkkifaaGreatDoor
open Go.RowKit
variable [Base]
theorem join2 (x y : Str) : Lib.join [x, y] [32] = x ++ (32 :: y) := by rw [Lib.join_cons]; simp [Lib.joinTail]
theorem join_line (l : List KT) : Lib.join (l.map Prod.snd) [32] = joinL l := by
  cases l with
  | nil => rfl
  | cons t ws =>
    rw [List.map_cons, Lib.join_cons]
    unfold joinL Lib.joinTail
    rw [List.map_map]
    rfl
theorem join_words (s : PStmt) : Lib.join (wordsS s) [32] = lineT s := by
  unfold wordsS
  rw [join_line, stmtL_join]
theorem wordsS_len {s : PStmt} (h : stmtB s = true) : (wordsS s).length ≤ 1000 := by
  unfold stmtB namesB at h
  simp only [Bool.and_eq_true, decide_eq_true_eq] at h
  unfold wordsS stmtL
  repeat' split
  all_goals
    simp
    try omega
structure LxIn (w0 : World) (bo : Nat) (w : World) (acc rest all : List Str) : Prop where
  tx : TxIn w0 bo acc w
  eq : all = acc ++ rest
def LxQ (w0 : World) (bo : Nat) (w : World) (acc rest all : List Str) (e : Ending) (w' : World) : Prop :=
  e = .returned (.tuple #[]) ∧ LxIn w0 bo w' acc rest all ∧ w.heap.size ≤ w'.heap.size ∧ ∀ T, T ≠ 9 → T ≠ 30 → SameT T w w'
theorem LxIn.push {w0 w w1 : World} {bo : Nat} {acc rest all : List Str} {x : Str} (h : LxIn w0 bo w acc (x :: rest) all) (hb : Below w.heap.size w w1) {ws : List Str} (hx : Lib.join ws [32] = x) {a : Option Addr} {n c : Nat} (hn : ws.length = n) (hN : n ≤ 1000000) (hw : StrsAt w1 (.slice a n c) ws) (hl : x.length ≤ 1000000) (hac : acc.length ≤ 4240) :
    Calls Tryz.prog 85 #[.slice a n c, .pointer (some ⟨bo, 0, none⟩)] w1 (LxQ w0 bo w1 (acc ++ [x]) rest all) := by
  refine (texts1_any (h.tx.keep hb) ws a n c hn hN hw (by rw [hx]; exact hl) (by omega)).mono ?_
  rintro e w' ⟨he, ht, hz, hS⟩
  rw [hx] at ht
  exact ⟨he, ⟨ht, by rw [h.eq]; simp⟩, hz, hS⟩
theorem strs_new2 {w : World} (o : Obj) (l : List Str) (hn : l.length ≤ maxLen) : StrsAt ((w.alloc o).alloc (.cells (l.map sv).toArray 9)) (.slice (some ⟨w.heap.size + 1, 0, none⟩) l.length l.length) l := by
  have h := SliceAt.new (w := w.alloc o) (T := 9) (sz := 1) (l.map sv) l.length (by simp) hn
  rw [World.size_alloc] at h
  exact h
theorem LxIn.push2 {w0 w : World} {bo : Nat} {acc rest all : List Str} {x : Str} (h : LxIn w0 bo w acc (x :: rest) all) (k name : Str) (o : Obj) (hac : acc.length ≤ 4240) (hl : x.length ≤ 1000000) (hx : k ++ (32 :: name) = x) :
    Calls Tryz.prog 85 #[.slice (some ⟨w.heap.size + 1, 0, none⟩) 2 2, .pointer (some ⟨bo, 0, none⟩)] ((w.alloc o).alloc (.cells #[sv k, sv name] 9)) (LxQ w0 bo ((w.alloc o).alloc (.cells #[sv k, sv name] 9)) (acc ++ [x]) rest all) := by
  exact h.push (((Below.refl _ _).alloc (Nat.le_refl _) _).alloc (by simp) _) ((join2 k name).trans hx) rfl (by decide) (strs_new2 o [k, name] (by unfold maxLen; simp)) hl hac
theorem LxIn.push1 {w0 w : World} {bo : Nat} {acc rest all : List Str} {x : Str} (h : LxIn w0 bo w acc (x :: rest) all) (hac : acc.length ≤ 4240) (hl : x.length ≤ 1000000) :
    Calls Tryz.prog 85 #[.slice (some ⟨w.heap.size, 0, none⟩) 1 1, .pointer (some ⟨bo, 0, none⟩)] (w.alloc (.cells #[sv x] 9)) (LxQ w0 bo (w.alloc (.cells #[sv x] 9)) (acc ++ [x]) rest all) :=
  h.push ((Below.refl _ _).alloc (Nat.le_refl _) _) (Lib.join_one x [32]) rfl (by decide) (SliceAt.new (w := w) (T := 9) (sz := 1) [sv x] 1 rfl (by decide)) hl hac
theorem LxIn.pushS {w0 w w1 : World} {bo : Nat} {acc rest all : List Str} {s : PStmt} (h : LxIn w0 bo w acc (lineT s :: rest) all) (hb : Below w.heap.size w w1) (hs : stmtB s = true) {a : Option Addr} {c : Nat} (hw : StrsAt w1 (.slice a (wordsS s).length c) (wordsS s)) (hac : acc.length ≤ 4240) :
    Calls Tryz.prog 85 #[.slice a (wordsS s).length c, .pointer (some ⟨bo, 0, none⟩)] w1 (LxQ w0 bo w1 (acc ++ [lineT s]) rest all) :=
  h.push hb (join_words s) rfl (by have := wordsS_len hs; omega) hw (by have := lineT_bound hs; omega) hac
def LinesQ (w0 : World) (bo : Nat) (p : List PFunc) (e : Ending) (w' : World) : Prop := e = .returned (.tuple #[]) ∧ TxIn w0 bo (linesT p) w'
set_option maxRecDepth 100000 in
set_option maxHeartbeats 4000000 in
theorem plines_any (p : List PFunc) (v : Value) {w0 w : World} {bo : Nat} (h : FuncsAt w0 v p) (hv : validB p = true) (hbo : w0.heap.size ≤ bo) (hT : TxIn w0 bo [] w) :
    Calls Tryz.prog 84 #[.agg #[v], .func (.func 85) #[] #[.pointer (some ⟨bo, 0, none⟩)]] w (LinesQ w0 bo p) := by
  obtain ⟨a, c, rfl, hn, hc⟩ := h.cell
  obtain ⟨_, hp8, hfs⟩ := validB_parts hv
  have HC := Lib.hid hc
  have HFS := Lib.hid hfs
  have HLN := Lib.hid (linesT_len hv)
  obtain ⟨n, hl⟩ : ∃ n, p.length = n := ⟨_, rfl⟩
  rw [hl] at hn hp8 ⊢
  have HL := Lib.hid hl
  have I0 : Hid (LxIn w0 bo (w.alloc (.cells #[.slice a n c] 48)) [] (linesT p) (linesT p)) := ⟨hT.keep ((Below.refl _ _).alloc (Nat.le_refl _) _), rfl⟩
  clear hc h hl hn hv hfs hT
  go_enter Tryz.func84, Tryz.ntmps84
  go_wp2
  go_loopw [13] (fun x wr => ∃ (i : Nat) (acc : List Str), i ≤ n ∧ x = .int .i64 i ∧ Hid (LxIn w0 bo wr acc (linesT (p.drop i)) (linesT p))) (fun x _ => n - (intOf x).toNat)
  case atStart => exact ⟨0, [], Nat.zero_le _, rfl, I0⟩
  case round =>
    obtain ⟨i, acc, hi, rfl, I⟩ := hrel
    clear I0
    have hac : acc.length ≤ 4240 := by have h1 := congrArg List.length I.out.eq; rw [List.length_append] at h1; have := HLN.out; omega
    have hwz := I.out.tx.lt
    by_cases hlt : i < n
    · obtain ⟨f, hf⟩ : ∃ f, p[i]? = some f := ⟨_, List.getElem?_eq_getElem (show i < p.length by have := HL.out; omega)⟩
      obtain ⟨fb, off, bv, rfl, hfb, g0, g1, hbl⟩ := HC.out i f hf
      have HFB := Lib.hid (HFS.out f (List.mem_of_getElem? hf))
      have hnl := nameB_short (funcB_parts HFB.out).1
      have HB := Lib.hid I.out.tx.below
      have g0 := (HB.out.cell (p := ⟨fb, off + i * 2, none⟩) (by show fb < bo; omega)).trans g0
      have g1 := (HB.out.cell (p := ⟨fb, off + i * 2 + 1, none⟩) (by show fb < bo; omega)).trans g1
      have I1 : Hid (LxIn w0 bo wr acc (([102, 117, 110, 99, 32] ++ f.name) :: ((f.blocks.map blockLines).flatten ++ ([101, 110, 100] :: linesT (p.drop (i + 1))))) (linesT p)) := by
        unfold Hid; rw [← lines_funcs p i f hf]; exact I.out
      obtain ⟨ba, bc, rfl, hbn, hbc⟩ := hbl.cell
      have HBC := Lib.hid hbc
      obtain ⟨bn, hbl2⟩ : ∃ n, f.blocks.length = n := ⟨_, rfl⟩
      rw [hbl2] at hbn g1
      unfold maxLen at hbn
      have HBL := Lib.hid hbl2
      have hfw : fb < wr.heap.size := by omega
      clear hf hbl hbc hbl2 I HB
      have K1 := Lib.hid (I1.out.push2 [102, 117, 110, 99] f.name (.cells #[sv f.name, .slice ba bn bc] 74) hac (by simp; omega) rfl)
      have hbx : Hid (((wr.alloc (.cells #[sv f.name, .slice ba bn bc] 74)).alloc (.cells #[sv [102, 117, 110, 99], sv f.name] 9)).heap[wr.heap.size]? = some (.cells #[sv f.name, .slice ba bn bc] 74 (0, 0))) := alloc_blk _ (heap_alloc_new _ _)
      go_wp2_with fail
      refine K1.out.mono ?_
      rintro e w5 ⟨rfl, I2, hz5, hS5⟩
      have I2 := Lib.hid I2
      have hbx5 := (hS5 74 (by decide) (by decide)).own hbx.out
      have x1 := (blk_cells hbx5).1 1
      simp at x1
      clear hS5 hbx5 hbx g0 g1 K1 I1
      go_wp2
      clear x1
      obtain ⟨wo, rfl⟩ : ∃ wo : World, wo = w5 := ⟨_, rfl⟩
      go_loopw [25] (fun x wi => ∃ (k : Nat) (acc : List Str), k ≤ bn ∧ x = .int .i64 k ∧ Hid (LxIn w0 bo wi acc (((f.blocks.drop k).map blockLines).flatten ++ ([101, 110, 100] :: linesT (p.drop (i + 1)))) (linesT p))) (fun x _ => bn - (intOf x).toNat)
      case atStart => exact ⟨0, _, Nat.zero_le _, rfl, I2⟩
      case round =>
        obtain ⟨k, acc, hk, rfl, I⟩ := hrel
        clear I2
        have hac : acc.length ≤ 4240 := by have h1 := congrArg List.length I.out.eq; rw [List.length_append] at h1; have := HLN.out; omega
        have hwz := I.out.tx.lt
        by_cases hlt2 : k < bn
        · obtain ⟨b, hb⟩ : ∃ b, f.blocks[k]? = some b := ⟨_, List.getElem?_eq_getElem (show k < f.blocks.length by have := HBL.out; omega)⟩
          obtain ⟨kb, koff, sv1, rfl, hkb, k0, k1, hsl⟩ := HBC.out k b hb
          have HB := Lib.hid I.out.tx.below
          have k0 := (HB.out.cell (p := ⟨kb, koff + k * 2, none⟩) (by show kb < bo; omega)).trans k0
          have k1 := (HB.out.cell (p := ⟨kb, koff + k * 2 + 1, none⟩) (by show kb < bo; omega)).trans k1
          have HBB := Lib.hid ((funcB_parts HFB.out).2.2.2 b (List.mem_of_getElem? hb))
          have hnl2 := nameB_short (blockB_parts HBB.out).1
          have I1 : Hid (LxIn w0 bo wr acc (([98, 108, 111, 99, 107, 32] ++ b.name) :: (b.stmts.map lineT ++ (((f.blocks.drop (k + 1)).map blockLines).flatten ++ ([101, 110, 100] :: linesT (p.drop (i + 1)))))) (linesT p)) := by
            have h1 := I.out
            rw [lines_blocks f k b hb] at h1
            unfold Hid
            simpa using h1
          obtain ⟨sa, sc, rfl, hsn, hsc⟩ := hsl.cell
          have HSC := Lib.hid hsc
          obtain ⟨sn, hsl2⟩ : ∃ n, b.stmts.length = n := ⟨_, rfl⟩
          rw [hsl2] at hsn k1
          unfold maxLen at hsn
          have HSL := Lib.hid hsl2
          have hkw : kb < wr.heap.size := by omega
          clear hb hsl hsc hsl2 I HB
          have K1 := Lib.hid (I1.out.push2 [98, 108, 111, 99, 107] b.name (.cells #[sv b.name, .slice sa sn sc] 99) hac (by simp; omega) rfl)
          have hbx : Hid (((wr.alloc (.cells #[sv b.name, .slice sa sn sc] 99)).alloc (.cells #[sv [98, 108, 111, 99, 107], sv b.name] 9)).heap[wr.heap.size]? = some (.cells #[sv b.name, .slice sa sn sc] 99 (0, 0))) := alloc_blk _ (heap_alloc_new _ _)
          go_wp2_with fail
          refine K1.out.mono ?_
          rintro e w6 ⟨rfl, I2, hz5, hS5⟩
          have I2 := Lib.hid I2
          have hbx5 := (hS5 99 (by decide) (by decide)).own hbx.out
          have x1 := (blk_cells hbx5).1 1
          simp at x1
          clear hS5 hbx5 hbx k0 k1 K1 I1
          go_wp2
          clear x1
          obtain ⟨wo2, rfl⟩ : ∃ wo : World, wo = w6 := ⟨_, rfl⟩
          go_loopw [37] (fun x wi => ∃ (j : Nat) (acc : List Str), j ≤ sn ∧ x = .int .i64 j ∧ Hid (LxIn w0 bo wi acc ((b.stmts.drop j).map lineT ++ (((f.blocks.drop (k + 1)).map blockLines).flatten ++ ([101, 110, 100] :: linesT (p.drop (i + 1))))) (linesT p))) (fun x _ => sn - (intOf x).toNat)
          case atStart => exact ⟨0, _, Nat.zero_le _, rfl, I2⟩
          case round =>
            obtain ⟨j, acc, hj, rfl, I⟩ := hrel
            clear I2
            have hac : acc.length ≤ 4240 := by have h1 := congrArg List.length I.out.eq; rw [List.length_append] at h1; have := HLN.out; omega
            have hwz := I.out.tx.lt
            by_cases hlt3 : j < sn
            · obtain ⟨s, hs⟩ : ∃ s, b.stmts[j]? = some s := ⟨_, List.getElem?_eq_getElem (show j < b.stmts.length by have := HSL.out; omega)⟩
              obtain ⟨jb, joff, su, tu, rfl, hjb, g0, g1, g2, g3, hsu, htu⟩ := HSC.out j s hs
              have HB := Lib.hid I.out.tx.below
              have g0 := (HB.out.cell (p := ⟨jb, joff + j * 4, none⟩) (by show jb < bo; omega)).trans g0
              have g1 := (HB.out.cell (p := ⟨jb, joff + j * 4 + 1, none⟩) (by show jb < bo; omega)).trans g1
              have g2 := (HB.out.cell (p := ⟨jb, joff + j * 4 + 2, none⟩) (by show jb < bo; omega)).trans g2
              have g3 := (HB.out.cell (p := ⟨jb, joff + j * 4 + 3, none⟩) (by show jb < bo; omega)).trans g3
              have I1 : Hid (LxIn w0 bo wr acc (lineT s :: ((b.stmts.drop (j + 1)).map lineT ++ (((f.blocks.drop (k + 1)).map blockLines).flatten ++ ([101, 110, 100] :: linesT (p.drop (i + 1)))))) (linesT p)) := by
                have h1 := I.out
                rw [lines_map b j s hs] at h1
                exact h1
              have hsb := (blockB_parts HBB.out).2.2.2 s (List.mem_of_getElem? hs)
              obtain ⟨sua, suc, rfl, -, -⟩ := hsu.cell
              obtain ⟨tua, tuc, rfl, -, -⟩ := htu.cell
              have hjw : jb < wr.heap.size := by omega
              have K1 := Lib.hid (words5_any hsb _ _ (wr.alloc (.cells #[.int .i64 s.op, sv s.dfn, .slice sua s.uses.length suc, .slice tua s.targets.length tuc] 118)) (SliceAt.same hsu (SameT.below (HB.out.mono hbo |>.alloc (by omega) _))) (SliceAt.same htu (SameT.below (HB.out.mono hbo |>.alloc (by omega) _))))
              have HSB := Lib.hid hsb
              clear hs hsu htu I HB hsb
              go_wp2_with fail
              refine K1.out.mono ?_
              rintro e w7 ⟨a7, c7, rfl, hs7, hb7⟩
              have K2 := Lib.hid (I1.out.pushS (((Below.refl wr.heap.size wr).alloc (Nat.le_refl _) _).trans (hb7.mono (by simp))) HSB.out hs7 hac)
              clear hb7 hs7 K1 I1 g0 g1 g2 g3
              go_wp2_with fail
              refine K2.out.mono ?_
              rintro e w8 ⟨rfl, I2, hz5, hS5⟩
              have I2 := Lib.hid I2
              clear hS5 K2
              go_wp2
              go_roundw
              case rel => exact ⟨j + 1, _, by omega, by go_num, I2⟩
              case measure => simp [intOf]; omega
            · have I2 : Hid (LxIn w0 bo wr acc (((f.blocks.drop (k + 1)).map blockLines).flatten ++ ([101, 110, 100] :: linesT (p.drop (i + 1)))) (linesT p)) := by
                have h1 := I.out
                rw [List.drop_of_length_le (by have := HSL.out; omega)] at h1
                exact h1
              clear I
              go_wp2
              go_roundw
              case rel => exact ⟨k + 1, acc, by omega, by go_num, I2⟩
              case measure => simp [intOf]; omega
        · have I1 : Hid (LxIn w0 bo wr acc ([101, 110, 100] :: linesT (p.drop (i + 1))) (linesT p)) := by
            have h1 := I.out
            rw [List.drop_of_length_le (by have := HBL.out; omega)] at h1
            exact h1
          have K1 := Lib.hid (I1.out.push1 hac (by decide))
          clear I I1
          go_wp2_with fail
          refine K1.out.mono ?_
          rintro e w6 ⟨rfl, I2, hz5, hS5⟩
          have I2 := Lib.hid I2
          clear hS5 K1
          go_wp2
          go_roundw
          case rel => exact ⟨i + 1, _, by omega, by go_num, I2⟩
          case measure => simp [intOf]; omega
    · have e := I.out.eq
      rw [List.drop_of_length_le (by have := HL.out; omega)] at e
      have E : Hid (linesT p = acc) := by unfold Hid; rw [e]; simp [linesT]
      have T := Lib.hid I.out.tx
      clear e I
      go_wp2
      go_end0
      refine ⟨rfl, ?_⟩
      rw [E.out]
      exact T.out
end Go.Proofs.YtipnhmdibkkifaaGreatDoor
set_option linter.unusedVariables false
set_option linter.unusedSimpArgs false
set_option linter.unusedSectionVars false
namespace Go.Proofs.YtipnhmdibkkifaaGreatDoor
open Go.RowKit
variable [Base]
theorem funcs_belowY {w w' : World} {v : Value} {p : List PFunc} (h : FuncsAt w v p) (b : Below w.heap.size w w') : FuncsAt w' v p := h.keep (SameT.below b) (SameT.below b) (SameT.below b) (SameT.below b)
theorem cells_atY {w : World} {la : Option Addr} {m lc : Nat} {ls : List Str} (h : StrsAt w (.slice la m lc) ls) (k : Nat) (s : Str) (hs : ls[k]? = some s) :
    ∃ b off, la = some ⟨b, off, none⟩ ∧ b < w.heap.size ∧ w.cell? ⟨b, off + k, none⟩ = some (sv s) := by
  obtain ⟨a', c', ea, _, hc⟩ := h.cell
  injection ea with ea _ _
  subst ea
  exact hc k s hs
set_option maxHeartbeats 400000 in
theorem texts_any {B : Nat} {w : World} (kw : KwIn B w) (hB : B ≤ w.heap.size) (p : List PFunc) (hv : validB p = true) (hf : ∀ f ∈ p, ∀ b ∈ f.blocks, ∀ s ∈ b.stmts, FitS s) (v : Value) (h : FuncsAt w v p) :
    Calls Tryz.prog 55 #[.agg #[v]] w (StrsQ (linesT p) w) := by
  obtain ⟨a, c, rfl, -, -⟩ := h.cell
  obtain ⟨n, hn⟩ : ∃ n, p.length = n := ⟨_, rfl⟩
  have hbs := kw.bs
  rw [hn] at h ⊢
  clear hn
  have B0 := Lib.hid ((Below.refl w.heap.size w).alloc (Nat.le_refl _) (.cells #[.slice a n c] 48))
  have b0 := heap_alloc_new w (.cells #[.slice a n c] 48)
  have F0 := Lib.hid (funcs_belowY h B0.out)
  have K0 := Lib.hid (kw.keep fun k hk => B0.out.block k (by omega))
  obtain ⟨w0, hw0⟩ : ∃ x, w.alloc (.cells #[.slice a n c] 48) = x := ⟨_, rfl⟩
  have hz0 : w0.heap.size = w.heap.size + 1 := by rw [← hw0]; simp
  rw [hw0] at B0 b0 F0 K0
  have HW0 := Lib.hid hw0
  have HB0 := Lib.hid b0
  have HZ0 := Lib.hid hz0
  have bo := heap_alloc_new w0 (.cells #[.slice none 0 0] 30)
  have B1 := Lib.hid ((Below.refl w0.heap.size w0).alloc (Nat.le_refl _) (.cells #[.slice none 0 0] 30))
  rw [hz0] at bo
  have HBO := Lib.hid bo
  have PV := Lib.hid (pvalidp_any (w := w0.alloc (.cells #[.slice none 0 0] 30)) (K0.out.keep fun k hk => B1.out.block k (by omega)) (by simp; omega) p (.slice a n c) (funcs_belowY F0.out B1.out) hf)
  have hlt1 : w.heap.size + 1 < (w0.alloc (.cells #[.slice none 0 0] 30)).heap.size := lt_heap bo
  have HL1 := Lib.hid hlt1
  have c0 : (w0.alloc (.cells #[.slice none 0 0] 30)).cell? ⟨w.heap.size, 0, none⟩ = some (.slice a n c) := by
    have h1 := (blk_cells (alloc_blk (.cells #[.slice none 0 0] 30) b0)).1 0
    simpa using h1
  clear h kw hw0 b0 hz0 bo hlt1
  go_enter Tryz.func55, Tryz.ntmps55
  go_wp2_with fail
  rw [show w.alloc (.cells #[.slice a n c] 48) = w0 from HW0.out]
  refine PV.out.mono ?_
  rintro e w2 ⟨rfl, b2⟩
  have B2 := Lib.hid (B1.out.trans (b2.mono B1.out.size))
  have hz := HZ0.out
  have T : Hid (TxIn w0 (w.heap.size + 1) [] w2) := ⟨by omega, by rw [← hz]; exact B2.out, none, 0, (b2.block _ HL1.out).trans HBO.out, World.ownsRow_nil _ _ _ _⟩
  have c0 := (blk_cells ((b2.block _ (by have := HL1.out; omega)).trans (alloc_blk (.cells #[.slice none 0 0] 30) HB0.out))).1 0
  have PL := Lib.hid (plines_any p (.slice a n c) F0.out hv (by omega) T.out)
  simp at c0
  clear b2 hz PV T
  go_wp2_with fail
  refine PL.out.mono ?_
  rintro e w3 ⟨rfl, tx⟩
  obtain ⟨ta, tc, h1, h2⟩ := tx.out
  have c1 := (blk_cells h1).1 0
  have OW := Lib.hid h2
  have BL := Lib.hid tx.below
  obtain ⟨ls, hls⟩ : ∃ ls, linesT p = ls := ⟨_, rfl⟩
  rw [hls] at c1 OW
  have HLS := Lib.hid hls
  simp at c1
  clear h1 h2 tx c0 PL hls
  go_wp2
  go_ret
  exact ⟨ta, tc, by rw [HLS.out]; rfl, by rw [HLS.out]; exact SliceAt.of_owns OW.out, B0.out.trans (BL.out.mono (by omega))⟩
theorem others_strs {w w' : World} {b B : Nat} {v0 v1 : Value} (hb : w.heap[b]? = some (.cells #[v0, v1] 125 (0, 0))) (h : Lib.OthersKept 5 (some b) w w') (hB : Below B w w') (hbs : Base.b ≤ B) : SameT 9 w w' := fun k c fr U hU hk => by
  rcases hU with rfl | hU
  · refine h k _ hk ?_ ?_
    · intro e
      injection e with e
      subst e
      rw [hb] at hk
      injection hk with hk
      injection hk with _ hk _
      exact absurd hk (by decide)
    · intro c' fz e
      injection e with _ e _
      exact absurd e (by decide)
  · exact (hB.block k (by omega)).trans hk
theorem isBuilder_blk {B b : Nat} {bs : List Value} {w : World} (h : Lib.IsBuilderF 125 5 B b bs w) : ∃ v0 v1, w.heap[b]? = some (.cells #[v0, v1] 125 (0, 0)) := by
  rcases h with ⟨_, v, hb, _⟩ | ⟨_, v, hb, _⟩ <;> exact ⟨_, _, hb⟩
theorem cat_step (l : List Str) (k : Nat) (t : Str) (h : l[k]? = some t) : ((l.take (k + 1)).map fun x => x ++ [10]).flatten = ((l.take k).map fun x => x ++ [10]).flatten ++ (t ++ [10]) := by
  obtain ⟨h1, rfl⟩ := List.getElem?_eq_some_iff.1 h
  rw [List.take_succ_eq_append_getElem h1, List.map_append, List.flatten_append]
  simp
set_option maxHeartbeats 1000000 in
theorem pprint_any {B : Nat} {w : World} (kw : KwIn B w) (hB : B ≤ w.heap.size) (p : List PFunc) (hv : validB p = true) (hf : ∀ f ∈ p, ∀ b ∈ f.blocks, ∀ s ∈ b.stmts, FitS s) (v : Value) (h : FuncsAt w v p) :
    Calls Tryz.prog 29 #[.agg #[v]] w (StrQJ (printT p) w) := by
  obtain ⟨a, c, rfl, -, -⟩ := h.cell
  obtain ⟨n, hn⟩ : ∃ n, p.length = n := ⟨_, rfl⟩
  have hbs := kw.bs
  rw [hn] at h ⊢
  have B0 := Lib.hid (((Below.refl w.heap.size w).alloc (Nat.le_refl _) (.cells #[.slice a n c] 48)).alloc (by simp) (.cells #[.pointer none, .slice none 0 0] 125))
  have TX := Lib.hid (texts_any (w := (w.alloc (.cells #[.slice a n c] 48)).alloc (.cells #[.pointer none, .slice none 0 0] 125)) (kw.keep fun k hk => B0.out.block k (by omega)) (by simp; omega) p hv hf (.slice a n c) (funcs_belowY h B0.out))
  have bx : Hid (((w.alloc (.cells #[.slice a n c] 48)).alloc (.cells #[.pointer none, .slice none 0 0] 125)).heap[w.heap.size + 1]? = some (.cells #[.pointer none, .slice none 0 0] 125 (0, 0))) := by
    have h2 := heap_alloc_new (w.alloc (.cells #[.slice a n c] 48)) (.cells #[.pointer none, .slice none 0 0] 125)
    rw [World.size_alloc] at h2
    exact h2
  have E : Hid (printT p = ((linesT p).map fun x => x ++ [10]).flatten) := by unfold Hid printT; rw [hv]; rfl
  have EA := Lib.hid (linesT_each hv)
  have hl := linesT_len hv
  clear h kw hn hv
  go_enter Tryz.func29, Tryz.ntmps29
  go_wp2_with fail
  refine TX.out.mono ?_
  rintro e w2 ⟨ta, tc, rfl, ts, b2⟩
  have B2 := Lib.hid (B0.out.trans (b2.mono B0.out.size))
  have hb2 := (b2.block _ (lt_heap bx.out)).trans bx.out
  have hz2 : w.heap.size + 1 < w2.heap.size := lt_heap hb2
  have IB : Hid (Lib.IsBuilderF 125 5 (w.heap.size + 1) (w.heap.size + 1) [] w2) := Or.inl (Lib.BuilderAtF.of ⟨Nat.le_refl _, _, hb2, World.ownsRow_nil _ _ _ _, by simp [Value.ownBlock]⟩)
  obtain ⟨ls, hls⟩ : ∃ ls, linesT p = ls := ⟨_, rfl⟩
  rw [hls] at ts hl E EA ⊢
  obtain ⟨m, hm⟩ : ∃ m, ls.length = m := ⟨_, rfl⟩
  rw [hm] at ts hl ⊢
  have TS := Lib.hid ts
  have HM := Lib.hid hm
  clear ts b2 TX hls hm hb2 bx
  go_wp2
  go_loopw [9] (fun x wr => ∃ k : Nat, k ≤ m ∧ x = .int .i64 k ∧ Hid (Lib.IsBuilderF 125 5 (w.heap.size + 1) (w.heap.size + 1) (Lib.byteCells ((ls.take k).map fun x => x ++ [10]).flatten) wr) ∧ Hid (StrsAt wr (.slice ta m tc) ls) ∧ Hid (Below w.heap.size w wr) ∧ w.heap.size + 1 < wr.heap.size) (fun x _ => m - (intOf x).toNat)
  case atStart => exact ⟨0, Nat.zero_le _, rfl, IB, TS, B2, hz2⟩
  case round =>
    obtain ⟨k, hk, rfl, IB, TS, HB, hz⟩ := hrel
    clear B2 hz2
    have hcat : (((ls.take k).map fun x => x ++ [10]).flatten).length ≤ 4240 * 201 := by
      have h3 := flat_len (fun x : Str => x ++ [10]) 201 (ls.take k) (fun x hx => by have := EA.out x (List.mem_of_mem_take hx); simp; omega)
      have h4 : (ls.take k).length ≤ 4240 := by have := List.length_take_le k ls; omega
      exact Nat.le_trans h3 (Nat.mul_le_mul_right 201 h4)
    by_cases hlt : k < m
    · obtain ⟨t, ht⟩ : ∃ t, ls[k]? = some t := ⟨_, List.getElem?_eq_getElem (show k < ls.length by have := HM.out; omega)⟩
      obtain ⟨b1, o1, rfl, _, g1⟩ := cells_atY TS.out k t ht
      have htl := EA.out t (List.mem_of_getElem? ht)
      have hts : (ByteArray.mk t.toArray ++ ⟨#[10]⟩).size = t.length + 1 := by rw [show (ByteArray.mk t.toArray ++ ⟨#[10]⟩).size = (ByteArray.mk t.toArray).size + 1 by rw [ByteArray.size_append]; rfl]; show t.toArray.size + 1 = _; simp
      have ES := Lib.hid (cat_step ls k t ht)
      have WK := Lib.hid (Tryz.Builder_WriteString_k (w.heap.size + 1) (w.heap.size + 1) _ (ByteArray.mk t.toArray ++ ⟨#[10]⟩) wr IB.out (by rw [Lib.byteCells_length, hts]; omega) (by omega))
      clear ht
      go_wp2_with fail
      refine WK.out.mono ?_
      rintro e w3 ⟨rfl, bk, b3, ok⟩
      obtain ⟨v0, v1, hbb⟩ := isBuilder_blk IB.out
      have TS3 := Lib.hid (SliceAt.same TS.out (others_strs hbb ok b3 (by omega)))
      have HB3 := Lib.hid (HB.out.trans (b3.mono (Nat.le_succ _)))
      have hz3 : w.heap.size + 1 < w3.heap.size := Nat.lt_of_lt_of_le hz b3.size
      have IB3 : Hid (Lib.IsBuilderF 125 5 (w.heap.size + 1) (w.heap.size + 1) (Lib.byteCells ((ls.take (k + 1)).map fun x => x ++ [10]).flatten) w3) := by
        unfold Hid
        rw [ES.out]
        refine Or.inr ?_
        have e : Lib.byteCells (((ls.take k).map fun x => x ++ [10]).flatten ++ (t ++ [10])) = Lib.byteCells ((ls.take k).map fun x => x ++ [10]).flatten ++ Lib.strCells (ByteArray.mk t.toArray ++ ⟨#[10]⟩) := by
          simp [Lib.byteCells, Lib.strCells]
        rw [e]
        exact bk
      clear bk b3 ok hbb WK IB TS HB g1
      go_wp2
      go_roundw
      case rel => exact ⟨k + 1, by omega, by go_num, IB3, TS3, HB3, hz3⟩
      case measure => simp [intOf]; omega
    · have hkm : k = m := by omega
      have E2 : Hid (((ls.take k).map fun x => x ++ [10]).flatten = printT p) := by unfold Hid; rw [E.out, List.take_of_length_le (by have := HM.out; omega)]
      have IB2 := IB.out
      rw [E2.out] at IB2
      have SK := Lib.hid (Tryz.Builder_String_any_k (w.heap.size + 1) (w.heap.size + 1) (printT p) wr IB2 (by omega))
      clear IB2 IB TS hkm
      go_wp2_with fail
      refine SK.out.mono ?_
      rintro e w3 ⟨rfl, _, b3, _⟩
      have HB3 := Lib.hid (HB.out.trans (b3.mono (Nat.le_succ _)))
      clear b3 SK HB
      go_wp2
      go_ret
      exact ⟨rfl, HB3.out⟩
end Go.Proofs.YtipnhmdibkkifaaGreatDoor
