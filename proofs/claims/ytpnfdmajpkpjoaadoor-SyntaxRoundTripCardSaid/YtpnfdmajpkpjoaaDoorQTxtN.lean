/- Walk of the reference's Lines. -/
import Derived.Test.YtpnfdmajpkpjoaaDoorQLexP
import Derived.Test.YtpnfdmajpkpjoaaDoorQTxtL
set_option linter.unusedVariables false
set_option linter.unusedSimpArgs false
namespace Go.Proofs.YtpnfdmajpkpjoaaDoor
open Go.RowKit

theorem infoStr : (Tryd.prog.info? 9).map (fun i => (i.zero, i.size, i.bytes)) = some (some (.string ⟨#[]⟩), 1, 16) := by kernel_rfl

theorem own_snoc {w : World} {B : Nat} {v y : Value} {acc : List Str} (x : Str) (h : w.ownsRow B 9 1 v (acc.length + 1) (acc.map sv ++ [y])) (e : y = sv x) :
    w.ownsRow B 9 1 v (acc ++ [x]).length ((acc ++ [x]).map sv) := by
  rw [e] at h
  rw [List.length_append, List.map_append]
  exact h

theorem ownsRow_below {base sz n : Nat} {e : TypeId} {v : Value} {xs : List Value} {w w' : World} (h : w.ownsRow base e sz v n xs) (hb : Below w.heap.size w w') : w'.ownsRow base e sz v n xs := by
  refine ⟨h.1, ?_⟩
  rcases h.2 with hn | ⟨g, cap, cur, rfl, hg, hh, rest⟩
  · exact .inl hn
  · exact .inr ⟨g, cap, cur, rfl, hg, (hb.block g (lt_heap hh)).trans hh, rest⟩

/-- What the loops of 'Lines' hold: the lines so far, and that the rest of the data is as it was. -/
structure LnIn (w0 w : World) (v pv : Value) (acc rest all : List Str) : Prop where
  below : Below w0.heap.size w0 w
  box : w.heap[w0.heap.size]? = some (.cells #[pv] 34 (0, 0))
  own : w.ownsRow (w0.heap.size + 1) 9 1 v acc.length (acc.map sv)
  eq : all = acc ++ rest
theorem LnIn.lt {w0 w : World} {v pv : Value} {acc rest all : List Str} (h : LnIn w0 w v pv acc rest all) : w0.heap.size + 1 ≤ w.heap.size := lt_heap h.box
theorem LnIn.keep {w0 w w' : World} {v pv : Value} {acc rest all : List Str} (h : LnIn w0 w v pv acc rest all) (hb : Below w.heap.size w w') : LnIn w0 w' v pv acc rest all :=
  ⟨h.below.trans (hb.mono (by have := h.lt; omega)), (hb.block _ (by have := h.lt; omega)).trans h.box, ownsRow_below h.own hb, h.eq⟩
theorem LnIn.alloc {w0 w : World} {v pv : Value} {acc rest all : List Str} (h : LnIn w0 w v pv acc rest all) (o : Obj) : LnIn w0 (w.alloc o) v pv acc rest all :=
  h.keep ((Below.refl _ _).alloc (Nat.le_refl _) _)
theorem LnIn.push {w0 w w1 : World} {v pv : Value} {acc rest all : List Str} (x : Str) (h : LnIn w0 w v pv acc (x :: rest) all) {g cap : Nat} {y : Value} (e : y = sv x)
    (hown : w1.ownsRow (w0.heap.size + 1) 9 1 (.slice (some ⟨g, 0, none⟩) (acc.length + 1) cap) (acc.length + 1) (acc.map sv ++ [y])) (hg : w.grownBy w1 v.ownBlock) :
    LnIn w0 w1 (.slice (some ⟨g, 0, none⟩) (acc.length + 1) cap) pv (acc ++ [x]) rest all := by
  have hbel := Below.of_grown hg h.own h.lt
  refine ⟨h.below.trans (hbel.mono (by omega)), (hbel.block _ (by omega)).trans h.box, own_snoc x hown e, by rw [h.eq]; simp⟩

theorem lines_map (b : PBlock) (j : Nat) (s : PStmt) (h : b.stmts[j]? = some s) : (b.stmts.drop j).map lineT = lineT s :: (b.stmts.drop (j + 1)).map lineT := by
  obtain ⟨h1, rfl⟩ := List.getElem?_eq_some_iff.1 h
  rw [List.drop_eq_getElem_cons h1, List.map_cons]
theorem lines_blocks (f : PFunc) (k : Nat) (b : PBlock) (h : f.blocks[k]? = some b) : ((f.blocks.drop k).map blockLines).flatten = ([98, 108, 111, 99, 107, 32] ++ b.name) :: (b.stmts.map lineT ++ ((f.blocks.drop (k + 1)).map blockLines).flatten) := by
  obtain ⟨h1, rfl⟩ := List.getElem?_eq_some_iff.1 h
  rw [List.drop_eq_getElem_cons h1, List.map_cons, List.flatten_cons]
  rfl
theorem lines_funcs (p : List PFunc) (i : Nat) (f : PFunc) (h : p[i]? = some f) : linesT (p.drop i) = ([102, 117, 110, 99, 32] ++ f.name) :: ((f.blocks.map blockLines).flatten ++ ([101, 110, 100] :: linesT (p.drop (i + 1)))) := by
  obtain ⟨h1, rfl⟩ := List.getElem?_eq_some_iff.1 h
  unfold linesT
  rw [List.drop_eq_getElem_cons h1, List.map_cons, List.flatten_cons]
  simp [funcLines]

def LinesPost (p : List PFunc) (w : World) (e : Ending) (w' : World) : Prop := ∃ v, e = .returned v ∧ StrsAt w' v (linesT p) ∧ Below w.heap.size w w'

set_option maxRecDepth 100000 in
set_option maxHeartbeats 4000000 in
theorem lines_any (p : List PFunc) (v : Value) (w : World) (h : FuncsAt w v p) (hv : validB p = true) :
    Calls Tryd.prog 14 #[.agg #[v]] w (LinesPost p w) := by
  obtain ⟨a, c, rfl, hn, hc⟩ := h.cell
  obtain ⟨_, hp8, hfs⟩ := validB_parts hv
  have HC := Lib.hid hc
  have HFS := Lib.hid hfs
  have HLN := Lib.hid (linesT_len hv)
  obtain ⟨n, hl⟩ : ∃ n, p.length = n := ⟨_, rfl⟩
  rw [hl] at hn hp8 ⊢
  have HL := Lib.hid hl
  clear hc h hl hn hv hfs
  go_enter Tryd.func14, Tryd.ntmps14
  go_wp2
  have I0 : Hid (LnIn w (w.alloc (.cells #[.slice a n c] 34)) (.slice none 0 0) (.slice a n c) [] (linesT p) (linesT p)) :=
    ⟨(Below.refl _ _).alloc (Nat.le_refl _) _, heap_alloc_new _ _, World.ownsRow_nil _ _ _ _, rfl⟩
  go_loopw [3, 4] (fun o x wr => ∃ (i : Nat) (acc : List Str), i ≤ n ∧ x = .int .i64 i ∧ Hid (LnIn w wr o (.slice a n c) acc (linesT (p.drop i)) (linesT p))) (fun _ x _ => n - (intOf x).toNat)
  case atStart => exact ⟨0, [], Nat.zero_le _, rfl, I0⟩
  case round =>
    obtain ⟨i, acc, hi, rfl, I⟩ := hrel
    have hac : acc.length ≤ 4240 := by have h1 := congrArg List.length I.out.eq; rw [List.length_append] at h1; have := HLN.out; omega
    have hwz := I.out.lt
    by_cases hlt : i < n
    · obtain ⟨f, hf⟩ : ∃ f, p[i]? = some f := ⟨_, List.getElem?_eq_getElem (show i < p.length by have := HL.out; omega)⟩
      obtain ⟨fb, off, bv, rfl, hfb, g0, g1, hbl⟩ := HC.out i f hf
      have HFB := Lib.hid (HFS.out f (List.mem_of_getElem? hf))
      have hnl := nameB_short (funcB_parts HFB.out).1
      have HB := Lib.hid I.out.below
      have g0 := (HB.out.cell (p := ⟨fb, off + i * 2, none⟩) hfb).trans g0
      have hx := (blk_cells I.out.box).1 0
      simp at hx
      have I1 : Hid (LnIn w wr u3 (.slice (some ⟨fb, off, none⟩) n c) acc (([102, 117, 110, 99, 32] ++ f.name) :: ((f.blocks.map blockLines).flatten ++ ([101, 110, 100] :: linesT (p.drop (i + 1))))) (linesT p)) := by
        unfold Hid; rw [← lines_funcs p i f hf]; exact I.out
      obtain ⟨ba, bc, rfl, hbn, hbc⟩ := hbl.cell
      have HBC := Lib.hid hbc
      obtain ⟨bn, hbl2⟩ : ∃ n, f.blocks.length = n := ⟨_, rfl⟩
      rw [hbl2] at hbn g1
      unfold maxLen at hbn
      have HBL := Lib.hid hbl2
      have G1 := Lib.hid g1
      clear hf hbl hbc hbl2 I g1
      go_wp2_with (at_builtin; refine wpList_pushH [.string (⟨#[102, 117, 110, 99, 32]⟩ ++ ⟨f.name.toArray⟩)] rfl _ _ 39 rfl (w.heap.size + 1) 9 _ 1 16 Tryd.underlying39 infoStr rfl (by omega) _ _ _ I1.out.own rfl _ rfl (by simp) rfl rfl (by unfold maxLen; omega) (by omega) (by first | omega | (simp; omega)) ?_; intro g cap w6 hown1 hg1 hg2 hg3; have I2 := Lib.hid (I1.out.push _ (congrArg Value.string (app_sv [102, 117, 110, 99, 32] f.name)) hown1 hg1); clear hown1 hg1 hg2 hg3 HB g0 hx I1)
      obtain ⟨wo, rfl⟩ : ∃ wo : World, wo = w6 := ⟨_, rfl⟩
      go_loopw [3, 5] (fun o x wi => ∃ (k : Nat) (acc : List Str), k ≤ bn ∧ x = .int .i64 k ∧ Hid (LnIn w wi o (.slice (some ⟨fb, off, none⟩) n c) acc (((f.blocks.drop k).map blockLines).flatten ++ ([101, 110, 100] :: linesT (p.drop (i + 1)))) (linesT p))) (fun _ x _ => bn - (intOf x).toNat)
      case atStart => exact ⟨0, _, Nat.zero_le _, rfl, I2⟩
      case round =>
        obtain ⟨k, acc, hk, rfl, I⟩ := hrel
        have hac : acc.length ≤ 4240 := by have h1 := congrArg List.length I.out.eq; rw [List.length_append] at h1; have := HLN.out; omega
        have hwz := I.out.lt
        have HB := Lib.hid I.out.below
        have hx := (blk_cells I.out.box).1 0
        simp at hx
        have g1 := (HB.out.cell (p := ⟨fb, off + i * 2 + 1, none⟩) hfb).trans G1.out
        by_cases hlt2 : k < bn
        · obtain ⟨b, hb⟩ : ∃ b, f.blocks[k]? = some b := ⟨_, List.getElem?_eq_getElem (show k < f.blocks.length by have := HBL.out; omega)⟩
          obtain ⟨kb, koff, sv1, rfl, hkb, k0, k1, hsl⟩ := HBC.out k b hb
          have k0 := (HB.out.cell (p := ⟨kb, koff + k * 2, none⟩) hkb).trans k0
          have k1 := (HB.out.cell (p := ⟨kb, koff + k * 2 + 1, none⟩) hkb).trans k1
          have HBB := Lib.hid ((funcB_parts HFB.out).2.2.2 b (List.mem_of_getElem? hb))
          have hnl2 := nameB_short (blockB_parts HBB.out).1
          have I1 : Hid (LnIn w wr u3 (.slice (some ⟨fb, off, none⟩) n c) acc (([98, 108, 111, 99, 107, 32] ++ b.name) :: (b.stmts.map lineT ++ (((f.blocks.drop (k + 1)).map blockLines).flatten ++ ([101, 110, 100] :: linesT (p.drop (i + 1)))))) (linesT p)) := by
            have h1 := I.out
            rw [lines_blocks f k b hb] at h1
            unfold Hid
            simpa using h1
          obtain ⟨sa, sc, rfl, hsn, hsc⟩ := hsl.cell
          have HSC := Lib.hid hsc
          obtain ⟨sn, hsl2⟩ : ∃ n, b.stmts.length = n := ⟨_, rfl⟩
          rw [hsl2] at hsn k1
          unfold maxLen at hsn
          have HSL := Lib.hid hsl2
          clear hb hsl hsc hsl2 I
          go_wp2_with (at_builtin; refine wpList_pushH [.string (⟨#[98, 108, 111, 99, 107, 32]⟩ ++ ⟨b.name.toArray⟩)] rfl _ _ 39 rfl (w.heap.size + 1) 9 _ 1 16 Tryd.underlying39 infoStr rfl (by omega) _ _ _ (I1.out.own.alloc _) rfl _ rfl (by simp) rfl rfl (by unfold maxLen; omega) (by omega) (by first | omega | (simp; omega)) ?_; intro g cap w6 hown1 hg1 hg2 hg3; have I2 := Lib.hid ((I1.out.alloc (.cells #[sv b.name, .slice sa sn sc] 53)).push _ (congrArg Value.string (app_sv [98, 108, 111, 99, 107, 32] b.name)) hown1 hg1); have hbb := SameT.grown hg1 (I1.out.own.alloc _) (T := 53) (by decide) _ _ _ (heap_alloc_new wr (.cells #[sv b.name, .slice sa sn sc] 53)); clear hown1 hg1 hg2 hg3 HB k0 k1 hx g1 I1)
          obtain ⟨bb, hbw⟩ : ∃ bb, wr.heap.size = bb := ⟨_, rfl⟩
          rw [hbw] at hbb
          rw [hbw]
          have HBBk := Lib.hid hbb
          clear hbw hbb
          obtain ⟨wo, rfl⟩ : ∃ wo : World, wo = w6 := ⟨_, rfl⟩
          go_loopw [3, 7] (fun o x wi => ∃ (j : Nat) (acc : List Str), j ≤ sn ∧ x = .int .i64 j ∧ Hid (LnIn w wi o (.slice (some ⟨fb, off, none⟩) n c) acc ((b.stmts.drop j).map lineT ++ (((f.blocks.drop (k + 1)).map blockLines).flatten ++ ([101, 110, 100] :: linesT (p.drop (i + 1))))) (linesT p)) ∧ Hid (wi.heap[bb]? = some (.cells #[sv b.name, .slice sa sn sc] 53 (0, 0)))) (fun _ x _ => sn - (intOf x).toNat)
          case atStart => exact ⟨0, _, Nat.zero_le _, rfl, I2, HBBk⟩
          case round =>
            obtain ⟨j, acc, hj, rfl, I, HBBk⟩ := hrel
            have hac : acc.length ≤ 4240 := by have h1 := congrArg List.length I.out.eq; rw [List.length_append] at h1; have := HLN.out; omega
            have hwz := I.out.lt
            have HB := Lib.hid I.out.below
            have r1 := (blk_cells HBBk.out).1 1
            simp only [List.getElem?_toArray, List.getElem?_cons_succ, List.getElem?_cons_zero] at r1
            by_cases hlt3 : j < sn
            · obtain ⟨s, hs⟩ : ∃ s, b.stmts[j]? = some s := ⟨_, List.getElem?_eq_getElem (show j < b.stmts.length by have := HSL.out; omega)⟩
              obtain ⟨jb, joff, su, tu, rfl, hjb, g0, g1, g2, g3, hsu, htu⟩ := HSC.out j s hs
              have g0 := (HB.out.cell (p := ⟨jb, joff + j * 4, none⟩) hjb).trans g0
              have g1 := (HB.out.cell (p := ⟨jb, joff + j * 4 + 1, none⟩) hjb).trans g1
              have g2 := (HB.out.cell (p := ⟨jb, joff + j * 4 + 2, none⟩) hjb).trans g2
              have g3 := (HB.out.cell (p := ⟨jb, joff + j * 4 + 3, none⟩) hjb).trans g3
              have I1 : Hid (LnIn w wr u3 (.slice (some ⟨fb, off, none⟩) n c) acc (lineT s :: ((b.stmts.drop (j + 1)).map lineT ++ (((f.blocks.drop (k + 1)).map blockLines).flatten ++ ([101, 110, 100] :: linesT (p.drop (i + 1)))))) (linesT p)) := by
                have h1 := I.out
                rw [lines_map b j s hs] at h1
                exact h1
              have hsb := stmtB_bound ((blockB_parts HBB.out).2.2.2 s (List.mem_of_getElem? hs))
              have hR := Lib.hid (line_any s su tu wr (SliceAt.same hsu (SameT.below HB.out)) (SliceAt.same htu (SameT.below HB.out)) (by omega) (by omega) (by omega))
              clear hs hsu htu I
              go_wp2_with fail
              refine hR.out.mono ?_
              rintro e w2 ⟨rfl, hb2⟩
              have I3 := Lib.hid (I1.out.keep hb2)
              have HBBk2 := Lib.hid ((hb2.block bb (lt_heap HBBk.out)).trans HBBk.out)
              have hwz2 := I3.out.lt
              clear hb2 HB g0 g1 g2 g3 hR I1 HBBk
              go_wp2_with (at_builtin; refine wpList_pushH [sv (lineT s)] rfl _ _ 39 rfl (w.heap.size + 1) 9 _ 1 16 Tryd.underlying39 infoStr rfl (by omega) _ _ _ I3.out.own rfl _ rfl (by simp) rfl rfl (by unfold maxLen; omega) (by omega) (by first | omega | (simp; omega)) ?_; intro g cap w6 hown1 hg1 hg2 hg3; have I2 := Lib.hid (I3.out.push _ rfl hown1 hg1); have hbb := Lib.hid (SameT.grown hg1 I3.out.own (T := 53) (by decide) _ _ _ HBBk2.out); clear hown1 hg1 hg2 hg3 I3 HBBk2)
              go_roundw
              case rel => exact ⟨j + 1, _, by omega, by go_num, I2, hbb⟩
              case measure => simp [intOf]; omega
            · have I2 : Hid (LnIn w wr u3 (.slice (some ⟨fb, off, none⟩) n c) acc (((f.blocks.drop (k + 1)).map blockLines).flatten ++ ([101, 110, 100] :: linesT (p.drop (i + 1)))) (linesT p)) := by
                have h1 := I.out
                rw [List.drop_of_length_le (by have := HSL.out; omega)] at h1
                exact h1
              clear I
              go_wp2
              go_roundw
              case rel => exact ⟨k + 1, acc, by omega, by go_num, I2⟩
              case measure => simp [intOf]; omega
        · have I1 : Hid (LnIn w wr u3 (.slice (some ⟨fb, off, none⟩) n c) acc ([101, 110, 100] :: linesT (p.drop (i + 1))) (linesT p)) := by
            have h1 := I.out
            rw [List.drop_of_length_le (by have := HBL.out; omega)] at h1
            exact h1
          clear I
          go_wp2_with (at_builtin; refine wpList_pushH [sv [101, 110, 100]] rfl _ _ 39 rfl (w.heap.size + 1) 9 _ 1 16 Tryd.underlying39 infoStr rfl (by omega) _ _ _ I1.out.own rfl _ rfl (by simp) rfl rfl (by unfold maxLen; omega) (by omega) (by first | omega | (simp; omega)) ?_; intro g cap w6 hown1 hg1 hg2 hg3; have I2 := Lib.hid (I1.out.push _ rfl hown1 hg1); clear hown1 hg1 hg2 hg3 HB g1 hx I1)
          go_roundw
          case rel => exact ⟨i + 1, _, by omega, by go_num, I2⟩
          case measure => simp [intOf]; omega
    · have e := I.out.eq
      rw [List.drop_of_length_le (by have := HL.out; omega)] at e
      have E : Hid (linesT p = acc) := by unfold Hid; rw [e]; simp [linesT]
      clear e
      have hx := (blk_cells I.out.box).1 0
      simp at hx
      go_wp2
      go_ret
      refine ⟨_, rfl, ?_, I.out.below⟩
      rw [E.out]
      exact SliceAt.of_owns I.out.own
end Go.Proofs.YtpnfdmajpkpjoaaDoor

