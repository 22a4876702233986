/- A part of the proof. -/
import Derived.Test.YtipnhmdibkkifaaGreatDoorNu05
import Derived.Deep.CutRange
import Derived.Test.YtipnhmdibkkifaaGreatDoorRows
import Derived.Test.YtipnhmdibkkifaaGreatDoorNu04
import Derived.Test.YtipnhmdibkkifaaGreatDoorNu01
import Derived.WalkKit
import Derived.WalkSpells
import Derived.WalkLawsBesides
import Derived.Lib.SliceRun
set_option linter.unusedVariables false
set_option linter.unusedSimpArgs false
set_option linter.unusedVariables false
set_option linter.unusedSimpArgs false
set_option linter.unusedSectionVars false
namespace Go.Proofs.YtipnhmdibkkifaaGreatDoor
open Go.RowKit
variable [Base]
def NodeQ (e : Int) (w : World) (x : Ending) (w' : World) : Prop := ∃ a b c d : Int, x = .returned (.tuple #[.agg #[iv a, iv b, iv c, iv d], iv e]) ∧ Below w.heap.size w w'
def ShortF (f : PFunc) : Prop := (∀ b ∈ f.blocks, b.name.length ≤ 1000) ∧ ∀ b ∈ f.blocks, ∀ s ∈ b.stmts, ∀ t ∈ s.targets, t.length ≤ maxLen
theorem blocksE_drop {fs bs : List Str} {l : List PBlock} {k : Nat} {b : PBlock} (h : l[k]? = some b) : blocksE fs bs (l.drop k) = firstE (stmtsE fs bs b.stmts) (blocksE fs bs (l.drop (k + 1))) := by
  obtain ⟨hk, rfl⟩ := List.getElem?_eq_some_iff.1 h
  rw [List.drop_eq_getElem_cons hk]
  rfl
theorem stmtsE_drop {fs bs : List Str} {l : List PStmt} {k : Nat} {s : PStmt} (h : l[k]? = some s) : stmtsE fs bs (l.drop k) = firstE (stmtE fs bs s (decide (k + 1 = l.length))) (stmtsE fs bs (l.drop (k + 1))) := by
  obtain ⟨hk, rfl⟩ := List.getElem?_eq_some_iff.1 h
  rw [List.drop_eq_getElem_cons hk]
  show firstE (stmtE fs bs l[k] (List.drop (k + 1) l).isEmpty) (stmtsE fs bs (List.drop (k + 1) l)) = _
  congr 2
  rw [Bool.eq_iff_iff, List.isEmpty_iff]
  simp [List.drop_eq_nil_iff]
  omega
theorem firstE_ne {e a : Int} (h : e ≠ 0) : firstE e a = e := if_neg h
set_option maxRecDepth 100000 in
set_option maxHeartbeats 16000000 in
theorem vfunction_any (f : PFunc) (fi : Int) (fs : List Str) (mb n : Nat) (v : Value) (w : World) (hb : BlocksAt w v f.blocks) (hs : ShortF f) (hm : NamesM w mb n fs) :
    Calls Tryz.prog 45 #[.agg #[sv f.name, v], iv fi, .map (some mb)] w (NodeQ (funcE fs f) w) := by
  obtain ⟨ba, bc, rfl, hbn, hbc⟩ := hb.cell
  have HBA := Lib.hid hb
  have HBC := Lib.hid hbc
  have HS := Lib.hid hs
  obtain ⟨bn, hbl⟩ : ∃ k, f.blocks.length = k := ⟨_, rfl⟩
  rw [hbl] at hbn HBA ⊢
  unfold maxLen at hbn
  have HBL := Lib.hid hbl
  obtain ⟨fb, hfb⟩ : ∃ b, w.heap.size = b := ⟨_, rfl⟩
  obtain ⟨W, hW⟩ : ∃ W, (w.alloc (.cells #[sv f.name, .slice ba bn bc] 74)).alloc (.cells #[iv 0, iv 0, iv 0, iv 0] 80) = W := ⟨_, rfl⟩
  have HFB := Lib.hid (show W.heap[fb]? = some (.cells #[sv f.name, .slice ba bn bc] 74 (0, 0)) by rw [← hW, ← hfb]; exact alloc_blk _ (heap_alloc_new _ _))
  have HRB := Lib.hid (show W.heap[fb + 1]? = some (.cells #[iv 0, iv 0, iv 0, iv 0] 80 (0, 0)) by rw [← hW, ← hfb]; have := heap_alloc_new (w.alloc (.cells #[sv f.name, .slice ba bn bc] 74)) (.cells #[iv 0, iv 0, iv 0, iv 0] 80); rwa [World.size_alloc] at this)
  have BW := Lib.hid (show Below w.heap.size w W by rw [← hW]; exact ((Below.refl _ _).alloc (Nat.le_refl _) _).alloc (by simp) _)
  have HWW := Lib.hid hW
  have HFE := Lib.hid hfb
  have HM := Lib.hid (hm.below BW.out)
  have HMW := Lib.hid hm
  obtain ⟨x0, x1⟩ := cells2s HFB.out
  obtain ⟨bs, hbs⟩ : ∃ l, bNames f = l := ⟨_, rfl⟩
  have HD := Lib.hid (show Calls Tryz.prog 70 #[.slice ba bn bc, .func (.func 71) #[] #[]] W (DupQ bs W) from by rw [← hbs]; exact dupB_any f.blocks HS.out.1 _ W (HBA.out.keep (SameT.below BW.out) (SameT.below BW.out) (SameT.below BW.out)))
  have HFN := Lib.hid (show funcE fs f = if 0 ≤ dupI bs then 6 else blocksE fs bs f.blocks by unfold funcE; rw [hbs])
  have HBS := Lib.hid hbs
  clear hb hbc hs hbl hW hm hbs
  go_enter Tryz.func45, Tryz.ntmps45
  go_upto_region 1 with (fail)
  rw [show (w.alloc (.cells #[sv f.name, .slice ba bn bc] 74)).alloc (.cells #[iv 0, iv 0, iv 0, iv 0] 80) = W from HWW.out]
  try rw [hfb]
  clear hfb
  go_wp2_with fail
  refine HD.out.mono ?_
  rintro e w1 ⟨b2, rfl, hm2, hb2, b1⟩
  have HM1 := Lib.hid (HM.out.below b1)
  have HM2 := Lib.hid hm2
  have HFB1 := Lib.hid (lies_below HFB.out b1 (lt_heap HFB.out))
  have HRB1 := Lib.hid (lies_below HRB.out b1 (lt_heap HRB.out))
  have B1 := Lib.hid (BW.out.trans (b1.mono BW.out.size))
  clear b1 hm2 hb2 x0 x1
  obtain ⟨x0, x1⟩ := cells2s HFB1.out
  obtain ⟨r0, r1, r2, r3⟩ := cells4s HRB1.out
  have fr := (lies_cells HRB1.out).2
  obtain ⟨d, hd⟩ : ∃ d, dupI bs = d := ⟨_, rfl⟩
  rw [hd] at HFN ⊢
  clear hd
  by_cases hd0 : 0 ≤ d
  · rw [if_pos hd0] at HFN
    go_wp2
    rw [HFN.out]
    obtain ⟨z0, z1, z2, z3⟩ := cells4s (set4 HRB1.out (iv 3) (iv fi) (iv d) (iv (-1)))
    exact bodyPost_ret (v := .tuple #[.agg #[iv 3, iv fi, iv d, iv (-1)], iv 6]) (by simp [results, Tryz.results45, go_sem, z0, z1, z2, z3]) rfl ⟨_, _, _, _, rfl, by (first | exact (B1.out) | exact ((((B1.out).setCell (by show w.heap.size ≤ fb + 1; have := HFE.out; omega) _).setCell (by show w.heap.size ≤ fb + 1; have := HFE.out; omega) _).setCell (by show w.heap.size ≤ fb + 1; have := HFE.out; omega) _).setCell (by show w.heap.size ≤ fb + 1; have := HFE.out; omega) _)⟩
  rw [if_neg hd0] at HFN
  go_wp2
  go_loopw [30] (fun y wr => ∃ k : Nat, k ≤ bn ∧ y = .int .i64 k ∧ Hid (Below w.heap.size w wr) ∧ Hid (NamesM wr b2 bs.length bs) ∧ Hid (wr.heap[fb + 1]? = some (.cells #[iv 0, iv 0, iv 0, iv 0] 80 (0, 0))) ∧ Hid (funcE fs f = blocksE fs bs (f.blocks.drop k))) (fun y _ => bn - (intOf y).toNat)
  case atStart => exact ⟨0, Nat.zero_le _, rfl, B1.out, HM2.out, HRB1.out, HFN.out⟩
  case round =>
    obtain ⟨k, hk, rfl, HB, HN2, HR, HE⟩ := hrel
    clear x0 x1 r0 r1 r2 r3 fr
    obtain ⟨r0, r1, r2, r3⟩ := cells4s HR.out
    have fr := (lies_cells HR.out).2
    by_cases hlt : k < bn
    rotate_left
    · have HF := Lib.hid (show funcE fs f = 0 by rw [HE.out, List.drop_eq_nil_of_le (by rw [HBL.out]; omega)]; rfl)
      go_wp2
      rw [HF.out]
      obtain ⟨z0, z1, z2, z3⟩ := cells4s (set4 HR.out (iv 0) (iv 0) (iv 0) (iv 0))
      exact bodyPost_ret (v := .tuple #[.agg #[iv 0, iv 0, iv 0, iv 0], iv 0]) (by simp [results, Tryz.results45, go_sem, z0, z1, z2, z3]) rfl ⟨_, _, _, _, rfl, by (first | exact (HB.out) | exact ((((HB.out).setCell (by show w.heap.size ≤ fb + 1; have := HFE.out; omega) _).setCell (by show w.heap.size ≤ fb + 1; have := HFE.out; omega) _).setCell (by show w.heap.size ≤ fb + 1; have := HFE.out; omega) _).setCell (by show w.heap.size ≤ fb + 1; have := HFE.out; omega) _)⟩
    · obtain ⟨b, hb⟩ : ∃ b, f.blocks[k]? = some b := ⟨_, List.getElem?_eq_getElem (by rw [HBL.out]; exact hlt)⟩
      obtain ⟨kb, ko, sv0, rfl, hkb, g0, g1, hsl⟩ := HBC.out k b hb
      have g0 := (HB.out.cell (p := ⟨kb, ko + k * 2, none⟩) hkb).trans g0
      have g1 := (HB.out.cell (p := ⟨kb, ko + k * 2 + 1, none⟩) hkb).trans g1
      obtain ⟨sa, sc, rfl, hsn, hsc⟩ := hsl.cell
      have HSC := Lib.hid hsc
      obtain ⟨sn, hsl2⟩ : ∃ n, b.stmts.length = n := ⟨_, rfl⟩
      rw [hsl2] at hsn g1
      unfold maxLen at hsn
      have HSL := Lib.hid hsl2
      have HBD := Lib.hid (HE.out.trans (blocksE_drop hb))
      have HSH := Lib.hid (fun s hs t ht => HS.out.2 b (List.mem_of_getElem? hb) s hs t ht)
      have hin : (k : Int) < (bn : Int) := by omega
      obtain ⟨bb, hbb⟩ : ∃ x, wr.heap.size = x := ⟨_, rfl⟩
      obtain ⟨V, hV⟩ : ∃ V, wr.alloc (.cells #[sv b.name, .slice sa sn sc] 99) = V := ⟨_, rfl⟩
      have HBB := Lib.hid (show V.heap[bb]? = some (.cells #[sv b.name, .slice sa sn sc] 99 (0, 0)) by rw [← hV, ← hbb]; exact heap_alloc_new _ _)
      have BV := Lib.hid (show Below wr.heap.size wr V by rw [← hV]; exact (Below.refl _ _).alloc (Nat.le_refl _) _)
      have HVV := Lib.hid hV
      have HB2 := Lib.hid (HB.out.trans (BV.out.mono HB.out.size))
      have HN3 := Lib.hid (HN2.out.below BV.out)
      have HR3 := Lib.hid (lies_below HR.out BV.out (lt_heap HR.out))
      clear hb hsl hsc hsl2 hV
      go_upto_region 7 with (fail)
      rw [show wr.alloc (.cells #[sv b.name, .slice sa sn sc] 99) = V from HVV.out]
      try rw [hbb]
      clear hbb g0 g1 r0 r1 r2 r3 fr
      obtain ⟨x0, x1⟩ := cells2s HBB.out
      go_wp2
      obtain ⟨V0, hV0⟩ : ∃ V0, V0 = V := ⟨_, rfl⟩
      go_loopw [38] (fun y wr => ∃ j : Nat, j ≤ sn ∧ y = .int .i64 j ∧ Hid (Below w.heap.size w wr) ∧ Hid (NamesM wr b2 bs.length bs) ∧ Hid (wr.heap[fb + 1]? = some (.cells #[iv 0, iv 0, iv 0, iv 0] 80 (0, 0))) ∧ Hid (wr.heap[bb]? = some (.cells #[sv b.name, .slice sa sn sc] 99 (0, 0))) ∧ Hid (stmtsE fs bs b.stmts = stmtsE fs bs (b.stmts.drop j))) (fun y _ => sn - (intOf y).toNat)
      case atStart => exact ⟨0, Nat.zero_le _, rfl, HB2.out, HN3.out, HR3.out, HBB.out, by unfold Hid; simp⟩
      case round =>
        clear x0 x1
        obtain ⟨j, hj, rfl, HB4, HN4, HR4, HBB4, HE4⟩ := hrel
        obtain ⟨x0, x1⟩ := cells2s HBB4.out
        by_cases hlt2 : j < sn
        rotate_left
        · have HF := Lib.hid (show stmtsE fs bs b.stmts = 0 by rw [HE4.out, List.drop_eq_nil_of_le (by rw [HSL.out]; omega)]; rfl)
          have HF2 := Lib.hid (show funcE fs f = blocksE fs bs (f.blocks.drop (k + 1)) by rw [HBD.out, HF.out]; rfl)
          go_wp2
          go_roundw
          case rel => exact ⟨k + 1, by omega, by go_num, HB4, HN4, HR4, HF2⟩
          case measure => simp [intOf]; omega
        · obtain ⟨s, hs⟩ : ∃ s, b.stmts[j]? = some s := ⟨_, List.getElem?_eq_getElem (by rw [HSL.out]; exact hlt2)⟩
          obtain ⟨jb, jo, su, tu, rfl, hjb, q0, q1, q2, q3, hsu, htu⟩ := HSC.out j s hs
          have q0 := (HB4.out.cell (p := ⟨jb, jo + j * 4, none⟩) hjb).trans q0
          have q1 := (HB4.out.cell (p := ⟨jb, jo + j * 4 + 1, none⟩) hjb).trans q1
          have q2 := (HB4.out.cell (p := ⟨jb, jo + j * 4 + 2, none⟩) hjb).trans q2
          have q3 := (HB4.out.cell (p := ⟨jb, jo + j * 4 + 3, none⟩) hjb).trans q3
          obtain ⟨sua, suc, rfl, -, -⟩ := hsu.cell
          have HTU := Lib.hid htu
          obtain ⟨tua, tuc, rfl, -, -⟩ := htu.cell
          obtain ⟨un, hun⟩ : ∃ n, s.uses.length = n := ⟨_, rfl⟩
          obtain ⟨tn, htn⟩ : ∃ n, s.targets.length = n := ⟨_, rfl⟩
          rw [hun] at q2
          rw [htn] at q3 HTU
          have HSD := Lib.hid (HE4.out.trans (stmtsE_drop hs))
          have HSM := Lib.hid (List.mem_of_getElem? hs)
          have hjn : (j : Int) < (sn : Int) := by omega
          have hls : (decide (j + 1 = b.stmts.length)) = ((j : Int) == (sn : Int) - 1) := by rw [HSL.out, Bool.eq_iff_iff]; simp; omega
          rw [hls, stmtE_tgt] at HSD
          obtain ⟨sb, hsb⟩ : ∃ x, wr.heap.size = x := ⟨_, rfl⟩
          obtain ⟨U, hU⟩ : ∃ U, wr.alloc (.cells #[iv s.op, sv s.dfn, .slice sua un suc, .slice tua tn tuc] 118) = U := ⟨_, rfl⟩
          have HSB := Lib.hid (show U.heap[sb]? = some (.cells #[iv s.op, sv s.dfn, .slice sua un suc, .slice tua tn tuc] 118 (0, 0)) by rw [← hU, ← hsb]; exact heap_alloc_new _ _)
          have BU := Lib.hid (show Below wr.heap.size wr U by rw [← hU]; exact (Below.refl _ _).alloc (Nat.le_refl _) _)
          have HUU := Lib.hid hU
          have HB5 := Lib.hid (HB4.out.trans (BU.out.mono HB4.out.size))
          have HN5 := Lib.hid (HN4.out.below BU.out)
          have HM5 := Lib.hid (show NamesM U mb n fs from (HMW.out.below HB5.out))
          have HR5 := Lib.hid (lies_below HR4.out BU.out (lt_heap HR4.out))
          have HBB5 := Lib.hid (lies_below HBB4.out BU.out (lt_heap HBB4.out))
          have HTU5 := Lib.hid (show StrsAt U (.slice tua tn tuc) s.targets from HTU.out.same (SameT.below HB5.out))
          clear hs hsu htu hun htn hU x0 x1 hls
          go_upto_region 10 with (fail)
          rw [show wr.alloc (.cells #[iv s.op, sv s.dfn, .slice sua un suc, .slice tua tn tuc] 118) = U from HUU.out]
          try rw [hsb]
          clear hsb q0 q1 q2 q3
          obtain ⟨x0, x1⟩ := cells2s HBB5.out
          obtain ⟨y0, y1, y2, y3⟩ := cells4s HSB.out
          obtain ⟨lst, hlst⟩ : ∃ r, ((j : Int) == (sn : Int) - 1) = r := ⟨_, rfl⟩
          rw [hlst] at HSD
          have HLST := Lib.hid hlst
          go_upto_if 46 with (fail)
          go_cut [14] from 43 to 47 (fun s14 wx => ∃ (q nq : Nat) (ql : List Str), s14 = .map (some q) ∧ U = wx ∧ Hid (NamesM U q nq ql) ∧ Hid (stmtsE fs bs b.stmts = firstE (tgtE ql s lst) (stmtsE fs bs (b.stmts.drop (j + 1)))))
          case first =>
            by_cases h3 : s.op = 3
            · have h3b : (s.op == 3) = true := by simpa using h3
              rw [h3b, if_pos rfl] at HSD
              go_wp2
              go_meet
              case rel => exact ⟨mb, n, fs, rfl, rfl, HM5, HSD⟩
            · have h3b : (s.op == 3) = false := by simpa using h3
              rw [h3b, if_neg (by simp)] at HSD
              go_wp2
              go_meet
              case rel => exact ⟨b2, bs.length, bs, rfl, rfl, HN5, HSD⟩
          case rest =>
            obtain ⟨q, nq, ql, rfl, rfl, HQM, HSQ⟩ := hcut
            clear HSD
            have HSD := HSQ
            clear HSQ
            obtain ⟨er, her⟩ : ∃ r, tgtE ql s lst = r := ⟨_, rfl⟩
            have HST := Lib.hid (show Calls Tryz.prog 72 #[.agg #[iv s.op, sv s.dfn, .slice sua un suc, .slice tua tn tuc], .bool lst, .map (some q)] U (IntQ er U) from by rw [← her]; exact statement_any s lst ql _ _ _ _ _ _ U HTU5.out (fun t ht => HSH.out s HSM.out t ht) HQM.out)
            rw [her] at HSD
            clear her
            go_wp2_with fail
            refine HST.out.mono ?_
            rintro e w6 ⟨rfl, b6⟩
            have HB6 := Lib.hid (HB5.out.trans (b6.mono HB5.out.size))
            have HN6 := Lib.hid (HN5.out.below b6)
            have HR6 := Lib.hid (lies_below HR5.out b6 (lt_heap HR5.out))
            have HBB6 := Lib.hid (lies_below HBB5.out b6 (lt_heap HBB5.out))
            clear b6 x0 x1 y0 y1 y2 y3 hlst
            obtain ⟨r0, r1, r2, r3⟩ := cells4s HR6.out
            have fr := (lies_cells HR6.out).2
            by_cases her0 : er = 0
            · have HF := Lib.hid (show stmtsE fs bs b.stmts = stmtsE fs bs (b.stmts.drop (j + 1)) by rw [HSD.out, her0]; rfl)
              have hne0 : (er != 0) = false := by simpa using her0
              clear her0
              go_wp2
              go_roundw
              case rel => exact ⟨j + 1, by omega, by go_num, HB6, HN6, HR6, HBB6, HF⟩
              case measure => simp [intOf]; omega
            · have HF := Lib.hid (show funcE fs f = er by rw [HBD.out, HSD.out, firstE_ne her0, firstE_ne her0])
              have hne0 : (er != 0) = true := by simpa using her0
              clear her0
              go_wp2
              rw [HF.out]
              obtain ⟨z0, z1, z2, z3⟩ := cells4s (set4 HR6.out (iv 3) (iv fi) (iv k) (iv j))
              exact bodyPost_ret (v := .tuple #[.agg #[iv 3, iv fi, iv k, iv j], iv er]) (by simp [results, Tryz.results45, go_sem, z0, z1, z2, z3]) rfl ⟨_, _, _, _, rfl, by (first | exact (HB6.out) | exact ((((HB6.out).setCell (by show w.heap.size ≤ fb + 1; have := HFE.out; omega) _).setCell (by show w.heap.size ≤ fb + 1; have := HFE.out; omega) _).setCell (by show w.heap.size ≤ fb + 1; have := HFE.out; omega) _).setCell (by show w.heap.size ≤ fb + 1; have := HFE.out; omega) _)⟩
end Go.Proofs.YtipnhmdibkkifaaGreatDoor
set_option linter.unusedVariables false
set_option linter.unusedSimpArgs false
set_option linter.unusedSectionVars false
namespace Go.Proofs.YtipnhmdibkkifaaGreatDoor
open Go.RowKit
variable [Base]
theorem info_str : (Tryz.prog.info? 9).map (fun i => (i.zero, i.size, i.bytes)) = some (some (Value.string ⟨#[]⟩), 1, 16) := by kernel_rfl
def Ownstr (w : World) (n : Nat) (xs : List Value) (e : Ending) (w' : World) : Prop :=
  ∃ a c, e = .returned (.slice a n c) ∧ w'.ownsRow w.heap.size 9 1 (.slice a n c) n xs ∧ Below w.heap.size w w'
theorem grown_str {w : World} {n cap : Nat} (h1 : n ≤ cap) (h2 : cap ≤ maxLen) : (w.drew.alloc (.cells (Builtin.zeroCells ((Value.string ⟨#[]⟩) : Value).cells n ++ Builtin.zeroCells ((Value.string ⟨#[]⟩) : Value).cells (cap - n)) 9)).ownsRow w.heap.size 9 1 (.slice (some ⟨w.heap.size, 0, none⟩) 0 cap) 0 [] := by
  refine ⟨rfl, .inr ⟨w.heap.size, cap, _, rfl, Nat.le_refl _, heap_alloc_new w.drew _, Nat.zero_le _, h2, ?_, rfl⟩⟩
  rw [Array.size_append, size_zeroCells, size_zeroCells]
  show n * 1 + (cap - n) * 1 = cap * 1
  rw [← Nat.add_mul]
  congr 1
  omega
set_option maxRecDepth 100000 in
theorem grow_str (n : Nat) (hn : n ≤ 1000000) (w : World) : Calls Tryz.prog 159 #[.slice none 0 0, .int .i64 n] w (Ownstr w 0 []) := by
  by_cases h0 : n = 0
  · subst h0
    go_enter Tryz.func159, Tryz.ntmps159
    go_wp2
    go_ret
    exact ⟨none, 0, rfl, World.ownsRow_nil _ _ _ _, Below.refl _ _⟩
  · have hpos : 0 < n := by omega
    obtain ⟨cap, h1, h2, hr⟩ := run_grow_nil (P := Tryz.prog) w 30 3 9 (Value.string ⟨#[]⟩) 1 16 Tryz.underlying30 Tryz.underlying3 info_str (by decide) n hpos (by omega) (by omega)
    obtain ⟨C, hC⟩ : ∃ C, (Builtin.zeroCells ((Value.string ⟨#[]⟩) : Value).cells n ++ Builtin.zeroCells ((Value.string ⟨#[]⟩) : Value).cells (cap - n)) = C := ⟨_, rfl⟩
    rw [hC] at hr
    have HC := Lib.hid hC
    clear h0 hC
    have hn' : (n : Int) > 0 := by omega
    have H1 := Lib.hid h1
    have H2 := Lib.hid h2
    have h3 : n ≤ cap := h1
    unfold maxLen at h2
    clear h1
    go_enter Tryz.func159, Tryz.ntmps159
    go_wp2_with (at_builtin; refine Lib.wpList_append_run _ rfl _ _ _ _ rfl _ _ rfl rfl _ _ (hr _) ?_)
    go_ret
    exact ⟨_, _, rfl, HC.out ▸ grown_str H1.out H2.out, ((Below.refl _ _).alloc (Nat.le_refl _) _ : Below w.heap.size w (w.alloc _)).drew⟩
set_option maxRecDepth 100000 in
set_option maxHeartbeats 1000000 in
theorem concat_str {a1 : Option Addr} {n1 c1 : Nat} {xs1 : List Value} {a2 : Option Addr} {n2 c2 : Nat} {xs2 : List Value} {a3 : Option Addr} {n3 c3 : Nat} {xs3 : List Value} (b : Nat) (w : World) (hb : w.heap[b]? = some (.cells #[.slice a1 n1 c1, .slice a2 n2 c2, .slice a3 n3 c3] 30 (0, 0))) (h1 : SliceAt w 9 1 (.slice a1 n1 c1) xs1) (h2 : SliceAt w 9 1 (.slice a2 n2 c2) xs2) (h3 : SliceAt w 9 1 (.slice a3 n3 c3) xs3) (l1 : xs1.length = n1 * 1) (l2 : xs2.length = n2 * 1) (l3 : xs3.length = n3 * 1) (o1 : xs1.all Value.oneCell' = true) (o2 : xs2.all Value.oneCell' = true) (o3 : xs3.all Value.oneCell' = true) (hn : n1 + n2 + n3 ≤ 1000000) :
    Calls Tryz.prog 141 #[.slice (some ⟨b, 0, none⟩) 3 3] w (Ownstr w (n1 + n2 + n3) (xs1 ++ xs2 ++ xs3)) := by
  have H1 := Lib.hid h1
  have L1 := Lib.hid l1
  have O1 := Lib.hid o1
  have H2 := Lib.hid h2
  have L2 := Lib.hid l2
  have O2 := Lib.hid o2
  have H3 := Lib.hid h3
  have L3 := Lib.hid l3
  have O3 := Lib.hid o3
  have HB := Lib.hid hb
  have hlt := lt_heap hb
  have c1_ := (blk_cells hb).1 0
  have c2_ := (blk_cells hb).1 1
  have c3_ := (blk_cells hb).1 2
  simp at c1_ c2_ c3_
  clear hb h1 l1 o1 h2 l2 o2 h3 l3 o3
  have hs : (n1 : Int) + (n2 : Int) + (n3 : Int) = ((n1 + n2 + n3 : Nat) : Int) := by simp
  have HS := Lib.hid hs
  clear hs
  go_enter Tryz.func141, Tryz.ntmps141
  go_wp2
  refine wp_loop_rounds 4 ?_
  rw [rounds_succ]
  go_wp2_with fail
  rw [rounds_succ]
  go_wp2_with fail
  rw [rounds_succ]
  go_wp2_with fail
  rw [rounds_succ]
  go_wp2_with fail
  rw [HS.out]
  refine (grow_str (n1 + n2 + n3) hn w).mono ?_
  rintro e v0 ⟨g0, d0, rfl, own0, b0⟩
  have OW0 := Lib.hid own0
  have B0 := Lib.hid b0
  clear own0 b0
  clear c1_
  clear c2_
  clear c3_
  have c1_ := (blk_cells ((B0.out.block b hlt).trans HB.out)).1 0
  have c2_ := (blk_cells ((B0.out.block b hlt).trans HB.out)).1 1
  have c3_ := (blk_cells ((B0.out.block b hlt).trans HB.out)).1 2
  simp at c1_ c2_ c3_
  go_wp2
  refine wp_loop_rounds 4 ?_
  rw [rounds_succ]
  go_wp2_with (at_builtin; refine wpList_append_sl rfl _ _ 30 rfl w.heap.size 9 _ 1 16 Tryz.underlying30 info_str rfl (by decide) _ _ _ OW0.out rfl _ n1 _ rfl (SliceAt.same H1.out (SameT.below B0.out)) L1.out O1.out (by unfold maxLen; omega) (by omega) (by have := B0.out.size; omega) ?_; intro g1 d1 v1 own1 gr1; simp only [Nat.zero_add, List.nil_append] at own1; have OW1 := Lib.hid own1; have B1 := Lib.hid (B0.out.trans (Below.of_grown gr1 OW0.out (by have := B0.out.size; omega))); clear own1 gr1 c1_ c2_ c3_; have c1_ := (blk_cells ((B1.out.block b hlt).trans HB.out)).1 0; have c2_ := (blk_cells ((B1.out.block b hlt).trans HB.out)).1 1; have c3_ := (blk_cells ((B1.out.block b hlt).trans HB.out)).1 2; simp at c1_ c2_ c3_)
  rw [rounds_succ]
  go_wp2_with (at_builtin; refine wpList_append_sl rfl _ _ 30 rfl w.heap.size 9 _ 1 16 Tryz.underlying30 info_str rfl (by decide) _ _ _ OW1.out rfl _ n2 _ rfl (SliceAt.same H2.out (SameT.below B1.out)) L2.out O2.out (by unfold maxLen; omega) (by omega) (by have := B1.out.size; omega) ?_; intro g2 d2 v2 own2 gr2; have OW2 := Lib.hid own2; have B2 := Lib.hid (B1.out.trans (Below.of_grown gr2 OW1.out (by have := B1.out.size; omega))); clear own2 gr2 c1_ c2_ c3_; have c1_ := (blk_cells ((B2.out.block b hlt).trans HB.out)).1 0; have c2_ := (blk_cells ((B2.out.block b hlt).trans HB.out)).1 1; have c3_ := (blk_cells ((B2.out.block b hlt).trans HB.out)).1 2; simp at c1_ c2_ c3_)
  rw [rounds_succ]
  go_wp2_with (at_builtin; refine wpList_append_sl rfl _ _ 30 rfl w.heap.size 9 _ 1 16 Tryz.underlying30 info_str rfl (by decide) _ _ _ OW2.out rfl _ n3 _ rfl (SliceAt.same H3.out (SameT.below B2.out)) L3.out O3.out (by unfold maxLen; omega) (by omega) (by have := B2.out.size; omega) ?_; intro g3 d3 v3 own3 gr3; have OW3 := Lib.hid own3; have B3 := Lib.hid (B2.out.trans (Below.of_grown gr3 OW2.out (by have := B2.out.size; omega))); clear own3 gr3 c1_ c2_ c3_; have c1_ := (blk_cells ((B3.out.block b hlt).trans HB.out)).1 0; have c2_ := (blk_cells ((B3.out.block b hlt).trans HB.out)).1 1; have c3_ := (blk_cells ((B3.out.block b hlt).trans HB.out)).1 2; simp at c1_ c2_ c3_)
  rw [rounds_succ]
  go_wp2
  go_ret
  have OK := OW3.out
  simp only [Nat.zero_add, List.nil_append] at OK ⊢
  exact ⟨_, _, rfl, OK, B3.out⟩
theorem empty_str (w : World) : (w.alloc (.cells #[] 9)).ownsRow w.heap.size 9 1 (.slice (some ⟨w.heap.size, 0, none⟩) 0 0) 0 [] :=
  ⟨rfl, .inr ⟨w.heap.size, 0, #[], rfl, Nat.le_refl _, heap_alloc_new w _, Nat.le_refl _, Nat.zero_le _, rfl, rfl⟩⟩
set_option maxRecDepth 100000 in
set_option maxHeartbeats 1000000 in
theorem clone_str (v : Value) (n : Nat) (xs : List Value) (w : World) (h : SliceAt w 9 1 v xs) (hl : xs.length = n * 1) (ho : xs.all Value.oneCell' = true) (hn : n ≤ 8796093022208) :
    Calls Tryz.prog 106 #[v] w (Ownstr w n xs) := by
  have H := Lib.hid h
  have L := Lib.hid hl
  have O := Lib.hid ho
  obtain ⟨m, cap, e1, e2, e3, h4⟩ := h
  have hm : m = n := by omega
  subst hm
  obtain ⟨oa, oc, rfl, hoc, hnil⟩ : ∃ oa oc, v = .slice oa m oc ∧ oc ≤ maxLen ∧ (oa = none → m = 0 ∧ oc = 0) := by
    rcases h4 with ⟨⟨a, rfl⟩, rfl⟩ | ⟨b, off, c, fr, rfl, hb, hc⟩
    · exact ⟨a, 0, rfl, Nat.zero_le _, fun _ => ⟨rfl, rfl⟩⟩
    · exact ⟨_, cap, rfl, e3, fun h => by cases h⟩
  clear h4
  rcases oa with _ | oa
  · obtain ⟨rfl, rfl⟩ := hnil rfl
    have hx : xs = [] := List.length_eq_zero_iff.1 (by omega)
    subst hx
    clear hl ho e1 H L O
    have q := fun (w : World) (a : Option Addr) (n c n' c' : Nat) => Lib.run_eql_slice_nil (P := Tryz.prog) w 30 9 a n c n' c' Tryz.underlying30
    go_enter Tryz.func106, Tryz.ntmps106
    go_wp2
    go_ret
    exact ⟨none, 0, rfl, World.ownsRow_nil _ _ _ _, Below.refl _ _⟩
  · unfold maxLen at e3 hoc
    have OW := Lib.hid (empty_str w)
    clear hl ho e1 hnil
    have q := fun (w : World) (a : Option Addr) (n c n' c' : Nat) => Lib.run_eql_slice_nil (P := Tryz.prog) w 30 9 a n c n' c' Tryz.underlying30
    go_enter Tryz.func106, Tryz.ntmps106
    go_wp2_with (at_builtin; refine wpList_append_sl rfl _ _ 30 rfl w.heap.size 9 _ 1 16 Tryz.underlying30 info_str rfl (by decide) _ _ _ OW.out rfl _ m _ rfl (SliceAt.same H.out SameT.alloc) L.out O.out (by unfold maxLen; omega) (by omega) (by simp) ?_; intro g d w1 own1 gr1; simp only [Nat.zero_add, List.nil_append] at own1; have OW1 := Lib.hid own1; have B1 := Lib.hid (((Below.refl w.heap.size w).alloc (Nat.le_refl _) _).trans (Below.of_grown gr1 OW.out (by simp))); clear own1 gr1)
    go_ret
    exact ⟨_, _, by simp, OW1.out, B1.out⟩
end Go.Proofs.YtipnhmdibkkifaaGreatDoor
set_option linter.unusedVariables false
set_option linter.unusedSimpArgs false
set_option linter.unusedSectionVars false
namespace Go.Proofs.YtipnhmdibkkifaaGreatDoor
open Go.RowKit
variable [Base]
def IndexPost (ls : List (List UInt8)) (l : List UInt8) (w : World) (e : Ending) (w' : World) : Prop :=
  ∃ r : Int, e = .returned (.int .i64 r) ∧ Hid (decide (0 ≤ r) = hasB ls l) ∧ ∃ k, w' = w.drewN k
theorem index_any (ls : List (List UInt8)) (l : List UInt8) (n c : Nat) (a : Option Addr) (w : World) (hx : Hid (ls.length = n)) (hn : n ≤ 9223372036854775807) (F : Hid (RowAt w a ls)) :
    Calls Tryz.prog 31 #[.slice a n c, .string ⟨l.toArray⟩] w (IndexPost ls l w) := by
  go_enter Tryz.func31, Tryz.ntmps31
  go_wp2
  go_loopw [8] (fun v wr => ∃ k m : Nat, k ≤ n ∧ v = .int .i64 k ∧ wr = w.drewN m ∧ Hid (hasB ls l = hasB (ls.drop k) l)) (fun v _ => n - (intOf v).toNat)
  case atStart => exact ⟨0, 0, Nat.zero_le _, rfl, rfl, by unfold Hid; simp⟩
  case round =>
    obtain ⟨k, m, hk, rfl, rfl, hs⟩ := hrel
    by_cases hlt : k < n
    · obtain ⟨t, ht⟩ : ∃ t, ls[k]? = some t := ⟨ls[k]'(by have := hx.out; omega), by simp⟩
      obtain ⟨b, off, rfl, g⟩ := F.out k t ht
      have st := Lib.hid (contains_step ls k t l ht)
      clear ht
      cases e : l == t
      · go_wp2
        go_roundw
        case rel => exact ⟨k + 1, _, by omega, by go_num, rfl, by unfold Hid; rw [hs.out, st.out, e]; rfl⟩
        case measure => simp [intOf]; omega
      · go_wp2
        go_ret
        exact ⟨k, rfl, by unfold Hid; rw [hs.out, st.out, e]; simp, _, rfl⟩
    · go_wp2
      go_ret
      exact ⟨-1, rfl, by unfold Hid; rw [hs.out, List.drop_of_length_le (by have := hx.out; omega)]; rfl, _, rfl⟩
end Go.Proofs.YtipnhmdibkkifaaGreatDoor
