/- The reference's comparison of two programs: a program is equal to itself. -/
import Derived.Test.YtpnfdmajpkpjoaaDoorQTxtW
import Derived.Deep.CutRange
import Derived.RegionTactic
import Derived.BigRegion
import Derived.ChangeAlike
import Derived.Test.YtpnfdmajpkpjoaaDoorQRSyn10
set_option linter.unusedVariables false
set_option linter.unusedSimpArgs false
namespace Go.Proofs.YtpnfdmajpkpjoaaDoor
open Go.RowKit

def TrueN (w : World) (e : Ending) (w' : World) : Prop := e = .returned (.bool true) ∧ ∃ k, w' = w.drewN k

theorem strs_same (l : List Str) (va vb : Value) (w : World) (ha : StrsAt w va l) (hb : StrsAt w vb l) :
    Calls Tryd.prog 37 #[va, vb] w (TrueN w) := by
  obtain ⟨a1, c1, rfl, hn, hc1⟩ := ha.cell
  obtain ⟨a2, c2, rfl, _, hc2⟩ := hb.cell
  have HC1 := Lib.hid hc1
  have HC2 := Lib.hid hc2
  obtain ⟨n, hl⟩ : ∃ n, l.length = n := ⟨_, rfl⟩
  rw [hl] at hn ⊢
  have HL := Lib.hid hl
  clear hc1 hc2 ha hb hl
  unfold maxLen at hn
  go_enter Tryd.func37, Tryd.ntmps37
  go_wp2
  go_loopw [5] (fun x wr => ∃ k m : Nat, k ≤ n ∧ x = .int .i64 k ∧ wr = w.drewN m) (fun x _ => n - (intOf x).toNat)
  case atStart => exact ⟨0, 0, Nat.zero_le _, rfl, rfl⟩
  case round =>
    obtain ⟨k, m, hk, rfl, rfl⟩ := hrel
    by_cases hlt : k < n
    · obtain ⟨t, ht⟩ : ∃ t, l[k]? = some t := ⟨_, List.getElem?_eq_getElem (show k < l.length by have := HL.out; omega)⟩
      obtain ⟨b1, o1, rfl, _, g1⟩ := HC1.out k t ht
      obtain ⟨b2, o2, rfl, _, g2⟩ := HC2.out k t ht
      clear ht
      go_wp2
      go_quiet (fail)
      go_wp2
      go_roundw
      case rel => exact ⟨k + 1, _, by omega, by go_num, rfl⟩
      case measure => simp [intOf]; omega
    · go_wp2
      go_ret
      exact ⟨rfl, _, rfl⟩

theorem two_new {w : World} {T : TypeId} (a b : Array Value) : (∀ o, ((w.alloc (.cells a T)).alloc (.cells b T)).cell? ⟨w.heap.size, o, none⟩ = a[o]?) ∧ (∀ o, ((w.alloc (.cells a T)).alloc (.cells b T)).frozen? ⟨w.heap.size, o, none⟩ = false) :=
  blk_cells (alloc_blk _ (heap_alloc_new w (.cells a T)))
theorem two_new' {w : World} {T : TypeId} (a b : Array Value) : (∀ o, ((w.alloc (.cells a T)).alloc (.cells b T)).cell? ⟨w.heap.size + 1, o, none⟩ = b[o]?) ∧ (∀ o, ((w.alloc (.cells a T)).alloc (.cells b T)).frozen? ⟨w.heap.size + 1, o, none⟩ = false) :=
  blk_cells (by have h2 := heap_alloc_new (w.alloc (.cells a T)) (.cells b T); rw [World.size_alloc] at h2; exact h2)
/-- What the loops of 'Equal' hold. -/
structure EqIn (w0 : World) (pv qv : Value) (w : World) : Prop where
  below : Below w0.heap.size w0 w
  p : w.heap[w0.heap.size]? = some (.cells #[pv] 34 (0, 0))
  q : w.heap[w0.heap.size + 1]? = some (.cells #[qv] 34 (0, 0))
theorem EqIn.keep {w0 w w' : World} {pv qv : Value} (h : EqIn w0 pv qv w) (hb : Below w.heap.size w w') : EqIn w0 pv qv w' := by
  have h1 := lt_heap h.p
  have h2 := lt_heap h.q
  exact ⟨h.below.trans (hb.mono (by omega)), (hb.block _ h1).trans h.p, (hb.block _ h2).trans h.q⟩
set_option maxRecDepth 100000 in
set_option maxHeartbeats 8000000 in
theorem equal_same (p : List PFunc) (va vb : Value) (w : World) (ha : FuncsAt w va p) (hb : FuncsAt w vb p) :
    Calls Tryd.prog 19 #[.agg #[va], .agg #[vb]] w (BoolPost true w) := by
  obtain ⟨a1, c1, rfl, hn, hc1⟩ := ha.cell
  obtain ⟨a2, c2, rfl, _, hc2⟩ := hb.cell
  have HC1 := Lib.hid hc1
  have HC2 := Lib.hid hc2
  obtain ⟨n, hl⟩ : ∃ n, p.length = n := ⟨_, rfl⟩
  rw [hl] at hn ⊢
  have HL := Lib.hid hl
  clear hc1 hc2 ha hb hl
  unfold maxLen at hn
  go_enter Tryd.func19, Tryd.ntmps19
  have I0 : Hid (EqIn w (.slice a1 n c1) (.slice a2 n c2) ((w.alloc (.cells #[.slice a1 n c1] 34)).alloc (.cells #[.slice a2 n c2] 34))) :=
    ⟨((Below.refl _ _).alloc (Nat.le_refl _) _).alloc (by simp) _, alloc_blk _ (heap_alloc_new _ _), by have h2 := heap_alloc_new (w.alloc (.cells #[.slice a1 n c1] 34)) (.cells #[.slice a2 n c2] 34); rw [World.size_alloc] at h2; exact h2⟩
  go_wp2
  go_loopw [5] (fun x wr => ∃ i : Nat, i ≤ n ∧ x = .int .i64 i ∧ Hid (EqIn w (.slice a1 n c1) (.slice a2 n c2) wr)) (fun x _ => n - (intOf x).toNat)
  case atStart => exact ⟨0, Nat.zero_le _, rfl, I0⟩
  case round =>
    obtain ⟨i, hi, rfl, I⟩ := hrel
    clear I0
    have p0 := (blk_cells I.out.p).1 0
    have q0 := (blk_cells I.out.q).1 0
    have hzp := lt_heap I.out.p
    have hzq := lt_heap I.out.q
    simp at p0 q0
    by_cases hlt : i < n
    · obtain ⟨f, hf⟩ : ∃ f, p[i]? = some f := ⟨_, List.getElem?_eq_getElem (show i < p.length by have := HL.out; omega)⟩
      obtain ⟨d1, e1_, v1, rfl, hd1, n1, l1, hs1⟩ := HC1.out i f hf
      obtain ⟨d2, e2_, v2, rfl, hd2, n2, l2, hs2⟩ := HC2.out i f hf
      have n1 := (I.out.below.cell (p := ⟨d1, e1_ + i * 2, none⟩) hd1).trans n1
      have l1 := (I.out.below.cell (p := ⟨d1, e1_ + i * 2 + 1, none⟩) hd1).trans l1
      have n2 := (I.out.below.cell (p := ⟨d2, e2_ + i * 2, none⟩) hd2).trans n2
      have l2 := (I.out.below.cell (p := ⟨d2, e2_ + i * 2 + 1, none⟩) hd2).trans l2
      obtain ⟨ba1, bc1, rfl, hbn, hbc1⟩ := hs1.cell
      obtain ⟨ba2, bc2, rfl, _, hbc2⟩ := hs2.cell
      have HBC1 := Lib.hid hbc1
      have HBC2 := Lib.hid hbc2
      obtain ⟨bn, hbl⟩ : ∃ n, f.blocks.length = n := ⟨_, rfl⟩
      rw [hbl] at l1 l2 hbn
      unfold maxLen at hbn
      have HBL := Lib.hid hbl
      clear hbc1 hbc2 hbl hs1 hs2 hf
      have hz1 : d1 < wr.heap.size := by omega
      have hz2 : d2 < wr.heap.size := by omega
      have z1 := fun a b => (two_new (w := wr) (T := 50) a b).1
      have z2 := fun a b => (two_new (w := wr) (T := 50) a b).2
      have z3 := fun a b => (two_new' (w := wr) (T := 50) a b).1
      have z4 := fun a b => (two_new' (w := wr) (T := 50) a b).2
      obtain ⟨N, hN⟩ : ∃ N, wr.heap.size = N := ⟨_, rfl⟩
      have e1 : (N == N + 1) = false := by rw [beq_eq_false_iff_ne]; omega
      have e2 : (N + 1 == N) = false := by rw [beq_eq_false_iff_ne]; omega
      have e3 : (d1 == N) = false := by rw [beq_eq_false_iff_ne]; omega
      have e4 : (d1 == N + 1) = false := by rw [beq_eq_false_iff_ne]; omega
      have e5 : (d2 == N) = false := by rw [beq_eq_false_iff_ne]; omega
      have e6 : (d2 == N + 1) = false := by rw [beq_eq_false_iff_ne]; omega
      rw [← hN] at e1 e2 e3 e4 e5 e6
      clear hN
      go_upto_region 6 with fail
      go_cut [6, 7] from 21 to 127 (fun xf xg wx => ∃ bf bg, xf = .pointer (some ⟨bf, 0, none⟩) ∧ xg = .pointer (some ⟨bg, 0, none⟩) ∧ Hid (Below wr.heap.size wr wx) ∧ Hid (wx.heap[bf]? = some (.cells #[sv f.name, .slice ba1 bn bc1] 50 (0, 0))) ∧ Hid (wx.heap[bg]? = some (.cells #[sv f.name, .slice ba2 bn bc2] 50 (0, 0))))
      case first =>
        go_region
        · go_wp2_with fail
          go_meet
          case rel => exact ⟨_, _, rfl, rfl, (((Below.refl _ _).alloc (Nat.le_refl _) _).alloc (by simp) _).drew, alloc_blk _ (heap_alloc_new _ _), by have h2 := heap_alloc_new (wr.alloc (.cells #[sv f.name, .slice ba1 bn bc1] 50)) (.cells #[sv f.name, .slice ba2 bn bc2] 50); rw [World.size_alloc] at h2; exact h2⟩
        · go_wp2_with fail
          go_meet
          case rel => exact ⟨_, _, rfl, rfl, (((Below.refl _ _).alloc (Nat.le_refl _) _).alloc (by simp) _).drew, by have h2 := heap_alloc_new (wr.alloc (.cells #[sv f.name, .slice ba2 bn bc2] 50)) (.cells #[sv f.name, .slice ba1 bn bc1] 50); rw [World.size_alloc] at h2; exact h2, alloc_blk _ (heap_alloc_new _ _)⟩
      case rest =>
        clear z1 z2 z3 z4 e1 e2 e3 e4 e5 e6
        obtain ⟨bf, bg, rfl, rfl, hB, HF, HG⟩ := hcut
        have I1 := Lib.hid (I.out.keep hB.out)
        clear I hB hzp hzq p0 q0 n1 n2 l1 l2 hz1 hz2
        have f0 := (blk_cells HF.out).1 0
        have f1 := (blk_cells HF.out).1 1
        have g0 := (blk_cells HG.out).1 0
        have g1 := (blk_cells HG.out).1 1
        simp at f0 f1 g0 g1
        go_wp2
        clear f0 f1 g0 g1
        obtain ⟨wo, rfl⟩ : ∃ wo : World, wo = wr := ⟨_, rfl⟩
        go_loopw [8] (fun x wi => ∃ k : Nat, k ≤ bn ∧ x = .int .i64 k ∧ Hid (EqIn w (.slice (some ⟨d1, e1_, none⟩) n c1) (.slice (some ⟨d2, e2_, none⟩) n c2) wi) ∧ Hid (wi.heap[bf]? = some (.cells #[sv f.name, .slice ba1 bn bc1] 50 (0, 0))) ∧ Hid (wi.heap[bg]? = some (.cells #[sv f.name, .slice ba2 bn bc2] 50 (0, 0)))) (fun x _ => bn - (intOf x).toNat)
        case atStart => exact ⟨0, Nat.zero_le _, rfl, I1, HF, HG⟩
        case round =>
          obtain ⟨k, hk, rfl, I, HF, HG⟩ := hrel
          clear I1
          have f1 := (blk_cells HF.out).1 1
          have g1 := (blk_cells HG.out).1 1
          have hzf := lt_heap HF.out
          have hzg := lt_heap HG.out
          have hzq := lt_heap I.out.q
          simp at f1 g1
          by_cases hlt2 : k < bn
          · obtain ⟨b, hb⟩ : ∃ b, f.blocks[k]? = some b := ⟨_, List.getElem?_eq_getElem (show k < f.blocks.length by have := HBL.out; omega)⟩
            obtain ⟨B1, O1, v1, rfl, hB1, n1, l1, hs1⟩ := HBC1.out k b hb
            obtain ⟨B2, O2, v2, rfl, hB2, n2, l2, hs2⟩ := HBC2.out k b hb
            have n1 := (I.out.below.cell (p := ⟨B1, O1 + k * 2, none⟩) hB1).trans n1
            have l1 := (I.out.below.cell (p := ⟨B1, O1 + k * 2 + 1, none⟩) hB1).trans l1
            have n2 := (I.out.below.cell (p := ⟨B2, O2 + k * 2, none⟩) hB2).trans n2
            have l2 := (I.out.below.cell (p := ⟨B2, O2 + k * 2 + 1, none⟩) hB2).trans l2
            obtain ⟨sa1, sc1, rfl, hsn, hsc1⟩ := hs1.cell
            obtain ⟨sa2, sc2, rfl, _, hsc2⟩ := hs2.cell
            have HSC1 := Lib.hid hsc1
            have HSC2 := Lib.hid hsc2
            obtain ⟨sn, hsl⟩ : ∃ n, b.stmts.length = n := ⟨_, rfl⟩
            rw [hsl] at l1 l2 hsn
            unfold maxLen at hsn
            have HSL := Lib.hid hsl
            clear hsc1 hsc2 hsl hs1 hs2 hb
            have hz1 : B1 < wr.heap.size := by omega
            have hz2 : B2 < wr.heap.size := by omega
            have z1 := fun a b => (two_new (w := wr) (T := 53) a b).1
            have z2 := fun a b => (two_new (w := wr) (T := 53) a b).2
            have z3 := fun a b => (two_new' (w := wr) (T := 53) a b).1
            have z4 := fun a b => (two_new' (w := wr) (T := 53) a b).2
            obtain ⟨N, hN⟩ : ∃ N, wr.heap.size = N := ⟨_, rfl⟩
            have e1 : (N == N + 1) = false := by rw [beq_eq_false_iff_ne]; omega
            have e2 : (N + 1 == N) = false := by rw [beq_eq_false_iff_ne]; omega
            have e3 : (B1 == N) = false := by rw [beq_eq_false_iff_ne]; omega
            have e4 : (B1 == N + 1) = false := by rw [beq_eq_false_iff_ne]; omega
            have e5 : (B2 == N) = false := by rw [beq_eq_false_iff_ne]; omega
            have e6 : (B2 == N + 1) = false := by rw [beq_eq_false_iff_ne]; omega
            rw [← hN] at e1 e2 e3 e4 e5 e6
            clear hN
            go_upto_region 12 with fail
            go_cut [9, 10] from 52 to 127 (fun xf xg wx => ∃ bf bg, xf = .pointer (some ⟨bf, 0, none⟩) ∧ xg = .pointer (some ⟨bg, 0, none⟩) ∧ Hid (Below wr.heap.size wr wx) ∧ Hid (wx.heap[bf]? = some (.cells #[sv b.name, .slice sa1 sn sc1] 53 (0, 0))) ∧ Hid (wx.heap[bg]? = some (.cells #[sv b.name, .slice sa2 sn sc2] 53 (0, 0))))
            case first =>
              go_region
              · go_wp2_with fail
                go_meet
                case rel => exact ⟨_, _, rfl, rfl, (((Below.refl _ _).alloc (Nat.le_refl _) _).alloc (by simp) _).drew, alloc_blk _ (heap_alloc_new _ _), by have h2 := heap_alloc_new (wr.alloc (.cells #[sv b.name, .slice sa1 sn sc1] 53)) (.cells #[sv b.name, .slice sa2 sn sc2] 53); rw [World.size_alloc] at h2; exact h2⟩
              · go_wp2_with fail
                go_meet
                case rel => exact ⟨_, _, rfl, rfl, (((Below.refl _ _).alloc (Nat.le_refl _) _).alloc (by simp) _).drew, by have h2 := heap_alloc_new (wr.alloc (.cells #[sv b.name, .slice sa2 sn sc2] 53)) (.cells #[sv b.name, .slice sa1 sn sc1] 53); rw [World.size_alloc] at h2; exact h2, alloc_blk _ (heap_alloc_new _ _)⟩
            case rest =>
              clear z1 z2 z3 z4 e1 e2 e3 e4 e5 e6
              obtain ⟨cf, cg, rfl, rfl, hB, HX, HY⟩ := hcut
              have I1 := Lib.hid (I.out.keep hB.out)
              have HF1 := Lib.hid ((hB.out.block bf hzf).trans HF.out)
              have HG1 := Lib.hid ((hB.out.block bg hzg).trans HG.out)
              clear I HF HG hB hzf hzg f1 g1 n1 n2 l1 l2 hz1 hz2 hzq
              have f0 := (blk_cells HX.out).1 0
              have f1 := (blk_cells HX.out).1 1
              have g0 := (blk_cells HY.out).1 0
              have g1 := (blk_cells HY.out).1 1
              simp at f0 f1 g0 g1
              go_wp2
              clear f0 f1 g0 g1
              obtain ⟨wo2, rfl⟩ : ∃ wo : World, wo = wr := ⟨_, rfl⟩
              go_loopw [11] (fun x wi => ∃ j : Nat, j ≤ sn ∧ x = .int .i64 j ∧ Hid (EqIn w (.slice (some ⟨d1, e1_, none⟩) n c1) (.slice (some ⟨d2, e2_, none⟩) n c2) wi) ∧ Hid (wi.heap[bf]? = some (.cells #[sv f.name, .slice (some ⟨B1, O1, none⟩) bn bc1] 50 (0, 0))) ∧ Hid (wi.heap[bg]? = some (.cells #[sv f.name, .slice (some ⟨B2, O2, none⟩) bn bc2] 50 (0, 0))) ∧ Hid (wi.heap[cf]? = some (.cells #[sv b.name, .slice sa1 sn sc1] 53 (0, 0))) ∧ Hid (wi.heap[cg]? = some (.cells #[sv b.name, .slice sa2 sn sc2] 53 (0, 0)))) (fun x _ => sn - (intOf x).toNat)
              case atStart => exact ⟨0, Nat.zero_le _, rfl, I1, HF1, HG1, HX, HY⟩
              case round =>
                obtain ⟨j, hj, rfl, I, HF, HG, HX, HY⟩ := hrel
                clear I1 HF1 HG1
                have f1 := (blk_cells HX.out).1 1
                have g1 := (blk_cells HY.out).1 1
                have hzf := lt_heap HX.out
                have hzg := lt_heap HY.out
                have hzq := lt_heap I.out.q
                simp at f1 g1
                by_cases hlt3 : j < sn
                · obtain ⟨s, hs⟩ : ∃ s, b.stmts[j]? = some s := ⟨_, List.getElem?_eq_getElem (show j < b.stmts.length by have := HSL.out; omega)⟩
                  obtain ⟨b1, o1, u1, t1, rfl, hb1, x1, n1, y1, m1, hu1, ht1⟩ := HSC1.out j s hs
                  obtain ⟨b2, o2, u2, t2, rfl, hb2, x2, n2, y2, m2, hu2, ht2⟩ := HSC2.out j s hs
                  have x1 := (I.out.below.cell (p := ⟨b1, o1 + j * 4, none⟩) hb1).trans x1
                  have n1 := (I.out.below.cell (p := ⟨b1, o1 + j * 4 + 1, none⟩) hb1).trans n1
                  have y1 := (I.out.below.cell (p := ⟨b1, o1 + j * 4 + 2, none⟩) hb1).trans y1
                  have m1 := (I.out.below.cell (p := ⟨b1, o1 + j * 4 + 3, none⟩) hb1).trans m1
                  have x2 := (I.out.below.cell (p := ⟨b2, o2 + j * 4, none⟩) hb2).trans x2
                  have n2 := (I.out.below.cell (p := ⟨b2, o2 + j * 4 + 1, none⟩) hb2).trans n2
                  have y2 := (I.out.below.cell (p := ⟨b2, o2 + j * 4 + 2, none⟩) hb2).trans y2
                  have m2 := (I.out.below.cell (p := ⟨b2, o2 + j * 4 + 3, none⟩) hb2).trans m2
                  have HU1 := Lib.hid (SliceAt.same hu1 (SameT.below I.out.below))
                  have HT1 := Lib.hid (SliceAt.same ht1 (SameT.below I.out.below))
                  have HU2 := Lib.hid (SliceAt.same hu2 (SameT.below I.out.below))
                  have HT2 := Lib.hid (SliceAt.same ht2 (SameT.below I.out.below))
                  obtain ⟨ua1, uc1, rfl, _, _⟩ := hu1.cell
                  obtain ⟨ua2, uc2, rfl, _, _⟩ := hu2.cell
                  obtain ⟨ta1, tc1, rfl, _, _⟩ := ht1.cell
                  obtain ⟨ta2, tc2, rfl, _, _⟩ := ht2.cell
                  clear hs hu1 hu2 ht1 ht2
                  have hz1 : b1 < wr.heap.size := by omega
                  have hz2 : b2 < wr.heap.size := by omega
                  have z1 := fun a b => (two_new (w := wr) (T := 67) a b).1
                  have z2 := fun a b => (two_new (w := wr) (T := 67) a b).2
                  have z3 := fun a b => (two_new' (w := wr) (T := 67) a b).1
                  have z4 := fun a b => (two_new' (w := wr) (T := 67) a b).2
                  obtain ⟨N, hN⟩ : ∃ N, wr.heap.size = N := ⟨_, rfl⟩
                  have e1 : (N == N + 1) = false := by rw [beq_eq_false_iff_ne]; omega
                  have e2 : (N + 1 == N) = false := by rw [beq_eq_false_iff_ne]; omega
                  have e3 : (b1 == N) = false := by rw [beq_eq_false_iff_ne]; omega
                  have e4 : (b1 == N + 1) = false := by rw [beq_eq_false_iff_ne]; omega
                  have e5 : (b2 == N) = false := by rw [beq_eq_false_iff_ne]; omega
                  have e6 : (b2 == N + 1) = false := by rw [beq_eq_false_iff_ne]; omega
                  rw [← hN] at e1 e2 e3 e4 e5 e6
                  clear hN
                  go_upto_region 18 with fail
                  go_cut [12, 13] from 83 to 127 (fun xf xg wx => ∃ bf bg, xf = .pointer (some ⟨bf, 0, none⟩) ∧ xg = .pointer (some ⟨bg, 0, none⟩) ∧ Hid (Below wr.heap.size wr wx) ∧ Hid (wx.heap[bf]? = some (.cells #[.int .i64 s.op, sv s.dfn, .slice ua1 s.uses.length uc1, .slice ta1 s.targets.length tc1] 67 (0, 0))) ∧ Hid (wx.heap[bg]? = some (.cells #[.int .i64 s.op, sv s.dfn, .slice ua2 s.uses.length uc2, .slice ta2 s.targets.length tc2] 67 (0, 0))))
                  case first =>
                    go_region
                    · go_wp2_with fail
                      go_meet
                      case rel => exact ⟨_, _, rfl, rfl, (((Below.refl _ _).alloc (Nat.le_refl _) _).alloc (by simp) _).drew, alloc_blk _ (heap_alloc_new _ _), by have h2 := heap_alloc_new (wr.alloc (.cells #[.int .i64 s.op, sv s.dfn, .slice ua1 s.uses.length uc1, .slice ta1 s.targets.length tc1] 67)) (.cells #[.int .i64 s.op, sv s.dfn, .slice ua2 s.uses.length uc2, .slice ta2 s.targets.length tc2] 67); rw [World.size_alloc] at h2; exact h2⟩
                    · go_wp2_with fail
                      go_meet
                      case rel => exact ⟨_, _, rfl, rfl, (((Below.refl _ _).alloc (Nat.le_refl _) _).alloc (by simp) _).drew, by have h2 := heap_alloc_new (wr.alloc (.cells #[.int .i64 s.op, sv s.dfn, .slice ua2 s.uses.length uc2, .slice ta2 s.targets.length tc2] 67)) (.cells #[.int .i64 s.op, sv s.dfn, .slice ua1 s.uses.length uc1, .slice ta1 s.targets.length tc1] 67); rw [World.size_alloc] at h2; exact h2, alloc_blk _ (heap_alloc_new _ _)⟩
                  case rest =>
                    clear z1 z2 z3 z4 e1 e2 e3 e4 e5 e6
                    obtain ⟨df, dg, rfl, rfl, hB, HV, HW⟩ := hcut
                    have I1 := Lib.hid (I.out.keep hB.out)
                    have HF1 := Lib.hid ((hB.out.block bf (lt_heap HF.out)).trans HF.out)
                    have HG1 := Lib.hid ((hB.out.block bg (lt_heap HG.out)).trans HG.out)
                    have HX1 := Lib.hid ((hB.out.block cf hzf).trans HX.out)
                    have HY1 := Lib.hid ((hB.out.block cg hzg).trans HY.out)
                    have SU := Lib.hid (strs_same s.uses _ _ wc (SliceAt.same HU1.out (SameT.below hB.out)) (SliceAt.same HU2.out (SameT.below hB.out)))
                    have ST := Lib.hid (fun k => strs_same s.targets _ _ (wc.drewN k) (SliceAt.same HT1.out (SameT.below (below_drewN hB.out k))) (SliceAt.same HT2.out (SameT.below (below_drewN hB.out k))))
                    clear I HF HG HX HY hB hzf hzg f1 g1 x1 x2 n1 n2 y1 y2 m1 m2 hz1 hz2 hzq HU1 HU2 HT1 HT2
                    have f0 := (blk_cells HV.out).1
                    have g0 := (blk_cells HW.out).1
                    have f00 := f0 0
                    have f01 := f0 1
                    have f02 := f0 2
                    have f03 := f0 3
                    have g00 := g0 0
                    have g01 := g0 1
                    have g02 := g0 2
                    have g03 := g0 3
                    clear f0 g0
                    simp at f00 f01 f02 f03 g00 g01 g02 g03
                    go_wp2_with fail
                    refine SU.out.mono ?_
                    rintro e w2 ⟨rfl, k2, rfl⟩
                    go_wp2_with fail
                    refine (ST.out k2).mono ?_
                    rintro e w3 ⟨rfl, k3, rfl⟩
                    have I2 : Hid (EqIn w (.slice (some ⟨d1, e1_, none⟩) n c1) (.slice (some ⟨d2, e2_, none⟩) n c2) (wc.drewN (k2 + k3))) := I1.out.keep (below_drewN (Below.refl _ _) (k2 + k3))
                    clear I1 SU ST f00 f01 f02 f03 g00 g01 g02 g03
                    go_wp2
                    go_roundw
                    case rel => exact ⟨j + 1, by omega, by go_num, I2, HF1, HG1, HX1, HY1⟩
                    case measure => simp [intOf]; omega
                · go_wp2
                  go_roundw
                  case rel => exact ⟨k + 1, by omega, by go_num, I, HF, HG⟩
                  case measure => simp [intOf]; omega
          · go_wp2
            go_roundw
            case rel => exact ⟨i + 1, by omega, by go_num, I⟩
            case measure => simp [intOf]; omega
    · go_wp2
      go_ret
      exact ⟨rfl, I.out.below⟩
end Go.Proofs.YtpnfdmajpkpjoaaDoor

/- Both parsers at every text; the law's comparison of the two holds. -/
namespace Go.Proofs.YtpnfdmajpkpjoaaDoor
open Go.RowKit

theorem lexF_zero : ∀ (n : Nat) (l : List UInt8) (line col : Int) (op : Bool) (acc : List Tok), (lexF n l line col op acc).err = 0 → (lexF n l line col op acc).line = 0 ∧ (lexF n l line col op acc).col = 0
  | 0, _, _, _, _, _ => fun _ => ⟨rfl, rfl⟩
  | _ + 1, [], _, _, _, _ => fun _ => ⟨rfl, rfl⟩
  | n + 1, c :: r, line, col, op, acc => by
    simp only [lexF]
    split
    · exact lexF_zero n _ _ _ _ _
    split
    · exact lexF_zero n _ _ _ _ _
    split
    · exact lexF_zero n _ _ _ _ _
    split
    · exact lexF_zero n _ _ _ _ _
    split
    · exact lexF_zero n _ _ _ _ _
    split
    · split
      · intro h; exact absurd h (show ¬ (4 : Int) = 0 by decide)
      split
      · intro h; exact absurd h (show ¬ (7 : Int) = 0 by decide)
      exact lexF_zero n _ _ _ _ _
    · intro h; exact absurd h (show ¬ (4 : Int) = 0 by decide)
theorem scanned_zero {l : List UInt8} (h : (scanned l).err = 0) : ∃ T, scanned l = ⟨T, 0, 0, 0⟩ := by
  refine ⟨(scanned l).toks, ?_⟩
  have e : (scanned l).line = 0 ∧ (scanned l).col = 0 := by
    revert h
    unfold scanned
    split
    · intro h; exact absurd h (show ¬ (7 : Int) = 0 by decide)
    · exact lexF_zero _ _ _ _ _ _
  cases hs : scanned l with
  | mk t a b c =>
    rw [hs] at h e
    obtain ⟨e1, e2⟩ := e
    simp only at h e1 e2
    rw [h, e1, e2]
theorem parsed_bad {l : List UInt8} (h : (scanned l).err ≠ 0) : parsed l = ⟨[], (scanned l).line, (scanned l).col, (scanned l).err⟩ := by
  unfold parsed
  dsimp only
  rw [if_pos h]
theorem parse_any {B : Nat} {w : World} (kw : KwIn B w) (hB : B ≤ w.heap.size) (s : ByteArray) :
    Calls Tryd.prog 13 #[.string s] w (PaPost w (parsed s.data.toList)) := by
  by_cases h : (scanned s.data.toList).err = 0
  · obtain ⟨T, hT⟩ := scanned_zero h
    exact parse_good kw hB s hT
  · rw [parsed_bad h]
    exact parse_bad s rfl h
theorem rparse_any {B : Nat} {w : World} (kw : KwIn B w) (hB : B ≤ w.heap.size) (s : ByteArray) :
    Calls Tryd.prog 20 #[.string s] w (PaPost w (parsed s.data.toList)) := by
  by_cases h : (scanned s.data.toList).err = 0
  · obtain ⟨T, hT⟩ := scanned_zero h
    exact R.parse_good kw hB s hT
  · rw [parsed_bad h]
    exact R.parse_bad s rfl h
theorem FuncsAt.below {w w' : World} {v : Value} {p : List PFunc} (h : FuncsAt w v p) (hb : Below w.heap.size w w') : FuncsAt w' v p := h.keep (SameT.below hb) (SameT.below hb) (SameT.below hb) (SameT.below hb)

set_option maxHeartbeats 400000 in
theorem parses_any {B : Nat} {w : World} (kw : KwIn B w) (hB : B ≤ w.heap.size) (s : ByteArray) :
    Calls Tryd.prog 8 #[.string s] w (BoolPost true w) := by
  have HK := Lib.hid kw
  obtain ⟨P, hP⟩ : ∃ P, parsed s.data.toList = P := ⟨_, rfl⟩
  have S1 := Lib.hid (hP ▸ parse_any kw hB s : Calls Tryd.prog 13 #[.string s] w (PaPost w P))
  have S2 := Lib.hid (fun (w' : World) (hb : Below w.heap.size w w') => (hP ▸ rparse_any (kw.keep fun k hk => hb.block k (by omega)) (by have := hb.size; omega) s : Calls Tryd.prog 20 #[.string s] w' (PaPost w' P)))
  clear kw hP
  obtain ⟨fs, line, col, err⟩ := P
  go_enter Tryd.func8, Tryd.ntmps8
  go_wp2_with fail
  refine S1.out.mono ?_
  rintro e w1 ⟨v1, rfl, f1, b1⟩
  obtain ⟨a1, c1, rfl, _⟩ := f1.cell
  obtain ⟨n1, hn1⟩ : ∃ n, fs.length = n := ⟨_, rfl⟩
  have F1 := Lib.hid f1
  have B1 := Lib.hid b1
  rw [hn1] at F1
  rw [hn1]
  clear f1 b1
  have G1 := Lib.hid (heap_alloc_new w1 (.cells #[.slice a1 n1 c1] 34))
  have hz1 : w1.heap.size < (w1.alloc (.cells #[.slice a1 n1 c1] 34)).heap.size := by simp
  go_wp2_with fail
  refine (S2.out _ (B1.out.alloc B1.out.size _)).mono ?_
  rintro e w2 ⟨v2, rfl, f2, b2⟩
  obtain ⟨a2, c2, rfl, _⟩ := f2.cell
  rw [hn1] at f2 ⊢
  have F2 := Lib.hid (f2.below ((Below.refl _ _).alloc (Nat.le_refl _) (.cells #[.slice a2 n1 c2] 34)))
  have g1 := ((Below.refl w2.heap.size w2).alloc (Nat.le_refl _) (.cells #[.slice a2 n1 c2] 34)).block w1.heap.size (Nat.lt_of_lt_of_le hz1 b2.size) |>.trans ((b2.block w1.heap.size hz1).trans G1.out)
  have c10 := (blk_cells g1).1 0
  have B2 := Lib.hid (((Below.refl w1.heap.size w1).alloc (Nat.le_refl _) (.cells #[.slice a1 n1 c1] 34)).trans (b2.mono (Nat.le_of_lt hz1)) |>.alloc (Nat.le_trans (Nat.le_of_lt hz1) b2.size) (.cells #[.slice a2 n1 c2] 34))
  have E := Lib.hid (fun fs' (h : fs' = fs) => equal_same fs _ _ _ (F1.out.below B2.out) F2.out)
  have hz2 : w1.heap.size < w2.heap.size := Nat.lt_of_lt_of_le hz1 b2.size
  clear f2 b2 g1 hz1 G1
  simp at c10
  go_wp2_with fail
  refine (E.out fs rfl).mono ?_
  rintro e w3 ⟨rfl, b3⟩
  have B3 := Lib.hid ((B1.out.trans (B2.out.mono B1.out.size)).trans (b3.mono (by have := B2.out.size; have := B1.out.size; omega)))
  clear b3 E
  go_wp2
  go_ret
  exact ⟨by simp, B3.out⟩
end Go.Proofs.YtpnfdmajpkpjoaaDoor

/- The law's sanity check: the examples of its chapter. Printed by wip/gen_spcs.py. -/
namespace Go.Proofs.YtpnfdmajpkpjoaaDoor
open Go.RowKit

def saneProg : List PFunc := [⟨[109], [⟨[98], [⟨1, [120], [[121], [122]], []⟩, ⟨9, [], [], []⟩]⟩]⟩]
theorem sane1 : parsed [102, 117, 110, 99, 32, 109, 59, 32, 98, 108, 111, 99, 107, 32, 98, 59, 32, 120, 32, 61, 32, 121, 32, 122, 59, 32, 114, 101, 116, 117, 114, 110, 59, 32, 101, 110, 100] = ⟨saneProg, 0, 0, 0⟩ := by kernel_rfl
theorem sane2 : parsed [102, 117, 110, 99, 32, 109, 59, 32, 98, 108, 111, 99, 107, 32, 98, 59, 32, 98, 114, 97, 110, 99, 104, 32, 120, 32, 98, 59, 32, 114, 101, 116, 117, 114, 110, 59, 32, 101, 110, 100] = ⟨[], 1, 28, 4⟩ := by kernel_rfl
theorem sane3 : parsed [] = ⟨[], 0, 0, 4⟩ := by kernel_rfl
set_option maxHeartbeats 1000000 in
theorem sane_any {B : Nat} {w : World} (kw : KwIn B w) (hB : B ≤ w.heap.size) : Calls Tryd.prog 12 #[] w (BoolPost true w) := by
  have HB := Lib.hid hB
  have S1 := Lib.hid (sane1 ▸ parse_any kw hB ⟨#[102, 117, 110, 99, 32, 109, 59, 32, 98, 108, 111, 99, 107, 32, 98, 59, 32, 120, 32, 61, 32, 121, 32, 122, 59, 32, 114, 101, 116, 117, 114, 110, 59, 32, 101, 110, 100]⟩ : Calls Tryd.prog 13 #[.string ⟨#[102, 117, 110, 99, 32, 109, 59, 32, 98, 108, 111, 99, 107, 32, 98, 59, 32, 120, 32, 61, 32, 121, 32, 122, 59, 32, 114, 101, 116, 117, 114, 110, 59, 32, 101, 110, 100]⟩] w (PaPost w ⟨saneProg, 0, 0, 0⟩))
  have S2 := Lib.hid (fun (w' : World) (hb : Below w.heap.size w w') => (sane2 ▸ parse_any (kw.keep fun k hk => hb.block k (by omega)) (by have := hb.size; omega) ⟨#[102, 117, 110, 99, 32, 109, 59, 32, 98, 108, 111, 99, 107, 32, 98, 59, 32, 98, 114, 97, 110, 99, 104, 32, 120, 32, 98, 59, 32, 114, 101, 116, 117, 114, 110, 59, 32, 101, 110, 100]⟩ : Calls Tryd.prog 13 #[.string ⟨#[102, 117, 110, 99, 32, 109, 59, 32, 98, 108, 111, 99, 107, 32, 98, 59, 32, 98, 114, 97, 110, 99, 104, 32, 120, 32, 98, 59, 32, 114, 101, 116, 117, 114, 110, 59, 32, 101, 110, 100]⟩] w' (PaPost w' ⟨[], 1, 28, 4⟩)))
  have S3 := Lib.hid (fun (w' : World) (hb : Below w.heap.size w w') => (sane3 ▸ parse_any (kw.keep fun k hk => hb.block k (by omega)) (by have := hb.size; omega) ⟨#[]⟩ : Calls Tryd.prog 13 #[.string ⟨#[]⟩] w' (PaPost w' ⟨[], 0, 0, 4⟩)))
  clear kw hB
  go_enter Tryd.func12, Tryd.ntmps12
  go_wp2_with fail
  refine S1.out.mono ?_
  rintro e w1 ⟨v1, rfl, f1, b1⟩
  obtain ⟨a1, c1, rfl, _, hc1⟩ := f1.cell
  obtain ⟨fb, fo, bv, rfl, hfb, g0, g1, hbl⟩ := hc1 0 _ rfl
  obtain ⟨a2, c2, rfl, _, hc2⟩ := hbl.cell
  obtain ⟨bb, bo, sv1, rfl, hbb, k0, k1, hsl⟩ := hc2 0 _ rfl
  obtain ⟨a3, c3, rfl, _, _⟩ := hsl.cell
  have B1 := Lib.hid b1
  have G1 := Lib.hid g1
  have K1 := Lib.hid k1
  clear f1 b1 hc1 hc2 hbl hsl g0 k0 g1 k1
  rw [show saneProg.length = 1 from rfl]
  have ha1 := Lib.hid (heap_alloc_new w1 (.cells #[.slice (some ⟨fb, fo, none⟩) 1 c1] 34))
  have D1 := Lib.hid (B1.out.alloc B1.out.size (.cells #[.slice (some ⟨fb, fo, none⟩) 1 c1] 34))
  go_wp2_with fail
  refine (S2.out _ D1.out).mono ?_
  rintro e w2 ⟨v2, rfl, f2, b2⟩
  obtain ⟨a4, c4, rfl, _, _⟩ := f2.cell
  have B2 := Lib.hid b2
  clear f2 b2
  rw [show ([] : List PFunc).length = 0 from rfl]
  have D2 := Lib.hid ((D1.out.trans (B2.out.mono D1.out.size)).alloc (Nat.le_trans D1.out.size B2.out.size) (.cells #[.slice a4 0 c4] 34))
  go_wp2_with fail
  refine (S3.out _ D2.out).mono ?_
  rintro e w3 ⟨v3, rfl, f3, b3⟩
  obtain ⟨a5, c5, rfl, _, _⟩ := f3.cell
  have B3 := Lib.hid b3
  clear f3 b3
  rw [show ([] : List PFunc).length = 0 from rfl]
  have D3 := Lib.hid ((D2.out.trans (B3.out.mono D2.out.size)).alloc (Nat.le_trans D2.out.size B3.out.size) (.cells #[.slice a5 0 c5] 34))
  have hz1 : w1.heap.size < (w1.alloc (.cells #[.slice (some ⟨fb, fo, none⟩) 1 c1] 34)).heap.size := by simp
  have C := Lib.hid (((B2.out.alloc B2.out.size (.cells #[.slice a4 0 c4] 34)).trans (B3.out.mono (by have := B2.out.size; simp; simp at this; omega))).alloc (by have := B2.out.size; have := B3.out.size; simp at *; omega) (.cells #[.slice a5 0 c5] 34))
  have x0 := (blk_cells ((C.out.block _ hz1).trans ha1.out)).1 0
  have x1 := (C.out.cell (p := ⟨fb, fo + 0 * 2 + 1, none⟩) (by simp; omega)).trans (((Below.refl _ _).alloc (Nat.le_refl _) _).cell (p := ⟨fb, fo + 0 * 2 + 1, none⟩) hfb |>.trans G1.out)
  have x2 := (C.out.cell (p := ⟨bb, bo + 0 * 2 + 1, none⟩) (by simp; omega)).trans (((Below.refl _ _).alloc (Nat.le_refl _) _).cell (p := ⟨bb, bo + 0 * 2 + 1, none⟩) hbb |>.trans K1.out)
  simp at x0 x1 x2
  rw [show saneProg.length = 1 from rfl] at *
  clear C
  go_wp2
  go_ret
  exact ⟨rfl, D3.out⟩
end Go.Proofs.YtpnfdmajpkpjoaaDoor

