/- A part of the proof. -/
import Derived.Test.YtipnhmdibkkifaaGreatDoorNu09
import Derived.Test.YtipnhmdibkkifaaGreatDoorNu07
import Derived.Laws.EntriesVeiled
set_option linter.unusedVariables false
set_option linter.unusedSimpArgs false
set_option linter.unusedVariables false
set_option linter.unusedSimpArgs false
set_option linter.unusedSectionVars false
namespace Go.Proofs.YtipnhmdibkkifaaGreatDoor
open Go.RowKit
variable [Base]
set_option maxRecDepth 100000 in
set_option maxHeartbeats 8000000 in
theorem each_sizes {B z : Nat} (nb eb : Nat) {w0 w : World} (kw : KwIn B w0) (hB : B ≤ w0.heap.size) (hz : w0.heap.size = z) (p : List PFunc) (v : Value) (h : FuncsAt w0 v p) (hv : validB p = true) (hf : ∀ f ∈ p, ∀ b ∈ f.blocks, ∀ s ∈ b.stmts, FitS s) (b0 : Below z w0 w)
    (St : List PStmt → World → Prop) (HA : ∀ d x y, St d x → Below x.heap.size x y → St d y)
    (HS : ∀ (d : List PStmt) (s : PStmt) (r : List PStmt) (u t : Value) (x : World), stmtsP p = d ++ s :: r → St d x → Below z w0 x → StrsAt w0 u s.uses → (∃ a n c, t = .slice a n c) →
      Calls Tryz.prog 74 #[.agg #[iv s.op, sv s.dfn, u, t], .pointer (some ⟨nb, 0, none⟩), .pointer (some ⟨eb, 0, none⟩)] x (fun e y => e = .returned (.tuple #[]) ∧ St (d ++ [s]) y ∧ Below z x y))
    (s0 : St [] w) :
    Calls Tryz.prog 73 #[.agg #[v], .func (.func 74) #[] #[.pointer (some ⟨nb, 0, none⟩), .pointer (some ⟨eb, 0, none⟩)]] w (fun e y => e = .returned (.tuple #[]) ∧ St (stmtsP p) y ∧ Below z w0 y) := by
  have zw : z ≤ w.heap.size := by have := b0.size; omega
  have C0 := (Below.refl w.heap.size w).alloc (Nat.le_refl _) (.cells #[v] 48)
  have B0 := b0.trans (C0.mono zw)
  have HV := Lib.hid (pvalidp_any (w := w.alloc (.cells #[v] 48)) (kw.keep fun k hk => B0.block k (by omega)) (by simp; omega) p v (h.keep (SameT.below (hz ▸ B0)) (SameT.below (hz ▸ B0)) (SameT.below (hz ▸ B0)) (SameT.below (hz ▸ B0))) hf)
  rw [hv] at HV
  have S0 := Lib.hid (HA _ _ _ s0 C0)
  have HHA := Lib.hid HA
  have HHS := Lib.hid HS
  obtain ⟨a, c, rfl, hn, hc⟩ := h.cell
  obtain ⟨n, hl⟩ : ∃ n, p.length = n := ⟨_, rfl⟩
  rw [hl] at hn HV S0 ⊢
  have n8 : n ≤ 8 := by have := (valid_few hv).1; omega
  have HL := Lib.hid hl
  have HC := Lib.hid hc
  have HF := Lib.hid hf
  have HW := Lib.hid (valid_few hv)
  rw [hl] at B0
  have HB0 := Lib.hid B0
  have hbs : Base.b ≤ z := by have := kw.bs; omega
  clear h hc kw B0 hl hf b0 hv C0 s0 HA HS hn
  go_enter Tryz.func73, Tryz.ntmps73
  go_wp2_with fail
  refine HV.out.mono ?_
  rintro e w1 ⟨rfl, b⟩
  have p0 : w1.heap[w.heap.size]? = some (.cells #[.slice a n c] 48 (0, 0)) := (b.block w.heap.size (by simp)).trans (heap_alloc_new _ _)
  have S1 := Lib.hid (HHA.out _ _ _ S0.out b)
  have hsz := b.size
  simp at hsz
  have B1 := Lib.hid (HB0.out.trans (b.mono (by simp; omega)))
  obtain ⟨bp, hbp⟩ : ∃ k, w.heap.size = k := ⟨_, rfl⟩
  rw [hbp] at p0 hsz zw
  rw [hbp]
  have HP := Lib.hid p0
  have q0 := (blk_cells p0).1 0
  simp at q0
  clear b p0 hbp HB0 S0 HV
  go_wp2
  clear q0
  go_loopw [16] (fun x wr => ∃ i : Nat, i ≤ n ∧ x = .int .i64 i ∧ Hid (Below z w0 wr) ∧ z ≤ wr.heap.size ∧ Hid (St (stmtsP (p.take i)) wr)) (fun x _ => n - (intOf x).toNat)
  case atStart => exact ⟨0, Nat.zero_le _, rfl, B1, by omega, S1⟩
  case round =>
    obtain ⟨i, hi, rfl, HB, hzr, HSt⟩ := hrel
    by_cases hlt : i < n
    · obtain ⟨f, hf2⟩ : ∃ f, p[i]? = some f := ⟨_, List.getElem?_eq_getElem (show i < p.length by have := HL.out; omega)⟩
      obtain ⟨fb, off, bv, rfl, hfb, g0, g1, hbl⟩ := HC.out i f hf2
      have g0 := (HB.out.cell (p := ⟨fb, off + i * 2, none⟩) (by show fb < z; omega)).trans g0
      have g1 := (HB.out.cell (p := ⟨fb, off + i * 2 + 1, none⟩) (by show fb < z; omega)).trans g1
      obtain ⟨ba, bc, rfl, hbn, hbc⟩ := hbl.cell
      have HBC := Lib.hid hbc
      obtain ⟨bn, hbl2⟩ : ∃ n, f.blocks.length = n := ⟨_, rfl⟩
      rw [hbl2] at hbn g1
      have b16 : bn ≤ 16 := by have := (HW.out.2 f (List.mem_of_getElem? hf2)).1; omega
      have HBL := Lib.hid hbl2
      have HFI := Lib.hid hf2
      clear hf2 hbl hbc hbl2 hbn
      have A1 := (Below.refl wr.heap.size wr).alloc (Nat.le_refl _) (.cells #[sv f.name, .slice ba bn bc] 74)
      have HB2 := Lib.hid (HB.out.trans (A1.mono hzr))
      have HS2 := Lib.hid (show St (stmtsP (p.take i) ++ stmtsBs (f.blocks.take 0)) (wr.alloc (.cells #[sv f.name, .slice ba bn bc] 74)) by rw [show stmtsP (p.take i) ++ stmtsBs (f.blocks.take 0) = stmtsP (p.take i) by simp [stmtsBs]]; exact HHA.out _ _ _ HSt.out A1)
      clear A1 HB HSt
      go_wp2
      clear g0 g1
      go_loopw [23] (fun x wi => ∃ k : Nat, k ≤ bn ∧ x = .int .i64 k ∧ Hid (Below z w0 wi) ∧ z ≤ wi.heap.size ∧ Hid (St (stmtsP (p.take i) ++ stmtsBs (f.blocks.take k)) wi)) (fun x _ => bn - (intOf x).toNat)
      case atStart => exact ⟨0, Nat.zero_le _, rfl, HB2, by simp; omega, HS2⟩
      case round =>
        obtain ⟨k, hk, rfl, HB, hzi, HSt⟩ := hrel
        by_cases hlt2 : k < bn
        · obtain ⟨b, hb⟩ : ∃ b, f.blocks[k]? = some b := ⟨_, List.getElem?_eq_getElem (show k < f.blocks.length by have := HBL.out; omega)⟩
          obtain ⟨kb, koff, sv1, rfl, hkb, g0, g1, hsl⟩ := HBC.out k b hb
          have g0 := (HB.out.cell (p := ⟨kb, koff + k * 2, none⟩) (by show kb < z; omega)).trans g0
          have g1 := (HB.out.cell (p := ⟨kb, koff + k * 2 + 1, none⟩) (by show kb < z; omega)).trans g1
          obtain ⟨sa, sc, rfl, hsn, hsc⟩ := hsl.cell
          have HSC := Lib.hid hsc
          obtain ⟨sn, hsl2⟩ : ∃ n, b.stmts.length = n := ⟨_, rfl⟩
          rw [hsl2] at hsn g1
          have s32 : sn ≤ 32 := by have := (HW.out.2 f (List.mem_of_getElem? HFI.out)).2 b (List.mem_of_getElem? hb); omega
          have HSL := Lib.hid hsl2
          have HBI := Lib.hid hb
          clear hb hsl hsc hsl2 hsn
          have A1 := (Below.refl wr.heap.size wr).alloc (Nat.le_refl _) (.cells #[sv b.name, .slice sa sn sc] 99)
          have HB3 := Lib.hid (HB.out.trans (A1.mono hzi))
          have HS3 := Lib.hid (show St (stmtsP (p.take i) ++ stmtsBs (f.blocks.take k) ++ b.stmts.take 0) (wr.alloc (.cells #[sv b.name, .slice sa sn sc] 99)) by rw [List.take_zero, List.append_nil]; exact HHA.out _ _ _ HSt.out A1)
          clear A1 HB HSt
          go_wp2
          clear g0 g1
          go_loopw [30] (fun x wi => ∃ j : Nat, j ≤ sn ∧ x = .int .i64 j ∧ Hid (Below z w0 wi) ∧ z ≤ wi.heap.size ∧ Hid (St (stmtsP (p.take i) ++ stmtsBs (f.blocks.take k) ++ b.stmts.take j) wi)) (fun x _ => sn - (intOf x).toNat)
          case atStart => exact ⟨0, Nat.zero_le _, rfl, HB3, by simp; omega, HS3⟩
          case round =>
            obtain ⟨j, hj, rfl, HB, hzj, HSt⟩ := hrel
            by_cases hlt3 : j < sn
            · obtain ⟨s, hs⟩ : ∃ s, b.stmts[j]? = some s := ⟨_, List.getElem?_eq_getElem (show j < b.stmts.length by have := HSL.out; omega)⟩
              obtain ⟨b4, o4, u, t, rfl, hb4, c0, c1, c2, c3, hu, ht⟩ := HSC.out j s hs
              obtain ⟨ua, uc, rfl, -⟩ := hu.cell
              obtain ⟨ta, tc, rfl, -⟩ := ht.cell
              obtain ⟨un, hun⟩ : ∃ n, s.uses.length = n := ⟨_, rfl⟩
              obtain ⟨tn, htn⟩ : ∃ n, s.targets.length = n := ⟨_, rfl⟩
              rw [hun] at hu c2
              rw [htn] at ht c3
              obtain ⟨r, hsp⟩ := stmtsP_split HFI.out HBI.out hs
              have c0 := (HB.out.cell (p := ⟨b4, o4 + j * 4, none⟩) (by show b4 < z; omega)).trans c0
              have c1 := (HB.out.cell (p := ⟨b4, o4 + j * 4 + 1, none⟩) (by show b4 < z; omega)).trans c1
              have c2 := (HB.out.cell (p := ⟨b4, o4 + j * 4 + 2, none⟩) (by show b4 < z; omega)).trans c2
              have c3 := (HB.out.cell (p := ⟨b4, o4 + j * 4 + 3, none⟩) (by show b4 < z; omega)).trans c3
              have A1 := (Below.refl wr.heap.size wr).alloc (Nat.le_refl _) (.cells #[iv s.op, sv s.dfn, .slice ua un uc, .slice ta tn tc] 118)
              have HB4 := Lib.hid (HB.out.trans (A1.mono hzj))
              have K := Lib.hid (HHS.out _ s r (.slice ua un uc) (.slice ta tn tc) (wr.alloc (.cells #[iv s.op, sv s.dfn, .slice ua un uc, .slice ta tn tc] 118)) hsp (HHA.out _ _ _ HSt.out A1) HB4.out hu ⟨_, _, _, rfl⟩)
              have HE := Lib.hid (show stmtsP (p.take i) ++ stmtsBs (f.blocks.take k) ++ b.stmts.take j ++ [s] = stmtsP (p.take i) ++ stmtsBs (f.blocks.take k) ++ b.stmts.take (j + 1) by rw [List.take_add_one, hs]; simp)
              have zw2 : z ≤ (wr.alloc (.cells #[iv s.op, sv s.dfn, .slice ua un uc, .slice ta tn tc] 118)).heap.size := by simp; omega
              clear A1 HB HSt hu ht hun htn hsp hs
              go_wp2_with fail
              refine K.out.mono ?_
              rintro e w2 ⟨rfl, S2, b2⟩
              have HB5 := Lib.hid (HB4.out.trans b2)
              have HSt := Lib.hid (HE.out ▸ S2)
              have hz2 : z ≤ w2.heap.size := Nat.le_trans zw2 b2.size
              clear S2 b2 K zw2
              go_wp2
              go_roundw
              case rel => exact ⟨j + 1, by omega, by go_num, HB5, hz2, HSt⟩
              case measure => simp [intOf]; omega
            · have HSt := Lib.hid (show St (stmtsP (p.take i) ++ stmtsBs (f.blocks.take (k + 1))) wr by rw [stmtsBs_take HBI.out, ← List.append_assoc, ← show b.stmts.take j = b.stmts from List.take_of_length_le (by rw [HSL.out]; omega)]; exact HSt.out)
              go_wp2
              go_roundw
              case rel => exact ⟨k + 1, by omega, by go_num, HB, hzj, HSt⟩
              case measure => simp [intOf]; omega
        · have HSt := Lib.hid (show St (stmtsP (p.take (i + 1))) wr by rw [stmtsP_take HFI.out, show stmtsF f = stmtsBs (f.blocks.take k) by rw [List.take_of_length_le (by rw [HBL.out]; omega)]; rfl]; exact HSt.out)
          go_wp2
          go_roundw
          case rel => exact ⟨i + 1, by omega, by go_num, HB, hzi, HSt⟩
          case measure => simp [intOf]; omega
    · have HSt := Lib.hid (show St (stmtsP p) wr by rw [← show p.take i = p from List.take_of_length_le (by rw [HL.out]; omega)]; exact HSt.out)
      go_wp2
      exact bodyPost_end (v := .tuple #[]) (by simp [results, Tryz.results73, go_sem]) rfl ⟨rfl, HSt.out, HB.out⟩
end Go.Proofs.YtipnhmdibkkifaaGreatDoor
set_option linter.unusedVariables false
set_option linter.unusedSimpArgs false
set_option linter.unusedSectionVars false
namespace Go.Proofs.YtipnhmdibkkifaaGreatDoor
open Go.RowKit
variable [Base]
theorem cell_da {w : World} {x k : Nat} {v : Value} (o : Obj) (h : w.cell? ⟨x, 0, none⟩ = some v) (hx : x < w.heap.size) : ((w.drewN k).alloc o).cell? ⟨x, 0, none⟩ = some v :=
  (((below_drewN (Below.refl w.heap.size w) k).alloc (Nat.le_refl _) o).cell (p := ⟨x, 0, none⟩) hx).trans h
theorem sizes_each {B z nb eb : Nat} {w0 w : World} (kw : KwIn B w0) (hB : B ≤ w0.heap.size) (hz : w0.heap.size = z) (p : List PFunc) (v : Value) (h : FuncsAt w0 v p) (hv : validB p = true) (hf : ∀ f ∈ p, ∀ b ∈ f.blocks, ∀ s ∈ b.stmts, FitS s) (b0 : Below z w0 w)
    (hne : z ≤ nb ∧ z ≤ eb ∧ nb ≠ eb) (x y : Int) (h0 : 0 ≤ x ∧ x ≤ 100 ∧ 0 ≤ y ∧ y ≤ 100) (hn : w.heap[nb]? = some (.cells #[iv x] 3 (0, 0))) (he : w.heap[eb]? = some (.cells #[iv y] 3 (0, 0))) :
    Calls Tryz.prog 73 #[.agg #[v], .func (.func 74) #[] #[.pointer (some ⟨nb, 0, none⟩), .pointer (some ⟨eb, 0, none⟩)]] w (fun e w' => e = .returned (.tuple #[]) ∧ (w'.heap[nb]? = some (.cells #[iv (x + nodeSum (stmtsP p))] 3 (0, 0)) ∧ w'.heap[eb]? = some (.cells #[iv (y + edgeSum (stmtsP p))] 3 (0, 0))) ∧ Below z w0 w') := by
  refine each_sizes nb eb kw hB hz p v h hv hf b0 (fun d x1 => x1.heap[nb]? = some (.cells #[iv (x + nodeSum d)] 3 (0, 0)) ∧ x1.heap[eb]? = some (.cells #[iv (y + edgeSum d)] 3 (0, 0))) ?_ ?_ ?_
  · rintro d x1 y1 ⟨h1, h2⟩ b
    exact ⟨(b.block _ (lt_heap h1)).trans h1, (b.block _ (lt_heap h2)).trans h2⟩
  · rintro d s r u t x1 hsp ⟨h1, h2⟩ hb hu ⟨ta, tn, tc, rfl⟩
    have h3 := stmtsP_few hv p.length
    rw [List.take_length, hsp] at h3
    have h4 := sumS_le d
    simp at h3
    have hcat : nodeSum (d ++ [s]) = nodeSum d + nodeC s ∧ edgeSum (d ++ [s]) = edgeSum d + edgeC s := by
      have := nodeSum_app d [s]
      simpa only [nodeSum, edgeSum, sumI, List.map_cons, List.map_nil, List.foldl_cons, List.foldl_nil, Int.zero_add] using this
    obtain ⟨ua, uc, rfl, -⟩ := hu.cell
    refine (sizes1_any z nb eb s _ _ x1 _ _ hne h1 h2 (by omega)).mono ?_
    rintro e y1 ⟨rfl, h5⟩
    refine ⟨rfl, ⟨?_, ?_⟩, h5.below⟩
    · rw [hcat.1, ← Int.add_assoc]; exact h5.nat
    · rw [hcat.2, ← Int.add_assoc]; exact h5.eat
  · simp [nodeSum, edgeSum, sumI]; exact ⟨hn, he⟩
set_option maxRecDepth 100000 in
set_option maxHeartbeats 4000000 in
theorem sizes_any {B : Nat} {w : World} (kw : KwIn B w) (hB : B ≤ w.heap.size) (p : List PFunc) (v : Value) (h : FuncsAt w v p) (hf : ∀ f ∈ p, ∀ b ∈ f.blocks, ∀ s ∈ b.stmts, FitS s) :
    Calls Tryz.prog 46 #[.agg #[v]] w (fun e w' => e = .returned (.tuple #[iv (nodesN p), iv (edgesN p)]) ∧ Below w.heap.size w w') := by
  have B0 := (Below.refl w.heap.size w).alloc (Nat.le_refl _) (.cells #[v] 48)
  have HB0 := Lib.hid B0
  have HV := Lib.hid (pvalidp_any (kw.keep fun k hk => B0.block k (Nat.lt_of_lt_of_le hk hB)) (Nat.le_trans hB B0.size) p v (h.keep (SameT.below B0) (SameT.below B0) (SameT.below B0) (SameT.below B0)) hf)
  have HSE := Lib.hid (fun (nb eb : Nat) (W : World) hv b0 hne x y h0 hn he => sizes_each (w := W) (nb := nb) (eb := eb) kw hB rfl p v h hv hf b0 hne x y h0 hn he)
  obtain ⟨a, c, rfl, hn, hc⟩ := h.cell
  obtain ⟨n, hl⟩ : ∃ n, p.length = n := ⟨_, rfl⟩
  rw [hl] at hn HV HB0 HSE ⊢
  obtain ⟨r, hr⟩ : ∃ r, validB p = r := ⟨_, rfl⟩
  rw [hr] at HV HSE
  clear h hc kw B0
  go_enter Tryz.func46, Tryz.ntmps46
  go_wp2_with fail
  refine HV.out.mono ?_
  rintro e w1 ⟨rfl, b⟩
  have B1 := Lib.hid (HB0.out.trans (b.mono HB0.out.size))
  have p0 := (b.cell (p := ⟨w.heap.size, 0, none⟩) (by simp)).trans (World.cell?_alloc_new _ _ _ _)
  have hz : w.heap.size < w1.heap.size := by have := b.size; simp at this; omega
  replace p0 : w1.cell? ⟨w.heap.size, 0, none⟩ = some (.slice a n c) := p0
  clear b
  cases r
  · go_wp2
    have e1 : nodesN p = 0 := by unfold nodesN; rw [hr]; rfl
    have e2 : edgesN p = 0 := by unfold edgesN; rw [hr]; rfl
    exact bodyPost_ret (v := .tuple #[iv 0, iv 0]) (by simp [results, Tryz.results46, go_sem]) rfl ⟨by rw [e1, e2], B1.out⟩
  have h8 : n ≤ 8 := by unfold validB at hr; simp only [Bool.and_eq_true, decide_eq_true_eq] at hr; omega
  have HNN := Lib.hid (show nodesN p = 2 * (n : Int) + nodeSum (stmtsP p) by unfold nodesN nodeSum; rw [hr, hl]; rfl)
  have HEE := Lib.hid (show edgesN p = (n : Int) + edgeSum (stmtsP p) by unfold edgesN edgeSum; rw [hr, hl]; rfl)
  clear hr hl
  go_upto_region 3 with (fail)
  refine wp_region_D (S := (fun w' => w'.cell? ⟨w.heap.size, 0, none⟩ = some (.slice a n c))) (st := 10) (by kernel_rfl) ?_
  refine wpAnyT_pure 0 ?z0 rfl (by kernel_rfl) (by kernel_rfl) (by kernel_rfl) (by kernel_rfl) (fun _ _ _ h => h) p0 rfl ?rz0 ?sz0
  case rz0 => intro w hS; go_simp; rfl
  case sz0 =>
  refine wpAnyT_pure 1 ?z1 rfl (by kernel_rfl) (by kernel_rfl) (by kernel_rfl) (by kernel_rfl) (fun _ _ _ h => h) p0 rfl ?rz1 ?sz1
  case rz1 => intro w hS; go_simp; rfl
  case sz1 =>
  refine wpAnyT_pure 2 ?z2 rfl (by kernel_rfl) (by kernel_rfl) (by kernel_rfl) (by kernel_rfl) (fun _ _ _ h => h) p0 rfl ?rz2 ?sz2
  case rz2 => intro w hS; go_simp; rfl
  case sz2 =>
  refine wpAnyT_pure 3 ?z3 rfl (by kernel_rfl) (by kernel_rfl) (by kernel_rfl) (by kernel_rfl) (fun _ _ _ h => h) p0 rfl ?rz3 ?sz3
  case rz3 => intro w hS; go_simp; rfl
  case sz3 =>
  refine wpAnyT_pure 4 ?z4 rfl (by kernel_rfl) (by kernel_rfl) (by kernel_rfl) (by kernel_rfl) (fun _ _ _ h => h) p0 rfl ?rz4 ?sz4
  case rz4 => intro w hS; go_simp; rfl
  case sz4 =>
  refine wpAnyT_pure 5 ?z5 rfl (by kernel_rfl) (by kernel_rfl) (by kernel_rfl) (by kernel_rfl) (fun _ _ _ h => h) p0 rfl ?rz5 ?sz5
  case rz5 => intro w hS; go_simp; rfl
  case sz5 =>
  refine wpAnyT_pure 6 ?z6 rfl (by kernel_rfl) (by kernel_rfl) (by kernel_rfl) (by kernel_rfl) (fun _ _ _ h => h) p0 rfl ?rz6 ?sz6
  case rz6 => intro w hS; go_simp; rfl
  case sz6 =>
  refine wpAnyT_all (rs := [7, 8]) (by kernel_rfl) (by decide) ?_
  intro i hi
  have hi2 : i = 7 ∨ i = 8 := by simpa using hi
  clear hi
  rcases hi2 with rfl | rfl
  · refine wpOp_of_list rfl ?_
    go_wp2
    refine ⟨fun _ => cell_da _ p0 hz, ?_⟩
    refine wpAnyT_all (rs := [8]) (by kernel_rfl) (by decide) ?_
    intro i hi
    obtain rfl : i = 8 := by simpa using hi
    clear hi
    refine wpOp_of_list rfl ?_
    go_wp2
    obtain ⟨W2, hW2⟩ : ∃ W, (((w1.drewN 1).alloc (.cells #[iv 0] 3)).alloc (.cells #[iv 0] 3)) = W := ⟨_, rfl⟩
    obtain ⟨nb, hnb⟩ : ∃ k, w1.heap.size = k := ⟨_, rfl⟩
    have HX1 := Lib.hid (show W2.heap[nb]? = some (.cells #[iv 0] 3 (0, 0)) by rw [← hW2, ← hnb]; exact alloc_blk _ (heap_alloc_new (w1.drewN 1) _))
    have HX2 := Lib.hid (show W2.heap[nb + 1]? = some (.cells #[iv 0] 3 (0, 0)) by rw [← hW2, ← hnb]; have := heap_alloc_new ((w1.drewN 1).alloc (.cells #[iv 0] 3)) (.cells #[iv 0] 3); simpa using this)
    have BZ := Lib.hid (show Below nb w1 W2 by rw [← hW2, ← hnb]; exact ((below_drewN (Below.refl w1.heap.size w1) 1).alloc (Nat.le_refl _) _).alloc (by simp) _)
    have hnb' : w.heap.size ≤ nb := by omega
    rw [show (((w1.drewN 1).alloc (.cells #[.int .i64 0] 3)).alloc (.cells #[.int .i64 0] 3)) = W2 from hW2]
    rw [hnb] at hz ⊢
    have p2 := (BZ.out.cell (p := ⟨w.heap.size, 0, none⟩) hz).trans p0
    have p1 := p0
    clear p0 hW2 hnb
    refine ⟨fun _ => p2, ?_⟩
    refine wpAnyT_all (rs := [9]) (by kernel_rfl) (by decide) ?_
    intro i hi
    obtain rfl : i = 9 := by simpa using hi
    clear hi
    refine wpOp_of_list rfl ?_
    have n0 := (blk_cells HX1.out).1 0
    have e0 := (blk_cells HX2.out).1 0
    have fn := (blk_cells HX1.out).2 0
    have fe := (blk_cells HX2.out).2 0
    simp at n0 e0
    go_wp2
    have HN3 := Lib.hid (set1c HX1.out (iv (2 * (n : Int))))
    have HE3 := Lib.hid ((set_ne (b := nb) (k := nb + 1) (w := W2) (by omega) (iv (2 * (n : Int)))).trans HX2.out)
    have B3 := Lib.hid (BZ.out.setCell (p := ⟨nb, 0, none⟩) (by show nb ≤ nb; omega) (iv (2 * (n : Int))))
    obtain ⟨W3, hW3⟩ : ∃ W, W2.setCell ⟨nb, 0, none⟩ (iv (2 * (n : Int))) = W := ⟨_, rfl⟩
    rw [show W2.setCell ⟨nb, 0, none⟩ (.int .i64 (2 * (n : Int))) = W3 from hW3]
    rw [hW3] at HN3 HE3 B3
    clear p2 n0 e0 fn fe hW3
    have p2 := (B3.out.cell (p := ⟨w.heap.size, 0, none⟩) hz).trans p1
    refine ⟨fun _ => p2, ?_⟩
    refine wpAnyT_all (rs := [10]) (by kernel_rfl) (by decide) ?_
    intro i hi
    obtain rfl : i = 10 := by simpa using hi
    clear hi
    refine wpOp_of_list rfl ?_
    have n0 := (blk_cells HN3.out).1 0
    have e0 := (blk_cells HE3.out).1 0
    have fn := (blk_cells HN3.out).2 0
    have fe := (blk_cells HE3.out).2 0
    simp at n0 e0
    go_wp2
    refine ⟨fun h => absurd rfl h, ?_⟩
    refine wpAnyT_done (by kernel_rfl) ?_ _
    have HE4 := Lib.hid (set1c HE3.out (iv (n : Int)))
    have HN4 := Lib.hid ((set_ne (b := nb + 1) (k := nb) (w := W3) (by omega) (iv (n : Int))).trans HN3.out)
    have B4 := Lib.hid (B3.out.setCell (p := ⟨nb + 1, 0, none⟩) (by show nb ≤ nb + 1; omega) (iv (n : Int)))
    obtain ⟨W4, hW4⟩ : ∃ W, W3.setCell ⟨nb + 1, 0, none⟩ (iv (n : Int)) = W := ⟨_, rfl⟩
    rw [show W3.setCell ⟨nb + 1, 0, none⟩ (.int .i64 (n : Int)) = W4 from hW4]
    rw [hW4] at HN4 HE4 B4
    clear p2 n0 e0 fn fe hW4
    have p4 := (B4.out.cell (p := ⟨w.heap.size, 0, none⟩) hz).trans p1
    have K := Lib.hid (HSE.out (nb) (nb + 1) W4 trivial (B1.out.trans (B4.out.mono hnb')) (by omega) (2 * (n : Int)) (n : Int) (by omega) HN4.out HE4.out)
    clear p1
    go_wp2_with fail
    refine K.out.mono ?_
    rintro e w5 ⟨rfl, ⟨hn5, he5⟩, b5⟩
    have HB5 := Lib.hid b5
    have n0 := (blk_cells hn5).1 0
    have e0 := (blk_cells he5).1 0
    simp at n0 e0
    clear b5 hn5 he5 p4 K
    go_upto_region 5 with (fail)
    go_region
    go_wp2
    exact bodyPost_ret (v := .tuple #[iv (2 * (n : Int) + nodeSum (stmtsP p)), iv ((n : Int) + edgeSum (stmtsP p))]) (by simp [results, Tryz.results46, go_sem]) rfl ⟨by rw [HNN.out, HEE.out], below_drewQ HB5.out 1⟩
  · refine wpOp_of_list rfl ?_
    go_wp2
    refine ⟨fun _ => cell_da _ p0 hz, ?_⟩
    refine wpAnyT_all (rs := [7]) (by kernel_rfl) (by decide) ?_
    intro i hi
    obtain rfl : i = 7 := by simpa using hi
    clear hi
    refine wpOp_of_list rfl ?_
    go_wp2
    obtain ⟨W2, hW2⟩ : ∃ W, (((w1.drewN 1).alloc (.cells #[iv 0] 3)).alloc (.cells #[iv 0] 3)) = W := ⟨_, rfl⟩
    obtain ⟨nb, hnb⟩ : ∃ k, w1.heap.size = k := ⟨_, rfl⟩
    have HX1 := Lib.hid (show W2.heap[nb]? = some (.cells #[iv 0] 3 (0, 0)) by rw [← hW2, ← hnb]; exact alloc_blk _ (heap_alloc_new (w1.drewN 1) _))
    have HX2 := Lib.hid (show W2.heap[nb + 1]? = some (.cells #[iv 0] 3 (0, 0)) by rw [← hW2, ← hnb]; have := heap_alloc_new ((w1.drewN 1).alloc (.cells #[iv 0] 3)) (.cells #[iv 0] 3); simpa using this)
    have BZ := Lib.hid (show Below nb w1 W2 by rw [← hW2, ← hnb]; exact ((below_drewN (Below.refl w1.heap.size w1) 1).alloc (Nat.le_refl _) _).alloc (by simp) _)
    have hnb' : w.heap.size ≤ nb := by omega
    rw [show (((w1.drewN 1).alloc (.cells #[.int .i64 0] 3)).alloc (.cells #[.int .i64 0] 3)) = W2 from hW2]
    rw [hnb] at hz ⊢
    have p2 := (BZ.out.cell (p := ⟨w.heap.size, 0, none⟩) hz).trans p0
    have p1 := p0
    clear p0 hW2 hnb
    refine ⟨fun _ => p2, ?_⟩
    refine wpAnyT_all (rs := [9]) (by kernel_rfl) (by decide) ?_
    intro i hi
    obtain rfl : i = 9 := by simpa using hi
    clear hi
    refine wpOp_of_list rfl ?_
    have n0 := (blk_cells HX1.out).1 0
    have e0 := (blk_cells HX2.out).1 0
    have fn := (blk_cells HX1.out).2 0
    have fe := (blk_cells HX2.out).2 0
    simp at n0 e0
    go_wp2
    have HN3 := Lib.hid (set1c HX2.out (iv (2 * (n : Int))))
    have HE3 := Lib.hid ((set_ne (b := nb + 1) (k := nb) (w := W2) (by omega) (iv (2 * (n : Int)))).trans HX1.out)
    have B3 := Lib.hid (BZ.out.setCell (p := ⟨nb + 1, 0, none⟩) (by show nb ≤ nb + 1; omega) (iv (2 * (n : Int))))
    obtain ⟨W3, hW3⟩ : ∃ W, W2.setCell ⟨nb + 1, 0, none⟩ (iv (2 * (n : Int))) = W := ⟨_, rfl⟩
    rw [show W2.setCell ⟨nb + 1, 0, none⟩ (.int .i64 (2 * (n : Int))) = W3 from hW3]
    rw [hW3] at HN3 HE3 B3
    clear p2 n0 e0 fn fe hW3
    have p2 := (B3.out.cell (p := ⟨w.heap.size, 0, none⟩) hz).trans p1
    refine ⟨fun _ => p2, ?_⟩
    refine wpAnyT_all (rs := [10]) (by kernel_rfl) (by decide) ?_
    intro i hi
    obtain rfl : i = 10 := by simpa using hi
    clear hi
    refine wpOp_of_list rfl ?_
    have n0 := (blk_cells HN3.out).1 0
    have e0 := (blk_cells HE3.out).1 0
    have fn := (blk_cells HN3.out).2 0
    have fe := (blk_cells HE3.out).2 0
    simp at n0 e0
    go_wp2
    refine ⟨fun h => absurd rfl h, ?_⟩
    refine wpAnyT_done (by kernel_rfl) ?_ _
    have HE4 := Lib.hid (set1c HE3.out (iv (n : Int)))
    have HN4 := Lib.hid ((set_ne (b := nb) (k := nb + 1) (w := W3) (by omega) (iv (n : Int))).trans HN3.out)
    have B4 := Lib.hid (B3.out.setCell (p := ⟨nb, 0, none⟩) (by show nb ≤ nb; omega) (iv (n : Int)))
    obtain ⟨W4, hW4⟩ : ∃ W, W3.setCell ⟨nb, 0, none⟩ (iv (n : Int)) = W := ⟨_, rfl⟩
    rw [show W3.setCell ⟨nb, 0, none⟩ (.int .i64 (n : Int)) = W4 from hW4]
    rw [hW4] at HN4 HE4 B4
    clear p2 n0 e0 fn fe hW4
    have p4 := (B4.out.cell (p := ⟨w.heap.size, 0, none⟩) hz).trans p1
    have K := Lib.hid (HSE.out (nb + 1) (nb) W4 trivial (B1.out.trans (B4.out.mono hnb')) (by omega) (2 * (n : Int)) (n : Int) (by omega) HN4.out HE4.out)
    clear p1
    go_wp2_with fail
    refine K.out.mono ?_
    rintro e w5 ⟨rfl, ⟨hn5, he5⟩, b5⟩
    have HB5 := Lib.hid b5
    have n0 := (blk_cells hn5).1 0
    have e0 := (blk_cells he5).1 0
    simp at n0 e0
    clear b5 hn5 he5 p4 K
    go_upto_region 5 with (fail)
    go_region
    go_wp2
    exact bodyPost_ret (v := .tuple #[iv (2 * (n : Int) + nodeSum (stmtsP p)), iv ((n : Int) + edgeSum (stmtsP p))]) (by simp [results, Tryz.results46, go_sem]) rfl ⟨by rw [HNN.out, HEE.out], below_drewQ HB5.out 1⟩
end Go.Proofs.YtipnhmdibkkifaaGreatDoor
