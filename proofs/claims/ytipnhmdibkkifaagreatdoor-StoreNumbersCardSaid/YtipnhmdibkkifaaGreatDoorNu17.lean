/- A part of the proof. -/
import Derived.Test.YtipnhmdibkkifaaGreatDoorNu16
import Derived.BigRegion
set_option linter.unusedVariables false
set_option linter.unusedSimpArgs false
set_option linter.unusedVariables false
set_option linter.unusedSimpArgs false
set_option linter.unusedSectionVars false
namespace Go.Proofs.YtipnhmdibkkifaaGreatDoor
open Go.RowKit
variable [Base]
def numT (N : List PNode) (n : PNode) : Nat := (numN N n).toNat
theorem numN_nat (N : List PNode) (n : PNode) : numN N n = ((numT N n : Nat) : Int) := by
  unfold numT numN
  split
  · rename_i h
    obtain ⟨k, hk, -⟩ := idxI_mem h
    rw [hk]
    simp
  · rfl
theorem numT_lt {N : List PNode} {n : PNode} (h : n ∈ N) : numT N n < N.length ∧ N[numT N n]? = some n := by
  obtain ⟨k, hk, hn⟩ := idxI_mem h
  have e : numT N n = k := by unfold numT numN; rw [if_pos h, hk]; simp
  rw [e]
  exact ⟨(List.getElem?_eq_some_iff.1 hn).1, hn⟩
theorem edge_nodes {p : List PFunc} (hc : Ckd p) {n x y : PNode} (hn : n ∈ funcsN p 0) (h : (x, y) ∈ edgesAt p n) : x ∈ funcsN p 0 ∧ y ∈ funcsN p 0 := by
  have h1 : (x, y) ∈ edgesL p (funcsN p 0) := List.mem_flatten.2 ⟨_, List.mem_map.2 ⟨n, hn, rfl⟩, h⟩
  obtain ⟨h2, h3⟩ := (edge_iff hc x y).1 h1
  exact ⟨h2, next_mem hc h2 h3⟩
set_option maxRecDepth 100000 in
set_option maxHeartbeats 4000000 in
theorem first_any {z bt sb pb mb : Nat} {nv : Value} {N : List PNode} {E : List (Nat × Nat)} {w0 w : World} (hz : w0.heap.size = z) (b0 : Below z w0 w) (h : BldE z bt sb pb mb nv N E w) (p : List PFunc) (v : Value) (hp : FuncsAt w0 v p) (i : Nat) (f : PFunc) (hf : p[i]? = some f) (hbl : f.blocks.length ≤ 1000) (hpl : p.length ≤ 1000) (x : Str) :
    Calls Tryz.prog 78 #[.pointer (some ⟨bt, 0, none⟩), .agg #[v], iv i, sv x] w (IntQ (numN N ⟨3, i, idxI (bNames f) x, 0⟩) w) := by
  obtain ⟨a, c, rfl, hn, hc⟩ := hp.cell
  obtain ⟨fb, off, bv, rfl, hfb, -, g1, hb⟩ := hc i f hf
  obtain ⟨n, hl⟩ : ∃ n, p.length = n := ⟨_, rfl⟩
  have hin : (i : Int) < (n : Int) := by have := (List.getElem?_eq_some_iff.1 hf).1; omega
  rw [hl] at hn hpl ⊢
  obtain ⟨q, hq⟩ : ∃ q, w.heap.size = q := ⟨_, rfl⟩
  have zq : z ≤ q := by have := b0.size; omega
  obtain ⟨W, hW⟩ : ∃ W, (w.alloc (.cells #[.slice (some ⟨fb, off, none⟩) n c] 48)).alloc (.cells #[sv x] TS) = W := ⟨_, rfl⟩
  have BW := Lib.hid (show Below q w W by rw [← hW, ← hq]; exact ((Below.refl _ _).alloc (Nat.le_refl _) _).alloc (by simp) _)
  have HP := show W.heap[q]? = some (.cells #[.slice (some ⟨fb, off, none⟩) n c] 48 (0, 0)) by rw [← hW, ← hq]; exact alloc_blk _ (heap_alloc_new _ _)
  have HX := Lib.hid (show W.heap[q + 1]? = some (.cells #[sv x] TS (0, 0)) by rw [← hW, ← hq]; have := heap_alloc_new (w.alloc (.cells #[.slice (some ⟨fb, off, none⟩) n c] 48)) (.cells #[sv x] TS); rwa [World.size_alloc] at this)
  have BZ := Lib.hid (b0.trans (BW.out.mono zq))
  have g1 := (BZ.out.cell (p := ⟨fb, off + i * 2 + 1, none⟩) (by show fb < z; omega)).trans g1
  have HBL := Lib.hid (hb.keep (SameT.below (hz ▸ BZ.out)) (SameT.below (hz ▸ BZ.out)) (SameT.below (hz ▸ BZ.out)))
  obtain ⟨ba, bc, rfl, -, -⟩ := hb.cell
  obtain ⟨bn, hbn⟩ : ∃ n, List.length f.blocks = n := ⟨_, rfl⟩
  rw [hbn] at g1 HBL hbl
  have K := Lib.hid (index_blocks f.blocks (.slice ba bn bc) x (q + 1) W HBL.out HX.out)
  have hidx : -1 ≤ idxI (bNames f) x ∧ idxI (bNames f) x ≤ 1000 := by
    by_cases hm : x ∈ bNames f
    · obtain ⟨k, hk, hkx⟩ := idxI_mem hm
      have h1 := (List.getElem?_eq_some_iff.1 hkx).1
      unfold bNames at h1
      rw [List.length_map] at h1
      omega
    · rw [idxI_no hm]
      omega
  obtain ⟨ix, hix⟩ : ∃ b, idxI (bNames f) x = b := ⟨_, rfl⟩
  rw [show idxI (f.blocks.map PBlock.name) x = ix from hix] at K
  rw [hix] at hidx ⊢
  have x0 := (blk_cells HP).1 0
  simp at x0
  have HWW := Lib.hid hW
  have HQ := Lib.hid hq
  have HH := Lib.hid (h.below (hq.symm ▸ BW.out))
  have hil : (i : Int) ≤ 1000 := by omega
  clear h hp hc hf hb hW hbn hix HP hl
  go_enter Tryz.func78, Tryz.ntmps78
  go_upto_region 1 with (fail)
  rw [show (w.alloc (.cells #[.slice (some ⟨fb, off, none⟩) n c] 48)).alloc (.cells #[sv x] TS) = W from HWW.out]
  try rw [hq]
  clear hq
  go_wp2_with fail
  refine K.out.mono ?_
  rintro e w2 ⟨rfl, b2⟩
  have HH2 := Lib.hid (HH.out.below b2)
  have B2 := Lib.hid (BW.out.trans (b2.mono (by have := BW.out.size; have := HQ.out; omega)))
  have KA := Lib.hid (at_any HH2.out 3 i ix 0 ⟨by unfold fitI; dsimp only; omega, by unfold fitI; dsimp only; omega, by unfold fitI; dsimp only; omega, by unfold fitI; dsimp only; omega⟩)
  clear b2 x0 g1 K
  go_wp2_with fail
  refine KA.out.mono ?_
  rintro e w3 ⟨rfl, rfl⟩
  go_wp2
  go_ret
  exact ⟨rfl, by rw [HQ.out]; exact B2.out⟩
end Go.Proofs.YtipnhmdibkkifaaGreatDoor
set_option linter.unusedVariables false
set_option linter.unusedSimpArgs false
set_option linter.unusedSectionVars false
namespace Go.Proofs.YtipnhmdibkkifaaGreatDoor
open Go.RowKit
variable [Base]
def numE (N : List PNode) (e : PNode × PNode) : Nat × Nat := (numT N e.1, numT N e.2)
def StmtG (z bt sb pb mb : Nat) (nv : Value) (N : List PNode) (E : List (Nat × Nat)) (w : World) (e : Ending) (w' : World) : Prop := e = .returned (.tuple #[]) ∧ BldE z bt sb pb mb nv N E w' ∧ KeepE z w w'
set_option maxRecDepth 100000 in
set_option maxHeartbeats 16000000 in
theorem gstmt_any {z bt sb pb mb : Nat} {nv : Value} {E : List (Nat × Nat)} {w0 w : World} (hbs : Base.b ≤ z) (hz : w0.heap.size = z) (b0 : Below z w0 w) (p : List PFunc) (v : Value) (hp : FuncsAt w0 v p) (hck : checkE p = 0)
    (h : BldE z bt sb pb mb nv (funcsN p 0) E w) {i k j : Nat} {f : PFunc} {b : PBlock} {s : PStmt} (hat : At p i k j f b s) (u t : Value) (hu : ∃ a n c, u = .slice a n c) (ht : StrsAt w0 t s.targets) :
    Calls Tryz.prog 51 #[.pointer (some ⟨bt, 0, none⟩), .agg #[v], .agg #[iv 3, iv i, iv k, iv j], .agg #[iv s.op, sv s.dfn, u, t]] w
      (StmtG z bt sb pb mb nv (funcsN p 0) (E ++ (edgesAt p ⟨3, i, k, j⟩).map (numE (funcsN p 0))) w) := by
  have hc := check_ckd hck
  have hN256 : (funcsN p 0).length ≤ 256 := by rw [← nodes_eq hck]; exact nodes_le
  have hfew := valid_few hc.valid
  have hi8 : i < p.length := (List.getElem?_eq_some_iff.1 hat.hf).1
  have hk16 : k < f.blocks.length := (List.getElem?_eq_some_iff.1 hat.hb).1
  have hj32 : j < b.stmts.length := (List.getElem?_eq_some_iff.1 hat.hs).1
  have hf16 := hfew.2 f hat.fm
  have hb32 := hf16.2 b hat.bm
  have n3 := hat.node3
  obtain ⟨N, hN⟩ : ∃ N, funcsN p 0 = N := ⟨_, rfl⟩
  have HNN := Lib.hid hN
  have HED := Lib.hid (fun (x y : PNode) (he : (x, y) ∈ edgesAt p ⟨3, i, k, j⟩) => edge_nodes hc n3 he)
  rw [hN] at h hN256 n3 HED ⊢
  have HD := Lib.hid (hat.d 3)
  have HAT := Lib.hid hat
  have HCK := Lib.hid hc
  have hfi : ∀ x : Int, -1 ≤ x → x ≤ 1000 → fitI x := fun x h1 h2 => by unfold fitI; omega
  have HFIT := Lib.hid hfi
  have KFI := Lib.hid (fun (x : World) (bx : Below z w0 x) (hB : BldE z bt sb pb mb nv N (E) x) => True.intro)
  obtain ⟨ua, un, uc, rfl⟩ := hu
  obtain ⟨ta, tc, rfl, h63, htc⟩ := ht.cell
  obtain ⟨tn, htn⟩ : ∃ n, s.targets.length = n := ⟨_, rfl⟩
  have HTT := Lib.hid ht
  rw [htn] at HTT h63 ⊢
  unfold maxLen at h63
  have HTC := Lib.hid htc
  have HTN := Lib.hid htn
  obtain ⟨a, c, rfl, hn, -⟩ := hp.cell
  obtain ⟨n, hl⟩ : ∃ n, p.length = n := ⟨_, rfl⟩
  have HPP := Lib.hid hp
  have HFI := Lib.hid (fun (E' : List (Nat × Nat)) (x : World) (bx : Below z w0 x) (hB : BldE z bt sb pb mb nv N E' x) (y : Str) => first_any hz bx hB p _ hp i f hat.hf (by omega) (by omega) y)
  rw [hl] at HPP HFI hn hi8 hfew ⊢
  obtain ⟨q, hq⟩ : ∃ q, w.heap.size = q := ⟨_, rfl⟩
  have zq : z ≤ q := by have := b0.size; omega
  obtain ⟨op, hop⟩ : ∃ o, s.op = o := ⟨_, rfl⟩
  obtain ⟨dn, hdn⟩ : ∃ o, s.dfn = o := ⟨_, rfl⟩
  rw [hop, hdn]
  have HOP := Lib.hid hop
  obtain ⟨W, hW⟩ : ∃ W, ((w.alloc (.cells #[.slice a n c] 48)).alloc (.cells #[iv 3, iv i, iv k, iv j] NT)).alloc (.cells #[iv op, sv dn, .slice ua un uc, .slice ta tn tc] 118) = W := ⟨_, rfl⟩
  have BW := Lib.hid (show Below q w W by rw [← hW, ← hq]; exact (((Below.refl _ _).alloc (Nat.le_refl _) _).alloc (by simp) _).alloc (by simp; omega) _)
  have HP := Lib.hid (show W.heap[q]? = some (.cells #[.slice a n c] 48 (0, 0)) by rw [← hW, ← hq]; exact alloc_blk _ (alloc_blk _ (heap_alloc_new _ _)))
  have HNB := Lib.hid (show W.heap[q + 1]? = some (.cells #[iv 3, iv i, iv k, iv j] NT (0, 0)) by
    rw [← hW, ← hq]
    have := heap_alloc_new (w.alloc (.cells #[.slice a n c] 48)) (.cells #[iv 3, iv i, iv k, iv j] NT)
    rw [World.size_alloc] at this
    exact alloc_blk _ this)
  have HSB := Lib.hid (show W.heap[q + 1 + 1]? = some (.cells #[iv op, sv dn, .slice ua un uc, .slice ta tn tc] 118 (0, 0)) by
    rw [← hW, ← hq]
    have := heap_alloc_new ((w.alloc (.cells #[.slice a n c] 48)).alloc (.cells #[iv 3, iv i, iv k, iv j] NT)) (.cells #[iv op, sv dn, .slice ua un uc, .slice ta tn tc] 118)
    rwa [World.size_alloc, World.size_alloc] at this)
  have HB := Lib.hid (h.below (hq.symm ▸ BW.out))
  have KE := Lib.hid (show KeepE z w W from KeepE.of (hq.symm ▸ BW.out) (by omega))
  have BZ := Lib.hid b0
  have HWW := Lib.hid hW
  have HQ := Lib.hid hq
  have hlk := Lib.hid (show ∀ m, (Instr.lookup 112 (.map (some mb)) (.agg #[iv 3, iv i, iv k, iv j]) false).run Tryz.prog (W.drewN m) = .ok (.int .i64 (numN N ⟨3, i, k, j⟩)) (W.drewN m) from fun m => by
    obtain ⟨S, P, hB, -⟩ := HB.out
    exact (hB.keep (w' := W.drewN m) fun _ _ => rfl).mp.look (x := ⟨3, i, k, j⟩) ⟨hfi 3 (by omega) (by omega), hfi (i : Int) (by omega) (by omega), hfi (k : Int) (by omega) (by omega), hfi (j : Int) (by omega) (by omega)⟩)
  obtain ⟨x3, hlt⟩ : W.cell? ⟨bt, 3, none⟩ = some (.map (some mb)) ∧ bt < W.heap.size := by
    obtain ⟨S, P, hB, -⟩ := HB.out
    exact ⟨(cells4s hB.bl).2.2.2, lt_heap hB.bl⟩
  obtain ⟨hh, hhh⟩ : ∃ m : Nat, numT N ⟨3, i, k, j⟩ = m := ⟨_, rfl⟩
  have HH := Lib.hid hhh
  have hhl : hh < N.length := hhh ▸ (numT_lt n3).1
  rw [show numN N ⟨3, i, k, j⟩ = (hh : Int) by rw [numN_nat, hhh]] at hlk
  have KAT := Lib.hid (fun (E' : List (Nat × Nat)) (x : World) (hB : BldE z bt sb pb mb nv N E' x) a b c d hf => at_any hB a b c d hf)
  have KED := Lib.hid (fun (E' : List (Nat × Nat)) (x : World) (hB : BldE z bt sb pb mb nv N E' x) a b ha hb => edge_any hbs hN256 hB a b ha hb)
  have HFW := Lib.hid hfew
  have HF16 := Lib.hid hf16
  have HN3 := Lib.hid n3
  obtain ⟨nx, hnx⟩ : ∃ m : Nat, numT N ⟨3, i, k, j + 1⟩ = m := ⟨_, rfl⟩
  have HNX := Lib.hid hnx
  have hk17 : k ≤ 16 := by omega
  have hj33 : j ≤ 32 := by omega
  have hi9 : i ≤ 8 := by omega
  have HST := Lib.hid (hc.stmt hat.fm hat.bm)
  obtain ⟨nd, hnd⟩ : ∃ x : PNode, (⟨3, i, k, j⟩ : PNode) = x := ⟨_, rfl⟩
  have HE7 := Lib.hid (show op = 7 ∨ op = 8 → edgesAt p nd = s.targets.map fun t => (nd, ⟨3, i, blkI f t, 0⟩) from fun h => by
    have h7 : (stmtD p nd).op = 7 ∨ (stmtD p nd).op = 8 := by rw [← hnd, HD.out, hop]; exact h
    unfold edgesAt
    rw [if_neg (by rw [← hnd]; show ¬ ((3 : Int) = 1); omega), if_pos (by rw [← hnd]), if_pos h7, ← hnd, HD.out]
    dsimp only
    rw [hat.fn])
  have HE9 := Lib.hid (show op = 9 → edgesAt p nd = [(nd, ⟨2, i, -1, -1⟩)] from fun h => by
    unfold edgesAt
    rw [if_neg (by rw [← hnd]; show ¬ ((3 : Int) = 1); omega), if_pos (by rw [← hnd]), if_neg (by rw [← hnd, HD.out, hop]; omega), if_pos (by rw [← hnd, HD.out, hop]; exact h), ← hnd])
  have HE3 := Lib.hid (show op = 3 → edgesAt p nd = [(nd, ⟨1, fnI p (tgt s), -1, -1⟩), (⟨2, fnI p (tgt s), -1, -1⟩, ⟨4, i, k, j⟩), (⟨4, i, k, j⟩, ⟨3, i, k, j + 1⟩)] from fun h => by
    unfold edgesAt
    rw [if_neg (by rw [← hnd]; show ¬ ((3 : Int) = 1); omega), if_pos (by rw [← hnd]), if_neg (by rw [← hnd, HD.out, hop]; omega), if_neg (by rw [← hnd, HD.out, hop]; omega), if_pos (by rw [← hnd, HD.out, hop]; exact h), ← hnd, HD.out])
  have HE0 := Lib.hid (show op ≠ 7 → op ≠ 8 → op ≠ 9 → op ≠ 3 → edgesAt p nd = [(nd, ⟨3, i, k, j + 1⟩)] from fun h1 h2 h3 h4 => by
    unfold edgesAt
    rw [if_neg (by rw [← hnd]; show ¬ ((3 : Int) = 1); omega), if_pos (by rw [← hnd]), if_neg (by rw [← hnd, HD.out, hop]; omega), if_neg (by rw [← hnd, HD.out, hop]; omega), if_neg (by rw [← hnd, HD.out, hop]; omega), ← hnd])
  have HCAL := Lib.hid (show op = 3 → ∃ g : Nat, fnI p (tgt s) = g ∧ g < n ∧ ∃ tl, s.targets = tgt s :: tl from fun h => by
    obtain ⟨g, f', h1, h2, -⟩ := hc.callee hat (by rw [hop]; exact h)
    obtain ⟨t0, h3⟩ := stmtB_call ((hc.stmt hat.fm hat.bm).2 s hat.sm) (by rw [hop]; exact h)
    exact ⟨g, h1, by have := (List.getElem?_eq_some_iff.1 h2).1; omega, [], by unfold tgt; rw [h3]; rfl⟩)
  rw [hnd] at HED HH HN3 ⊢
  have HND := Lib.hid hnd
  have HSB2 := Lib.hid (HST.out.2 s hat.sm)
  clear b0 h hp ht htc htn hc hfew hW hhh hl hat hf16 hb32 n3 hfi hN hnx HST hop hdn hnd
  obtain ⟨d0, d1, d2, d3⟩ := cells4s HNB.out
  go_enter Tryz.func51, Tryz.ntmps51
  go_upto_region 1 with (fail)
  rw [show ((w.alloc (.cells #[.slice a n c] 48)).alloc (.cells #[iv 3, iv i, iv k, iv j] NT)).alloc (.cells #[iv op, sv dn, .slice ua un uc, .slice ta tn tc] 118) = W from HWW.out]
  try rw [hq]
  have hl1 : (Instr.lookup 112 (.map (some mb)) (.agg #[iv 3, iv i, iv k, iv j]) false).run Tryz.prog W.drew = .ok (.int .i64 (hh : Int)) W.drew := hlk.out 1
  go_region
  obtain ⟨W1, hW1⟩ : ∃ X, W.drew = X := ⟨_, rfl⟩
  have HB1 := Lib.hid (show BldE z bt sb pb mb nv N E W1 by
    obtain ⟨S, P, h1, h2⟩ := HB.out
    exact ⟨S, P, h1.keep fun k _ => by rw [← hW1]; rfl, h2⟩)
  have HP1 := Lib.hid (show W1.heap[q]? = some (.cells #[.slice a n c] 48 (0, 0)) from hW1 ▸ HP.out)
  have HNB1 := Lib.hid (show W1.heap[q + 1]? = some (.cells #[iv 3, iv i, iv k, iv j] NT (0, 0)) from hW1 ▸ HNB.out)
  have HSB1 := Lib.hid (show W1.heap[q + 1 + 1]? = some (.cells #[iv op, sv dn, .slice ua un uc, .slice ta tn tc] 118 (0, 0)) from hW1 ▸ HSB.out)
  have KE1 := Lib.hid (show KeepE z w W1 by rw [← hW1]; exact KE.out.trans ⟨below_drewQ ((Below.refl _ _).mono (by have := BW.out.size; have := HQ.out; omega)) 1, fun _ _ _ => SameT.drewN⟩)
  rw [hW1]
  clear hW1 hl1 d0 d1 d2 d3 x3 hlt
  obtain ⟨d0, d1, d2, d3⟩ := cells4s HNB1.out
  have KA1 := Lib.hid (KAT.out E W1 HB1.out 3 i k (j + 1) ⟨HFIT.out 3 (by omega) (by omega), HFIT.out (i : Int) (by omega) (by omega), HFIT.out (k : Int) (by omega) (by omega), HFIT.out ((j : Int) + 1) (by omega) (by omega)⟩)
  rw [show numN N ⟨3, i, k, (j : Int) + 1⟩ = (nx : Int) by rw [numN_nat, ← HNX.out]] at KA1
  go_wp2_with fail
  refine KA1.out.mono ?_
  rintro e w2 ⟨rfl, rfl⟩
  obtain ⟨s0, s1, s2, s3⟩ := cells4s HSB1.out
  have x0 := (blk_cells HP1.out).1 0
  simp at x0
  clear KA1
  have BZ1 := Lib.hid (BZ.out.trans KE1.out.below)
  have BZ1zw : z ≤ w2.heap.size := by have := BZ1.out.size; omega
  by_cases h7 : op = 7
  · have HEE := Lib.hid (HE7.out (by omega))
    obtain ⟨Ta, hTa⟩ : ∃ l, s.targets = l := ⟨_, rfl⟩
    rw [hTa] at HEE HTC HTN
    subst h7
    clear hTa
    go_wp2
    clear s0 s1 s2 s3 d0 d1 d2 d3 x0
    go_loopw [41] (fun y wr => ∃ m : Nat, m ≤ tn ∧ y = .int .i64 m ∧ Hid (BldE z bt sb pb mb nv N (E ++ (Ta.take m).map (fun t => numE N (nd, ⟨3, i, blkI f t, 0⟩))) wr) ∧ Hid (KeepE z w2 wr)) (fun y _ => tn - (intOf y).toNat)
    case atStart => exact ⟨0, Nat.zero_le _, rfl, by unfold Hid; simpa using HB1.out, KeepE.refl z w2 BZ1zw⟩
    case round =>
      obtain ⟨m, hm, rfl, HBm, HKm⟩ := hrel
      by_cases hlt : m < tn
      · obtain ⟨t, ht⟩ : ∃ t, Ta[m]? = some t := ⟨_, List.getElem?_eq_getElem (by rw [HTN.out]; exact hlt)⟩
        obtain ⟨b1, o1, rfl, hb1, g1⟩ := HTC.out m t ht
        have BZm := Lib.hid (BZ1.out.trans HKm.out.below)
        have g1 := (BZm.out.cell (p := ⟨b1, o1 + m, none⟩) (by show b1 < z; omega)).trans g1
        have HPm := Lib.hid ((HKm.out.same _ (by decide) (by decide)).own HP1.out)
        have HNm := Lib.hid ((HKm.out.same _ (by decide) (by decide)).own HNB1.out)
        obtain ⟨d0, d1, d2, d3⟩ := cells4s HNm.out
        have x0 := (blk_cells HPm.out).1 0
        simp at x0
        have KF := Lib.hid (HFI.out _ wr BZm.out HBm.out t)
        obtain ⟨x, hx⟩ : ∃ m : Nat, numT N ⟨3, i, blkI f t, 0⟩ = m := ⟨_, rfl⟩
        have hxl : x < N.length := hx ▸ (numT_lt (HED.out nd ⟨3, i, blkI f t, 0⟩ (by rw [HEE.out]; exact List.mem_map.2 ⟨t, List.mem_of_getElem? ht, rfl⟩)).2).1
        rw [show numN N ⟨3, i, idxI (bNames f) t, 0⟩ = (x : Int) by rw [numN_nat]; show ((numT N ⟨3, i, blkI f t, 0⟩ : Nat) : Int) = _; rw [hx]] at KF
        have HSN := Lib.hid (show (Ta.take (m + 1)).map (fun t => numE N (nd, ⟨3, i, blkI f t, 0⟩)) = (Ta.take m).map (fun t => numE N (nd, ⟨3, i, blkI f t, 0⟩)) ++ [(hh, x)] by rw [List.take_add_one, ht, List.map_append]; simp [numE, HH.out, hx])
        have zm : z ≤ wr.heap.size := by have := BZm.out.size; omega
        clear ht hx
        go_wp2_with fail
        refine KF.out.mono ?_
        rintro e w3 ⟨rfl, b3⟩
        have KE := Lib.hid (KED.out _ w3 (HBm.out.below b3) hh x hhl hxl)
        have K3 := Lib.hid (HKm.out.trans (KeepE.of b3 zm))
        clear b3 d0 d1 d2 d3 x0 g1 KF
        go_wp2_with fail
        refine KE.out.mono ?_
        rintro e w4 ⟨rfl, hb4, k4⟩
        have HB4 := Lib.hid (show BldE z bt sb pb mb nv N (E ++ (Ta.take (m + 1)).map (fun t => numE N (nd, ⟨3, i, blkI f t, 0⟩))) w4 by rw [HSN.out, ← List.append_assoc]; exact hb4)
        have K4 := Lib.hid (K3.out.trans k4)
        clear hb4 k4 KE
        go_wp2
        go_roundw
        case rel => exact ⟨m + 1, by omega, by go_num, HB4, K4⟩
        case measure => simp [intOf]; omega
      · have HFIN := Lib.hid (show BldE z bt sb pb mb nv N (E ++ (edgesAt p nd).map (numE N)) wr by
          rw [HEE.out, List.map_map, ← show Ta.take m = Ta from List.take_of_length_le (by rw [HTN.out]; omega)]
          exact HBm.out)
        have KFIN := Lib.hid (KE1.out.trans HKm.out)
        go_wp2
        exact bodyPost_end (v := .tuple #[]) (by simp [results, Tryz.results51, go_sem]) rfl ⟨rfl, HFIN.out, KFIN.out⟩
  by_cases h8 : op = 8
  · have HEE := Lib.hid (HE7.out (by omega))
    obtain ⟨Ta, hTa⟩ : ∃ l, s.targets = l := ⟨_, rfl⟩
    rw [hTa] at HEE HTC HTN
    subst h8
    clear hTa
    go_wp2
    clear s0 s1 s2 s3 d0 d1 d2 d3 x0
    go_loopw [41] (fun y wr => ∃ m : Nat, m ≤ tn ∧ y = .int .i64 m ∧ Hid (BldE z bt sb pb mb nv N (E ++ (Ta.take m).map (fun t => numE N (nd, ⟨3, i, blkI f t, 0⟩))) wr) ∧ Hid (KeepE z w2 wr)) (fun y _ => tn - (intOf y).toNat)
    case atStart => exact ⟨0, Nat.zero_le _, rfl, by unfold Hid; simpa using HB1.out, KeepE.refl z w2 BZ1zw⟩
    case round =>
      obtain ⟨m, hm, rfl, HBm, HKm⟩ := hrel
      by_cases hlt : m < tn
      · obtain ⟨t, ht⟩ : ∃ t, Ta[m]? = some t := ⟨_, List.getElem?_eq_getElem (by rw [HTN.out]; exact hlt)⟩
        obtain ⟨b1, o1, rfl, hb1, g1⟩ := HTC.out m t ht
        have BZm := Lib.hid (BZ1.out.trans HKm.out.below)
        have g1 := (BZm.out.cell (p := ⟨b1, o1 + m, none⟩) (by show b1 < z; omega)).trans g1
        have HPm := Lib.hid ((HKm.out.same _ (by decide) (by decide)).own HP1.out)
        have HNm := Lib.hid ((HKm.out.same _ (by decide) (by decide)).own HNB1.out)
        obtain ⟨d0, d1, d2, d3⟩ := cells4s HNm.out
        have x0 := (blk_cells HPm.out).1 0
        simp at x0
        have KF := Lib.hid (HFI.out _ wr BZm.out HBm.out t)
        obtain ⟨x, hx⟩ : ∃ m : Nat, numT N ⟨3, i, blkI f t, 0⟩ = m := ⟨_, rfl⟩
        have hxl : x < N.length := hx ▸ (numT_lt (HED.out nd ⟨3, i, blkI f t, 0⟩ (by rw [HEE.out]; exact List.mem_map.2 ⟨t, List.mem_of_getElem? ht, rfl⟩)).2).1
        rw [show numN N ⟨3, i, idxI (bNames f) t, 0⟩ = (x : Int) by rw [numN_nat]; show ((numT N ⟨3, i, blkI f t, 0⟩ : Nat) : Int) = _; rw [hx]] at KF
        have HSN := Lib.hid (show (Ta.take (m + 1)).map (fun t => numE N (nd, ⟨3, i, blkI f t, 0⟩)) = (Ta.take m).map (fun t => numE N (nd, ⟨3, i, blkI f t, 0⟩)) ++ [(hh, x)] by rw [List.take_add_one, ht, List.map_append]; simp [numE, HH.out, hx])
        have zm : z ≤ wr.heap.size := by have := BZm.out.size; omega
        clear ht hx
        go_wp2_with fail
        refine KF.out.mono ?_
        rintro e w3 ⟨rfl, b3⟩
        have KE := Lib.hid (KED.out _ w3 (HBm.out.below b3) hh x hhl hxl)
        have K3 := Lib.hid (HKm.out.trans (KeepE.of b3 zm))
        clear b3 d0 d1 d2 d3 x0 g1 KF
        go_wp2_with fail
        refine KE.out.mono ?_
        rintro e w4 ⟨rfl, hb4, k4⟩
        have HB4 := Lib.hid (show BldE z bt sb pb mb nv N (E ++ (Ta.take (m + 1)).map (fun t => numE N (nd, ⟨3, i, blkI f t, 0⟩))) w4 by rw [HSN.out, ← List.append_assoc]; exact hb4)
        have K4 := Lib.hid (K3.out.trans k4)
        clear hb4 k4 KE
        go_wp2
        go_roundw
        case rel => exact ⟨m + 1, by omega, by go_num, HB4, K4⟩
        case measure => simp [intOf]; omega
      · have HFIN := Lib.hid (show BldE z bt sb pb mb nv N (E ++ (edgesAt p nd).map (numE N)) wr by
          rw [HEE.out, List.map_map, ← show Ta.take m = Ta from List.take_of_length_le (by rw [HTN.out]; omega)]
          exact HBm.out)
        have KFIN := Lib.hid (KE1.out.trans HKm.out)
        go_wp2
        exact bodyPost_end (v := .tuple #[]) (by simp [results, Tryz.results51, go_sem]) rfl ⟨rfl, HFIN.out, KFIN.out⟩
  by_cases h9 : op = 9
  · have HEE := Lib.hid (HE9.out h9)
    obtain ⟨ex, hex⟩ : ∃ m : Nat, numT N ⟨2, i, -1, -1⟩ = m := ⟨_, rfl⟩
    have hel : ex < N.length := hex ▸ (numT_lt (HED.out nd ⟨2, i, -1, -1⟩ (by rw [HEE.out]; simp)).2).1
    have KA := Lib.hid (KAT.out E w2 HB1.out 2 i (-1) (-1) ⟨HFIT.out 2 (by omega) (by omega), HFIT.out (i : Int) (by omega) (by omega), HFIT.out (-1) (by omega) (by omega), HFIT.out (-1) (by omega) (by omega)⟩)
    rw [show numN N ⟨2, i, -1, -1⟩ = (ex : Int) by rw [numN_nat, hex]] at KA
    have HEL := Lib.hid (show (edgesAt p nd).map (numE N) = [(hh, ex)] by rw [HEE.out]; simp [numE, HH.out, hex])
    have KE := Lib.hid (KED.out E w2 HB1.out hh ex hhl hel)
    clear hex
    subst h9
    go_wp2_with fail
    refine KA.out.mono ?_
    rintro e w3 ⟨rfl, rfl⟩
    go_wp2_with fail
    refine KE.out.mono ?_
    rintro e w4 ⟨rfl, hb4, k4⟩
    have HFIN := Lib.hid (show BldE z bt sb pb mb nv N (E ++ (edgesAt p nd).map (numE N)) w4 by rw [HEL.out]; exact hb4)
    have KFIN := Lib.hid (KE1.out.trans k4)
    clear hb4 k4
    go_wp2
    exact bodyPost_end (v := .tuple #[]) (by simp [results, Tryz.results51, go_sem]) rfl ⟨rfl, HFIN.out, KFIN.out⟩
  by_cases h3 : op = 3
  · have HEE := Lib.hid (HE3.out h3)
    obtain ⟨g, hg, hgn, tl, htl⟩ := HCAL.out h3
    rw [hg] at HEE
    have KI := Lib.hid (index_funcs p (.slice a n c) (tgt s) (q + 1 + 1) w2 (HPP.out.keep (SameT.below (hz ▸ BZ1.out)) (SameT.below (hz ▸ BZ1.out)) (SameT.below (hz ▸ BZ1.out)) (SameT.below (hz ▸ BZ1.out))) op dn (.slice ua un uc) (.slice ta tn tc) HSB1.out tl (htl ▸ HTT.out.same (SameT.below (hz ▸ BZ1.out))))
    rw [show idxI (p.map PFunc.name) (tgt s) = (g : Int) from hg] at KI
    have hg8 : g ≤ 8 := by have := HFW.out.1; omega
    obtain ⟨e1, he1⟩ : ∃ m : Nat, numT N ⟨1, g, -1, -1⟩ = m := ⟨_, rfl⟩
    obtain ⟨e2, he2⟩ : ∃ m : Nat, numT N ⟨2, g, -1, -1⟩ = m := ⟨_, rfl⟩
    obtain ⟨rt, hrt⟩ : ∃ m : Nat, numT N ⟨4, i, k, j⟩ = m := ⟨_, rfl⟩
    have l1 : e1 < N.length := he1 ▸ (numT_lt (HED.out nd ⟨1, g, -1, -1⟩ (by rw [HEE.out]; simp)).2).1
    have l2 : e2 < N.length := he2 ▸ (numT_lt (HED.out ⟨2, g, -1, -1⟩ ⟨4, i, k, j⟩ (by rw [HEE.out]; simp)).1).1
    have lr : rt < N.length := hrt ▸ (numT_lt (HED.out ⟨2, g, -1, -1⟩ ⟨4, i, k, j⟩ (by rw [HEE.out]; simp)).2).1
    have ln : nx < N.length := HNX.out ▸ (numT_lt (HED.out ⟨4, i, k, j⟩ ⟨3, i, k, j + 1⟩ (by rw [HEE.out]; simp)).2).1
    have HEL := Lib.hid (show (edgesAt p nd).map (numE N) = [(hh, e1), (e2, rt), (rt, nx)] by rw [HEE.out]; simp [numE, HH.out, he1, he2, hrt, HNX.out])
    have HN1 := Lib.hid (show numN N ⟨1, g, -1, -1⟩ = (e1 : Int) by rw [numN_nat, he1])
    have HN2 := Lib.hid (show numN N ⟨2, g, -1, -1⟩ = (e2 : Int) by rw [numN_nat, he2])
    have HN4 := Lib.hid (show numN N ⟨4, i, k, j⟩ = (rt : Int) by rw [numN_nat, hrt])
    clear he1 he2 hrt hg htl
    subst h3
    go_wp2_with fail
    refine KI.out.mono ?_
    rintro e w3 ⟨rfl, b3⟩
    have HB3 := Lib.hid (HB1.out.below b3)
    have HNB3 := Lib.hid (lies_below HNB1.out b3 (lt_heap HNB1.out))
    have K3 := Lib.hid (KeepE.of (z := z) b3 BZ1zw)
    have KA := Lib.hid (KAT.out E w3 HB3.out 4 i k j ⟨HFIT.out 4 (by omega) (by omega), HFIT.out (i : Int) (by omega) (by omega), HFIT.out (k : Int) (by omega) (by omega), HFIT.out (j : Int) (by omega) (by omega)⟩)
    rw [HN4.out] at KA
    clear b3 d0 d1 d2 d3 s0 s1 s2 s3 x0 KI
    obtain ⟨d0, d1, d2, d3⟩ := cells4s HNB3.out
    go_wp2_with fail
    refine KA.out.mono ?_
    rintro e w4 ⟨rfl, rfl⟩
    have KA2 := Lib.hid (KAT.out E w4 HB3.out 1 g (-1) (-1) ⟨HFIT.out 1 (by omega) (by omega), HFIT.out (g : Int) (by omega) (by omega), HFIT.out (-1) (by omega) (by omega), HFIT.out (-1) (by omega) (by omega)⟩)
    rw [HN1.out] at KA2
    clear KA d0 d1 d2 d3
    go_wp2_with fail
    refine KA2.out.mono ?_
    rintro e w5 ⟨rfl, rfl⟩
    have KE := Lib.hid (KED.out E w5 HB3.out hh e1 hhl l1)
    clear KA2
    go_wp2_with fail
    refine KE.out.mono ?_
    rintro e w6 ⟨rfl, hb6, k6⟩
    have HB6 := Lib.hid hb6
    have K6 := Lib.hid (K3.out.trans k6)
    clear hb6 k6 KE
    have KA2 := Lib.hid (KAT.out _ w6 HB6.out 2 g (-1) (-1) ⟨HFIT.out 2 (by omega) (by omega), HFIT.out (g : Int) (by omega) (by omega), HFIT.out (-1) (by omega) (by omega), HFIT.out (-1) (by omega) (by omega)⟩)
    rw [HN2.out] at KA2
    go_wp2_with fail
    refine KA2.out.mono ?_
    rintro e w7 ⟨rfl, rfl⟩
    have KE := Lib.hid (KED.out _ w7 HB6.out e2 rt l2 lr)
    clear KA2
    go_wp2_with fail
    refine KE.out.mono ?_
    rintro e w8 ⟨rfl, hb8, k8⟩
    have HB8 := Lib.hid hb8
    have K8 := Lib.hid (K6.out.trans k8)
    clear hb8 k8 KE
    have KE := Lib.hid (KED.out _ w8 HB8.out rt nx lr ln)
    go_wp2_with fail
    refine KE.out.mono ?_
    rintro e w9 ⟨rfl, hb9, k9⟩
    have HFIN := Lib.hid (show BldE z bt sb pb mb nv N (E ++ (edgesAt p nd).map (numE N)) w9 by rw [HEL.out]; simpa using hb9)
    have KFIN := Lib.hid (KE1.out.trans (K8.out.trans k9))
    clear hb9 k9 KE
    go_wp2
    exact bodyPost_end (v := .tuple #[]) (by simp [results, Tryz.results51, go_sem]) rfl ⟨rfl, HFIN.out, KFIN.out⟩
  · have HEE := Lib.hid (HE0.out h7 h8 h9 h3)
    have ln : nx < N.length := HNX.out ▸ (numT_lt (HED.out nd ⟨3, i, k, j + 1⟩ (by rw [HEE.out]; simp)).2).1
    have HEL := Lib.hid (show (edgesAt p nd).map (numE N) = [(hh, nx)] by rw [HEE.out]; simp [numE, HH.out, HNX.out])
    have KE := Lib.hid (KED.out E w2 HB1.out hh nx hhl ln)
    have t7 : (op == 7) = false := by simpa using h7
    have t8 : (op == 8) = false := by simpa using h8
    have t9 : (op == 9) = false := by simpa using h9
    have t3 : (op == 3) = false := by simpa using h3
    clear h7 h8 h9 h3
    go_wp2_with fail
    refine KE.out.mono ?_
    rintro e w4 ⟨rfl, hb4, k4⟩
    have HFIN := Lib.hid (show BldE z bt sb pb mb nv N (E ++ (edgesAt p nd).map (numE N)) w4 by rw [HEL.out]; exact hb4)
    have KFIN := Lib.hid (KE1.out.trans k4)
    clear hb4 k4
    go_wp2
    exact bodyPost_end (v := .tuple #[]) (by simp [results, Tryz.results51, go_sem]) rfl ⟨rfl, HFIN.out, KFIN.out⟩
end Go.Proofs.YtipnhmdibkkifaaGreatDoor
