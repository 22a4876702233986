/- A part of the proof. -/
import Derived.Test.YtipnhmdibkkifaaGreatDoorNu18
import Derived.Test.YtipnhmdibkkifaaGreatDoorNu07
import Derived.Test.YtipnhmdibkkifaaGreatDoorNu14
import Derived.Deep.CutRange
set_option linter.unusedVariables false
set_option linter.unusedSimpArgs false
set_option linter.unusedVariables false
set_option linter.unusedSimpArgs false
set_option linter.unusedSectionVars false
namespace Go.Proofs.YtipnhmdibkkifaaGreatDoor
open Go.RowKit
variable [Base]
def rz (m : Nat) : Array Value := (List.replicate m (Value.slice none 0 0)).toArray
theorem info_row : (Tryz.prog.info? IT).map (fun i => (i.zero, i.size, i.bytes)) = some (some (Value.slice none 0 0), 1, 24) := by kernel_rfl
set_option maxRecDepth 100000 in
theorem run_make_rows (k : Nat) (hk : k ≤ 1000) (w : World) :
    (Instr.makeSlice 54 (.int .i64 (k : Int)) (.int .i64 (k : Int))).run Tryz.prog w = .ok (.slice (some ⟨w.heap.size, 0, none⟩) k k) (w.alloc (.cells (rz k) IT)) := by
  obtain ⟨i, hi, hz, hs1, hs2⟩ := info_parts info_row
  have h := run_makeSlice (P := Tryz.prog) w 54 IT i _ Tryz.underlying54 hi hz .i64 .i64 (k : Int) (k : Int) (by omega) (Int.le_refl _) (by rw [hs1]; omega) (by rw [hs2]; omega) (by omega)
  rw [h, hs1]
  simp only [Int.toNat_natCast, Nat.mul_one]
  congr 3
  unfold rz madeCells
  apply Array.ext
  · simp [Value.cells]
  · intro j h1 h2
    simp [Value.cells, Nat.mod_one]
theorem cells3s {b : Nat} {w : World} {v0 v1 v2 : Value} {t : TypeId} (h : w.heap[b]? = some (.cells #[v0, v1, v2] t (0, 0))) :
    w.cell? ⟨b, 0, none⟩ = some v0 ∧ w.cell? ⟨b, 1, none⟩ = some v1 ∧ w.cell? ⟨b, 2, none⟩ = some v2 := by
  simp [World.cell?, h]
theorem set3g {w : World} {b : Nat} {a0 a1 a2 : Value} {t : TypeId} {fr : Nat × Nat} (h : w.heap[b]? = some (.cells #[a0, a1, a2] t fr)) (x0 x1 x2 : Value) :
    (((w.setCell ⟨b, 0, none⟩ x0).setCell ⟨b, 1, none⟩ x1).setCell ⟨b, 2, none⟩ x2).heap[b]? = some (.cells #[x0, x1, x2] t fr) := by
  simp [World.setCell, Array.getElem?_modify, h]
def BuildQ (p : List PFunc) (w : World) (e : Ending) (w' : World) : Prop := ∃ nv sv pv, e = .returned (.tuple #[.agg #[nv, sv, pv], iv (checkE p)]) ∧ NodesAt w' nv (nodesP p) ∧ RowsAt intEl w' sv (succsP p) ∧ RowsAt intEl w' pv (predsP p) ∧ Below w.heap.size w w'
theorem new3 (w : World) (a b c : Obj) : (((w.alloc a).alloc b).alloc c).heap[w.heap.size]? = some a ∧ (((w.alloc a).alloc b).alloc c).heap[w.heap.size + 1]? = some b ∧ (((w.alloc a).alloc b).alloc c).heap[w.heap.size + 1 + 1]? = some c ∧ (((w.alloc a).alloc b).alloc c).heap.size = w.heap.size + 1 + 1 + 1 ∧ Below w.heap.size w (((w.alloc a).alloc b).alloc c) := by
  refine ⟨alloc_blk _ (alloc_blk _ (heap_alloc_new w a)), alloc_blk _ ?_, ?_, by simp, (((Below.refl _ _).alloc (Nat.le_refl _) _).alloc (by simp) _).alloc (by simp; omega) _⟩
  · have := heap_alloc_new (w.alloc a) b
    rwa [World.size_alloc] at this
  · have := heap_alloc_new ((w.alloc a).alloc b) c
    rwa [World.size_alloc, World.size_alloc] at this
structure Fresh (z bt sb pb mb m : Nat) (nv : Value) (w w' : World) : Prop where
  bl : w'.heap[bt]? = some (.cells #[nv, .slice (some ⟨sb, 0, none⟩) m m, .slice (some ⟨pb, 0, none⟩) m m, .map (some mb)] BT (0, 0))
  sl : w'.heap[sb]? = some (.cells (rz m) IT (0, 0))
  pl : w'.heap[pb]? = some (.cells (rz m) IT (0, 0))
  ml : NumM w' mb 0 []
  zs : z ≤ bt ∧ z ≤ sb ∧ z ≤ pb ∧ z ≤ mb
  ne : sb ≠ pb
  below : Below z w w'
theorem Fresh.mk3 {z bt sb pb mb m : Nat} {nv : Value} {w V : World} (hs : V.heap[sb]? = some (.cells (rz m) IT (0, 0))) (hp : V.heap[pb]? = some (.cells (rz m) IT (0, 0))) (hm : V.heap[mb]? = some (.map #[] 0)) (hz : z ≤ sb ∧ z ≤ pb ∧ z ≤ mb) (hne : sb ≠ pb) (hb : Below z w V) (hbt : V.heap.size = bt) :
    Fresh z bt sb pb mb m nv w (V.alloc (.cells #[nv, .slice (some ⟨sb, 0, none⟩) m m, .slice (some ⟨pb, 0, none⟩) m m, .map (some mb)] BT)) := by
  subst hbt
  have hlt := lt_heap hs
  refine ⟨heap_alloc_new _ _, alloc_blk _ hs, alloc_blk _ hp, ?_, ⟨by omega, hz.1, hz.2.1, hz.2.2⟩, hne, hb.alloc (by omega) _⟩
  obtain ⟨th, h⟩ : ∃ th, MapG nodeKey intEnc V mb 0 (numN []) th := by
    refine ⟨fun _ => false, .map [], ⟨#[], 0, hm, ?_⟩, fun k _ l _ => ⟨?_, rfl⟩⟩
    · have := (World.ownsMap_made V Tryz.prog NT intEnc.R)
      obtain ⟨es, c, h1, h2⟩ := this
      rw [heap_alloc_new] at h1
      injection h1 with h1
      injection h1 with h1 h3
      subst h1 h3
      exact h2
    · rw [numN_nil]; rfl
  exact ⟨th, h.block (Below.heap_alloc _ _ _ (lt_heap hm))⟩
theorem nodes_fit {p : List PFunc} (hck : checkE p = 0) {n : PNode} (h : n ∈ funcsN p 0) : fitN n := by
  have hfew := valid_few (check_ckd hck).valid
  obtain ⟨i, f, hf, h⟩ := mem_nodes.1 h
  have hi : i < p.length := (List.getElem?_eq_some_iff.1 hf).1
  have hff := hfew.2 f (List.mem_of_getElem? hf)
  rcases h with rfl | rfl | ⟨k, b, j, s, hb, hs, h⟩
  · exact ⟨by unfold fitI; dsimp only; omega, by unfold fitI; dsimp only; omega, by unfold fitI; dsimp only; omega, by unfold fitI; dsimp only; omega⟩
  · exact ⟨by unfold fitI; dsimp only; omega, by unfold fitI; dsimp only; omega, by unfold fitI; dsimp only; omega, by unfold fitI; dsimp only; omega⟩
  · have hk : k < f.blocks.length := (List.getElem?_eq_some_iff.1 hb).1
    have hj : j < b.stmts.length := (List.getElem?_eq_some_iff.1 hs).1
    have hb32 := hff.2 b (List.mem_of_getElem? hb)
    rcases h with rfl | ⟨-, rfl⟩
    · exact ⟨by unfold fitI; dsimp only; omega, by unfold fitI; dsimp only; omega, by unfold fitI; dsimp only; omega, by unfold fitI; dsimp only; omega⟩
    · exact ⟨by unfold fitI; dsimp only; omega, by unfold fitI; dsimp only; omega, by unfold fitI; dsimp only; omega, by unfold fitI; dsimp only; omega⟩
theorem rowsD_nil (z : Nat) (w : World) {m k : Nat} (hk : k = m) : RowsD z w (List.replicate m (Value.slice none 0 0) ++ List.replicate m (Value.slice none 0 0)) (List.replicate k [] ++ List.replicate k []) := by
  subst hk
  have hv : ∀ (i : Nat) (v : Value), (List.replicate k (Value.slice none 0 0) ++ List.replicate k (Value.slice none 0 0))[i]? = some v → v = .slice none 0 0 := fun i v h => by
    have := List.mem_of_getElem? h
    simp at this
    exact this.2
  refine ⟨by simp, fun i v r h1 h2 => ?_, fun i j v u b _ h1 h2 h3 => ?_⟩
  · obtain rfl := hv i v h1
    have := List.mem_of_getElem? h2
    simp at this
    obtain rfl : r = [] := this.2
    simp [World.ownsRow]
  · obtain rfl := hv i v h1
    simp [Value.ownBlock] at h3
set_option maxRecDepth 100000 in
set_option maxHeartbeats 16000000 in
theorem build_any {B : Nat} {w : World} (kw : KwIn B w) (hB : B ≤ w.heap.size) (p : List PFunc) (v : Value) (h : FuncsAt w v p) (hf : ∀ f ∈ p, ∀ b ∈ f.blocks, ∀ s ∈ b.stmts, FitS s) :
    Calls Tryz.prog 27 #[.agg #[v]] w (BuildQ p w) := by
  obtain ⟨z, hz⟩ : ∃ b, w.heap.size = b := ⟨_, rfl⟩
  have hbz : Base.b ≤ z := by have := kw.bs; omega
  have HV := Lib.hid (fun (x : World) (b : Below z w x) => check_any (kw.keep fun k hk => b.block k (by omega)) (by have := b.size; omega) p v (h.keep (SameT.below (hz ▸ b)) (SameT.below (hz ▸ b)) (SameT.below (hz ▸ b)) (SameT.below (hz ▸ b))) hf)
  have HLI := Lib.hid (fun (x : World) (b : Below z w x) => list_any (kw.keep fun k hk => b.block k (by omega)) (by have := b.size; omega) p v (h.keep (SameT.below (hz ▸ b)) (SameT.below (hz ▸ b)) (SameT.below (hz ▸ b)) (SameT.below (hz ▸ b))) hf)
  have HPP := Lib.hid h
  have HSORT := Lib.hid sort_ok
  obtain ⟨a, c, rfl, hn, hc⟩ := h.cell
  have HC := Lib.hid hc
  obtain ⟨n, hl⟩ : ∃ n, p.length = n := ⟨_, rfl⟩
  rw [hl] at hn HV HLI HPP ⊢
  have HL := Lib.hid hl
  obtain ⟨W, hW⟩ : ∃ W, (w.alloc (.cells #[.slice a n c] 48)).alloc (.cells #[.slice none 0 0, .slice none 0 0, .slice none 0 0] 85) = W := ⟨_, rfl⟩
  have HPB := Lib.hid (show W.heap[z]? = some (.cells #[.slice a n c] 48 (0, 0)) by rw [← hW, ← hz]; exact alloc_blk _ (heap_alloc_new _ _))
  have HRB := Lib.hid (show W.heap[z + 1]? = some (.cells #[.slice none 0 0, .slice none 0 0, .slice none 0 0] 85 (0, 0)) by rw [← hW, ← hz]; have := heap_alloc_new (w.alloc (.cells #[.slice a n c] 48)) (.cells #[.slice none 0 0, .slice none 0 0, .slice none 0 0] 85); rwa [World.size_alloc] at this)
  have BW := Lib.hid (show Below z w W by rw [← hW, ← hz]; exact ((Below.refl _ _).alloc (Nat.le_refl _) _).alloc (by simp) _)
  have HWW := Lib.hid hW
  have HZ := Lib.hid hz
  obtain ⟨er, her⟩ : ∃ r, checkE p = r := ⟨_, rfl⟩
  rw [her] at HV
  have HER := Lib.hid her
  clear h hc hW kw hf hl her
  have x0 := (blk_cells HPB.out).1 0
  simp at x0
  go_enter Tryz.func27, Tryz.ntmps27
  go_upto_region 1 with (fail)
  rw [show (w.alloc (.cells #[.slice a n c] 48)).alloc (.cells #[.slice none 0 0, .slice none 0 0, .slice none 0 0] 85) = W from HWW.out]
  try rw [hz]
  go_wp2_with fail
  refine (HV.out W BW.out).mono ?_
  rintro e w1 ⟨na, nb, nc, nd, rfl, b1⟩
  have b2 := b1.trans (((Below.refl w1.heap.size w1).alloc (Nat.le_refl _) (.cells #[iv na, iv nb, iv nc, iv nd] 80)).mono b1.size)
  obtain ⟨w2, hw2⟩ : ∃ V, w1.alloc (.cells #[iv na, iv nb, iv nc, iv nd] 80) = V := ⟨_, rfl⟩
  have HW2 := Lib.hid hw2
  rw [hw2] at b2
  have HP2 := Lib.hid (lies_below HPB.out b2 (lt_heap HPB.out))
  have HR2 := Lib.hid (lies_below HRB.out b2 (lt_heap HRB.out))
  have zW : z ≤ W.heap.size := by have := BW.out.size; omega
  have HB2 := Lib.hid (BW.out.trans (b2.mono zW))
  have zw2 : z ≤ w2.heap.size := by have := HB2.out.size; omega
  clear b1 b2 hw2 x0 zW
  by_cases he : er = 0
  rotate_left
  · have hne : (er != 0) = true := by simpa using he
    have HNP := Lib.hid (show nodesP p = [] by unfold nodesP; rw [HER.out, if_neg he])
    have HSP := Lib.hid (show succsP p = [] by unfold succsP; rw [HNP.out]; rfl)
    have HPD := Lib.hid (show predsP p = [] by unfold predsP; rw [HNP.out]; rfl)
    clear he
    obtain ⟨r0, r1, r2⟩ := cells3s HR2.out
    have fr := (lies_cells HR2.out).2
    go_upto_region 2 with (fail)
    rw [show w1.alloc (.cells #[iv na, iv nb, iv nc, iv nd] 80) = w2 from HW2.out]
    go_wp2
    obtain ⟨z0, z1, z2⟩ := cells3s (set3g HR2.out (.slice none 0 0) (.slice none 0 0) (.slice none 0 0))
    refine bodyPost_ret (v := .tuple #[.agg #[.slice none 0 0, .slice none 0 0, .slice none 0 0], iv er]) (by simp [results, Tryz.results27, go_sem, z0, z1, z2]) rfl ⟨_, _, _, by rw [HER.out], ?_, ?_, ?_, ?_⟩
    · rw [HNP.out]; exact SliceAt.nil
    · rw [HSP.out]; exact RowsAt.nil
    · rw [HPD.out]; exact RowsAt.nil
    · rw [HZ.out]; exact (((HB2.out).setCell (by show z ≤ z + 1; omega) _).setCell (by show z ≤ z + 1; omega) _).setCell (by show z ≤ z + 1; omega) _
  have hne : (er != 0) = false := by simpa using he
  have hck0 := Lib.hid (show checkE p = 0 by rw [HER.out, he])
  have HNP := Lib.hid (show nodesP p = funcsN p 0 from nodes_eq hck0.out)
  have hle : (funcsN p 0).length ≤ 256 := by rw [← HNP.out]; exact nodes_le
  have hpos : 1 ≤ (funcsN p 0).length := by rw [← HNP.out]; exact nodes_pos hck0.out
  clear he
  go_upto_region 4 with (fail)
  rw [show w1.alloc (.cells #[iv na, iv nb, iv nc, iv nd] 80) = w2 from HW2.out]
  have x0 := (blk_cells HP2.out).1 0
  simp at x0
  go_wp2_with fail
  refine (HLI.out w2 HB2.out).mono ?_
  rintro e w3 ⟨lv, rfl, ho, b3⟩
  obtain ⟨la, lc, rfl, hl63, hl64, hl65, -⟩ := ho.at_.cell
  rw [HNP.out] at ho hl63 ⊢
  have HNA := Lib.hid ho.at_
  obtain ⟨N, hN⟩ : ∃ N, funcsN p 0 = N := ⟨_, rfl⟩
  have HNN := Lib.hid hN
  rw [hN] at ho HNA hle hpos ⊢
  obtain ⟨m, hm⟩ : ∃ m, N.length = m := ⟨_, rfl⟩
  have HM := Lib.hid hm
  rw [hm] at HNA hle hpos ⊢
  have HP3 := Lib.hid (lies_below HP2.out b3 (lt_heap HP2.out))
  have HR3 := Lib.hid (lies_below HR2.out b3 (lt_heap HR2.out))
  have HB3 := Lib.hid (HB2.out.trans (b3.mono zw2))
  have zw3 : z ≤ w3.heap.size := by have := b3.size; omega
  clear b3 ho x0 hN hm hl63 hl64 hl65
  have hmk := fun (x : World) => run_make_rows m (by omega) x
  have hmm := @run_makeMap Tryz.prog
  go_upto_region 5 with (fail)
  go_cut [7] from 24 to 34 (fun s7 wx => ∃ bt sb pb mb : Nat, s7 = .pointer (some ⟨bt, 0, none⟩) ∧ Hid (Fresh w3.heap.size bt sb pb mb m (.slice la m lc) w3 wx))
  case first =>
    refine wp_region_D (S := fun _ => True) (st := 11) (by kernel_rfl) ?_
    refine wpAnyT_pure 0 ?z0 rfl (by kernel_rfl) (by kernel_rfl) (by kernel_rfl) (by kernel_rfl) (fun _ _ _ h => h) trivial rfl ?rz0 ?sz0
    case rz0 => intro w hS; go_simp; rfl
    case sz0 =>
    refine wpAnyT_pure 1 ?z1 rfl (by kernel_rfl) (by kernel_rfl) (by kernel_rfl) (by kernel_rfl) (fun _ _ _ h => h) trivial rfl ?rz1 ?sz1
    case rz1 => intro w hS; go_simp; rfl
    case sz1 =>
    refine wpAnyT_pure 2 ?z2 rfl (by kernel_rfl) (by kernel_rfl) (by kernel_rfl) (by kernel_rfl) (fun _ _ _ h => h) trivial rfl ?rz2 ?sz2
    case rz2 => intro w hS; go_simp; rfl
    case sz2 =>
    refine wpAnyT_pure 4 ?z4 rfl (by kernel_rfl) (by kernel_rfl) (by kernel_rfl) (by kernel_rfl) (fun _ _ _ h => h) trivial rfl ?rz4 ?sz4
    case rz4 => intro w hS; go_simp; rfl
    case sz4 =>
    refine wpAnyT_pure 5 ?z5 rfl (by kernel_rfl) (by kernel_rfl) (by kernel_rfl) (by kernel_rfl) (fun _ _ _ h => h) trivial rfl ?rz5 ?sz5
    case rz5 => intro w hS; go_simp; rfl
    case sz5 =>
    refine wpAnyT_all (rs := [3, 6, 8]) (by kernel_rfl) (by decide) ?_
    intro i hi
    have hi2 : i = 3 ∨ i = 6 ∨ i = 8 := by simpa using hi
    clear hi
    rcases hi2 with rfl | rfl | rfl
    · refine wpOp_of_list rfl ?_
      go_wp2
      refine ⟨fun _ => trivial, ?_⟩
      refine wpAnyT_all (rs := [6, 8]) (by kernel_rfl) (by decide) ?_
      intro i hi
      have hi2 : i = 6 ∨ i = 8 := by simpa using hi
      clear hi
      rcases hi2 with rfl | rfl
      · refine wpOp_of_list rfl ?_
        go_wp2
        refine ⟨fun _ => trivial, ?_⟩
        refine wpAnyT_pure 7 ?z7_0 rfl (by kernel_rfl) (by kernel_rfl) (by kernel_rfl) (by kernel_rfl) (fun _ _ _ h => h) trivial rfl ?rz7_0 ?sz7_0
        case rz7_0 => intro w hS; go_simp; rfl
        case sz7_0 =>
        refine wpAnyT_all (rs := [8]) (by kernel_rfl) (by decide) ?_
        intro i hi
        obtain rfl : i = 8 := by simpa using hi
        clear hi
        refine wpOp_of_list rfl ?_
        go_wp2
        refine ⟨fun _ => trivial, ?_⟩
        refine wpAnyT_pure 9 ?z9_1 rfl (by kernel_rfl) (by kernel_rfl) (by kernel_rfl) (by kernel_rfl) (fun _ _ _ h => h) trivial rfl ?rz9_1 ?sz9_1
        case rz9_1 => intro w hS; go_simp; rfl
        case sz9_1 =>
        obtain ⟨q1, q2, q3, q4, q5⟩ := new3 (w3.drewN 1) (.cells (rz m) IT) (.cells (rz m) IT) (.map #[] 0)
        have FR := Lib.hid (Fresh.mk3 (z := w3.heap.size) (m := m) (nv := .slice la m lc) (w := w3.drewN 1) q1 q2 q3 (by show w3.heap.size ≤ w3.heap.size ∧ w3.heap.size ≤ (w3.heap.size + 1) ∧ w3.heap.size ≤ (w3.heap.size + 1 + 1); omega) (by show w3.heap.size ≠ (w3.heap.size + 1); omega) q5 q4)
        clear q1 q2 q3 q4 q5
        refine wpAnyT_all (rs := [10]) (by kernel_rfl) (by decide) ?_
        intro i hi
        obtain rfl : i = 10 := by simpa using hi
        clear hi
        refine wpOp_of_list rfl ?_
        go_wp2
        refine ⟨fun _ => trivial, ?_⟩
        refine wpAnyT_all (rs := [11]) (by kernel_rfl) (by decide) ?_
        intro i hi
        obtain rfl : i = 11 := by simpa using hi
        clear hi
        refine wpOp_of_list rfl ?_
        go_wp2
        refine ⟨fun h => absurd rfl h, ?_⟩
        refine wpAnyT_done (by kernel_rfl) ?_ _
        go_wp2
        go_meet
        case rel => exact ⟨_, w3.heap.size, (w3.heap.size + 1), (w3.heap.size + 1 + 1), rfl, ⟨FR.out.bl, FR.out.sl, FR.out.pl, FR.out.ml, FR.out.zs, FR.out.ne, ⟨FR.out.below.os, FR.out.below.tape, FR.out.below.output, FR.out.below.size, FR.out.below.block⟩⟩⟩
      · refine wpOp_of_list rfl ?_
        go_wp2
        refine ⟨fun _ => trivial, ?_⟩
        refine wpAnyT_all (rs := [6]) (by kernel_rfl) (by decide) ?_
        intro i hi
        obtain rfl : i = 6 := by simpa using hi
        clear hi
        refine wpOp_of_list rfl ?_
        go_wp2
        refine ⟨fun _ => trivial, ?_⟩
        refine wpAnyT_pure 7 ?z7_2 rfl (by kernel_rfl) (by kernel_rfl) (by kernel_rfl) (by kernel_rfl) (fun _ _ _ h => h) trivial rfl ?rz7_2 ?sz7_2
        case rz7_2 => intro w hS; go_simp; rfl
        case sz7_2 =>
        refine wpAnyT_pure 9 ?z9_3 rfl (by kernel_rfl) (by kernel_rfl) (by kernel_rfl) (by kernel_rfl) (fun _ _ _ h => h) trivial rfl ?rz9_3 ?sz9_3
        case rz9_3 => intro w hS; go_simp; rfl
        case sz9_3 =>
        obtain ⟨q1, q2, q3, q4, q5⟩ := new3 (w3.drewN 1) (.cells (rz m) IT) (.map #[] 0) (.cells (rz m) IT)
        have FR := Lib.hid (Fresh.mk3 (z := w3.heap.size) (m := m) (nv := .slice la m lc) (w := w3.drewN 1) q1 q3 q2 (by show w3.heap.size ≤ w3.heap.size ∧ w3.heap.size ≤ (w3.heap.size + 1 + 1) ∧ w3.heap.size ≤ (w3.heap.size + 1); omega) (by show w3.heap.size ≠ (w3.heap.size + 1 + 1); omega) q5 q4)
        clear q1 q2 q3 q4 q5
        refine wpAnyT_all (rs := [10]) (by kernel_rfl) (by decide) ?_
        intro i hi
        obtain rfl : i = 10 := by simpa using hi
        clear hi
        refine wpOp_of_list rfl ?_
        go_wp2
        refine ⟨fun _ => trivial, ?_⟩
        refine wpAnyT_all (rs := [11]) (by kernel_rfl) (by decide) ?_
        intro i hi
        obtain rfl : i = 11 := by simpa using hi
        clear hi
        refine wpOp_of_list rfl ?_
        go_wp2
        refine ⟨fun h => absurd rfl h, ?_⟩
        refine wpAnyT_done (by kernel_rfl) ?_ _
        go_wp2
        go_meet
        case rel => exact ⟨_, w3.heap.size, (w3.heap.size + 1 + 1), (w3.heap.size + 1), rfl, ⟨FR.out.bl, FR.out.sl, FR.out.pl, FR.out.ml, FR.out.zs, FR.out.ne, ⟨FR.out.below.os, FR.out.below.tape, FR.out.below.output, FR.out.below.size, FR.out.below.block⟩⟩⟩
    · refine wpOp_of_list rfl ?_
      go_wp2
      refine ⟨fun _ => trivial, ?_⟩
      refine wpAnyT_all (rs := [3, 8]) (by kernel_rfl) (by decide) ?_
      intro i hi
      have hi2 : i = 3 ∨ i = 8 := by simpa using hi
      clear hi
      rcases hi2 with rfl | rfl
      · refine wpOp_of_list rfl ?_
        go_wp2
        refine ⟨fun _ => trivial, ?_⟩
        refine wpAnyT_pure 7 ?z7_4 rfl (by kernel_rfl) (by kernel_rfl) (by kernel_rfl) (by kernel_rfl) (fun _ _ _ h => h) trivial rfl ?rz7_4 ?sz7_4
        case rz7_4 => intro w hS; go_simp; rfl
        case sz7_4 =>
        refine wpAnyT_all (rs := [8]) (by kernel_rfl) (by decide) ?_
        intro i hi
        obtain rfl : i = 8 := by simpa using hi
        clear hi
        refine wpOp_of_list rfl ?_
        go_wp2
        refine ⟨fun _ => trivial, ?_⟩
        refine wpAnyT_pure 9 ?z9_5 rfl (by kernel_rfl) (by kernel_rfl) (by kernel_rfl) (by kernel_rfl) (fun _ _ _ h => h) trivial rfl ?rz9_5 ?sz9_5
        case rz9_5 => intro w hS; go_simp; rfl
        case sz9_5 =>
        obtain ⟨q1, q2, q3, q4, q5⟩ := new3 (w3.drewN 1) (.cells (rz m) IT) (.cells (rz m) IT) (.map #[] 0)
        have FR := Lib.hid (Fresh.mk3 (z := w3.heap.size) (m := m) (nv := .slice la m lc) (w := w3.drewN 1) q2 q1 q3 (by show w3.heap.size ≤ (w3.heap.size + 1) ∧ w3.heap.size ≤ w3.heap.size ∧ w3.heap.size ≤ (w3.heap.size + 1 + 1); omega) (by show (w3.heap.size + 1) ≠ w3.heap.size; omega) q5 q4)
        clear q1 q2 q3 q4 q5
        refine wpAnyT_all (rs := [10]) (by kernel_rfl) (by decide) ?_
        intro i hi
        obtain rfl : i = 10 := by simpa using hi
        clear hi
        refine wpOp_of_list rfl ?_
        go_wp2
        refine ⟨fun _ => trivial, ?_⟩
        refine wpAnyT_all (rs := [11]) (by kernel_rfl) (by decide) ?_
        intro i hi
        obtain rfl : i = 11 := by simpa using hi
        clear hi
        refine wpOp_of_list rfl ?_
        go_wp2
        refine ⟨fun h => absurd rfl h, ?_⟩
        refine wpAnyT_done (by kernel_rfl) ?_ _
        go_wp2
        go_meet
        case rel => exact ⟨_, (w3.heap.size + 1), w3.heap.size, (w3.heap.size + 1 + 1), rfl, ⟨FR.out.bl, FR.out.sl, FR.out.pl, FR.out.ml, FR.out.zs, FR.out.ne, ⟨FR.out.below.os, FR.out.below.tape, FR.out.below.output, FR.out.below.size, FR.out.below.block⟩⟩⟩
      · refine wpOp_of_list rfl ?_
        go_wp2
        refine ⟨fun _ => trivial, ?_⟩
        refine wpAnyT_all (rs := [3]) (by kernel_rfl) (by decide) ?_
        intro i hi
        obtain rfl : i = 3 := by simpa using hi
        clear hi
        refine wpOp_of_list rfl ?_
        go_wp2
        refine ⟨fun _ => trivial, ?_⟩
        refine wpAnyT_pure 7 ?z7_6 rfl (by kernel_rfl) (by kernel_rfl) (by kernel_rfl) (by kernel_rfl) (fun _ _ _ h => h) trivial rfl ?rz7_6 ?sz7_6
        case rz7_6 => intro w hS; go_simp; rfl
        case sz7_6 =>
        refine wpAnyT_pure 9 ?z9_7 rfl (by kernel_rfl) (by kernel_rfl) (by kernel_rfl) (by kernel_rfl) (fun _ _ _ h => h) trivial rfl ?rz9_7 ?sz9_7
        case rz9_7 => intro w hS; go_simp; rfl
        case sz9_7 =>
        obtain ⟨q1, q2, q3, q4, q5⟩ := new3 (w3.drewN 1) (.cells (rz m) IT) (.map #[] 0) (.cells (rz m) IT)
        have FR := Lib.hid (Fresh.mk3 (z := w3.heap.size) (m := m) (nv := .slice la m lc) (w := w3.drewN 1) q3 q1 q2 (by show w3.heap.size ≤ (w3.heap.size + 1 + 1) ∧ w3.heap.size ≤ w3.heap.size ∧ w3.heap.size ≤ (w3.heap.size + 1); omega) (by show (w3.heap.size + 1 + 1) ≠ w3.heap.size; omega) q5 q4)
        clear q1 q2 q3 q4 q5
        refine wpAnyT_all (rs := [10]) (by kernel_rfl) (by decide) ?_
        intro i hi
        obtain rfl : i = 10 := by simpa using hi
        clear hi
        refine wpOp_of_list rfl ?_
        go_wp2
        refine ⟨fun _ => trivial, ?_⟩
        refine wpAnyT_all (rs := [11]) (by kernel_rfl) (by decide) ?_
        intro i hi
        obtain rfl : i = 11 := by simpa using hi
        clear hi
        refine wpOp_of_list rfl ?_
        go_wp2
        refine ⟨fun h => absurd rfl h, ?_⟩
        refine wpAnyT_done (by kernel_rfl) ?_ _
        go_wp2
        go_meet
        case rel => exact ⟨_, (w3.heap.size + 1 + 1), w3.heap.size, (w3.heap.size + 1), rfl, ⟨FR.out.bl, FR.out.sl, FR.out.pl, FR.out.ml, FR.out.zs, FR.out.ne, ⟨FR.out.below.os, FR.out.below.tape, FR.out.below.output, FR.out.below.size, FR.out.below.block⟩⟩⟩
    · refine wpOp_of_list rfl ?_
      go_wp2
      refine ⟨fun _ => trivial, ?_⟩
      refine wpAnyT_all (rs := [3, 6]) (by kernel_rfl) (by decide) ?_
      intro i hi
      have hi2 : i = 3 ∨ i = 6 := by simpa using hi
      clear hi
      rcases hi2 with rfl | rfl
      · refine wpOp_of_list rfl ?_
        go_wp2
        refine ⟨fun _ => trivial, ?_⟩
        refine wpAnyT_all (rs := [6]) (by kernel_rfl) (by decide) ?_
        intro i hi
        obtain rfl : i = 6 := by simpa using hi
        clear hi
        refine wpOp_of_list rfl ?_
        go_wp2
        refine ⟨fun _ => trivial, ?_⟩
        refine wpAnyT_pure 7 ?z7_8 rfl (by kernel_rfl) (by kernel_rfl) (by kernel_rfl) (by kernel_rfl) (fun _ _ _ h => h) trivial rfl ?rz7_8 ?sz7_8
        case rz7_8 => intro w hS; go_simp; rfl
        case sz7_8 =>
        refine wpAnyT_pure 9 ?z9_9 rfl (by kernel_rfl) (by kernel_rfl) (by kernel_rfl) (by kernel_rfl) (fun _ _ _ h => h) trivial rfl ?rz9_9 ?sz9_9
        case rz9_9 => intro w hS; go_simp; rfl
        case sz9_9 =>
        obtain ⟨q1, q2, q3, q4, q5⟩ := new3 (w3.drewN 1) (.map #[] 0) (.cells (rz m) IT) (.cells (rz m) IT)
        have FR := Lib.hid (Fresh.mk3 (z := w3.heap.size) (m := m) (nv := .slice la m lc) (w := w3.drewN 1) q2 q3 q1 (by show w3.heap.size ≤ (w3.heap.size + 1) ∧ w3.heap.size ≤ (w3.heap.size + 1 + 1) ∧ w3.heap.size ≤ w3.heap.size; omega) (by show (w3.heap.size + 1) ≠ (w3.heap.size + 1 + 1); omega) q5 q4)
        clear q1 q2 q3 q4 q5
        refine wpAnyT_all (rs := [10]) (by kernel_rfl) (by decide) ?_
        intro i hi
        obtain rfl : i = 10 := by simpa using hi
        clear hi
        refine wpOp_of_list rfl ?_
        go_wp2
        refine ⟨fun _ => trivial, ?_⟩
        refine wpAnyT_all (rs := [11]) (by kernel_rfl) (by decide) ?_
        intro i hi
        obtain rfl : i = 11 := by simpa using hi
        clear hi
        refine wpOp_of_list rfl ?_
        go_wp2
        refine ⟨fun h => absurd rfl h, ?_⟩
        refine wpAnyT_done (by kernel_rfl) ?_ _
        go_wp2
        go_meet
        case rel => exact ⟨_, (w3.heap.size + 1), (w3.heap.size + 1 + 1), w3.heap.size, rfl, ⟨FR.out.bl, FR.out.sl, FR.out.pl, FR.out.ml, FR.out.zs, FR.out.ne, ⟨FR.out.below.os, FR.out.below.tape, FR.out.below.output, FR.out.below.size, FR.out.below.block⟩⟩⟩
      · refine wpOp_of_list rfl ?_
        go_wp2
        refine ⟨fun _ => trivial, ?_⟩
        refine wpAnyT_all (rs := [3]) (by kernel_rfl) (by decide) ?_
        intro i hi
        obtain rfl : i = 3 := by simpa using hi
        clear hi
        refine wpOp_of_list rfl ?_
        go_wp2
        refine ⟨fun _ => trivial, ?_⟩
        refine wpAnyT_pure 7 ?z7_10 rfl (by kernel_rfl) (by kernel_rfl) (by kernel_rfl) (by kernel_rfl) (fun _ _ _ h => h) trivial rfl ?rz7_10 ?sz7_10
        case rz7_10 => intro w hS; go_simp; rfl
        case sz7_10 =>
        refine wpAnyT_pure 9 ?z9_11 rfl (by kernel_rfl) (by kernel_rfl) (by kernel_rfl) (by kernel_rfl) (fun _ _ _ h => h) trivial rfl ?rz9_11 ?sz9_11
        case rz9_11 => intro w hS; go_simp; rfl
        case sz9_11 =>
        obtain ⟨q1, q2, q3, q4, q5⟩ := new3 (w3.drewN 1) (.map #[] 0) (.cells (rz m) IT) (.cells (rz m) IT)
        have FR := Lib.hid (Fresh.mk3 (z := w3.heap.size) (m := m) (nv := .slice la m lc) (w := w3.drewN 1) q3 q2 q1 (by show w3.heap.size ≤ (w3.heap.size + 1 + 1) ∧ w3.heap.size ≤ (w3.heap.size + 1) ∧ w3.heap.size ≤ w3.heap.size; omega) (by show (w3.heap.size + 1 + 1) ≠ (w3.heap.size + 1); omega) q5 q4)
        clear q1 q2 q3 q4 q5
        refine wpAnyT_all (rs := [10]) (by kernel_rfl) (by decide) ?_
        intro i hi
        obtain rfl : i = 10 := by simpa using hi
        clear hi
        refine wpOp_of_list rfl ?_
        go_wp2
        refine ⟨fun _ => trivial, ?_⟩
        refine wpAnyT_all (rs := [11]) (by kernel_rfl) (by decide) ?_
        intro i hi
        obtain rfl : i = 11 := by simpa using hi
        clear hi
        refine wpOp_of_list rfl ?_
        go_wp2
        refine ⟨fun h => absurd rfl h, ?_⟩
        refine wpAnyT_done (by kernel_rfl) ?_ _
        go_wp2
        go_meet
        case rel => exact ⟨_, (w3.heap.size + 1 + 1), (w3.heap.size + 1), w3.heap.size, rfl, ⟨FR.out.bl, FR.out.sl, FR.out.pl, FR.out.ml, FR.out.zs, FR.out.ne, ⟨FR.out.below.os, FR.out.below.tape, FR.out.below.output, FR.out.below.size, FR.out.below.block⟩⟩⟩
  case rest =>
    clear hmk hmm
    obtain ⟨bt, sb, pb, mb, rfl, HFR⟩ := hcut
    obtain ⟨q3, hq3⟩ : ∃ q, w3.heap.size = q := ⟨_, rfl⟩
    have HQ3 := Lib.hid hq3
    rw [hq3] at HFR zw3
    have hbq : Base.b ≤ q3 := by omega
    have HP3w := Lib.hid (lies_below HP3.out (hq3 ▸ HFR.out.below) (lt_heap HP3.out))
    have hzq : z + 1 < q3 := by have := lt_heap HR3.out; omega
    obtain ⟨nca, ncc, hnce, -, -, -, hncell⟩ := HNA.out.cell
    obtain rfl : la = nca := by injection hnce
    have HCE := Lib.hid hncell
    clear hq3 hncell hnce
    go_wp2
    go_loopw [37] (fun y wr => ∃ k : Nat, k ≤ m ∧ y = .int .i64 k ∧ Hid (NumM wr mb k (N.take k)) ∧ Hid (ButB mb wc wr)) (fun y _ => m - (intOf y).toNat)
    case atStart => exact ⟨0, Nat.zero_le _, rfl, by unfold Hid; simpa using HFR.out.ml, ButB.refl _ _⟩
    case round =>
      obtain ⟨k, hk, rfl, HMk, HBk⟩ := hrel
      have HB3k := Lib.hid (show Below q3 w3 wr from ⟨HBk.out.os.trans HFR.out.below.os, HBk.out.tape.trans HFR.out.below.tape, HBk.out.output.trans HFR.out.below.output, Nat.le_trans HFR.out.below.size HBk.out.size, fun x hx => (HBk.out.block x (by have := HFR.out.below.size; have := HQ3.out; omega) (by have := HFR.out.zs; omega)).trans (HFR.out.below.block x hx)⟩)
      obtain ⟨es0, c00, hmm0⟩ := HFR.out.ml.isMap
      have hbtm : bt ≠ mb := by rintro rfl; rw [HFR.out.bl] at hmm0; cases hmm0
      have hsbm : sb ≠ mb := by rintro rfl; rw [HFR.out.sl] at hmm0; cases hmm0
      have hpbm : pb ≠ mb := by rintro rfl; rw [HFR.out.pl] at hmm0; cases hmm0
      have HBTk := Lib.hid ((HBk.out.block bt (lt_heap HFR.out.bl) hbtm).trans HFR.out.bl)
      have HSBk := Lib.hid ((HBk.out.block sb (lt_heap HFR.out.sl) hsbm).trans HFR.out.sl)
      have HPBk := Lib.hid ((HBk.out.block pb (lt_heap HFR.out.pl) hpbm).trans HFR.out.pl)
      clear hmm0
      by_cases hlt : k < m
      · obtain ⟨y, hy⟩ : ∃ y, N[k]? = some y := ⟨_, List.getElem?_eq_getElem (by rw [HM.out]; exact hlt)⟩
        obtain ⟨b4, o4, rfl, hb4, c0, c1, c2, c3⟩ := HCE.out k y hy
        have hb4 : b4 < q3 := by have := HQ3.out; omega
        have c0 := (HB3k.out.cell (p := ⟨b4, o4 + k * 4, none⟩) hb4).trans c0
        have c1 := (HB3k.out.cell (p := ⟨b4, o4 + k * 4 + 1, none⟩) hb4).trans c1
        have c2 := (HB3k.out.cell (p := ⟨b4, o4 + k * 4 + 2, none⟩) hb4).trans c2
        have c3 := (HB3k.out.cell (p := ⟨b4, o4 + k * 4 + 3, none⟩) hb4).trans c3
        have hfy : fitN y := nodes_fit hck0.out (by rw [HNN.out]; exact List.mem_of_getElem? hy)
        have HSN := Lib.hid (fun q => numN_snoc hy (by rw [← HNN.out]; exact nodup_nodes p 0) q)
        obtain ⟨y1, y2, y3, y4⟩ := y
        simp only at c0 c1 c2 c3
        obtain ⟨U, hU⟩ : ∃ U, wr.alloc (.cells #[iv y1, iv y2, iv y3, iv y4] NT) = U := ⟨_, rfl⟩
        have BU := (Below.refl wr.heap.size wr).alloc (Nat.le_refl _) (.cells #[iv y1, iv y2, iv y3, iv y4] NT)
        rw [hU] at BU
        have HX := Lib.hid (show U.heap[wr.heap.size]? = some (.cells #[iv y1, iv y2, iv y3, iv y4] NT (0, 0)) by rw [← hU]; exact heap_alloc_new _ _)
        have HBT := Lib.hid (lies_below HBTk.out BU (lt_heap HBTk.out))
        have HBU := Lib.hid (HBk.out.below BU)
        obtain ⟨th, hth⟩ := HMk.out.below BU
        have HUU := Lib.hid hU
        obtain ⟨w5, hrun, hM5, hg5⟩ := (hth.block (w' := U.drew) rfl).store und_mni (by unfold maxLen; omega) (k := (⟨y1, y2, y3, y4⟩ : PNode)) hfy (k : Int)
        have HM5 := Lib.hid (show NumM w5 mb (k + 1) (N.take (k + 1)) from ⟨_, hM5.congr (fun q => (HSN.out q).symm) (fun _ => rfl)⟩)
        have HB5 := Lib.hid (show ButB mb wc w5 from HBU.out.trans ⟨hg5.os, hg5.tape, hg5.output, hg5.size, fun x hx hne => hg5.block x hx (by intro e; injection e with e; exact hne e)⟩)
        have hrun5 : (Instr.mapUpdate 112 (.map (some mb)) (.agg #[iv y1, iv y2, iv y3, iv y4]) (.int .i64 (k : Int))).run Tryz.prog U.drew = .ok () w5 := hrun
        obtain ⟨xb, hxb⟩ : ∃ b, wr.heap.size = b := ⟨_, rfl⟩
        rw [hxb] at HX
        clear hy hU BU hth hrun hM5 hg5 hfy HSN
        go_upto_region 9 with (fail)
        rw [show wr.alloc (.cells #[iv y1, iv y2, iv y3, iv y4] NT) = U from HUU.out]
        try rw [hxb]
        clear hxb c0 c1 c2 c3
        obtain ⟨d0, d1, d2, d3⟩ := cells4s HX.out
        obtain ⟨x0, x1, x2, x3⟩ := cells4s HBT.out
        go_region
        clear hrun5
        go_wp2
        go_roundw
        case rel => exact ⟨k + 1, by omega, by go_num, HM5, HB5⟩
        case measure => simp [intOf]; omega
      · have HBL := Lib.hid (show BldE q3 bt sb pb mb (.slice la m lc) N [] wr by
          refine ⟨_, _, ⟨HFR.out.zs, by rw [HM.out]; exact HBTk.out, ?_, HFR.out.ne, List.replicate m (.slice none 0 0), List.replicate m (.slice none 0 0), HSBk.out, HPBk.out, by rw [HM.out]; simp, by rw [HM.out]; simp, by simp, ?_⟩, GrE.nil N.length⟩
          · have h9 := HMk.out
            rw [List.take_of_length_le (by rw [HM.out]; omega), show k = N.length by rw [HM.out]; omega] at h9
            exact h9
          · exact rowsD_nil q3 wr (by rw [HM.out]))
        have HK0 := Lib.hid HB3k.out
        clear HBTk HSBk HPBk HMk HBk HB3k
        obtain ⟨wd, rfl⟩ : ∃ x : World, x = wr := ⟨_, rfl⟩
        have zwd : q3 ≤ wd.heap.size := by have := HK0.out.size; have := HQ3.out; omega
        go_wp2
        clear hlt
        go_loopw [51] (fun y wr => ∃ k : Nat, k ≤ m ∧ y = .int .i64 k ∧ Hid (BldE q3 bt sb pb mb (.slice la m lc) N ((edgesL p (N.take k)).map (numE N)) wr) ∧ Hid (KeepE q3 wd wr)) (fun y _ => m - (intOf y).toNat)
        case atStart => exact ⟨0, Nat.zero_le _, rfl, by unfold Hid; simpa [edgesL] using HBL.out, KeepE.refl _ _ zwd⟩
        case round =>
          obtain ⟨j, hj, rfl, HBj, HKj⟩ := hrel
          have HB3j := Lib.hid (HK0.out.trans HKj.out.below)
          have zwx : q3 ≤ wr.heap.size := by have := HB3j.out.size; have := HQ3.out; omega
          by_cases hlt : j < m
          · obtain ⟨y, hy⟩ : ∃ y, N[j]? = some y := ⟨_, List.getElem?_eq_getElem (by rw [HM.out]; exact hlt)⟩
            obtain ⟨b4, o4, rfl, hb4, c0, c1, c2, c3⟩ := HCE.out j y hy
            have hb4 : b4 < q3 := by have := HQ3.out; omega
            have c0 := (HB3j.out.cell (p := ⟨b4, o4 + j * 4, none⟩) hb4).trans c0
            have c1 := (HB3j.out.cell (p := ⟨b4, o4 + j * 4 + 1, none⟩) hb4).trans c1
            have c2 := (HB3j.out.cell (p := ⟨b4, o4 + j * 4 + 2, none⟩) hb4).trans c2
            have c3 := (HB3j.out.cell (p := ⟨b4, o4 + j * 4 + 3, none⟩) hb4).trans c3
            have HSN := Lib.hid (show (edgesL p (N.take (j + 1))).map (numE N) = (edgesL p (N.take j)).map (numE N) ++ (edgesAt p y).map (numE N) by
              rw [List.take_add_one, hy]
              show (edgesL p (N.take j ++ [y])).map (numE N) = _
              rw [edgesL_app, List.map_append, edgesL_cons]
              simp [edgesL])
            have HYM := Lib.hid (show y ∈ funcsN p 0 by rw [HNN.out]; exact List.mem_of_getElem? hy)
            have HFY := Lib.hid (nodes_fit hck0.out HYM.out)
            obtain ⟨y1, y2, y3, y4⟩ := y
            simp only at c0 c1 c2 c3
            obtain ⟨U, hU⟩ : ∃ U, wr.alloc (.cells #[iv y1, iv y2, iv y3, iv y4] NT) = U := ⟨_, rfl⟩
            have BU := (Below.refl wr.heap.size wr).alloc (Nat.le_refl _) (.cells #[iv y1, iv y2, iv y3, iv y4] NT)
            rw [hU] at BU
            have HX := Lib.hid (show U.heap[wr.heap.size]? = some (.cells #[iv y1, iv y2, iv y3, iv y4] NT (0, 0)) by rw [← hU]; exact heap_alloc_new _ _)
            have HBU := Lib.hid (HBj.out.below BU)
            have HKU := Lib.hid (HKj.out.trans (KeepE.of BU zwx))
            have HUU := Lib.hid hU
            have HB3U := Lib.hid (HK0.out.trans HKU.out.below)
            have zU : q3 ≤ U.heap.size := Nat.le_trans zwx BU.size
            obtain ⟨xb, hxb⟩ : ∃ b, wr.heap.size = b := ⟨_, rfl⟩
            rw [hxb] at HX
            clear hy hU BU
            go_upto_region 14 with (fail)
            rw [show wr.alloc (.cells #[iv y1, iv y2, iv y3, iv y4] NT) = U from HUU.out]
            try rw [hxb]
            clear hxb c0 c1 c2 c3
            obtain ⟨d0, d1, d2, d3⟩ := cells4s HX.out
            by_cases k1 : y1 = 1
            · subst k1
              obtain ⟨x, hx⟩ : ∃ x : Nat, numT N ⟨3, y2, 0, 0⟩ = x := ⟨_, rfl⟩
              obtain ⟨hh, hhh⟩ : ∃ x : Nat, numT N ⟨1, y2, y3, y4⟩ = x := ⟨_, rfl⟩
              have HEE := Lib.hid (show edgesAt p ⟨1, y2, y3, y4⟩ = [(⟨1, y2, y3, y4⟩, ⟨3, y2, 0, 0⟩)] from rfl)
              have hen := edge_nodes (check_ckd hck0.out) HYM.out (x := ⟨1, y2, y3, y4⟩) (y := ⟨3, y2, 0, 0⟩) (by rw [HEE.out]; simp)
              rw [HNN.out] at hen
              have hxl : x < N.length := hx ▸ (numT_lt hen.2).1
              have hhl : hh < N.length := hhh ▸ (numT_lt hen.1).1
              have HEL := Lib.hid (show (edgesAt p ⟨1, y2, y3, y4⟩).map (numE N) = [(hh, x)] by rw [HEE.out]; simp [numE, hx, hhh])
              have HBD := Lib.hid (show BldE q3 bt sb pb mb _ N _ (U.drewN 1) from by
                obtain ⟨S, P, h1, h2⟩ := HBU.out
                exact ⟨S, P, h1.keep fun _ _ => rfl, h2⟩)
              have hlkU : (Instr.lookup 112 (.map (some mb)) (.agg #[iv 1, iv y2, iv y3, iv y4]) false).run Tryz.prog (U.drewN 1) = .ok (.int .i64 (hh : Int)) (U.drewN 1) := by
                obtain ⟨S, P, h1, -⟩ := HBD.out
                have := h1.mp.look (x := ⟨1, y2, y3, y4⟩) HFY.out
                rw [numN_nat, hhh] at this
                exact this
              have x3 : U.cell? ⟨bt, 3, none⟩ = some (.map (some mb)) := by
                obtain ⟨S, P, h1, -⟩ := HBU.out
                exact (cells4s h1.bl).2.2.2
              have KA := Lib.hid (at_any HBD.out 3 y2 0 0 ⟨by unfold fitI; dsimp only; omega, HFY.out.2.1, by unfold fitI; dsimp only; omega, by unfold fitI; dsimp only; omega⟩)
              rw [show numN N ⟨3, y2, 0, 0⟩ = (x : Int) by rw [numN_nat, hx]] at KA
              have KE := Lib.hid (edge_any hbq (by rw [HM.out]; exact hle) HBD.out hh x hhl hxl)
              have KD := Lib.hid (show KeepE q3 U (U.drewN 1) from ⟨below_drewQ ((Below.refl _ _).mono zU) 1, fun _ _ _ => SameT.drewN⟩)
              clear hx hhh hen
              go_upto_region 16 with (fail)
              refine wp_region_D (S := fun w' => w'.cell? ⟨bt, 3, none⟩ = some (.map (some mb)) ∧ w'.cell? ⟨xb, 0, none⟩ = some (iv 1) ∧ w'.cell? ⟨xb, 1, none⟩ = some (iv y2) ∧ w'.cell? ⟨xb, 2, none⟩ = some (iv y3) ∧ w'.cell? ⟨xb, 3, none⟩ = some (iv y4) ∧ (Instr.lookup 112 (.map (some mb)) (.agg #[iv 1, iv y2, iv y3, iv y4]) false).run Tryz.prog w' = .ok (.int .i64 (hh : Int)) w') (st := 11) (by kernel_rfl) ?_
              have hS0 : (fun w' : World => w'.cell? ⟨bt, 3, none⟩ = some (.map (some mb)) ∧ w'.cell? ⟨xb, 0, none⟩ = some (iv 1) ∧ w'.cell? ⟨xb, 1, none⟩ = some (iv y2) ∧ w'.cell? ⟨xb, 2, none⟩ = some (iv y3) ∧ w'.cell? ⟨xb, 3, none⟩ = some (iv y4) ∧ (Instr.lookup 112 (.map (some mb)) (.agg #[iv 1, iv y2, iv y3, iv y4]) false).run Tryz.prog w' = .ok (.int .i64 (hh : Int)) w') (U.drewN 1) := ⟨x3, d0, d1, d2, d3, hlkU⟩
              refine wpAnyT_pureD 0 (some 59) ?v1 rfl (by kernel_rfl) (by kernel_rfl) (by kernel_rfl) (by kernel_rfl) (fun _ _ _ h => h) hS0 (by kernel_rfl) rfl ?run1 ?rest1
              case run1 => intro w hS; obtain ⟨s0, s1, s2, s3, s4, s5⟩ := hS; go_simp; rfl
              refine wpAnyT_pureC 1 (some 60) [2, 3, 4, 6] ?v2 rfl (by kernel_rfl) (by kernel_rfl) (by kernel_rfl) (by kernel_rfl) (fun _ _ _ h => h) hS0 (by kernel_rfl) rfl ?run2 ?rest2
              case run2 => intro w hS; obtain ⟨s0, s1, s2, s3, s4, s5⟩ := hS; go_simp; rfl
              refine wpAnyT_pureC 2 (some 61) [3, 4, 6] ?v3 rfl (by kernel_rfl) (by kernel_rfl) (by kernel_rfl) (by kernel_rfl) (fun _ _ _ h => h) hS0 (by kernel_rfl) rfl ?run3 ?rest3
              case run3 => intro w hS; obtain ⟨s0, s1, s2, s3, s4, s5⟩ := hS; go_simp; rfl
              refine wpAnyT_pureC 3 (some 62) [4, 6] ?v4 rfl (by kernel_rfl) (by kernel_rfl) (by kernel_rfl) (by kernel_rfl) (fun _ _ _ h => h) hS0 (by kernel_rfl) rfl ?run4 ?rest4
              case run4 => intro w hS; obtain ⟨s0, s1, s2, s3, s4, s5⟩ := hS; go_simp; rfl
              refine wpAnyT_pureC 4 (some 63) [6] ?v5 rfl (by kernel_rfl) (by kernel_rfl) (by kernel_rfl) (by kernel_rfl) (fun _ _ _ h => h) hS0 (by kernel_rfl) rfl ?run5 ?rest5
              case run5 => intro w hS; obtain ⟨s0, s1, s2, s3, s4, s5⟩ := hS; go_simp; rfl
              refine wpAnyT_pureC 5 (some 64) [6] ?v6 rfl (by kernel_rfl) (by kernel_rfl) (by kernel_rfl) (by kernel_rfl) (fun _ _ _ h => h) hS0 (by kernel_rfl) rfl ?run6 ?rest6
              case run6 => intro w hS; obtain ⟨s0, s1, s2, s3, s4, s5⟩ := hS; go_simp; rfl
              refine wpAnyT_pureD 6 (some 65) ?v7 rfl (by kernel_rfl) (by kernel_rfl) (by kernel_rfl) (by kernel_rfl) (fun _ _ _ h => h) hS0 (by kernel_rfl) rfl ?run7 ?rest7
              case run7 => intro w hS; obtain ⟨s0, s1, s2, s3, s4, s5⟩ := hS; go_simp; rfl
              refine wpAnyT_pureC 7 (some 66) [10] ?v8 rfl (by kernel_rfl) (by kernel_rfl) (by kernel_rfl) (by kernel_rfl) (fun _ _ _ h => h) hS0 (by kernel_rfl) rfl ?run8 ?rest8
              case run8 => intro w hS; obtain ⟨s0, s1, s2, s3, s4, s5⟩ := hS; go_simp; rfl
              refine wpAnyT_pureC 8 (some 67) [9, 10] ?v9 rfl (by kernel_rfl) (by kernel_rfl) (by kernel_rfl) (by kernel_rfl) (fun _ _ _ h => h) hS0 (by kernel_rfl) rfl ?run9 ?rest9
              case run9 => intro w hS; obtain ⟨s0, s1, s2, s3, s4, s5⟩ := hS; go_simp; rfl
              refine wpAnyT_pureC 9 (some 68) [10] ?v10 rfl (by kernel_rfl) (by kernel_rfl) (by kernel_rfl) (by kernel_rfl) (fun _ _ _ h => h) hS0 (by kernel_rfl) rfl ?run10 ?rest10
              case run10 => intro w hS; obtain ⟨s0, s1, s2, s3, s4, s5⟩ := hS; go_simp; rfl
              refine wpAnyT_call 10 (some 69) 50 #[.pointer (some ⟨bt, 0, none⟩), iv 3, iv y2, iv 0, iv 0] rfl (by kernel_rfl) (by kernel_rfl) (by kernel_rfl) rfl ?_
              refine (KA.out).mono ?_
              rintro e z1 ⟨rfl, rfl⟩
              refine ⟨_, rfl, fun _ => hS0, ?_⟩
              refine wpAnyT_call 11 (some 70) 49 #[.pointer (some ⟨bt, 0, none⟩), iv hh, iv x] rfl (by kernel_rfl) (by kernel_rfl) (by kernel_rfl) rfl ?_
              refine (KE.out).mono ?_
              rintro e z1 ⟨rfl, hbE, kE⟩
              refine ⟨_, rfl, fun h => absurd rfl h, ?_⟩
              refine wpAnyT_done (by kernel_rfl) ?_ _
              generalize hA : Act.put _ _ _ = A0
              simp only [put_mk, put_no, List.setIfInBounds_toArray, List.set_cons_succ, List.set_cons_zero] at hA
              subst hA
              have HB7 := Lib.hid (show BldE q3 bt sb pb mb _ N ((edgesL p (N.take (j + 1))).map (numE N)) z1 by rw [HSN.out, HEL.out]; exact hbE)
              have HK7 := Lib.hid (HKU.out.trans (KD.out.trans kE))
              clear hbE kE hS0 hlkU x3 d0 d1 d2 d3 KA KE
              go_wp2
              go_roundw
              case rel => exact ⟨j + 1, by omega, by go_num, HB7, HK7⟩
              case measure => simp [intOf]; omega
            · have t1 : (y1 == 1) = false := by simpa using k1
              by_cases k3 : y1 = 3
              · subst k3
                obtain ⟨i, k', j', f, b, st, e2, e3, e4, hf, hb, hs, -⟩ := node_places (show (⟨3, y2, y3, y4⟩ : PNode) ∈ nodesP p by rw [HNP.out]; exact HYM.out) (by simp [insN])
                simp only at e2 e3 e4
                subst e2 e3 e4
                obtain ⟨fb, fo, bv, rfl, hfb, -, g1, hbl⟩ := HC.out i f hf
                obtain ⟨ba, bc, rfl, -, hbc⟩ := hbl.cell
                obtain ⟨kb, ko, tv, rfl, hkb, -, k1', hsl⟩ := hbc k' b hb
                obtain ⟨sa, sc, rfl, -, hsc⟩ := hsl.cell
                obtain ⟨s4, s5, u, t, rfl, hs4, c0, c1, c2, c3, hu, ht⟩ := hsc j' st hs
                have lt1 : (i : Int) < (n : Int) := by have := (List.getElem?_eq_some_iff.1 hf).1; have := HL.out; omega
                obtain ⟨bn, hbn⟩ : ∃ n, f.blocks.length = n := ⟨_, rfl⟩
                obtain ⟨sn, hsn⟩ : ∃ n, b.stmts.length = n := ⟨_, rfl⟩
                have lt2 : (k' : Int) < (bn : Int) := by have := (List.getElem?_eq_some_iff.1 hb).1; omega
                have lt3 : (j' : Int) < (sn : Int) := by have := (List.getElem?_eq_some_iff.1 hs).1; omega
                rw [hbn] at g1
                rw [hsn] at k1'
                obtain ⟨ua, uc, rfl, -⟩ := hu.cell
                obtain ⟨ta, tc, rfl, -⟩ := ht.cell
                obtain ⟨un, hun⟩ : ∃ n, st.uses.length = n := ⟨_, rfl⟩
                obtain ⟨tn, htn⟩ : ∃ n, st.targets.length = n := ⟨_, rfl⟩
                rw [hun] at c2
                rw [htn] at c3 ht
                have HBD := Lib.hid (show BldE q3 bt sb pb mb _ N _ (U.drewN 1) from by
                  obtain ⟨S, P, h1, h2⟩ := HBU.out
                  exact ⟨S, P, h1.keep fun _ _ => rfl, h2⟩)
                have B3w := Lib.hid (HB3.out)
                have KS := Lib.hid (gstmt_any (w0 := w3) hbq HQ3.out (show Below q3 w3 (U.drewN 1) from below_drewQ HB3U.out 1) p _ (HPP.out.keep (SameT.below (HZ.out.symm ▸ HB3.out)) (SameT.below (HZ.out.symm ▸ HB3.out)) (SameT.below (HZ.out.symm ▸ HB3.out)) (SameT.below (HZ.out.symm ▸ HB3.out))) hck0.out (HNN.out.symm ▸ HBD.out) (At.mk hf hb hs) (.slice ua un uc) (.slice ta tn tc) ⟨_, _, _, rfl⟩ (ht.same (SameT.below (HZ.out.symm ▸ HB3.out))))
                rw [HNN.out] at KS
                have BZU := HB3.out.trans (HB3U.out.mono (by omega : z ≤ q3))
                rw [hz] at hfb hkb hs4
                have g1 := (BZU.cell (p := ⟨fb, fo + i * 2 + 1, none⟩) hfb).trans g1
                have k1' := (BZU.cell (p := ⟨kb, ko + k' * 2 + 1, none⟩) hkb).trans k1'
                have c0 := (BZU.cell (p := ⟨s4, s5 + j' * 4, none⟩) hs4).trans c0
                have c1 := (BZU.cell (p := ⟨s4, s5 + j' * 4 + 1, none⟩) hs4).trans c1
                have c2 := (BZU.cell (p := ⟨s4, s5 + j' * 4 + 2, none⟩) hs4).trans c2
                have c3 := (BZU.cell (p := ⟨s4, s5 + j' * 4 + 3, none⟩) hs4).trans c3
                have x0 : U.cell? ⟨z, 0, none⟩ = some (.slice (some ⟨fb, fo, none⟩) n c) := by
                  have := (HB3U.out.cell (p := ⟨z, 0, none⟩) (by show z < q3; omega)).trans ((blk_cells HP3.out).1 0)
                  simpa using this
                have KD := Lib.hid (show KeepE q3 U (U.drewN 1) from ⟨below_drewQ ((Below.refl _ _).mono zU) 1, fun _ _ _ => SameT.drewN⟩)
                obtain ⟨op, hop⟩ : ∃ o, st.op = o := ⟨_, rfl⟩
                obtain ⟨dn, hdn⟩ : ∃ o, st.dfn = o := ⟨_, rfl⟩
                rw [hop] at c0 KS
                rw [hdn] at c1 KS
                clear hf hb hs hbl hbc hsl hsc hu ht hbn hsn hun htn hop hdn hfb hkb hs4 BZU
                go_upto_region 18 with (fail)
                refine wp_region_D (S := fun w' => w'.cell? ⟨z, 0, none⟩ = some (.slice (some ⟨fb, fo, none⟩) n c) ∧ w'.cell? ⟨xb, 0, none⟩ = some (iv 3) ∧ w'.cell? ⟨xb, 1, none⟩ = some (iv i) ∧ w'.cell? ⟨xb, 2, none⟩ = some (iv k') ∧ w'.cell? ⟨xb, 3, none⟩ = some (iv j') ∧ w'.cell? ⟨fb, fo + i * 2 + 1, none⟩ = some (.slice (some ⟨kb, ko, none⟩) bn bc) ∧ w'.cell? ⟨kb, ko + k' * 2 + 1, none⟩ = some (.slice (some ⟨s4, s5, none⟩) sn sc) ∧ w'.cell? ⟨s4, s5 + j' * 4, none⟩ = some (iv op) ∧ w'.cell? ⟨s4, s5 + j' * 4 + 1, none⟩ = some (sv dn) ∧ w'.cell? ⟨s4, s5 + j' * 4 + 2, none⟩ = some (.slice ua un uc) ∧ w'.cell? ⟨s4, s5 + j' * 4 + 3, none⟩ = some (.slice ta tn tc)) (st := 19) (by kernel_rfl) ?_
                have hS0 : (fun w' : World => w'.cell? ⟨z, 0, none⟩ = some (.slice (some ⟨fb, fo, none⟩) n c) ∧ w'.cell? ⟨xb, 0, none⟩ = some (iv 3) ∧ w'.cell? ⟨xb, 1, none⟩ = some (iv i) ∧ w'.cell? ⟨xb, 2, none⟩ = some (iv k') ∧ w'.cell? ⟨xb, 3, none⟩ = some (iv j') ∧ w'.cell? ⟨fb, fo + i * 2 + 1, none⟩ = some (.slice (some ⟨kb, ko, none⟩) bn bc) ∧ w'.cell? ⟨kb, ko + k' * 2 + 1, none⟩ = some (.slice (some ⟨s4, s5, none⟩) sn sc) ∧ w'.cell? ⟨s4, s5 + j' * 4, none⟩ = some (iv op) ∧ w'.cell? ⟨s4, s5 + j' * 4 + 1, none⟩ = some (sv dn) ∧ w'.cell? ⟨s4, s5 + j' * 4 + 2, none⟩ = some (.slice ua un uc) ∧ w'.cell? ⟨s4, s5 + j' * 4 + 3, none⟩ = some (.slice ta tn tc)) (U.drewN 1) := ⟨x0, d0, d1, d2, d3, g1, k1', c0, c1, c2, c3⟩
                refine wpAnyT_pureD 0 (some 73) ?v11 rfl (by kernel_rfl) (by kernel_rfl) (by kernel_rfl) (by kernel_rfl) (fun _ _ _ h => h) hS0 (by kernel_rfl) rfl ?run11 ?rest11
                case run11 => intro w hS; obtain ⟨s0, s1, s2, s3, s4', s5', s6, s7, s8, s9, s10⟩ := hS; go_simp; rfl
                refine wpAnyT_pureD 1 (some 74) ?v12 rfl (by kernel_rfl) (by kernel_rfl) (by kernel_rfl) (by kernel_rfl) (fun _ _ _ h => h) hS0 (by kernel_rfl) rfl ?run12 ?rest12
                case run12 => intro w hS; obtain ⟨s0, s1, s2, s3, s4', s5', s6, s7, s8, s9, s10⟩ := hS; go_simp; rfl
                refine wpAnyT_pureD 2 (some 75) ?v13 rfl (by kernel_rfl) (by kernel_rfl) (by kernel_rfl) (by kernel_rfl) (fun _ _ _ h => h) hS0 (by kernel_rfl) rfl ?run13 ?rest13
                case run13 => intro w hS; obtain ⟨s0, s1, s2, s3, s4', s5', s6, s7, s8, s9, s10⟩ := hS; go_simp; rfl
                refine wpAnyT_pureC 3 (some 76) [4, 7, 8, 9, 12, 13, 14, 17, 18] ?v14 rfl (by kernel_rfl) (by kernel_rfl) (by kernel_rfl) (by kernel_rfl) (fun _ _ _ h => h) hS0 (by kernel_rfl) rfl ?run14 ?rest14
                case run14 => intro w hS; obtain ⟨s0, s1, s2, s3, s4', s5', s6, s7, s8, s9, s10⟩ := hS; go_simp; rfl
                refine wpAnyT_pureC 4 (some 77) [7, 8, 9, 12, 13, 14, 17, 18] ?v15 rfl (by kernel_rfl) (by kernel_rfl) (by kernel_rfl) (by kernel_rfl) (fun _ _ _ h => h) hS0 (by kernel_rfl) rfl ?run15 ?rest15
                case run15 => intro w hS; obtain ⟨s0, s1, s2, s3, s4', s5', s6, s7, s8, s9, s10⟩ := hS; go_simp; rfl
                refine wpAnyT_pureC 5 (some 78) [6, 7, 8, 9, 12, 13, 14, 17, 18] ?v16 rfl (by kernel_rfl) (by kernel_rfl) (by kernel_rfl) (by kernel_rfl) (fun _ _ _ h => h) hS0 (by kernel_rfl) rfl ?run16 ?rest16
                case run16 => intro w hS; obtain ⟨s0, s1, s2, s3, s4', s5', s6, s7, s8, s9, s10⟩ := hS; go_simp; rfl
                refine wpAnyT_pureC 6 (some 79) [7, 8, 9, 12, 13, 14, 17, 18] ?v17 rfl (by kernel_rfl) (by kernel_rfl) (by kernel_rfl) (by kernel_rfl) (fun _ _ _ h => h) hS0 (by kernel_rfl) rfl ?run17 ?rest17
                case run17 => intro w hS; obtain ⟨s0, s1, s2, s3, s4', s5', s6, s7, s8, s9, s10⟩ := hS; go_simp; rfl
                refine wpAnyT_pureC 7 (some 80) [8, 9, 12, 13, 14, 17, 18] ?v18 rfl (by kernel_rfl) (by kernel_rfl) (by kernel_rfl) (by kernel_rfl) (fun _ _ _ h => h) hS0 (by kernel_rfl) rfl ?run18 ?rest18
                case run18 => intro w hS; obtain ⟨s0, s1, s2, s3, s4', s5', s6, s7, s8, s9, s10⟩ := hS; go_simp; rfl
                refine wpAnyT_pureC 8 (some 81) [9, 12, 13, 14, 17, 18] ?v19 rfl (by kernel_rfl) (by kernel_rfl) (by kernel_rfl) (by kernel_rfl) (fun _ _ _ h => h) hS0 (by kernel_rfl) rfl ?run19 ?rest19
                case run19 => intro w hS; obtain ⟨s0, s1, s2, s3, s4', s5', s6, s7, s8, s9, s10⟩ := hS; go_simp; rfl
                refine wpAnyT_pureC 9 (some 82) [12, 13, 14, 17, 18] ?v20 rfl (by kernel_rfl) (by kernel_rfl) (by kernel_rfl) (by kernel_rfl) (fun _ _ _ h => h) hS0 (by kernel_rfl) rfl ?run20 ?rest20
                case run20 => intro w hS; obtain ⟨s0, s1, s2, s3, s4', s5', s6, s7, s8, s9, s10⟩ := hS; go_simp; rfl
                refine wpAnyT_pureC 10 (some 83) [11, 12, 13, 14, 17, 18] ?v21 rfl (by kernel_rfl) (by kernel_rfl) (by kernel_rfl) (by kernel_rfl) (fun _ _ _ h => h) hS0 (by kernel_rfl) rfl ?run21 ?rest21
                case run21 => intro w hS; obtain ⟨s0, s1, s2, s3, s4', s5', s6, s7, s8, s9, s10⟩ := hS; go_simp; rfl
                refine wpAnyT_pureC 11 (some 84) [12, 13, 14, 17, 18] ?v22 rfl (by kernel_rfl) (by kernel_rfl) (by kernel_rfl) (by kernel_rfl) (fun _ _ _ h => h) hS0 (by kernel_rfl) rfl ?run22 ?rest22
                case run22 => intro w hS; obtain ⟨s0, s1, s2, s3, s4', s5', s6, s7, s8, s9, s10⟩ := hS; go_simp; rfl
                refine wpAnyT_pureC 12 (some 85) [13, 14, 17, 18] ?v23 rfl (by kernel_rfl) (by kernel_rfl) (by kernel_rfl) (by kernel_rfl) (fun _ _ _ h => h) hS0 (by kernel_rfl) rfl ?run23 ?rest23
                case run23 => intro w hS; obtain ⟨s0, s1, s2, s3, s4', s5', s6, s7, s8, s9, s10⟩ := hS; go_simp; rfl
                refine wpAnyT_pureC 13 (some 86) [14, 17, 18] ?v24 rfl (by kernel_rfl) (by kernel_rfl) (by kernel_rfl) (by kernel_rfl) (fun _ _ _ h => h) hS0 (by kernel_rfl) rfl ?run24 ?rest24
                case run24 => intro w hS; obtain ⟨s0, s1, s2, s3, s4', s5', s6, s7, s8, s9, s10⟩ := hS; go_simp; rfl
                refine wpAnyT_pureC 14 (some 87) [17, 18] ?v25 rfl (by kernel_rfl) (by kernel_rfl) (by kernel_rfl) (by kernel_rfl) (fun _ _ _ h => h) hS0 (by kernel_rfl) rfl ?run25 ?rest25
                case run25 => intro w hS; obtain ⟨s0, s1, s2, s3, s4', s5', s6, s7, s8, s9, s10⟩ := hS; go_simp; rfl
                refine wpAnyT_pureC 15 (some 88) [16, 17, 18] ?v26 rfl (by kernel_rfl) (by kernel_rfl) (by kernel_rfl) (by kernel_rfl) (fun _ _ _ h => h) hS0 (by kernel_rfl) rfl ?run26 ?rest26
                case run26 => intro w hS; obtain ⟨s0, s1, s2, s3, s4', s5', s6, s7, s8, s9, s10⟩ := hS; go_simp; rfl
                refine wpAnyT_pureC 16 (some 89) [17, 18] ?v27 rfl (by kernel_rfl) (by kernel_rfl) (by kernel_rfl) (by kernel_rfl) (fun _ _ _ h => h) hS0 (by kernel_rfl) rfl ?run27 ?rest27
                case run27 => intro w hS; obtain ⟨s0, s1, s2, s3, s4', s5', s6, s7, s8, s9, s10⟩ := hS; go_simp; rfl
                refine wpAnyT_pureC 17 (some 90) [18] ?v28 rfl (by kernel_rfl) (by kernel_rfl) (by kernel_rfl) (by kernel_rfl) (fun _ _ _ h => h) hS0 (by kernel_rfl) rfl ?run28 ?rest28
                case run28 => intro w hS; obtain ⟨s0, s1, s2, s3, s4', s5', s6, s7, s8, s9, s10⟩ := hS; go_simp; rfl
                refine wpAnyT_pureD 18 (some 91) ?v29 rfl (by kernel_rfl) (by kernel_rfl) (by kernel_rfl) (by kernel_rfl) (fun _ _ _ h => h) hS0 (by kernel_rfl) rfl ?run29 ?rest29
                case run29 => intro w hS; obtain ⟨s0, s1, s2, s3, s4', s5', s6, s7, s8, s9, s10⟩ := hS; go_simp; rfl
                refine wpAnyT_call 19 (some 92) 51 #[.pointer (some ⟨bt, 0, none⟩), .agg #[.slice (some ⟨fb, fo, none⟩) n c], .agg #[iv 3, iv i, iv k', iv j'], .agg #[iv op, sv dn, .slice ua un uc, .slice ta tn tc]] rfl (by kernel_rfl) (by kernel_rfl) (by kernel_rfl) rfl ?_
                refine (KS.out).mono ?_
                rintro e z1 ⟨rfl, hbE, kE⟩
                refine ⟨_, rfl, fun h => absurd rfl h, ?_⟩
                refine wpAnyT_done (by kernel_rfl) ?_ _
                generalize hA : Act.put _ _ _ = A0
                simp only [put_mk, put_no, List.setIfInBounds_toArray, List.set_cons_succ, List.set_cons_zero] at hA
                subst hA
                have HB7 := Lib.hid (show BldE q3 bt sb pb mb _ N ((edgesL p (N.take (j + 1))).map (numE N)) z1 by rw [HSN.out]; exact hbE)
                have HK7 := Lib.hid (HKU.out.trans (KD.out.trans kE))
                clear hbE kE hS0 x0 d0 d1 d2 d3 g1 k1' c0 c1 c2 c3 KS k1
                go_wp2
                go_roundw
                case rel => exact ⟨j + 1, by omega, by go_num, HB7, HK7⟩
                case measure => simp [intOf]; omega
              · have t3 : (y1 == 3) = false := by simpa using k3
                have HB7 := Lib.hid (show BldE q3 bt sb pb mb _ N ((edgesL p (N.take (j + 1))).map (numE N)) U by
                  rw [HSN.out, show edgesAt p ⟨y1, y2, y3, y4⟩ = [] by unfold edgesAt; rw [if_neg k1, if_neg k3]]
                  simpa using HBU.out)
                clear k1 k3
                go_wp2
                go_roundw
                case rel => exact ⟨j + 1, by omega, by go_num, HB7, HKU⟩
                case measure => simp [intOf]; omega
          · have HBE := Lib.hid (show BldE q3 bt sb pb mb (.slice la m lc) N ((edgesL p N).map (numE N)) wr by have h9 := HBj.out; rw [List.take_of_length_le (show N.length ≤ j by rw [HM.out]; omega)] at h9; exact h9)
            obtain ⟨S, P, hB0, hG0⟩ := HBE.out
            have HG0 := Lib.hid hG0
            have HBS := Lib.hid hB0
            obtain ⟨we, rfl⟩ : ∃ x : World, x = wr := ⟨_, rfl⟩
            clear hB0 hG0 HBE HBj
            go_wp2
            go_loopw [96] (fun y wr => ∃ (k : Nat) (S1 P1 : List (List Int)), k ≤ m ∧ y = .int .i64 k ∧ Hid (Bld q3 bt sb pb mb (.slice la m lc) N S1 P1 wr) ∧ Hid (SortTo k S S1) ∧ Hid (SortTo k P P1) ∧ Hid (KeepE q3 we wr)) (fun y _ => m - (intOf y).toNat)
            case atStart => exact ⟨0, S, P, Nat.zero_le _, rfl, HBS, SortTo.zero S, SortTo.zero P, KeepE.refl _ _ zwx⟩
            case round =>
              obtain ⟨k, S1, P1, hk, rfl, HBk, HS1, HP1, HKk⟩ := hrel
              have zwk : q3 ≤ wr.heap.size := by have := HKk.out.below.size; omega
              obtain ⟨x0, x1, x2, x3⟩ := cells4s HBk.out.bl
              rw [HM.out] at x1 x2
              by_cases hlt : k < m
              · obtain ⟨⟨v1, r1, hr1, e1, own1, up1⟩, -⟩ := HBk.out.put hbq zwk (a := k) (by rw [HM.out]; exact hlt)
                obtain ⟨hs1, HS2⟩ := HS1.out.step hr1
                have hl1 := HG0.out.slen hs1
                have K1 := Lib.hid (HSORT.out q3 r1 v1 wr zwk (by rw [HM.out] at hl1; omega) own1)
                have U1 := Lib.hid up1
                have HS2 := Lib.hid HS2
                have hltb : bt < wr.heap.size := lt_heap HBk.out.bl
                have hkm : (k : Int) < (m : Int) := by omega
                clear hr1 own1 up1 hs1 hl1
                go_wp2_with fail
                refine K1.out.mono ?_
                rintro e w5 ⟨rfl, ho5, hg5⟩
                obtain ⟨hb5, hk5⟩ := U1.out _ w5 ho5 hg5
                have HB5 := Lib.hid hb5
                have HK5 := Lib.hid (HKk.out.trans hk5)
                have zw5 : q3 ≤ w5.heap.size := by have := HK5.out.below.size; omega
                clear ho5 hg5 hb5 hk5 x0 x1 x2 x3 e1 K1 U1
                obtain ⟨x0, x1, x2, x3⟩ := cells4s HB5.out.bl
                rw [HM.out] at x1 x2
                obtain ⟨-, ⟨v2, r2, hr2, e2, own2, up2⟩⟩ := HB5.out.put hbq zw5 (a := k) (by rw [HM.out]; exact hlt)
                obtain ⟨hs2, HP2⟩ := HP1.out.step hr2
                have hl2 := HG0.out.plen hs2
                have K2 := Lib.hid (HSORT.out q3 r2 v2 w5 zw5 (by rw [HM.out] at hl2; omega) own2)
                have U2 := Lib.hid up2
                have HP2 := Lib.hid HP2
                clear hr2 own2 up2 hs2 hl2
                go_wp2_with fail
                refine K2.out.mono ?_
                rintro e w6 ⟨rfl, ho6, hg6⟩
                obtain ⟨hb6, hk6⟩ := U2.out _ w6 ho6 hg6
                have HB6 := Lib.hid hb6
                have HK6 := Lib.hid (HK5.out.trans hk6)
                clear ho6 hg6 hb6 hk6 x0 x1 x2 x3 e2 K2 U2
                go_wp2
                go_roundw
                case rel => exact ⟨k + 1, _, _, by omega, by go_num, HB6, HS2, HP2, HK6⟩
                case measure => simp [intOf]; omega
              · obtain ⟨es, ep⟩ := sorted_succ hck0.out (S := S) (P := P) (HNN.out.symm ▸ HG0.out)
                have HSS := Lib.hid (show S1 = succsP p by rw [← es]; exact HS1.out.all (by rw [HG0.out.sl, HM.out]; omega))
                have HPS := Lib.hid (show P1 = predsP p by rw [← ep]; exact HP1.out.all (by rw [HG0.out.pl, HM.out]; omega))
                have HKF := Lib.hid (show Below q3 w3 wr from HK0.out.trans (HKj.out.below.trans HKk.out.below))
                have HRF := Lib.hid (show wr.heap[z + 1]? = some (.cells #[.slice none 0 0, .slice none 0 0, .slice none 0 0] 85 (0, 0)) from (HKF.out.block (z + 1) hzq).trans HR3.out)
                obtain ⟨vs, us, b1, b2, b3, b4, b5, b6⟩ := HBk.out.rows
                rw [HM.out] at b3 b4 b5
                have b7 : P1.length = m := by have := b6.len; simp at this; omega
                have HRS := Lib.hid (show RowsAt intEl wr (.slice (some ⟨sb, 0, none⟩) m m) (succsP p) by
                  rw [← HSS.out]
                  exact rows_at b1 b3 (by unfold maxLen; omega) (fun i v r hv hr => b6.own i v r (by rw [List.getElem?_append_left (List.getElem?_eq_some_iff.1 hv).1]; exact hv) (by rw [List.getElem?_append_left (List.getElem?_eq_some_iff.1 hr).1]; exact hr)) (by omega))
                have HRP := Lib.hid (show RowsAt intEl wr (.slice (some ⟨pb, 0, none⟩) m m) (predsP p) by
                  rw [← HPS.out]
                  exact rows_at b2 b4 (by unfold maxLen; omega) (fun i v r hv hr => b6.own (m + i) v r (by rw [List.getElem?_append_right (by omega), b3, Nat.add_sub_cancel_left]; exact hv) (by rw [List.getElem?_append_right (by omega), b5, Nat.add_sub_cancel_left]; exact hr)) (by omega))
                obtain ⟨r0, r1, r2⟩ := cells3s HRF.out
                have fr := (lies_cells HRF.out).2
                clear b1 b2 b3 b4 b5 b6 b7 es ep
                go_wp2
                have hz3 := set3g HRF.out (.slice la m lc) (.slice (some ⟨sb, 0, none⟩) m m) (.slice (some ⟨pb, 0, none⟩) m m)
                have tz : tyAt wr (z + 1) = some 85 := tyAt_of HRF.out (by omega)
                have st : ∀ T, T ≠ 85 → SameT T wr (((wr.setCell ⟨z + 1, 0, none⟩ (.slice la m lc)).setCell ⟨z + 1, 1, none⟩ (.slice (some ⟨sb, 0, none⟩) m m)).setCell ⟨z + 1, 2, none⟩ (.slice (some ⟨pb, 0, none⟩) m m)) := fun T hT =>
                  ((SameT.setCell (U := 85) tz hT).trans (SameT.setCell (U := 85) (by rw [tyAt_set]; exact tz) hT)).trans (SameT.setCell (U := 85) (by rw [tyAt_set, tyAt_set]; exact tz) hT)
                have BF := (((HB3.out.trans (HKF.out.mono zw3)).setCell (p := ⟨z + 1, 0, none⟩) (by show z ≤ z + 1; omega) (.slice la m lc)).setCell (p := ⟨z + 1, 1, none⟩) (by show z ≤ z + 1; omega) (.slice (some ⟨sb, 0, none⟩) m m)).setCell (p := ⟨z + 1, 2, none⟩) (by show z ≤ z + 1; omega) (.slice (some ⟨pb, 0, none⟩) m m)
                obtain ⟨z0, z1, z2⟩ := cells3s hz3
                refine bodyPost_ret (v := .tuple #[.agg #[.slice la m lc, .slice (some ⟨sb, 0, none⟩) m m, .slice (some ⟨pb, 0, none⟩) m m], iv 0]) (by simp [results, Tryz.results27, go_sem, z0, z1, z2]) rfl ⟨_, _, _, by rw [hck0.out], ?_, ?_, ?_, ?_⟩
                · rw [HNP.out, HNN.out]
                  exact (HNA.out.same (SameT.below (HQ3.out.symm ▸ HKF.out))).same (st _ (by decide))
                · exact HRS.out.keep fun U hU => st U (by rcases List.mem_cons.1 hU with rfl | hU; (show IT ≠ 85; decide); simp [intEl] at hU; subst hU; decide)
                · exact HRP.out.keep fun U hU => st U (by rcases List.mem_cons.1 hU with rfl | hU; (show IT ≠ 85; decide); simp [intEl] at hU; subst hU; decide)
                · rw [HZ.out]; exact BF
end Go.Proofs.YtipnhmdibkkifaaGreatDoor
