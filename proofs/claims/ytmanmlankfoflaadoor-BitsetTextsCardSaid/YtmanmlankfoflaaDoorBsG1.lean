/- Walks: the reference's Empty, Put. -/
import Derived.Test.YtmanmlankfoflaaDoorBsP
import Derived.Test.YtmanmlankfoflaaDoorBlk
import Derived.Test.YtmanmlankfoflaaDoorSlc
import Derived.Test.YtmanmlankfoflaaDoorCpy
import Derived.Laws.NewBlocks
import Derived.WalkLawsBesides
import Derived.IntWalk
set_option linter.unusedVariables false
set_option linter.unusedSimpArgs false
set_option linter.unusedSectionVars false
namespace Go.Proofs.YtmanmlankfoflaaDoor
open Go.RowKit
variable [Base]

theorem zc_eq (m : Nat) : zc (wordsN m) = ((emptyS m).words.map uv).toArray := by unfold zc emptyS; simp
set_option maxHeartbeats 1000000 in
theorem empty_any (m : Nat) (hm : m ≤ 256) (w : World) : Calls Tryd.prog 23 #[.int .i64 m] w (MakeQ (emptyS m) w) := by
  have hmk := run_make_u64 (wordsN m) (by unfold wordsN; omega) (((m : Int) + 63) / 64) (by unfold wordsN; omega)
  have HF := Lib.hid (form_empty hm)
  have HZ := Lib.hid (zc_eq m)
  go_enter Tryd.func23, Tryd.ntmps23
  go_wp2
  refine bodyPost_ret (v := setV (emptyS m) (.slice (some ⟨w.heap.size + 1, 0, none⟩) (emptyS m).words.length (emptyS m).words.length)) (by simp [results, Tryd.results23, go_sem, emptyS]) rfl ⟨_, rfl, ⟨w.heap.size + 1, rfl, by omega, ?_, HF.out⟩, ((Below.refl _ _).alloc (Nat.le_refl _) _).alloc (by simp) _⟩
  rw [← HZ.out]
  exact lies_new2 _ _
theorem words_oc (l : List Nat) : ∀ x ∈ l.map uv, x.oneCell' = true := by
  intro x hx
  obtain ⟨y, _, rfl⟩ := List.mem_map.1 hx
  rfl
theorem info_u64_1 : (Tryd.prog.info? 62).map (·.size) = some 1 := by kernel_rfl
set_option maxHeartbeats 1000000 in
theorem put_any (s : QSet) (b : Nat) (u : Value) (w : World) (hf : FormS s) (hb : (b : Int) < s.width) (hu : WordsAt w u s.words) : Calls Tryd.prog 22 #[setV s u, .int .i64 b] w (MakeQ (putS s b) w) := by
  obtain ⟨m, hm, hm2, hk⟩ := form_len hf
  obtain ⟨ua, uc, rfl, -, -, -, hcell⟩ := hu.cell
  obtain ⟨k, hk2⟩ : ∃ k, s.words.length = k := ⟨_, rfl⟩
  have hbk : b / 64 < k := by rw [← hk2, hk]; unfold wordsN; omega
  have hkk : k = wordsN m := by omega
  have hm3 : m ≤ 64 * k := by rw [hkk]; unfold wordsN; omega
  have hk5 : k ≤ 4 := by rw [hkk]; unfold wordsN; omega
  rw [hk2] at hu ⊢
  rw [hm] at hb
  rw [show setV s (.slice ua k uc) = .agg #[.int .i64 (m : Int), .slice ua k uc] from by unfold setV; rw [hm]]
  obtain ⟨W, hW⟩ : ∃ W, (w.alloc (.cells #[.int .i64 (m : Int), .slice ua k uc] 25)).alloc (.cells #[.int .i64 0, .slice none 0 0] 25) = W := ⟨_, rfl⟩
  have B0 : Below w.heap.size w W := by rw [← hW]; exact ((Below.refl _ _).alloc (Nat.le_refl _) _).alloc (by simp) _
  have HB1 : W.heap[w.heap.size]? = some (.cells #[.int .i64 (m : Int), .slice ua k uc] 25 (0, 0)) := by rw [← hW]; exact lies_alloc _ (heap_alloc_new _ _)
  have HB2 : W.heap[w.heap.size + 1]? = some (.cells #[.int .i64 0, .slice none 0 0] 25 (0, 0)) := by rw [← hW]; exact lies_new2 _ _
  have H1 := Lib.hid HB1
  have H2 := Lib.hid HB2
  have HW := Lib.hid hW
  have BB := Lib.hid B0
  have HU := Lib.hid hu
  have HF := Lib.hid hf
  have HK := Lib.hid hk2
  have HM := Lib.hid hm
  have HC := Lib.hid hcell
  have HKK := Lib.hid hkk
  clear hW HB1 HB2 B0 hk hk2 hkk hf hu hcell hm
  go_enter Tryd.func22, Tryd.ntmps22
  go_wp2_with fail
  rw [show (w.alloc (.cells #[.int .i64 (m : Int), .slice ua k uc] 25)).alloc (.cells #[.int .i64 0, .slice none 0 0] 25) = W from HW.out]
  refine (empty_any m hm2 W).mono ?_
  rintro e v ⟨u1, rfl, ⟨g, rfl, hg1, hg2, -⟩, b1⟩
  have L1 := lies_below H1.out b1 (lt_heap H1.out)
  have L2 := lies_below H2.out b1 (lt_heap H2.out)
  have hz1 := Nat.lt_of_lt_of_le (lt_heap H1.out) b1.size
  have hz2 := Nat.lt_of_lt_of_le (lt_heap H2.out) b1.size
  have hgv := lt_heap hg2
  have e1 : (emptyS m).words.length = k := by have := HKK.out; unfold emptyS; simp; omega
  rw [show setV (emptyS m) (.slice (some ⟨g, 0, none⟩) (emptyS m).words.length (emptyS m).words.length) = .agg #[.int .i64 (m : Int), .slice (some ⟨g, 0, none⟩) k k] from by rw [e1]; rfl]
  obtain ⟨V, hV⟩ : ∃ V, v.alloc (.cells #[.int .i64 (m : Int), .slice (some ⟨g, 0, none⟩) k k] 25) = V := ⟨_, rfl⟩
  have BV : Below v.heap.size v V := by rw [← hV]; exact (Below.refl _ _).alloc (Nat.le_refl _) _
  have L3 : V.heap[v.heap.size]? = some (.cells #[.int .i64 (m : Int), .slice (some ⟨g, 0, none⟩) k k] 25 (0, 0)) := by rw [← hV]; exact heap_alloc_new _ _
  have HG := Lib.hid (lies_below hg2 BV hgv)
  have x0 := (lies_cells L1).1 0
  have x1 := (lies_cells L1).1 1
  simp only [List.getElem?_toArray, List.getElem?_cons_zero, List.getElem?_cons_succ] at x0 x1
  have L1 := lies_below L1 BV hz1
  have L2 := lies_below L2 BV hz2
  have B1 := Lib.hid (b1.trans (BV.mono b1.size))
  have HV := Lib.hid hV
  have HL1 := Lib.hid L1
  have HL2 := Lib.hid L2
  have HL3 := Lib.hid L3
  have E1 := Lib.hid e1
  obtain ⟨x, hx⟩ : ∃ x, s.words[b / 64]? = some x := ⟨_, List.getElem?_eq_getElem (show b / 64 < s.words.length by have := HK.out; omega)⟩
  obtain ⟨b0, o0, rfl, -, -, -⟩ := HC.out _ _ hx
  have SRC := Lib.hid (show ∀ j x, (s.words.map uv)[j]? = some x → V.cell? ((⟨b0, o0, none⟩ : Addr).add j) = some x from by
    intro j x hx
    rw [List.getElem?_map] at hx
    obtain ⟨y, hy, rfl⟩ := Option.map_eq_some_iff.1 hx
    obtain ⟨b3, o3, e3, hb3, -, hc3⟩ := HC.out j y hy
    injection e3 with e3
    injection e3 with e3 e4
    subst e3 e4
    rw [addr_add]
    exact ((BB.out.trans (B1.out.mono BB.out.size)).cell (p := ⟨b0, o0 + j, none⟩) hb3).trans hc3)
  have OC := Lib.hid (words_oc s.words)
  have LN1 := Lib.hid (show (s.words.map uv).length = Nat.min k k by rw [List.length_map, HK.out]; simp)
  have LN2 := Lib.hid (show (s.words.map uv).length = ((emptyS m).words.map uv).toArray.size by simp only [List.size_toArray, List.length_map]; rw [HK.out, e1])
  have hvW : v.heap.size ≠ g := by omega
  clear x0 x1 b1 hg2 BV L1 L2 L3 e1
  have x0 := (lies_cells HL1.out).1 0
  have x1 := (lies_cells HL1.out).1 1
  have y0 := (lies_cells HL3.out).1 0
  have y1 := (lies_cells HL3.out).1 1
  simp only [List.getElem?_toArray, List.getElem?_cons_zero, List.getElem?_cons_succ] at x0 x1 y0 y1
  have HX := Lib.hid hx
  have hxl : x < 18446744073709551616 := HF.out.2.2 x (List.mem_of_getElem? hx)
  clear hx
  go_wp2_with ((with_reducible refine wpList_copy_but (o := ⟨some 13, _, _, _, _, _⟩) rfl (.tmp 10) (.tmp 12) 23 23 rfl 62 Tryd.underlying23 info_u64_1 g k k ⟨b0, o0, none⟩ k uc rfl rfl _ 62 HG.out (s.words.map uv) LN1.out SRC.out LN2.out OC.out ?_))
  rintro v2 h2 b2
  have M1 := (b2.block (v.heap.size) (lt_heap HL3.out) hvW).trans HL3.out
  have M2 := (b2.block (w.heap.size + 1) (lt_heap HL2.out) (by have := lt_heap H2.out; omega)).trans HL2.out
  have y0 := (lies_cells M1).1 0
  have y1 := (lies_cells M1).1 1
  have z0 := (lies_cells M2).1 0
  have z1 := (lies_cells M2).1 1
  have f0 := (lies_cells M2).2 0
  have f1 := (lies_cells M2).2 1
  have g0 := (lies_cells h2).1 (b / 64)
  have g1 := (lies_cells h2).2 (b / 64)
  rw [List.getElem?_toArray, List.getElem?_map, HX.out] at g0
  simp only [List.getElem?_toArray, List.getElem?_cons_zero, List.getElem?_cons_succ, Option.map_some] at y0 y1 z0 z1 g0
  have B2 := Lib.hid b2
  have HM1 := Lib.hid M1
  have HM2 := Lib.hid M2
  have HG2 := Lib.hid h2
  have q1 : 0 ≤ (b : Int) / 64 := by omega
  have q2 : (b : Int) / 64 < k := by omega
  have q3 : ((b : Int) / 64).toNat = b / 64 := by omega
  have q4 : 0 ≤ (b : Int) % 64 := by omega
  have q5 : IntKind.u64.wrap ((b : Int) % 64) = (b : Int) % 64 := by rw [IntKind.wrap_u64]; omega
  have q6 : ((b : Int) % 64).toNat = b % 64 := by omega
  obtain ⟨y, hy⟩ : ∃ y, x ||| 2 ^ (b % 64) = y := ⟨_, rfl⟩
  have q7 : bits .or .u64 (x : Int) (IntKind.u64.wrap (2 ^ (b % 64))) = (y : Int) := by
    have h1 : IntKind.u64.wrap (2 ^ (b % 64)) = ((2 ^ (b % 64) : Nat) : Int) := by
      have := pow_lt64 b
      rw [show ((2 : Int) ^ (b % 64)) = ((2 ^ (b % 64) : Nat) : Int) by simp, IntKind.wrap_u64]
      generalize 2 ^ (b % 64) = p at *
      omega
    rw [h1, or_nat x _ hxl (pow_lt64 b), hy]
  have HY := Lib.hid hy
  have hg3 : w.heap.size + 1 ≠ g := by have := lt_heap H2.out; omega
  clear x0 x1 b2 M1 M2 h2 hV hy
  go_wp2
  have HP := Lib.hid (show (putS s b).words = s.words.set (b / 64) y by
    unfold putS
    rw [List.getD_eq_getElem?_getD, HX.out]
    simp [← HY.out])
  have HL := Lib.hid (show (putS s b).words.length = k by rw [HP.out, List.length_set]; exact HK.out)
  have BF : Below w.heap.size w v2 := (BB.out.trans (B1.out.mono BB.out.size)).trans (B2.out.toBelow (Nat.le_trans BB.out.size hg1) (Nat.le_trans BB.out.size B1.out.size))
  refine bodyPost_ret (v := setV (putS s b) (.slice (some ⟨g, 0, none⟩) (putS s b).words.length (putS s b).words.length)) (by rw [HL.out, show setV (putS s b) (.slice (some ⟨g, 0, none⟩) k k) = .agg #[.int .i64 (m : Int), .slice (some ⟨g, 0, none⟩) k k] by unfold setV; rw [show (putS s b).width = s.width from rfl, HM.out]]; simp [results, Tryd.results22, go_sem, z0, z1, hg3, Ne.symm hg3]) rfl ⟨_, rfl, ⟨g, rfl, Nat.le_trans BB.out.size hg1, ?_, form_put HF.out b⟩, ((BF.setCell (p := ⟨g, b / 64, none⟩) (Nat.le_trans BB.out.size hg1) _).setCell (p := ⟨w.heap.size + 1, 0, none⟩) (by show w.heap.size ≤ w.heap.size + 1; omega) _).setCell (p := ⟨w.heap.size + 1, 1, none⟩) (by show w.heap.size ≤ w.heap.size + 1; omega) _⟩
  rw [Below.heap_setCell _ _ _ _ (by show g ≠ w.heap.size + 1; omega), Below.heap_setCell _ _ _ _ (by show g ≠ w.heap.size + 1; omega), HP.out, List.map_set]
  have hgg := HG2.out
  simp [World.setCell, Array.getElem?_modify, hgg]
end Go.Proofs.YtmanmlankfoflaaDoor
