/- Walks: sane of the laws on sets. -/
import Derived.Test.YtmanmlankfoflaaDoorBsTx
import Derived.Test.YtmanmlankfoflaaDoorBsO2
import Derived.Test.YtmanmlankfoflaaDoorBsYu
set_option linter.unusedVariables false
set_option linter.unusedSimpArgs false
set_option linter.unusedSectionVars false
namespace Go.Proofs.YtmanmlankfoflaaDoor
open Go.RowKit
variable [Base]

def s5 : QSet := ⟨5, [9]⟩
theorem sane1 : ofS 5 [3, 0, 3] = (s5, 0) := by decide +kernel
theorem sane2 : mergeS (· ||| ·) s5 (emptyS 6) = (zeroS, 2) := by decide +kernel
theorem sane3 : textS s5 = [48, 44, 51, 47, 53] := by decide +kernel
theorem sane4 : textS (emptyS 0) = [47, 48] := by decide +kernel
theorem sane5 : (memS s5).length = 2 := by decide +kernel
theorem bof_to {k : Int} {l : List Int} {s : QSet} {n : Int} (h : ofS k l = (s, n)) (v0 : Value) (w : World) (hl : IntsAt w v0 l) : Calls Tryd.prog 46 #[.int .i64 k, v0] w (SetE (s, n) w) := h ▸ bof_any k l v0 w hl
theorem bunion_to {s t r : QSet} {n : Int} (h : mergeS (· ||| ·) s t = (r, n)) (u1 u2 : Value) (w : World) (h1 : WordsAt w u1 s.words) (h2 : WordsAt w u2 t.words) : Calls Tryd.prog 26 #[setV s u1, setV t u2] w (SetE (r, n) w) := h ▸ bunion_any s t u1 u2 w h1 h2
theorem btext_to {B : Nat} {s : QSet} {x : Str} (hx : textS s = x) (u : Value) (w : World) (h : WordsAt w u s.words) (hT : TabsIn B w) (hB : B ≤ w.heap.size) : Calls Tryd.prog 35 #[setV s u] w (StrQ x w) := hx ▸ btext_any s u w h hT hB
theorem bcount_to {s : QSet} {n : Nat} (hn : (memS s).length = n) (u : Value) (w : World) (h : WordsAt w u s.words) : Calls Tryd.prog 32 #[setV s u] w (IntQ (n : Int) w) := hn ▸ bcount_any s u w h
set_option maxRecDepth 100000 in
set_option maxHeartbeats 4000000 in
theorem sane_any {B : Nat} (w : World) (hT : TabsIn B w) (hB : B ≤ w.heap.size) : Calls Tryd.prog 14 #[] w (BoolQ true w) := by
  have HT := Lib.hid hT
  clear hT
  go_enter Tryd.func14, Tryd.ntmps14
  go_wp2_with fail
  refine (bof_to sane1 _ _ (SliceAt.new [iv 3, iv 0, iv 3] 3 rfl (by decide))).mono ?_
  rintro e v1 ⟨u1, rfl, n1, b1⟩
  obtain ⟨a1, k1, c1, rfl⟩ := n1.shape
  have B1 := Lib.hid (((Below.refl _ _).alloc (Nat.le_refl _) _).trans (b1.mono (by simp)))
  have N1 := Lib.hid n1.words
  rw [show ((s5, (0 : Int)).1) = s5 from rfl, show ((s5, (0 : Int)).2) = 0 from rfl, show setV s5 (.slice a1 k1 c1) = .agg #[.int .i64 5, .slice a1 k1 c1] from rfl]
  obtain ⟨V1, hV1⟩ : ∃ V1, v1.alloc (.cells #[.int .i64 5, .slice a1 k1 c1] 25) = V1 := ⟨_, rfl⟩
  have P1 : V1.heap[v1.heap.size]? = some (.cells #[.int .i64 5, .slice a1 k1 c1] 25 (0, 0)) := by rw [← hV1]; exact heap_alloc_new _ _
  have E1 := Lib.hid (show Below w.heap.size w V1 by rw [← hV1]; exact B1.out.alloc B1.out.size _)
  have D1 := Lib.hid (show Below v1.heap.size v1 V1 by rw [← hV1]; exact (Below.refl _ _).alloc (Nat.le_refl _) _)
  have HV1 := Lib.hid hV1
  have HP1 := Lib.hid P1
  clear hV1 P1 b1 n1
  go_wp2_with fail
  rw [show v1.alloc (.cells #[.int .i64 5, .slice a1 k1 c1] 25) = V1 from HV1.out]
  refine (bempty_any 6 (by omega) V1).mono ?_
  rintro e v2 ⟨u2, rfl, n2', b2⟩
  have n2 : NewS V1.heap.size v2 u2 (emptyS 6) := .inr n2'
  clear n2'
  obtain ⟨a2, k2, c2, rfl⟩ := n2.shape
  have B2 := Lib.hid (E1.out.trans (b2.mono E1.out.size))
  have N2 := Lib.hid n2.words
  rw [show setV (emptyS 6) (.slice a2 k2 c2) = .agg #[.int .i64 6, .slice a2 k2 c2] from rfl]
  obtain ⟨V2, hV2⟩ : ∃ V, v2.alloc (.cells #[.int .i64 6, .slice a2 k2 c2] 25) = V := ⟨_, rfl⟩
  have P2 : V2.heap[v2.heap.size]? = some (.cells #[.int .i64 6, .slice a2 k2 c2] 25 (0, 0)) := by rw [← hV2]; exact heap_alloc_new _ _
  have E2 := Lib.hid (show Below w.heap.size w V2 by rw [← hV2]; exact B2.out.alloc B2.out.size _)
  have D2 := Lib.hid (show Below v2.heap.size v2 V2 by rw [← hV2]; exact (Below.refl _ _).alloc (Nat.le_refl _) _)
  have HQ1 := Lib.hid (lies_below HP1.out b2 (lt_heap HP1.out))
  have G2 := Lib.hid (show Below V1.heap.size V1 V2 from b2.trans (D2.out.mono b2.size))
  have HV2 := Lib.hid hV2
  have HP2 := Lib.hid P2
  clear hV2 P2 b2 n2
  have x0 := (lies_cells HQ1.out).1 0
  have x1 := (lies_cells HQ1.out).1 1
  simp only [List.getElem?_toArray, List.getElem?_cons_zero, List.getElem?_cons_succ] at x0 x1
  have z1 : v1.heap.size < v2.heap.size := lt_heap HQ1.out
  have z2 : v1.heap.size ≠ v2.heap.size := by omega
  have z3 : v2.heap.size ≠ v1.heap.size := by omega
  go_wp2_with fail
  rw [show v2.alloc (.cells #[.int .i64 6, .slice a2 k2 c2] 25) = V2 from HV2.out]
  refine (bunion_to (s := s5) (t := emptyS 6) sane2 (.slice a1 k1 c1) (.slice a2 k2 c2) V2 ((N1.out.below D1.out).below G2.out) (N2.out.below D2.out)).mono ?_
  rintro e v3 ⟨u3, rfl, n3, b3⟩
  clear x0 x1
  obtain ⟨a3, k3, c3, rfl⟩ := n3.shape
  have B3 := Lib.hid (E2.out.trans (b3.mono E2.out.size))
  have N3 := Lib.hid n3.words
  rw [show ((zeroS, (2 : Int)).1) = zeroS from rfl, show ((zeroS, (2 : Int)).2) = 2 from rfl, show setV zeroS (.slice a3 k3 c3) = .agg #[.int .i64 0, .slice a3 k3 c3] from rfl]
  obtain ⟨V3, hV3⟩ : ∃ V, v3.alloc (.cells #[.int .i64 0, .slice a3 k3 c3] 25) = V := ⟨_, rfl⟩
  have P3 : V3.heap[v3.heap.size]? = some (.cells #[.int .i64 0, .slice a3 k3 c3] 25 (0, 0)) := by rw [← hV3]; exact heap_alloc_new _ _
  have E3 := Lib.hid (show Below w.heap.size w V3 by rw [← hV3]; exact B3.out.alloc B3.out.size _)
  have D3 := Lib.hid (show Below v3.heap.size v3 V3 by rw [← hV3]; exact (Below.refl _ _).alloc (Nat.le_refl _) _)
  have G3 := Lib.hid (show Below V2.heap.size V2 V3 from b3.trans (D3.out.mono b3.size))
  have HV3 := Lib.hid hV3
  have HP3 := Lib.hid P3
  clear hV3 P3 b3 n3
  go_wp2_with fail
  rw [show v3.alloc (.cells #[.int .i64 0, .slice a3 k3 c3] 25) = V3 from HV3.out]
  refine (bempty_any 0 (by omega) V3).mono ?_
  rintro e v4 ⟨u4, rfl, n4', b4⟩
  have n4 : NewS V3.heap.size v4 u4 (emptyS 0) := .inr n4'
  clear n4'
  obtain ⟨a4, k4, c4, rfl⟩ := n4.shape
  have B4 := Lib.hid (E3.out.trans (b4.mono E3.out.size))
  have N4 := Lib.hid n4.words
  rw [show setV (emptyS 0) (.slice a4 k4 c4) = .agg #[.int .i64 0, .slice a4 k4 c4] from rfl]
  obtain ⟨V4, hV4⟩ : ∃ V, v4.alloc (.cells #[.int .i64 0, .slice a4 k4 c4] 25) = V := ⟨_, rfl⟩
  have P4 : V4.heap[v4.heap.size]? = some (.cells #[.int .i64 0, .slice a4 k4 c4] 25 (0, 0)) := by rw [← hV4]; exact heap_alloc_new _ _
  have E4 := Lib.hid (show Below w.heap.size w V4 by rw [← hV4]; exact B4.out.alloc B4.out.size _)
  have D4 := Lib.hid (show Below v4.heap.size v4 V4 by rw [← hV4]; exact (Below.refl _ _).alloc (Nat.le_refl _) _)
  have G14a := Lib.hid (G2.out.trans ((G3.out.trans (b4.mono G3.out.size)).mono G2.out.size))
  have G4 := Lib.hid (show Below V3.heap.size V3 V4 from b4.trans (D4.out.mono b4.size))
  have HV4 := Lib.hid hV4
  have HP4 := Lib.hid P4
  clear hV4 P4 b4 n4
  have G14 := Lib.hid (G2.out.trans ((G3.out.trans (G4.out.mono G3.out.size)).mono G2.out.size))
  have M1 := Lib.hid (lies_below HP1.out G14.out (lt_heap HP1.out))
  have M0 := Lib.hid (lies_below HP1.out G14a.out (lt_heap HP1.out))
  have x0 := (lies_cells M0.out).1 0
  have x1 := (lies_cells M0.out).1 1
  simp only [List.getElem?_toArray, List.getElem?_cons_zero, List.getElem?_cons_succ] at x0 x1
  have z5 : v1.heap.size < v4.heap.size := lt_heap M0.out
  have z6 : v1.heap.size ≠ v4.heap.size := by omega
  have z7 : v4.heap.size ≠ v1.heap.size := by omega
  have W1 := Lib.hid ((N1.out.below D1.out).below G14.out)
  have W4 := Lib.hid (N4.out.below D4.out)
  have q1 : ((⟨[48, 44, 51, 47, 53].toArray⟩ : ByteArray) == ⟨#[48, 44, 51, 47, 53]⟩) = true := by decide
  go_wp2_with fail
  rw [show v4.alloc (.cells #[.int .i64 0, .slice a4 k4 c4] 25) = V4 from HV4.out]
  refine (btext_to (B := B) (s := s5) sane3 (.slice a1 k1 c1) V4 W1.out (HT.out.below (E4.out.mono hB)) (Nat.le_trans hB E4.out.size)).mono ?_
  rintro e v5 ⟨rfl, b5⟩
  have E5 := Lib.hid (E4.out.trans (b5.mono E4.out.size))
  have M4 := Lib.hid (lies_below HP4.out b5 (lt_heap HP4.out))
  have M5 := Lib.hid (lies_below M1.out b5 (lt_heap M1.out))
  have W45 := Lib.hid (W4.out.below b5)
  have W15 := Lib.hid (W1.out.below b5)
  clear x0 x1 b5
  have y0 := (lies_cells M4.out).1 0
  have y1 := (lies_cells M4.out).1 1
  simp only [List.getElem?_toArray, List.getElem?_cons_zero, List.getElem?_cons_succ] at y0 y1
  go_wp2_with fail
  refine (btext_to (B := B) (s := emptyS 0) sane4 (.slice a4 k4 c4) v5 W45.out (HT.out.below (E5.out.mono hB)) (Nat.le_trans hB E5.out.size)).mono ?_
  rintro e v6 ⟨rfl, b6⟩
  have E6 := Lib.hid (E5.out.trans (b6.mono E5.out.size))
  have M6 := Lib.hid (lies_below M5.out b6 (lt_heap M5.out))
  have W16 := Lib.hid (W15.out.below b6)
  clear y0 y1 b6
  have x0 := (lies_cells M6.out).1 0
  have x1 := (lies_cells M6.out).1 1
  simp only [List.getElem?_toArray, List.getElem?_cons_zero, List.getElem?_cons_succ] at x0 x1
  go_wp2_with fail
  refine (bcount_to (s := s5) sane5 (.slice a1 k1 c1) v6 W16.out).mono ?_
  rintro e v7 ⟨rfl, b7⟩
  have E7 := Lib.hid (E6.out.trans (b7.mono E6.out.size))
  clear x0 x1 b7
  go_wp2
  go_ret
  exact ⟨rfl, E7.out⟩
end Go.Proofs.YtmanmlankfoflaaDoor
