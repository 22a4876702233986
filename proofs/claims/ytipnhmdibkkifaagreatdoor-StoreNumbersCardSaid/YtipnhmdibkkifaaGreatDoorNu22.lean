/- A part of the proof. -/
import Derived.Test.YtipnhmdibkkifaaGreatDoorNu20
import Derived.Test.YtipnhmdibkkifaaGreatDoorNu06
import Derived.Test.YtipnhmdibkkifaaGreatDoorNu21
import Derived.Test.YtipnhmdibkkifaaGreatDoorProg
import Derived.Shelf.Strings.Builder1
import Derived.Shelf.Strings.Builder2
import Derived.Shelf.Strings.OnBuilder
import Derived.Shelf.Strings.BuilderK
import Derived.Lib.JoinLaws
set_option linter.unusedVariables false
set_option linter.unusedSimpArgs false
set_option linter.unusedVariables false
set_option linter.unusedSimpArgs false
set_option linter.unusedSectionVars false
namespace Go.Proofs.YtipnhmdibkkifaaGreatDoor
open Go.RowKit
variable [Base]
def StrsQ (l : List Str) (w : World) (e : Ending) (w' : World) : Prop := ∃ a c, e = .returned (.slice a l.length c) ∧ StrsAt w' (.slice a l.length c) l ∧ Below w.heap.size w w'
theorem own_new {w : World} {T : TypeId} {sz : Nat} (xs : List Value) (n : Nat) (h : xs.length = n * sz) (hn : n ≤ maxLen) : (w.alloc (.cells xs.toArray T)).ownsRow w.heap.size T sz (.slice (some ⟨w.heap.size, 0, none⟩) n n) n xs :=
  ⟨h, .inr ⟨w.heap.size, n, xs.toArray, rfl, Nat.le_refl _, heap_alloc_new w _, Nat.le_refl _, hn, by simpa using h, by rw [← h]; simp⟩⟩
theorem all_sv (l : List Str) : (l.map sv).all Value.oneCell' = true := by
  rw [List.all_eq_true]
  intro x hx
  obtain ⟨s, _, rfl⟩ := List.mem_map.1 hx
  rfl
def wordsS (s : PStmt) : List Str := (stmtL s).map Prod.snd
theorem wordsS_assign {s : PStmt} (h : s.op = 1) : wordsS s = [s.dfn, [61]] ++ s.uses := by
  unfold wordsS stmtL
  rw [if_pos h]
  simp [word, Function.comp_def]
theorem wordsS_other {s : PStmt} (hs : stmtB s = true) (h : s.op ≠ 1) : wordsS s = [kwOf s.op] ++ ((if s.dfn = [] then [] else [s.dfn]) ++ (s.uses ++ s.targets)) := by
  obtain ⟨hu, ht, ho⟩ := stmtB_fields hs
  obtain ⟨op, d, us, ts⟩ := s
  simp only at hu ht ho h
  have hc : op = 2 ∨ op = 3 ∨ op = 4 ∨ op = 5 ∨ op = 6 ∨ op = 7 ∨ op = 8 ∨ op = 9 := by
    unfold opB at ho
    by_cases h2 : op = 2; · omega
    by_cases h3 : op = 3; · omega
    by_cases h4 : op = 4; · omega
    by_cases h5 : op = 5; · omega
    by_cases h6 : op = 6; · omega
    by_cases h7 : op = 7; · omega
    by_cases h8 : op = 8; · omega
    by_cases h9 : op = 9; · omega
    rw [if_neg h, if_neg h2, if_neg h5, if_neg (by omega), if_neg (by omega), if_neg h8, if_neg h9] at ho
    cases ho
  have hn : nameB d = true → d ≠ [] := by
    intro hd e
    subst e
    revert hd
    decide
  rcases hc with rfl | rfl | rfl | rfl | rfl | rfl | rfl | rfl
  · have h2 : d.isEmpty = true ∧ 1 ≤ us.length ∧ ts.length = 0 := by simpa [opB, Nat.succ_le_iff] using ho
    obtain rfl : d = [] := isEmpty_nil h2.1
    obtain rfl : ts = [] := List.length_eq_zero_iff.1 h2.2.2
    simp [wordsS, stmtL, kwOf, word, Function.comp_def]
  · have h2 : d.isEmpty = true ∧ us.length = 0 ∧ ts.length = 1 := by simpa [opB] using ho
    obtain rfl : d = [] := isEmpty_nil h2.1
    obtain rfl : us = [] := List.length_eq_zero_iff.1 h2.2.1
    simp [wordsS, stmtL, kwOf, word, Function.comp_def]
  · have h2 : nameB d = true ∧ us.length = 0 ∧ ts.length = 0 := by simpa [opB] using ho
    obtain rfl : us = [] := List.length_eq_zero_iff.1 h2.2.1
    obtain rfl : ts = [] := List.length_eq_zero_iff.1 h2.2.2
    simp [wordsS, stmtL, kwOf, word, hn h2.1]
  · have h2 : d.isEmpty = true ∧ us.length = 1 ∧ ts.length = 0 := by simpa [opB] using ho
    obtain rfl : d = [] := isEmpty_nil h2.1
    obtain rfl : ts = [] := List.length_eq_zero_iff.1 h2.2.2
    simp [wordsS, stmtL, kwOf, word, Function.comp_def]
  · have h2 : nameB d = true ∧ us.length = 0 ∧ ts.length = 0 := by simpa [opB] using ho
    obtain rfl : us = [] := List.length_eq_zero_iff.1 h2.2.1
    obtain rfl : ts = [] := List.length_eq_zero_iff.1 h2.2.2
    simp [wordsS, stmtL, kwOf, word, hn h2.1]
  · have h2 : d.isEmpty = true ∧ us.length = 0 ∧ ts.length = 1 := by simpa [opB] using ho
    obtain rfl : d = [] := isEmpty_nil h2.1
    obtain rfl : us = [] := List.length_eq_zero_iff.1 h2.2.1
    simp [wordsS, stmtL, kwOf, word, Function.comp_def]
  · have h2 : d.isEmpty = true ∧ us.length = 1 ∧ ts.length = 2 := by simpa [opB] using ho
    obtain rfl : d = [] := isEmpty_nil h2.1
    simp [wordsS, stmtL, kwOf, word, Function.comp_def]
  · have h2 : d.isEmpty = true ∧ us.length = 0 ∧ ts.length = 0 := by simpa [opB] using ho
    obtain rfl : d = [] := isEmpty_nil h2.1
    obtain rfl : us = [] := List.length_eq_zero_iff.1 h2.2.1
    obtain rfl : ts = [] := List.length_eq_zero_iff.1 h2.2.2
    simp [wordsS, stmtL, kwOf, word]
theorem own_new1 {w : World} {T : TypeId} {sz : Nat} {o : Obj} (xs : List Value) (n : Nat) (h : xs.length = n * sz) (hn : n ≤ maxLen) : ((w.alloc o).alloc (.cells xs.toArray T)).ownsRow (w.heap.size + 1) T sz (.slice (some ⟨w.heap.size + 1, 0, none⟩) n n) n xs := by
  have h2 := own_new (w := w.alloc o) (T := T) xs n h hn
  rw [World.size_alloc] at h2
  exact h2
theorem lies_new3 {w : World} (a b c : Obj) : (((w.alloc a).alloc b).alloc c).heap[w.heap.size + 1 + 1]? = some c := by
  have h := heap_alloc_new ((w.alloc a).alloc b) c
  rw [World.size_alloc, World.size_alloc] at h
  exact h
set_option maxRecDepth 100000 in
set_option maxHeartbeats 1000000 in
theorem words_assign {s : PStmt} (h1 : s.op = 1) (u t : Value) (w : World) (hu : StrsAt w u s.uses) (ht : StrsAt w t s.targets) (hlu : s.uses.length ≤ 1000) :
    Calls Tryz.prog 124 #[.agg #[.int .i64 s.op, sv s.dfn, u, t]] w (StrsQ (wordsS s) w) := by
  obtain ⟨R, hR⟩ : ∃ R, wordsS s = R := ⟨_, rfl⟩
  rw [hR]
  rw [wordsS_assign h1] at hR
  have HR := Lib.hid hR
  clear hR
  obtain ⟨op, d, us, ts⟩ := s
  dsimp only at h1 hu ht hlu HR ⊢
  subst h1
  obtain ⟨ua, uc, rfl, -, -⟩ := hu.cell
  obtain ⟨ta, tc, rfl, -, -⟩ := ht.cell
  have HU := Lib.hid hu
  obtain ⟨n, hn⟩ : ∃ n, us.length = n := ⟨_, rfl⟩
  obtain ⟨m, hm⟩ : ∃ n, ts.length = n := ⟨_, rfl⟩
  rw [hn] at HU hlu ⊢
  rw [hm]
  have HN := Lib.hid hn
  have OW := Lib.hid (own_new1 (w := w) (T := 9) (sz := 1) (o := .cells #[.int .i64 1, sv d, .slice ua n uc, .slice ta m tc] 118) [sv d, .string ⟨#[61]⟩] 2 rfl (by decide))
  clear hu ht hm hn
  go_enter Tryz.func124, Tryz.ntmps124
  go_wp2_with (at_builtin; refine wpList_append_sl rfl _ _ 30 rfl (w.heap.size + 1) 9 _ 1 16 Tryz.underlying30 info_str rfl (by decide) _ _ _ OW.out rfl _ n _ rfl (SliceAt.same HU.out (SameT.alloc.trans SameT.alloc)) (by have := HN.out; simp; omega) (all_sv us) (by unfold maxLen; omega) (by omega) (by simp) ?_; intro g c w1 own1 gr1; have OW1 := Lib.hid own1; have B1 := Lib.hid ((((Below.refl w.heap.size w).alloc (Nat.le_refl _) (.cells #[.int .i64 1, sv d, .slice ua n uc, .slice ta m tc] 118)).alloc (by simp) (.cells #[sv d, .string ⟨#[61]⟩] 9)).trans ((Below.of_grown gr1 OW.out (by simp)).mono (by omega))); clear own1 gr1)
  go_ret
  have hl : R.length = 2 + n := by rw [← HR.out, List.length_append, HN.out]; rfl
  refine ⟨g, c, by rw [hl]; rfl, ?_, B1.out⟩
  have h2 := SliceAt.of_owns OW1.out
  unfold StrsAt
  rw [hl, ← HR.out]
  simpa using h2
set_option maxRecDepth 100000 in
set_option maxHeartbeats 1000000 in
theorem words_other0 {s : PStmt} (hs : stmtB s = true) (h1 : s.op ≠ 1) (hd : s.dfn = []) (u t : Value) (w : World) (hu : StrsAt w u s.uses) (ht : StrsAt w t s.targets) (hlu : s.uses.length ≤ 1000) (hlt : s.targets.length ≤ 1000) :
    Calls Tryz.prog 124 #[.agg #[.int .i64 s.op, sv s.dfn, u, t]] w (StrsQ (wordsS s) w) := by
  obtain ⟨R, hR⟩ : ∃ R, wordsS s = R := ⟨_, rfl⟩
  rw [hR]
  rw [wordsS_other hs h1] at hR
  obtain ⟨op, d, us, ts⟩ := s
  dsimp only at h1 hd hu ht hlu hlt hs hR ⊢
  subst hd
  rw [if_pos rfl] at hR
  obtain ⟨ua, uc, rfl, -, -⟩ := hu.cell
  obtain ⟨ta, tc, rfl, -, -⟩ := ht.cell
  have HU := Lib.hid hu
  have HT := Lib.hid ht
  obtain ⟨n, hn⟩ : ∃ n, us.length = n := ⟨_, rfl⟩
  obtain ⟨m, hm⟩ : ∃ n, ts.length = n := ⟨_, rfl⟩
  rw [hn] at HU hlu ⊢
  rw [hm] at HT hlt ⊢
  have HN := Lib.hid hn
  have HM := Lib.hid hm
  have hne : (op == 1) = false := by rw [beq_eq_false_iff_ne]; exact h1
  obtain ⟨kw, hkw⟩ : ∃ k, kwOf op = k := ⟨_, rfl⟩
  have K := Lib.hid (fun w => keyword_any op w)
  rw [hkw] at K hR
  have HR := Lib.hid hR
  clear hR
  have OW := Lib.hid (own_new1 (w := w) (T := 9) (sz := 1) (o := .cells #[.int .i64 op, sv [], .slice ua n uc, .slice ta m tc] 118) [sv kw] 1 rfl (by decide))
  have B0 := Lib.hid (((Below.refl w.heap.size w).alloc (Nat.le_refl _) (.cells #[.int .i64 op, sv [], .slice ua n uc, .slice ta m tc] 118)).alloc (by simp) (.cells #[sv kw] 9))
  clear hu ht hn hm h1 hs hkw
  go_enter Tryz.func124, Tryz.ntmps124
  go_wp2_with fail
  refine (K.out _).mono ?_
  rintro e w1 ⟨rfl, rfl⟩
  go_wp2_with fail
  refine (concat_str _ _ (lies_new3 _ _ _) (SliceAt.same (SliceAt.of_owns OW.out) SameT.alloc) (SliceAt.same HU.out (SameT.below (B0.out.alloc B0.out.size _))) (SliceAt.same HT.out (SameT.below (B0.out.alloc B0.out.size _))) rfl (by have := HN.out; simp; omega) (by have := HM.out; simp; omega) rfl (all_sv us) (all_sv ts) (by omega)).mono ?_
  rintro e w2 ⟨a, c, rfl, own2, b2⟩
  have OW2 := Lib.hid own2
  have B2 := Lib.hid ((B0.out.alloc B0.out.size _).trans (b2.mono (by have := B0.out.size; simp; simp at this; omega)))
  clear own2 b2
  go_wp2
  go_ret
  have hl : R.length = 1 + n + m := by rw [← HR.out]; simp [HN.out, HM.out]; omega
  refine ⟨a, c, by rw [hl]; rfl, ?_, B2.out⟩
  have h2 := SliceAt.of_owns OW2.out
  unfold StrsAt
  rw [hl, ← HR.out]
  simpa using h2
set_option maxRecDepth 100000 in
set_option maxHeartbeats 1000000 in
theorem words_other1 {s : PStmt} (hs : stmtB s = true) (h1 : s.op ≠ 1) (hd : s.dfn ≠ []) (u t : Value) (w : World) (hu : StrsAt w u s.uses) (ht : StrsAt w t s.targets) (hlu : s.uses.length ≤ 1000) (hlt : s.targets.length ≤ 1000) :
    Calls Tryz.prog 124 #[.agg #[.int .i64 s.op, sv s.dfn, u, t]] w (StrsQ (wordsS s) w) := by
  obtain ⟨R, hR⟩ : ∃ R, wordsS s = R := ⟨_, rfl⟩
  rw [hR]
  rw [wordsS_other hs h1] at hR
  obtain ⟨op, d, us, ts⟩ := s
  dsimp only at h1 hd hu ht hlu hlt hs hR ⊢
  rw [if_neg hd] at hR
  cases d with
  | nil => exact absurd rfl hd
  | cons c0 r0 =>
  clear hd
  obtain ⟨ua, uc, rfl, -, -⟩ := hu.cell
  obtain ⟨ta, tc, rfl, -, -⟩ := ht.cell
  have HU := Lib.hid hu
  have HT := Lib.hid ht
  obtain ⟨n, hn⟩ : ∃ n, us.length = n := ⟨_, rfl⟩
  obtain ⟨m, hm⟩ : ∃ n, ts.length = n := ⟨_, rfl⟩
  rw [hn] at HU hlu ⊢
  rw [hm] at HT hlt ⊢
  have HN := Lib.hid hn
  have HM := Lib.hid hm
  have hne : (op == 1) = false := by rw [beq_eq_false_iff_ne]; exact h1
  obtain ⟨kw, hkw⟩ : ∃ k, kwOf op = k := ⟨_, rfl⟩
  have K := Lib.hid (fun w => keyword_any op w)
  rw [hkw] at K hR
  have HR := Lib.hid hR
  clear hR
  have OW := Lib.hid (own_new1 (w := w) (T := 9) (sz := 1) (o := .cells #[.int .i64 op, sv (c0 :: r0), .slice ua n uc, .slice ta m tc] 118) [sv kw] 1 rfl (by decide))
  have B0 := Lib.hid (((Below.refl w.heap.size w).alloc (Nat.le_refl _) (.cells #[.int .i64 op, sv (c0 :: r0), .slice ua n uc, .slice ta m tc] 118)).alloc (by simp) (.cells #[sv kw] 9))
  clear hu ht hn hm h1 hs hkw
  go_enter Tryz.func124, Tryz.ntmps124
  go_wp2_with fail
  refine (K.out _).mono ?_
  rintro e w1 ⟨rfl, rfl⟩
  go_wp2_with (at_builtin; refine wpList_pushH [sv (c0 :: r0)] rfl _ _ 30 rfl (w.heap.size + 1) 9 _ 1 16 Tryz.underlying30 info_str rfl (by decide) _ _ _ OW.out rfl _ rfl (by simp) rfl rfl (by unfold maxLen; omega) (by omega) (by simp) ?_; intro g cap w2 own2 g1 g2 g3; have OW2 := Lib.hid own2; have B1 := Lib.hid (B0.out.trans ((Below.of_grown g1 OW.out (by simp)).mono (by omega))); have hbx := ((Below.of_grown g1 OW.out (by simp)).block w.heap.size (by omega)).trans (alloc_blk _ (heap_alloc_new w (.cells #[.int .i64 op, sv (c0 :: r0), .slice ua n uc, .slice ta m tc] 118))); have x2 := (blk_cells hbx).1 2; have x3 := (blk_cells hbx).1 3; clear own2 g1 g2 g3 hbx; simp at x2 x3)
  go_wp2_with fail
  refine (concat_str _ _ (heap_alloc_new _ _) (SliceAt.same (SliceAt.of_owns OW2.out) SameT.alloc) (SliceAt.same HU.out (SameT.below (B1.out.alloc B1.out.size _))) (SliceAt.same HT.out (SameT.below (B1.out.alloc B1.out.size _))) rfl (by have := HN.out; simp; omega) (by have := HM.out; simp; omega) rfl (all_sv us) (all_sv ts) (by omega)).mono ?_
  rintro e w3 ⟨a, c, rfl, own2, b2⟩
  have OW3 := Lib.hid own2
  have B2 := Lib.hid ((B1.out.alloc B1.out.size _).trans (b2.mono (by have := B1.out.size; simp; omega)))
  clear own2 b2
  go_wp2
  go_ret
  have hl : R.length = 1 + 1 + n + m := by rw [← HR.out]; simp [HN.out, HM.out]; omega
  refine ⟨a, c, by rw [hl]; rfl, ?_, B2.out⟩
  have h2 := SliceAt.of_owns OW3.out
  unfold StrsAt
  rw [hl, ← HR.out]
  simpa using h2
theorem words5_any {s : PStmt} (hs : stmtB s = true) (u t : Value) (w : World) (hu : StrsAt w u s.uses) (ht : StrsAt w t s.targets) :
    Calls Tryz.prog 124 #[.agg #[.int .i64 s.op, sv s.dfn, u, t]] w (StrsQ (wordsS s) w) := by
  have hlu : s.uses.length ≤ 1000 ∧ s.targets.length ≤ 1000 := by
    unfold stmtB namesB at hs
    simp only [Bool.and_eq_true, decide_eq_true_eq] at hs
    omega
  by_cases h1 : s.op = 1
  · exact words_assign h1 u t w hu ht hlu.1
  · by_cases hd : s.dfn = []
    · exact words_other0 hs h1 hd u t w hu ht hlu.1 hlu.2
    · exact words_other1 hs h1 hd u t w hu ht hlu.1 hlu.2
end Go.Proofs.YtipnhmdibkkifaaGreatDoor
set_option linter.unusedVariables false
set_option linter.unusedSimpArgs false
set_option linter.unusedSectionVars false
namespace Go.Proofs
open Go.Shelf
def Tryz.lays169_ren : Go.Shelf.Ren := ⟨fun | 169 => 57 | n => n, fun | 70 => 123 | 9 => 9 | 0 => 0 | 72 => 125 | 37 => 22 | 127 => 167 | 3 => 3 | 5 => 5 | n => n, fun | n => n⟩
theorem Tryz.lays169 : Go.Proofs.Lays.n169 Tryz.prog Tryz.lays169_ren := {
  mixed := by kernel_rfl
  f169 := Tryz.func57.trans (congrArg some (by kernel_rfl))
  t0 := Tryz.underlying0
  a0 := Tryz.isAgg0
  z0 := Tryz.sizeOf0
  v0 := Tryz.zeroValue0
  t3 := Tryz.underlying3
  a3 := Tryz.isAgg3
  z3 := Tryz.sizeOf3
  v3 := Tryz.zeroValue3
  t9 := Tryz.underlying9
  a9 := Tryz.isAgg9
  z9 := Tryz.sizeOf9
  v9 := Tryz.zeroValue9
  t37 := Tryz.underlying22
  a37 := Tryz.isAgg22
  z37 := Tryz.sizeOf22
  v37 := Tryz.zeroValue22
  t70 := Tryz.underlying123
  a70 := Tryz.isAgg123
  z70 := Tryz.sizeOf123
  v70 := Tryz.zeroValue123
  t72 := Tryz.underlying125
  a72 := Tryz.isAgg125
  z72 := Tryz.sizeOf125
  v72 := Tryz.zeroValue125
  t127 := Tryz.underlying167
  a127 := Tryz.isAgg167
  z127 := Tryz.sizeOf167
  v127 := Tryz.zeroValue167 }
theorem Tryz.Builder_Extra_169 : Builder.Extra Tryz.prog Tryz.lays169_ren := {
  sizeBuilder := by kernel_rfl
  liesBuilder := by kernel_rfl
  t5 := Tryz.underlying5
  a5 := Tryz.isAgg5
  z5 := Tryz.sizeOf5
  v5 := Tryz.zeroValue5
  infoByte := by kernel_rfl
  cellsByte := by kernel_rfl
  sizeByte := by kernel_rfl
  neB5 := by decide }
def Tryz.lays156_ren : Go.Shelf.Ren := ⟨fun | 156 => 86 | 165 => 125 | 166 => 56 | 169 => 57 | 240 => 87 | 241 => 142 | 276 => 126 | 277 => 160 | n => n, fun | 31 => 30 | 9 => 9 | 3 => 3 | 4 => 4 | 0 => 0 | 20 => 20 | 72 => 125 | 76 => 128 | 70 => 123 | 37 => 22 | 75 => 127 | 127 => 167 | 164 => 211 | 5 => 5 | 80 => 35 | n => n, fun | n => n⟩
theorem Tryz.lays156 : Go.Proofs.Lays.n156 Tryz.prog Tryz.lays156_ren := {
  mixed := by kernel_rfl
  f156 := Tryz.func86.trans (congrArg some (by kernel_rfl))
  f165 := Tryz.func125.trans (congrArg some (by kernel_rfl))
  f166 := Tryz.func56.trans (congrArg some (by kernel_rfl))
  f169 := Tryz.func57.trans (congrArg some (by kernel_rfl))
  f240 := Tryz.func87.trans (congrArg some (by kernel_rfl))
  f241 := Tryz.func142.trans (congrArg some (by kernel_rfl))
  f276 := Tryz.func126.trans (congrArg some (by kernel_rfl))
  f277 := Tryz.func160.trans (congrArg some (by kernel_rfl))
  t0 := Tryz.underlying0
  a0 := Tryz.isAgg0
  z0 := Tryz.sizeOf0
  v0 := Tryz.zeroValue0
  t3 := Tryz.underlying3
  a3 := Tryz.isAgg3
  z3 := Tryz.sizeOf3
  v3 := Tryz.zeroValue3
  t4 := Tryz.underlying4
  a4 := Tryz.isAgg4
  z4 := Tryz.sizeOf4
  v4 := Tryz.zeroValue4
  t9 := Tryz.underlying9
  a9 := Tryz.isAgg9
  z9 := Tryz.sizeOf9
  v9 := Tryz.zeroValue9
  t20 := Tryz.underlying20
  a20 := Tryz.isAgg20
  z20 := Tryz.sizeOf20
  v20 := Tryz.zeroValue20
  t31 := Tryz.underlying30
  a31 := Tryz.isAgg30
  z31 := Tryz.sizeOf30
  v31 := Tryz.zeroValue30
  t37 := Tryz.underlying22
  a37 := Tryz.isAgg22
  z37 := Tryz.sizeOf22
  v37 := Tryz.zeroValue22
  t70 := Tryz.underlying123
  a70 := Tryz.isAgg123
  z70 := Tryz.sizeOf123
  v70 := Tryz.zeroValue123
  t72 := Tryz.underlying125
  a72 := Tryz.isAgg125
  z72 := Tryz.sizeOf125
  v72 := Tryz.zeroValue125
  t75 := Tryz.underlying127
  a75 := Tryz.isAgg127
  z75 := Tryz.sizeOf127
  v75 := Tryz.zeroValue127
  t76 := Tryz.underlying128
  a76 := Tryz.isAgg128
  z76 := Tryz.sizeOf128
  v76 := Tryz.zeroValue128
  t127 := Tryz.underlying167
  a127 := Tryz.isAgg167
  z127 := Tryz.sizeOf167
  v127 := Tryz.zeroValue167
  t164 := Tryz.underlying211
  a164 := Tryz.isAgg211
  z164 := Tryz.sizeOf211
  v164 := Tryz.zeroValue211 }
theorem Tryz.Builder_Extra_156 : Builder.Extra Tryz.prog Tryz.lays156_ren := {
  sizeBuilder := by kernel_rfl
  liesBuilder := by kernel_rfl
  t5 := Tryz.underlying5
  a5 := Tryz.isAgg5
  z5 := Tryz.sizeOf5
  v5 := Tryz.zeroValue5
  infoByte := by kernel_rfl
  cellsByte := by kernel_rfl
  sizeByte := by kernel_rfl
  neB5 := by decide }
open Go.RowKit in
theorem Tryz.strings_Join_none (a : Option Addr) (c : Nat) (sep : ByteArray) (w : World) :
    Calls Tryz.prog 86 #[.slice a 0 c, .string sep] w fun e w' => e = .returned (.string ⟨#[]⟩) ∧ w' = w := Any.strings_Join_none Tryz.lays156 Tryz.Builder_Extra_156 a c sep w
open Go.RowKit in
theorem Tryz.strings_Join (bk o c : Nat) (xs : List ByteArray) (sep : ByteArray) (w : World) (hcells : ∀ (j : Nat) x, xs[j]? = some x → w.cell? ⟨bk, o + j, none⟩ = some (.string x)) (hbk : bk < w.heap.size) (hN : xs.length ≤ 140737488355328) (hcap : xs.length ≤ c) (hlen : (Lib.join (xs.map (·.data.toList)) sep.data.toList).length ≤ 140737488355328) :
    Calls Tryz.prog 86 #[.slice (some ⟨bk, o, none⟩) xs.length c, .string sep] w fun e w' => e = .returned (.string ⟨(Lib.join (xs.map (·.data.toList)) sep.data.toList).toArray⟩) ∧ Below w.heap.size w w' := Any.strings_Join Tryz.lays156 Tryz.Builder_Extra_156 bk o c xs sep w hcells hbk hN hcap hlen
open Go.RowKit in
theorem Tryz.Builder_String_any_k (B b : Nat) (l : List UInt8) (w : World) (h : Lib.IsBuilderF 125 5 B b (Lib.byteCells l) w) (hBw : B ≤ w.heap.size) :
    Calls Tryz.prog 57 #[.pointer (some ⟨b, 0, none⟩)] w fun e w' => e = .returned (.string ⟨l.toArray⟩) ∧ (Lib.IsBuilderF 125 5 B b (Lib.byteCells l) w' ∧ Below B w w' ∧ Lib.OthersKept 5 (some b) w w') := Any.Builder_String_any_k Tryz.lays169 Tryz.Builder_Extra_169 B b l w h hBw
open Go.RowKit in
theorem Tryz.Builder_WriteString_k (B b : Nat) (bs : List Value) (s : ByteArray) (w : World) (h : Lib.IsBuilderF 125 5 B b bs w) (hlen : bs.length + s.size ≤ 140737488355328) (hBw : B ≤ w.heap.size) :
    Calls Tryz.prog 56 #[.pointer (some ⟨b, 0, none⟩), .string s] w fun e w' => e = .returned (.tuple #[.int .i64 s.size, .nilIface]) ∧ (Lib.BuilderAtF 125 5 B b (.pointer (some ⟨b, 0, none⟩)) (bs ++ Lib.strCells s) w' ∧ Below B w w' ∧ Lib.OthersKept 5 (some b) w w') :=
  Any.Builder_WriteString_k { Tryz.lays156 with } Tryz.Builder_Extra_156 B b bs s w h hlen hBw
end Go.Proofs
set_option linter.unusedVariables false
set_option linter.unusedSimpArgs false
set_option linter.unusedSectionVars false
namespace Go.Proofs.YtipnhmdibkkifaaGreatDoor
open Go.RowKit
variable [Base]
def StrQJ (s : Str) (w : World) (e : Ending) (w' : World) : Prop := e = .returned (sv s) ∧ Below w.heap.size w w'
theorem join_any (ls : List Str) (sep : Str) (a : Option Addr) (n c : Nat) (w : World) (hn : ls.length = n) (hN : n ≤ 1000000) (h : StrsAt w (.slice a n c) ls) (hlen : (Lib.join ls sep).length ≤ 140737488355328) :
    Calls Tryz.prog 86 #[.slice a n c, .string ⟨sep.toArray⟩] w (StrQJ (Lib.join ls sep) w) := by
  cases ls with
  | nil =>
    obtain rfl : n = 0 := hn.symm
    refine (Tryz.strings_Join_none a c ⟨sep.toArray⟩ w).mono ?_
    rintro e w' ⟨rfl, rfl⟩
    exact ⟨rfl, Below.refl _ _⟩
  | cons x r =>
    obtain ⟨a1, n1, c1, e1, h1, h2, h3, _, h5⟩ := SliceAt.form h
    injection e1 with e1 e2 e3
    subst e1 e2 e3
    obtain ⟨b, off, rfl, hb, _, hc⟩ := h5 (by rw [← hn]; simp)
    have hm : ((x :: r).map fun l : Str => (⟨l.toArray⟩ : ByteArray)).map (·.data.toList) = x :: r := by
      rw [List.map_map]
      exact (List.map_congr_left fun l _ => by simp).trans (List.map_id _)
    have h6 := Tryz.strings_Join b off c ((x :: r).map fun l : Str => (⟨l.toArray⟩ : ByteArray)) ⟨sep.toArray⟩ w (fun j y hy => by
      rw [List.getElem?_map] at hy
      cases hj : (x :: r)[j]? with
      | none => simp [hj] at hy
      | some l =>
        simp [hj] at hy
        subst hy
        have hlt := (List.getElem?_eq_some_iff.1 hj).1
        rw [hc j (by simpa using hlt), List.getElem?_map, hj]
        rfl) hb (by rw [List.length_map, hn]; omega) (by rw [List.length_map, hn]; exact h3) (by rw [hm]; exact hlen)
    rw [hm, List.length_map, hn] at h6
    exact h6
structure TxIn (w0 : World) (bo : Nat) (acc : List Str) (w : World) : Prop where
  bs : Base.b ≤ bo
  below : Below bo w0 w
  out : ∃ a c, w.heap[bo]? = some (.cells #[.slice a acc.length c] 30 (0, 0)) ∧ w.ownsRow (bo + 1) 9 1 (.slice a acc.length c) acc.length (acc.map sv)
theorem TxIn.lt {w0 : World} {bo : Nat} {acc : List Str} {w : World} (h : TxIn w0 bo acc w) : bo < w.heap.size := by
  obtain ⟨_, _, h1, _⟩ := h.out
  exact lt_heap h1
theorem TxIn.keep {w0 : World} {bo : Nat} {acc : List Str} {w w' : World} (h : TxIn w0 bo acc w) (hb : Below w.heap.size w w') : TxIn w0 bo acc w' := by
  have hlt := h.lt
  obtain ⟨a, c, h1, h2⟩ := h.out
  exact ⟨h.bs, h.below.trans (hb.mono (by omega)), a, c, (hb.block bo hlt).trans h1, ownsRow_below h2 hb⟩
def TxQ (w0 : World) (bo : Nat) (acc : List Str) (w : World) (e : Ending) (w' : World) : Prop :=
  e = .returned (.tuple #[]) ∧ TxIn w0 bo acc w' ∧ w.heap.size ≤ w'.heap.size ∧ ∀ T, T ≠ 9 → T ≠ 30 → SameT T w w'
theorem set1 {w : World} {b : Nat} {a0 : Value} {t : TypeId} {fr : Nat × Nat} (h : w.heap[b]? = some (.cells #[a0] t fr)) (x : Value) : (w.setCell ⟨b, 0, none⟩ x).heap[b]? = some (.cells #[x] t fr) := by
  simp [World.setCell, Array.getElem?_modify, h]
set_option maxHeartbeats 1000000 in
theorem texts1_any {w0 : World} {bo : Nat} {acc : List Str} {w : World} (h : TxIn w0 bo acc w) (ws : List Str) (a : Option Addr) (n c : Nat) (hn : ws.length = n) (hN : n ≤ 1000000) (hw : StrsAt w (.slice a n c) ws) (hlen : (Lib.join ws [32]).length ≤ 1000000) (hacc : acc.length ≤ 1000000) :
    Calls Tryz.prog 85 #[.slice a n c, .pointer (some ⟨bo, 0, none⟩)] w (TxQ w0 bo (acc ++ [Lib.join ws [32]]) w) := by
  obtain ⟨oa, oc, hout, hown⟩ := h.out
  have H := Lib.hid h
  have hlt := lt_heap hout
  have hbs := h.bs
  obtain ⟨m, hm⟩ : ∃ m, acc.length = m := ⟨_, rfl⟩
  rw [hm] at hout hown hacc
  have HM := Lib.hid hm
  have OW := Lib.hid hown
  have HO := Lib.hid hout
  have c1 : w.cell? ⟨bo, 0, none⟩ = some (.slice oa m oc) := by have := (blk_cells hout).1 0; simpa using this
  obtain ⟨x, hx⟩ : ∃ x, Lib.join ws [32] = x := ⟨_, rfl⟩
  have J := Lib.hid (fun k => join_any ws [32] a n c (w.drewN k) hn hN hw (by omega))
  rw [hx] at J hlen ⊢
  clear h hm hown hout hw hx
  go_enter Tryz.func85, Tryz.ntmps85
  go_wp2_with fail
  refine wp_region_D (S := fun w' => w'.cell? ⟨bo, 0, none⟩ = some (.slice oa m oc)) (st := 5) (by kernel_rfl) ?_
  refine wpAnyT_pure 0 ?z1 rfl (by kernel_rfl) (by kernel_rfl) (by kernel_rfl) (by kernel_rfl) (fun _ _ _ h => h) c1 rfl ?rz1 ?sz1
  case rz1 => intro w hS; go_simp; rfl
  case sz1 =>
  refine wpAnyT_pure 1 ?z2 rfl (by kernel_rfl) (by kernel_rfl) (by kernel_rfl) (by kernel_rfl) (fun _ _ _ h => h) c1 rfl ?rz2 ?sz2
  case rz2 => intro w hS; go_simp; rfl
  case sz2 =>
  refine wpAnyT_all (rs := [2]) (by kernel_rfl) (by decide) ?_
  intro i hi
  obtain rfl : i = 2 := by simpa using hi
  clear hi
  refine wpOp_of_list rfl ?_
  go_wp2_with fail
  refine (J.out 1).mono ?_
  rintro e w2 ⟨rfl, b2⟩
  have B2 : Hid (Below w.heap.size w w2) := ⟨b2.os, b2.tape, b2.output, b2.size, b2.block⟩
  clear b2 c1
  have c1 : w2.cell? ⟨bo, 0, none⟩ = some (.slice oa m oc) := by have := (blk_cells ((B2.out.block bo hlt).trans HO.out)).1 0; simpa using this
  have hlt2 : bo < w2.heap.size := Nat.lt_of_lt_of_le hlt B2.out.size
  go_wp2
  refine ⟨fun _ => c1, ?_⟩
  refine wpAnyT_all (rs := [3]) (by kernel_rfl) (by decide) ?_
  intro i hi
  obtain rfl : i = 3 := by simpa using hi
  clear hi
  refine wpOp_of_list rfl ?_
  have c1a : (w2.alloc (.cells #[sv x] 9)).cell? ⟨bo, 0, none⟩ = some (.slice oa m oc) := (((Below.refl w2.heap.size w2).alloc (Nat.le_refl _) _).cell (p := ⟨bo, 0, none⟩) hlt2).trans c1
  go_wp2
  refine ⟨fun _ => c1a, ?_⟩
  refine wpAnyT_all (rs := [4]) (by kernel_rfl) (by decide) ?_
  intro i hi
  obtain rfl : i = 4 := by simpa using hi
  clear hi
  refine wpOp_of_list rfl ?_
  refine wpList_pushH [sv x] rfl _ _ 30 rfl (bo + 1) 9 _ 1 16 Tryz.underlying30 info_str rfl (by omega) _ m _ (ownsRow_below OW.out B2.out) rfl _ rfl (by simp) rfl rfl (by unfold maxLen; omega) (by omega) (by omega) ?_
  intro g cap w3 own3 g1 g2 g3
  have OW2 := Lib.hid (ownsRow_below OW.out B2.out)
  have B3 := Lib.hid (Below.of_grown g1 OW2.out (by omega))
  have OW3 := Lib.hid own3
  have hb3 := Lib.hid ((B3.out.block bo (Nat.lt_succ_self _)).trans ((B2.out.block bo hlt).trans HO.out))
  have S3 : Hid (∀ T, T ≠ 9 → SameT T w2 w3) := fun T hT => SameT.grown g1 OW2.out hT
  have hz3 := Nat.le_trans B2.out.size g1.size
  clear own3 g1 g2 g3 c1 c1a
  have c1 : w3.cell? ⟨bo, 0, none⟩ = some (.slice oa m oc) := by have := (blk_cells hb3.out).1 0; simpa using this
  have cf := (blk_cells hb3.out).2 0
  go_wp2
  refine ⟨fun _ => c1, ?_⟩
  refine wpAnyT_all (rs := [5]) (by kernel_rfl) (by decide) ?_
  intro i hi
  obtain rfl : i = 5 := by simpa using hi
  clear hi
  refine wpOp_of_list rfl ?_
  go_wp2
  refine ⟨fun h => absurd rfl h, ?_⟩
  refine wpAnyT_done (by kernel_rfl) ?_ _
  clear c1 cf
  go_wp2
  go_end0
  refine ⟨rfl, ⟨hbs, ?_, some ⟨g, 0, none⟩, cap, ?_, ?_⟩, by simpa using hz3, fun T h1 h2 => ?_⟩
  · exact ((H.out.below.trans (B2.out.mono (by omega))).trans (B3.out.mono (by omega))).setCell (by show bo ≤ bo; omega) _
  · rw [List.length_append, HM.out]
    have := set1 hb3.out (.slice (some ⟨g, 0, none⟩) (m + 1) cap)
    exact this
  · rw [List.length_append, List.map_append, HM.out]
    exact ownsRow_setCell_below OW3.out (by show bo < bo + 1; omega) _
  · exact ((SameT.below B2.out).trans (S3.out T h1)).trans (SameT.setCell (U := 30) (tyAt_of hb3.out) h2)
end Go.Proofs.YtipnhmdibkkifaaGreatDoor
