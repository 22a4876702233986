/- A part of the proof. -/
import Derived.Test.YtipnhmdibkkifaaGreatDoorNu30
import Derived.Deep.RegionHeld3
import Derived.Deep.DrawnRows
import Derived.Lib.Strings
set_option linter.unusedVariables false
set_option linter.unusedSimpArgs false
set_option linter.unusedVariables false
set_option linter.unusedSimpArgs false
set_option linter.unusedSectionVars false
namespace Go.Proofs.YtipnhmdibkkifaaGreatDoor
open Go.RowKit
variable [Base]
set_option maxHeartbeats 1000000 in
theorem scan_comment (s : ByteArray) (w0 : World) (B : Nat) (R : Scanned) (w : World) (u : Nat → Value) (toks : List Tok) (i line start : Nat) (hi : i < s.size)
    (hsc : Sc w0 w B toks i line start false) (hbd : Bd s toks i line start false) (HC : Hid (s[i].toNat ≠ 10))
    (hR : Hid (lex ((s.data.toList.drop i).dropWhile fun b => b.toNat != 10) line ((i : Int) - start + 1 + (((s.data.toList.drop i).takeWhile fun b => b.toNat != 10).length : Int)) false toks = R)) :
    (behind scanBody 1).wp Tryz.prog (jumps (fun l a w => ∃ m', m' < 3 * (s.size - i) ∧ ScJ s w0 B R l m' a w) (bodyPost Tryz.prog Tryz.f21 (ScanPost w0 R))) (fr s B u) w := by
  have c1 := cell_blk hsc.at_
  have f1 := free_blk (o := 0) hsc.at_
  have b1 := hbd.size
  have b2 := hbd.start
  have b3 := hbd.toks
  have b4 := hbd.line
  have hS := Lib.hid hsc
  have hD := Lib.hid (drop_cons s i hi)
  clear hsc hbd
  have t1 : (((s[i]).toNat : Int) != 10) = true := by simp; have := HC.out; omega
  conv => arg 2; whnf
  unfold fr
  go_wp2
  go_step3
  simp only [Exit.then, Exit.inBlock, jumps]
  have hn : (s[i].toNat != 10) = true := by simpa using HC.out
  have hd2 : (s.data.toList.drop i).dropWhile (fun b => b.toNat != 10) = (s.data.toList.drop (i + 1)).dropWhile (fun b => b.toNat != 10) := by
    rw [hD.out, List.dropWhile_cons, if_pos hn]
  have hd3 : ((s.data.toList.drop i).takeWhile (fun b => b.toNat != 10)).length = ((s.data.toList.drop (i + 1)).takeWhile (fun b => b.toNat != 10)).length + 1 := by
    rw [hD.out, List.takeWhile_cons, if_pos hn, List.length_cons]
  have hm : 3 * (s.size - (i + 1)) + (if more s (i + 1) then 0 else 2) < 3 * (s.size - i) := by split <;> omega
  refine ⟨_, hm, rfl, _, i + 1, line, start, false, hS.out.setAt _, ⟨b1, by omega, by omega, by omega, by simp at b3 ⊢; omega⟩, rfl, ?_, rfl⟩
  rw [← hR.out, hd2, hd3]
  congr 1
  omega
set_option maxHeartbeats 1000000 in
theorem scan_uncomment (s : ByteArray) (w0 : World) (B : Nat) (R : Scanned) (w : World) (u : Nat → Value) (toks : List Tok) (i line start : Nat)
    (hsc : Sc w0 w B toks i line start false) (hbd : Bd s toks i line start false) (HC : Hid (i = s.size ∨ ∃ h : i < s.size, s[i].toNat = 10))
    (hR : Hid (lex ((s.data.toList.drop i).dropWhile fun b => b.toNat != 10) line ((i : Int) - start + 1 + (((s.data.toList.drop i).takeWhile fun b => b.toNat != 10).length : Int)) false toks = R)) :
    (behind scanBody 1).wp Tryz.prog (jumps (fun l a w => ∃ m', m' < 3 * (s.size - i) + 2 ∧ ScJ s w0 B R l m' a w) (bodyPost Tryz.prog Tryz.f21 (ScanPost w0 R))) (fr s B u) w := by
  have c1 := cell_blk hsc.at_
  have f1 := free_blk (o := 0) hsc.at_
  have b1 := hbd.size
  have b0 := hbd.at_
  have b2 := hbd.start
  have b3 := hbd.toks
  have b4 := hbd.line
  have hS := Lib.hid hsc
  clear hsc hbd
  have hd2 : (s.data.toList.drop i).dropWhile (fun b => b.toNat != 10) = s.data.toList.drop i ∧ (s.data.toList.drop i).takeWhile (fun b => b.toNat != 10) = [] := by
    rcases HC.out with h | ⟨h, hc⟩
    · rw [drop_end s i (by omega)]; exact ⟨rfl, rfl⟩
    · rw [drop_cons s i h, List.dropWhile_cons, List.takeWhile_cons, if_neg (by simp [hc]), if_neg (by simp [hc])]
      exact ⟨rfl, rfl⟩
  have H2 := Lib.hid hd2
  clear hd2
  by_cases hi : i < s.size
  · have t1 : (((s[i]).toNat : Int) != 10) = false := by
      rcases HC.out with h | ⟨h, hc⟩
      · omega
      · simp; omega
    conv => arg 2; whnf
    unfold fr
    go_wp2
    go_step3
    simp only [Exit.then, Exit.inBlock, jumps]
    refine ⟨3 * (s.size - i) + 1, by omega, rfl, _, i, line, start, false, hS.out, ⟨b1, by omega, by omega, by omega, b3⟩, ?_, rfl⟩
    rw [← hR.out, H2.out.1, H2.out.2]
    simp
  · conv => arg 2; whnf
    unfold fr
    go_wp2
    go_step3
    simp only [Exit.then, Exit.inBlock, jumps]
    refine ⟨3 * (s.size - i) + 1, by omega, rfl, _, i, line, start, false, hS.out, ⟨b1, by omega, by omega, by omega, b3⟩, ?_, rfl⟩
    rw [← hR.out, H2.out.1, H2.out.2]
    simp
theorem takeWhile_len {α : Type} (p : α → Bool) : ∀ l : List α, (l.takeWhile p).length ≤ l.length
  | [] => by simp
  | x :: l => by
    rw [List.takeWhile_cons]
    split
    · have := takeWhile_len p l
      simp only [List.length_cons]; omega
    · simp
theorem take_takeWhile {α : Type} (p : α → Bool) : ∀ l : List α, l.take (l.takeWhile p).length = l.takeWhile p
  | [] => rfl
  | x :: l => by
    rw [List.takeWhile_cons]
    split
    · simp [take_takeWhile p l]
    · simp
theorem drop_takeWhile {α : Type} (p : α → Bool) : ∀ l : List α, l.drop (l.takeWhile p).length = l.dropWhile p
  | [] => rfl
  | x :: l => by
    rw [List.takeWhile_cons, List.dropWhile_cons]
    split
    · simp [drop_takeWhile p l]
    · simp
theorem token_str {w0 w : World} {B : Nat} {toks : List Tok} {i line start : Int} {op : Bool} (h : Sc w0 w B toks i line start op) (kind : Int) (s : ByteArray)
    (hn : toks.length ≤ 1000000) (h1 : 0 ≤ i - start) (h2 : i - start ≤ 1000000) :
    Calls Tryz.prog 33 #[.int .i64 kind, .string s, .pointer (some ⟨B, 0, none⟩), .pointer (some ⟨B + 2, 0, none⟩), .pointer (some ⟨B + 1, 0, none⟩), .pointer (some ⟨B + 3, 0, none⟩), .pointer (some ⟨B + 4, 0, none⟩)] w
      (ScPost w0 B (toks ++ [⟨kind, s.data.toList, line, i - start + 1⟩]) i line start (kind != 3)) :=
  token_any h kind s.data.toList hn h1 h2
set_option maxHeartbeats 1000000 in
theorem scan_word (s : ByteArray) (w0 : World) (B : Nat) (R : Scanned) (w : World) (u : Nat → Value) (toks : List Tok) (i line start : Nat) (op : Bool) (hB : Hid (w0.heap.size = B)) (hi : i < s.size)
    (hsc : Sc w0 w B toks i line start op) (hbd : Bd s toks i line start op) (HC : Hid (partB s[i] = true))
    (hR : Hid (R = lex (s.data.toList.drop i) line ((i : Int) - start + 1) op toks)) :
    (behind scanBody 2).wp Tryz.prog (jumps (fun l a w => ∃ m', m' < 3 * (s.size - i) ∧ ScJ s w0 B R l m' a w) (bodyPost Tryz.prog Tryz.f21 (ScanPost w0 R))) (fr s B u) w := by
  have c1 := cell_blk hsc.at_
  have c2 := cell_blk hsc.line
  have c3 := cell_blk hsc.start
  have c5 := cell_blk hsc.clos
  have f1 := free_blk (o := 0) hsc.at_
  have b1 := hbd.size
  have b0 := hbd.at_
  have b2 := hbd.start
  have b3 := hbd.toks
  have b4 := hbd.line
  have hS := Lib.hid hsc
  have hD := Lib.hid (drop_cons s i hi)
  clear hsc hbd
  obtain ⟨n, hn⟩ : ∃ n, wlen s i = n := ⟨_, rfl⟩
  have hlen : n ≤ s.size - i := by
    rw [← hn]; unfold wlen
    have := takeWhile_len partB (s.data.toList.drop i)
    simp at this
    exact this
  have hW : ∀ w, Calls Tryz.prog 20 #[.string s, .int .i64 i] w fun e w' => e = .returned (.int .i64 ((i : Int) + n)) ∧ w' = w := by
    intro w
    have := wordEnd_any s i w (by unfold maxLen; omega) (by omega)
    rw [hn] at this
    exact this
  have hT : (s.extract i (i + n)).data.toList = (s.data.toList.drop i).takeWhile partB := by
    rw [← take_takeWhile, show ((s.data.toList.drop i).takeWhile partB).length = n from hn, Lib.extract_data, Nat.add_sub_cancel_left]
  have hN := Lib.hid hn
  have HW := Lib.hid hW
  have HT := Lib.hid hT
  clear hn hW hT
  cases hd : isDig (s[i].toNat : Int)
  · by_cases hl : n ≤ 16
    · have q0 : (0 : Int) ≤ (i : Int) := by omega
      have q1 : (i : Int) ≤ (i : Int) + (n : Int) := by omega
      have q2 : (i : Int) + (n : Int) ≤ (s.size : Int) := by omega
      conv => arg 2; whnf
      unfold fr
      go_wp2_with (first | (go_at_call 20; refine (HW.out _).mono ?_; rintro e w1 ⟨rfl, rfl⟩) | (go_at_call 36; refine (digit_any _ _).mono ?_; rintro e w1 ⟨rfl, rfl⟩))
      go_region_held3 (fun w' => w'.cell? ⟨B + 1, 0, none⟩ = some (.int .i64 i) ∧ w'.cell? ⟨B + 5, 0, none⟩ = some (.func (.func 33) #[] #[.pointer (some ⟨B, 0, none⟩), .pointer (some ⟨B + 2, 0, none⟩), .pointer (some ⟨B + 1, 0, none⟩), .pointer (some ⟨B + 3, 0, none⟩), .pointer (some ⟨B + 4, 0, none⟩)])) (go_keep)
        (first | (go_at_call 33; refine (token_str (hS.out.drew) 1 _ (by omega) (by omega) (by omega)).mono ?_; rintro e w1 ⟨rfl, hsc⟩; have d1 := cell_blk hsc.at_; have d5 := cell_blk hsc.clos; have g1 := free_blk (o := 0) hsc.at_; have hS1 := Lib.hid hsc; clear hsc))
      go_wp2
      go_step3
      try simp only [Exit.then, Exit.inBlock, jumps]
      have h1 := hS1.out
      have hx : ((i : Int) + (n : Int)).toNat = i + n := by omega
      rw [hx, HT.out] at h1
      have hn1 : 1 ≤ n := by
        have h2 := wlen_yes s i hi HC.out
        have h3 := hN.out
        omega
      have hl2 : ¬ 16 < ((s[i] :: s.data.toList.drop (i + 1)).takeWhile partB).length := by
        rw [← hD.out]; have := hN.out; unfold wlen at this; omega
      have hcol : ((List.takeWhile partB (s[i] :: List.drop (i + 1) s.data.toList)).length : Int) = n := by
        rw [← hD.out]; have := hN.out; unfold wlen at this; omega
      have hdrop : List.dropWhile partB (s[i] :: List.drop (i + 1) s.data.toList) = List.drop (i + n) s.data.toList := by
        rw [← hD.out, ← drop_takeWhile, show ((s.data.toList.drop i).takeWhile partB).length = n from hN.out, List.drop_drop]
      refine ⟨3 * (s.size - (i + n)) + 1, by omega, rfl, _, i + n, line, start, true, h1.setAt _, ⟨b1, by omega, by omega, by omega, by simp; omega⟩, ?_, rfl⟩
      rw [hR.out]
      conv => rhs; rw [hD.out]
      rw [lex_word HC.out hd hl2, hcol, hdrop, ← hD.out]
      congr 1
      omega
    · conv => arg 2; whnf
      unfold fr
      go_wp2_with (first | (go_at_call 20; refine (HW.out _).mono ?_; rintro e w1 ⟨rfl, rfl⟩) | (go_at_call 36; refine (digit_any _ _).mono ?_; rintro e w1 ⟨rfl, rfl⟩))
      go_quiet (fail)
      go_wp2
      simp only [Exit.then, Exit.inBlock, jumps]
      refine bodyPost_ret (results_tmp4 rfl _ _ _) rfl ?_
      have hl2 : 16 < ((s[i] :: s.data.toList.drop (i + 1)).takeWhile partB).length := by
        rw [← hD.out]; have := hN.out; unfold wlen at this; omega
      rw [hR.out, hD.out, lex_long HC.out hd hl2]
      exact ⟨_, rfl, SliceAt.nil, by rw [hB.out]; exact (hS.out.drewN _).below⟩
  · conv => arg 2; whnf
    unfold fr
    go_wp2_with (first | (go_at_call 20; refine (HW.out _).mono ?_; rintro e w1 ⟨rfl, rfl⟩) | (go_at_call 36; refine (digit_any _ _).mono ?_; rintro e w1 ⟨rfl, rfl⟩))
    go_quiet (fail)
    go_wp2
    simp only [Exit.then, Exit.inBlock, jumps]
    refine bodyPost_ret (results_tmp4 rfl _ _ _) rfl ?_
    rw [hR.out, hD.out, lex_digit HC.out hd]
    exact ⟨_, rfl, SliceAt.nil, by rw [hB.out]; exact (hS.out.drewN _).below⟩
theorem scan_pass (s : ByteArray) (w0 : World) (B : Nat) (R : Scanned) (hB : Hid (w0.heap.size = B)) (l m : Nat) (a : Act) (w : World) (hJ : ScJ s w0 B R l m a w) :
    (behind scanBody l).wp Tryz.prog (jumps (fun l a w => ∃ m', m' < m ∧ ScJ s w0 B R l m' a w) (bodyPost Tryz.prog Tryz.f21 (ScanPost w0 R))) a w := by
  obtain ⟨ha, toks, i, line, start, op, hsc, hbd, hl⟩ := hJ
  rw [ha]
  generalize slots a = u
  match l, hl with
  | 0, hl =>
    obtain ⟨hR, rfl⟩ := hl
    by_cases hi : i < s.size
    · by_cases h1 : s[i].toNat = 32
      · exact scan_space s w0 B R w u toks i line start op hB hsc hbd hi h1 hR.symm
      by_cases h2 : s[i].toNat = 9
      · exact scan_tab s w0 B R w u toks i line start op hB hsc hbd hi h2 hR.symm
      by_cases h3 : s[i].toNat = 59
      · exact scan_semi s w0 B R w u toks i line start op hB hsc hbd hi h3 hR.symm
      by_cases h4 : s[i].toNat = 35
      · exact scan_hash s w0 B R w u toks i line start op hB hsc hbd hi h4 hR.symm
      by_cases h5 : s[i].toNat = 10
      · exact scan_line s w0 B R w u toks i line start op hB hsc hbd hi h5 hR.symm
      by_cases h6 : s[i].toNat = 61
      · exact scan_equal s w0 B R w u toks i line start op hB hsc hbd hi h6 hR.symm
      cases hp : isPart (s[i].toNat : Int)
      · exact scan_other s w0 B R w u toks i line start op hB hsc hbd hi ⟨⟨h1, h2, h3, h4, h5, h6⟩, hp⟩ hR.symm
      · exact scan_part s w0 B R w u toks i line start op hB hsc hbd hi ⟨⟨h1, h2, h3, h4, h5, h6⟩, hp⟩ hR.symm
    · have hi2 : i = s.size := by have := hbd.at_; omega
      subst hi2
      exact scan_end s w0 B R _ w u toks line start op hB hsc hbd (by rw [← hR, drop_end s s.size (Nat.le_refl _), lex_nil]; exact rfl)
  | 1, hl =>
    obtain ⟨rfl, hR, rfl⟩ := hl
    by_cases hm : ∃ h : i < s.size, s[i].toNat ≠ 10
    · obtain ⟨hi, hc⟩ := hm
      have hmore : more s i = true := by unfold more; rw [drop_cons s i hi]; simpa using hc
      rw [hmore]
      exact scan_comment s w0 B R w u toks i line start hi hsc hbd hc hR
    · have hmore : more s i = false := by
        unfold more
        by_cases hi : i < s.size
        · rw [drop_cons s i hi]
          have : s[i].toNat = 10 := Classical.byContradiction fun h => hm ⟨hi, h⟩
          simp [this]
        · rw [drop_end s i (by omega)]
      rw [hmore]
      refine scan_uncomment s w0 B R w u toks i line start hsc hbd ?_ hR
      by_cases hi : i < s.size
      · exact .inr ⟨hi, Classical.byContradiction fun h => hm ⟨hi, h⟩⟩
      · exact .inl (by have := hbd.at_; omega)
  | 2, hl =>
    obtain ⟨hR, ⟨c, r, hc, hp⟩, rfl⟩ := hl
    have hi : i < s.size := by
      rcases Nat.lt_or_ge i s.size with h | h
      · exact h
      · rw [drop_end s i h] at hc; cases hc
    rw [drop_cons s i hi] at hc
    injection hc with hc1 hc2
    exact scan_word s w0 B R w u toks i line start op hB hi hsc hbd (by rw [hc1]; exact hp) hR.symm
theorem wp_skip_seq {P : Program} {c : Code} {Q : Exit → Act → World → Prop} {a : Act} {w : World} (h : c.wp P Q a w) : (Code.seq .skip c).wp P Q a w := by
  refine wp_seq (wp_skip ?_)
  exact h
theorem scan_big (s : ByteArray) (w : World) (hs : 4096 < s.size) :
    Calls Tryz.prog 21 #[.string s] w (ScanPost w ⟨[], 0, 0, 7⟩) := by
  go_enter Tryz.func21, Tryz.ntmps21
  go_wp2
  go_step3
  go_wp2
  try simp only [Exit.then, Exit.inBlock, Exit.noGoto]
  refine bodyPost_ret (results_tmp4 rfl _ _ _) rfl ?_
  exact ⟨_, rfl, SliceAt.nil, Below.refl _ _⟩
theorem sc_start (w : World) :
    Sc w ((((((w.alloc (.cells #[.slice none 0 0] 65)).alloc (.cells #[.int .i64 0] 3)).alloc (.cells #[.int .i64 1] 3)).alloc (.cells #[.int .i64 0] 3)).alloc (.cells #[.bool false] 4)).alloc
      (.cells #[.func (.func 33) #[] #[.pointer (some ⟨w.heap.size, 0, none⟩), .pointer (some ⟨w.heap.size + 1 + 1, 0, none⟩), .pointer (some ⟨w.heap.size + 1, 0, none⟩), .pointer (some ⟨w.heap.size + 1 + 1 + 1, 0, none⟩), .pointer (some ⟨w.heap.size + 1 + 1 + 1 + 1, 0, none⟩)]] 93))
      w.heap.size [] 0 1 0 false := by
  have hh (x : World) (o : Obj) (k : Nat) (h : k < x.heap.size) := Below.heap_alloc x o k h
  have hn (x : World) (o : Obj) (k : Nat) (h : k = x.heap.size) : (x.alloc o).heap[k]? = some o := by rw [h]; exact heap_alloc_new x o
  constructor
  · refine ⟨.slice none 0 0, 0, ?_, World.ownsRow_nil _ _ _ _⟩
    rw [hh _ _ _ (by simp <;> omega), hh _ _ _ (by simp <;> omega), hh _ _ _ (by simp <;> omega), hh _ _ _ (by simp <;> omega), hh _ _ _ (by simp), hn _ _ _ rfl]
  · rw [hh _ _ _ (by simp <;> omega), hh _ _ _ (by simp <;> omega), hh _ _ _ (by simp <;> omega), hh _ _ _ (by simp), hn _ _ _ (by simp)]
  · rw [hh _ _ _ (by simp <;> omega), hh _ _ _ (by simp <;> omega), hh _ _ _ (by simp), hn _ _ _ (by simp)]
  · rw [hh _ _ _ (by simp <;> omega), hh _ _ _ (by simp), hn _ _ _ (by simp)]
  · rw [hh _ _ _ (by simp), hn _ _ _ (by simp)]
  · rw [hn _ _ _ (by simp)]
  · exact ((((((Below.refl _ _).alloc (by simp) _).alloc (by simp) _).alloc (by simp <;> omega) _).alloc (by simp <;> omega) _).alloc (by simp <;> omega) _).alloc (by simp <;> omega) _
theorem scan_labels (l m : Nat) (s : ByteArray) (w0 : World) (B : Nat) (R : Scanned) (a : Act) (w : World) (hJ : ScJ s w0 B R l m a w) : findLabel scanBody l = some (.seq .skip (behind scanBody l)) := by
  obtain ⟨ha, toks, i, line, start, op, hsc, hbd, hl⟩ := hJ
  match l, hl with
  | 0, _ => rfl
  | 1, _ => rfl
  | 2, _ => rfl
set_option maxHeartbeats 1000000 in
theorem scan_small (s : ByteArray) (w : World) (hs : s.size ≤ 4096) :
    Calls Tryz.prog 21 #[.string s] w (ScanPost w (lex s.data.toList 1 1 false [])) := by
  go_enter Tryz.func21, Tryz.ntmps21
  go_wp2
  refine wp_scope_labels (ScJ s w w.heap.size (lex s.data.toList 1 1 false [])) (3 * (s.size - 0) + 1) ?_ ?_
  · go_wp2
    refine wp_label ?_
    simp only [Exit.then]
    rename_i hK
    refine hK _ _ ?_
    exact scan_pass s w w.heap.size (lex s.data.toList 1 1 false []) rfl 0 _ _ _ ⟨rfl, [], 0, 1, 0, false, sc_start w, ⟨hs, by omega, by omega, by omega, by simp⟩, rfl, rfl⟩
  · intro l m a w' hJ
    exact ⟨_, scan_labels l m s w w.heap.size _ a w' hJ, wp_skip_seq (scan_pass s w w.heap.size _ rfl l m a w' hJ)⟩
theorem scan_any (s : ByteArray) (w : World) : Calls Tryz.prog 21 #[.string s] w (ScanPost w (scanned s.data.toList)) := by
  have hl : s.data.toList.length = s.size := by simp
  unfold scanned
  rw [hl]
  split
  · rename_i h; exact scan_big s w h
  · rename_i h; exact scan_small s w (by omega)
end Go.Proofs.YtipnhmdibkkifaaGreatDoor
set_option linter.unusedVariables false
set_option linter.unusedSimpArgs false
set_option linter.unusedSectionVars false
namespace Go.Proofs.YtipnhmdibkkifaaGreatDoor
open Go.RowKit
variable [Base]
def ScanIs (w0 : World) (toks : List Tok) (n : Nat) (line col err : Int) (e : Ending) (w' : World) : Prop :=
  ∃ a c, e = .returned (.tuple #[.slice a n c, .int .i64 line, .int .i64 col, .int .i64 err]) ∧ Hid (TokensAt w' (.slice a n c) toks) ∧ Hid (Below w0.heap.size w0 w')
theorem scanIs_of {w0 w' : World} {R : Scanned} {e : Ending} (h : ScanPost w0 R e w') : ScanIs w0 R.toks R.toks.length R.line R.col R.err e w' := by
  obtain ⟨v, rfl, ht, hb⟩ := h
  obtain ⟨a, c, rfl, _⟩ := ht.form
  exact ⟨a, c, rfl, ht, hb⟩
theorem scan_is (s : ByteArray) (w : World) (toks : List Tok) (n : Nat) (line col err : Int) (h : scanned s.data.toList = ⟨toks, line, col, err⟩) (hn : toks.length = n) :
    Calls Tryz.prog 21 #[.string s] w (ScanIs w toks n line col err) := by
  refine (scan_any s w).mono fun e w' hp => ?_
  have h1 := scanIs_of hp
  rw [h] at h1
  rw [← hn]
  exact h1
end Go.Proofs.YtipnhmdibkkifaaGreatDoor
