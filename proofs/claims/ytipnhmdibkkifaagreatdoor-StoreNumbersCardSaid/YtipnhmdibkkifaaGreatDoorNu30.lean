/- A part of the proof. -/
import Derived.Test.YtipnhmdibkkifaaGreatDoorNu29
set_option linter.unusedVariables false
set_option linter.unusedSimpArgs false
set_option linter.unusedVariables false
set_option linter.unusedSimpArgs false
set_option linter.unusedSectionVars false
namespace Go.Proofs.YtipnhmdibkkifaaGreatDoor
open Go.RowKit
variable [Base]
theorem fin_len (op : Bool) (line col : Int) (toks : List Tok) : (fin op line col toks).length = toks.length + (if op then 1 else 0) := by
  unfold fin; cases op <;> simp
set_option maxHeartbeats 1000000 in
theorem scan_space (s : ByteArray) (w0 : World) (B : Nat) (R : Scanned) (w : World) (u : Nat → Value) (toks : List Tok) (i line start : Nat) (op : Bool) (hB : Hid (w0.heap.size = B))
    (hsc : Sc w0 w B toks i line start op) (hbd : Bd s toks i line start op) (hi : i < s.size) (HC : Hid (s[i].toNat = 32)) (hR : Hid (R = lex (s.data.toList.drop i) line ((i : Int) - start + 1) op toks)) :
    (behind scanBody 0).wp Tryz.prog (jumps (fun l a w => ∃ m', m' < 3 * (s.size - i) + 1 ∧ ScJ s w0 B R l m' a w) (bodyPost Tryz.prog Tryz.f21 (ScanPost w0 R))) (fr s B u) w := by
  have c1 := cell_blk hsc.at_
  have c2 := cell_blk hsc.line
  have c3 := cell_blk hsc.start
  have c5 := cell_blk hsc.clos
  have f1 := free_blk (o := 0) hsc.at_
  have f2 := free_blk (o := 0) hsc.line
  have f3 := free_blk (o := 0) hsc.start
  have b1 := hbd.size
  have b2 := hbd.start
  have b3 := hbd.toks
  have b4 := hbd.line
  have hS := Lib.hid hsc
  have hD := Lib.hid (drop_cons s i hi)
  clear hsc hbd
  have ts : ((i : Int) == (s.size : Int)) = false := by simp; omega
  have t32 : (((s[i]).toNat : Int) == 32) = true := by simp; have := HC.out; omega
  conv => arg 2; whnf
  unfold fr
  go_wp2_with fail
  go_step3
  simp only [Exit.then, Exit.inBlock, jumps]
  refine ⟨3 * (s.size - (i + 1)) + 1, by omega, rfl, toks, i + 1, line, start, op, hS.out.setAt _, ⟨b1, by omega, by omega, by omega, by omega⟩, ?_, rfl⟩
  rw [hR.out, hD.out, lex_space (by have := HC.out; omega)]
  rw [show (((i + 1 : Nat) : Int) - start + 1) = (i : Int) - start + 1 + 1 from by omega]
set_option maxHeartbeats 1000000 in
theorem scan_tab (s : ByteArray) (w0 : World) (B : Nat) (R : Scanned) (w : World) (u : Nat → Value) (toks : List Tok) (i line start : Nat) (op : Bool) (hB : Hid (w0.heap.size = B))
    (hsc : Sc w0 w B toks i line start op) (hbd : Bd s toks i line start op) (hi : i < s.size) (HC : Hid (s[i].toNat = 9)) (hR : Hid (R = lex (s.data.toList.drop i) line ((i : Int) - start + 1) op toks)) :
    (behind scanBody 0).wp Tryz.prog (jumps (fun l a w => ∃ m', m' < 3 * (s.size - i) + 1 ∧ ScJ s w0 B R l m' a w) (bodyPost Tryz.prog Tryz.f21 (ScanPost w0 R))) (fr s B u) w := by
  have c1 := cell_blk hsc.at_
  have c2 := cell_blk hsc.line
  have c3 := cell_blk hsc.start
  have c5 := cell_blk hsc.clos
  have f1 := free_blk (o := 0) hsc.at_
  have f2 := free_blk (o := 0) hsc.line
  have f3 := free_blk (o := 0) hsc.start
  have b1 := hbd.size
  have b2 := hbd.start
  have b3 := hbd.toks
  have b4 := hbd.line
  have hS := Lib.hid hsc
  have hD := Lib.hid (drop_cons s i hi)
  clear hsc hbd
  have ts : ((i : Int) == (s.size : Int)) = false := by simp; omega
  have t32 : (((s[i]).toNat : Int) == 32) = false := by simp; have := HC.out; omega
  have t9 : (((s[i]).toNat : Int) == 9) = true := by simp; have := HC.out; omega
  conv => arg 2; whnf
  unfold fr
  go_wp2_with fail
  go_step3
  simp only [Exit.then, Exit.inBlock, jumps]
  refine ⟨3 * (s.size - (i + 1)) + 1, by omega, rfl, toks, i + 1, line, start, op, hS.out.setAt _, ⟨b1, by omega, by omega, by omega, by omega⟩, ?_, rfl⟩
  rw [hR.out, hD.out, lex_space (by have := HC.out; omega)]
  rw [show (((i + 1 : Nat) : Int) - start + 1) = (i : Int) - start + 1 + 1 from by omega]
set_option maxHeartbeats 1000000 in
theorem scan_semi (s : ByteArray) (w0 : World) (B : Nat) (R : Scanned) (w : World) (u : Nat → Value) (toks : List Tok) (i line start : Nat) (op : Bool) (hB : Hid (w0.heap.size = B))
    (hsc : Sc w0 w B toks i line start op) (hbd : Bd s toks i line start op) (hi : i < s.size) (HC : Hid (s[i].toNat = 59)) (hR : Hid (R = lex (s.data.toList.drop i) line ((i : Int) - start + 1) op toks)) :
    (behind scanBody 0).wp Tryz.prog (jumps (fun l a w => ∃ m', m' < 3 * (s.size - i) + 1 ∧ ScJ s w0 B R l m' a w) (bodyPost Tryz.prog Tryz.f21 (ScanPost w0 R))) (fr s B u) w := by
  have c1 := cell_blk hsc.at_
  have c2 := cell_blk hsc.line
  have c3 := cell_blk hsc.start
  have c5 := cell_blk hsc.clos
  have f1 := free_blk (o := 0) hsc.at_
  have f2 := free_blk (o := 0) hsc.line
  have f3 := free_blk (o := 0) hsc.start
  have b1 := hbd.size
  have b2 := hbd.start
  have b3 := hbd.toks
  have b4 := hbd.line
  have hS := Lib.hid hsc
  have hD := Lib.hid (drop_cons s i hi)
  clear hsc hbd
  have ts : ((i : Int) == (s.size : Int)) = false := by simp; omega
  have t32 : (((s[i]).toNat : Int) == 32) = false := by simp; have := HC.out; omega
  have t9 : (((s[i]).toNat : Int) == 9) = false := by simp; have := HC.out; omega
  have t59 : (((s[i]).toNat : Int) == 59) = true := by simp; have := HC.out; omega
  conv => arg 2; whnf
  unfold fr
  go_wp2_with (go_at_call 34; refine (finish_any hS.out (by omega) (by omega) (by omega)).mono ?_; rintro e w1 ⟨rfl, hsc⟩; have c1 := cell_blk hsc.at_; have c2 := cell_blk hsc.line; have c3 := cell_blk hsc.start; have f1 := free_blk (o := 0) hsc.at_; have f2 := free_blk (o := 0) hsc.line; have f3 := free_blk (o := 0) hsc.start; have hS1 := Lib.hid hsc; clear hsc)
  go_step3
  simp only [Exit.then, Exit.inBlock, jumps]
  refine ⟨3 * (s.size - (i + 1)) + 1, by omega, rfl, _, i + 1, line, start, false, hS1.out.setAt _, ⟨b1, by omega, by omega, by omega, by rw [fin_len]; simp; omega⟩, ?_, rfl⟩
  rw [hR.out, hD.out, lex_semi HC.out]
  rw [show (((i + 1 : Nat) : Int) - start + 1) = (i : Int) - start + 1 + 1 from by omega]
set_option maxHeartbeats 1000000 in
theorem scan_hash (s : ByteArray) (w0 : World) (B : Nat) (R : Scanned) (w : World) (u : Nat → Value) (toks : List Tok) (i line start : Nat) (op : Bool) (hB : Hid (w0.heap.size = B))
    (hsc : Sc w0 w B toks i line start op) (hbd : Bd s toks i line start op) (hi : i < s.size) (HC : Hid (s[i].toNat = 35)) (hR : Hid (R = lex (s.data.toList.drop i) line ((i : Int) - start + 1) op toks)) :
    (behind scanBody 0).wp Tryz.prog (jumps (fun l a w => ∃ m', m' < 3 * (s.size - i) + 1 ∧ ScJ s w0 B R l m' a w) (bodyPost Tryz.prog Tryz.f21 (ScanPost w0 R))) (fr s B u) w := by
  have c1 := cell_blk hsc.at_
  have c2 := cell_blk hsc.line
  have c3 := cell_blk hsc.start
  have c5 := cell_blk hsc.clos
  have f1 := free_blk (o := 0) hsc.at_
  have f2 := free_blk (o := 0) hsc.line
  have f3 := free_blk (o := 0) hsc.start
  have b1 := hbd.size
  have b2 := hbd.start
  have b3 := hbd.toks
  have b4 := hbd.line
  have hS := Lib.hid hsc
  have hD := Lib.hid (drop_cons s i hi)
  clear hsc hbd
  have ts : ((i : Int) == (s.size : Int)) = false := by simp; omega
  have t32 : (((s[i]).toNat : Int) == 32) = false := by simp; have := HC.out; omega
  have t9 : (((s[i]).toNat : Int) == 9) = false := by simp; have := HC.out; omega
  have t59 : (((s[i]).toNat : Int) == 59) = false := by simp; have := HC.out; omega
  have t35 : (((s[i]).toNat : Int) == 35) = true := by simp; have := HC.out; omega
  conv => arg 2; whnf
  unfold fr
  go_wp2_with (go_at_call 34; refine (finish_any hS.out (by omega) (by omega) (by omega)).mono ?_; rintro e w1 ⟨rfl, hsc⟩; have c1 := cell_blk hsc.at_; have c2 := cell_blk hsc.line; have c3 := cell_blk hsc.start; have f1 := free_blk (o := 0) hsc.at_; have f2 := free_blk (o := 0) hsc.line; have f3 := free_blk (o := 0) hsc.start; have hS1 := Lib.hid hsc; clear hsc)
  go_step3
  simp only [Exit.then, Exit.inBlock, jumps]
  have hd2 : (s.data.toList.drop i).dropWhile (fun b => b.toNat != 10) = (s.data.toList.drop (i + 1)).dropWhile (fun b => b.toNat != 10) := by
    rw [hD.out, List.dropWhile_cons, if_pos (by rw [HC.out]; rfl)]
  have hd3 : ((s.data.toList.drop i).takeWhile (fun b => b.toNat != 10)).length = ((s.data.toList.drop (i + 1)).takeWhile (fun b => b.toNat != 10)).length + 1 := by
    rw [hD.out, List.takeWhile_cons, if_pos (by rw [HC.out]; rfl), List.length_cons]
  have hm : more s i = true := by unfold more; rw [hD.out]; simp [HC.out]
  refine ⟨3 * (s.size - i), by omega, rfl, _, i, line, start, false, hS1.out, ⟨b1, by omega, by omega, by omega, by rw [fin_len]; simp; omega⟩, rfl, ?_, by rw [hm]; rfl⟩
  rw [hR.out, hd2, hd3]
  conv => rhs; rw [hD.out]
  rw [lex_hash HC.out]
  congr 1
  omega
set_option maxHeartbeats 1000000 in
theorem scan_line (s : ByteArray) (w0 : World) (B : Nat) (R : Scanned) (w : World) (u : Nat → Value) (toks : List Tok) (i line start : Nat) (op : Bool) (hB : Hid (w0.heap.size = B))
    (hsc : Sc w0 w B toks i line start op) (hbd : Bd s toks i line start op) (hi : i < s.size) (HC : Hid (s[i].toNat = 10)) (hR : Hid (R = lex (s.data.toList.drop i) line ((i : Int) - start + 1) op toks)) :
    (behind scanBody 0).wp Tryz.prog (jumps (fun l a w => ∃ m', m' < 3 * (s.size - i) + 1 ∧ ScJ s w0 B R l m' a w) (bodyPost Tryz.prog Tryz.f21 (ScanPost w0 R))) (fr s B u) w := by
  have c1 := cell_blk hsc.at_
  have c2 := cell_blk hsc.line
  have c3 := cell_blk hsc.start
  have c5 := cell_blk hsc.clos
  have f1 := free_blk (o := 0) hsc.at_
  have f2 := free_blk (o := 0) hsc.line
  have f3 := free_blk (o := 0) hsc.start
  have b1 := hbd.size
  have b2 := hbd.start
  have b3 := hbd.toks
  have b4 := hbd.line
  have hS := Lib.hid hsc
  have hD := Lib.hid (drop_cons s i hi)
  clear hsc hbd
  have ts : ((i : Int) == (s.size : Int)) = false := by simp; omega
  have t32 : (((s[i]).toNat : Int) == 32) = false := by simp; have := HC.out; omega
  have t9 : (((s[i]).toNat : Int) == 9) = false := by simp; have := HC.out; omega
  have t59 : (((s[i]).toNat : Int) == 59) = false := by simp; have := HC.out; omega
  have t35 : (((s[i]).toNat : Int) == 35) = false := by simp; have := HC.out; omega
  have t10 : (((s[i]).toNat : Int) == 10) = true := by simp; have := HC.out; omega
  conv => arg 2; whnf
  unfold fr
  go_wp2_with (go_at_call 34; refine (finish_any hS.out (by omega) (by omega) (by omega)).mono ?_; rintro e w1 ⟨rfl, hsc⟩; have c1 := cell_blk hsc.at_; have c2 := cell_blk hsc.line; have c3 := cell_blk hsc.start; have f1 := free_blk (o := 0) hsc.at_; have f2 := free_blk (o := 0) hsc.line; have f3 := free_blk (o := 0) hsc.start; have hS1 := Lib.hid hsc; clear hsc)
  go_region
  all_goals
    go_wp2
    go_step3
    simp only [Exit.then, Exit.inBlock, jumps]
    refine ⟨3 * (s.size - (i + 1)) + 1, by omega, rfl, _, i + 1, line + 1, i + 1, false, ((hS1.out.setAt _).drew.setLine _).setStart _, ⟨b1, by omega, by omega, by omega, by rw [fin_len]; simp; omega⟩, ?_, rfl⟩
    rw [hR.out, hD.out, lex_line HC.out]
    congr 1
    omega
set_option maxHeartbeats 1000000 in
theorem scan_equal (s : ByteArray) (w0 : World) (B : Nat) (R : Scanned) (w : World) (u : Nat → Value) (toks : List Tok) (i line start : Nat) (op : Bool) (hB : Hid (w0.heap.size = B))
    (hsc : Sc w0 w B toks i line start op) (hbd : Bd s toks i line start op) (hi : i < s.size) (HC : Hid (s[i].toNat = 61)) (hR : Hid (R = lex (s.data.toList.drop i) line ((i : Int) - start + 1) op toks)) :
    (behind scanBody 0).wp Tryz.prog (jumps (fun l a w => ∃ m', m' < 3 * (s.size - i) + 1 ∧ ScJ s w0 B R l m' a w) (bodyPost Tryz.prog Tryz.f21 (ScanPost w0 R))) (fr s B u) w := by
  have c1 := cell_blk hsc.at_
  have c2 := cell_blk hsc.line
  have c3 := cell_blk hsc.start
  have c5 := cell_blk hsc.clos
  have f1 := free_blk (o := 0) hsc.at_
  have f2 := free_blk (o := 0) hsc.line
  have f3 := free_blk (o := 0) hsc.start
  have b1 := hbd.size
  have b2 := hbd.start
  have b3 := hbd.toks
  have b4 := hbd.line
  have hS := Lib.hid hsc
  have hD := Lib.hid (drop_cons s i hi)
  clear hsc hbd
  have ts : ((i : Int) == (s.size : Int)) = false := by simp; omega
  have t32 : (((s[i]).toNat : Int) == 32) = false := by simp; have := HC.out; omega
  have t9 : (((s[i]).toNat : Int) == 9) = false := by simp; have := HC.out; omega
  have t59 : (((s[i]).toNat : Int) == 59) = false := by simp; have := HC.out; omega
  have t35 : (((s[i]).toNat : Int) == 35) = false := by simp; have := HC.out; omega
  have t10 : (((s[i]).toNat : Int) == 10) = false := by simp; have := HC.out; omega
  have t61 : (((s[i]).toNat : Int) == 61) = true := by simp; have := HC.out; omega
  conv => arg 2; whnf
  unfold fr
  go_wp2_with (go_at_call 33; refine (token_any hS.out 2 [61] (by omega) (by omega) (by omega)).mono ?_; rintro e w1 ⟨rfl, hsc⟩; have c1 := cell_blk hsc.at_; have c2 := cell_blk hsc.line; have c3 := cell_blk hsc.start; have f1 := free_blk (o := 0) hsc.at_; have f2 := free_blk (o := 0) hsc.line; have f3 := free_blk (o := 0) hsc.start; have hS1 := Lib.hid hsc; clear hsc)
  go_step3
  simp only [Exit.then, Exit.inBlock, jumps]
  refine ⟨3 * (s.size - (i + 1)) + 1, by omega, rfl, _, i + 1, line, start, true, hS1.out.setAt _, ⟨b1, by omega, by omega, by omega, by simp; omega⟩, ?_, rfl⟩
  rw [hR.out, hD.out, lex_equal HC.out]
  rw [show (((i + 1 : Nat) : Int) - start + 1) = (i : Int) - start + 1 + 1 from by omega]
set_option maxHeartbeats 1000000 in
theorem scan_part (s : ByteArray) (w0 : World) (B : Nat) (R : Scanned) (w : World) (u : Nat → Value) (toks : List Tok) (i line start : Nat) (op : Bool) (hB : Hid (w0.heap.size = B))
    (hsc : Sc w0 w B toks i line start op) (hbd : Bd s toks i line start op) (hi : i < s.size) (HC : Hid ((s[i].toNat ≠ 32 ∧ s[i].toNat ≠ 9 ∧ s[i].toNat ≠ 59 ∧ s[i].toNat ≠ 35 ∧ s[i].toNat ≠ 10 ∧ s[i].toNat ≠ 61) ∧ isPart (s[i].toNat : Int) = true)) (hR : Hid (R = lex (s.data.toList.drop i) line ((i : Int) - start + 1) op toks)) :
    (behind scanBody 0).wp Tryz.prog (jumps (fun l a w => ∃ m', m' < 3 * (s.size - i) + 1 ∧ ScJ s w0 B R l m' a w) (bodyPost Tryz.prog Tryz.f21 (ScanPost w0 R))) (fr s B u) w := by
  have c1 := cell_blk hsc.at_
  have c2 := cell_blk hsc.line
  have c3 := cell_blk hsc.start
  have c5 := cell_blk hsc.clos
  have f1 := free_blk (o := 0) hsc.at_
  have f2 := free_blk (o := 0) hsc.line
  have f3 := free_blk (o := 0) hsc.start
  have b1 := hbd.size
  have b2 := hbd.start
  have b3 := hbd.toks
  have b4 := hbd.line
  have hS := Lib.hid hsc
  have hD := Lib.hid (drop_cons s i hi)
  clear hsc hbd
  have ts : ((i : Int) == (s.size : Int)) = false := by simp; omega
  have t32 : (((s[i]).toNat : Int) == 32) = false := by simp; have := HC.out; omega
  have t9 : (((s[i]).toNat : Int) == 9) = false := by simp; have := HC.out; omega
  have t59 : (((s[i]).toNat : Int) == 59) = false := by simp; have := HC.out; omega
  have t35 : (((s[i]).toNat : Int) == 35) = false := by simp; have := HC.out; omega
  have t10 : (((s[i]).toNat : Int) == 10) = false := by simp; have := HC.out; omega
  have t61 : (((s[i]).toNat : Int) == 61) = false := by simp; have := HC.out; omega
  have hp := HC.out.2
  conv => arg 2; whnf
  unfold fr
  go_wp2_with (go_at_call 32; refine (part_any _ _).mono ?_; rintro e w1 ⟨rfl, rfl⟩)
  go_step3
  simp only [Exit.then, Exit.inBlock, jumps]
  exact ⟨3 * (s.size - i), by omega, rfl, toks, i, line, start, op, hS.out, ⟨b1, by omega, by omega, by omega, b3⟩, hR.out.symm, ⟨_, _, hD.out, HC.out.2⟩, rfl⟩
set_option maxHeartbeats 1000000 in
theorem scan_other (s : ByteArray) (w0 : World) (B : Nat) (R : Scanned) (w : World) (u : Nat → Value) (toks : List Tok) (i line start : Nat) (op : Bool) (hB : Hid (w0.heap.size = B))
    (hsc : Sc w0 w B toks i line start op) (hbd : Bd s toks i line start op) (hi : i < s.size) (HC : Hid ((s[i].toNat ≠ 32 ∧ s[i].toNat ≠ 9 ∧ s[i].toNat ≠ 59 ∧ s[i].toNat ≠ 35 ∧ s[i].toNat ≠ 10 ∧ s[i].toNat ≠ 61) ∧ isPart (s[i].toNat : Int) = false)) (hR : Hid (R = lex (s.data.toList.drop i) line ((i : Int) - start + 1) op toks)) :
    (behind scanBody 0).wp Tryz.prog (jumps (fun l a w => ∃ m', m' < 3 * (s.size - i) + 1 ∧ ScJ s w0 B R l m' a w) (bodyPost Tryz.prog Tryz.f21 (ScanPost w0 R))) (fr s B u) w := by
  have c1 := cell_blk hsc.at_
  have c2 := cell_blk hsc.line
  have c3 := cell_blk hsc.start
  have c5 := cell_blk hsc.clos
  have f1 := free_blk (o := 0) hsc.at_
  have f2 := free_blk (o := 0) hsc.line
  have f3 := free_blk (o := 0) hsc.start
  have b1 := hbd.size
  have b2 := hbd.start
  have b3 := hbd.toks
  have b4 := hbd.line
  have hS := Lib.hid hsc
  have hD := Lib.hid (drop_cons s i hi)
  clear hsc hbd
  have ts : ((i : Int) == (s.size : Int)) = false := by simp; omega
  have t32 : (((s[i]).toNat : Int) == 32) = false := by simp; have := HC.out; omega
  have t9 : (((s[i]).toNat : Int) == 9) = false := by simp; have := HC.out; omega
  have t59 : (((s[i]).toNat : Int) == 59) = false := by simp; have := HC.out; omega
  have t35 : (((s[i]).toNat : Int) == 35) = false := by simp; have := HC.out; omega
  have t10 : (((s[i]).toNat : Int) == 10) = false := by simp; have := HC.out; omega
  have t61 : (((s[i]).toNat : Int) == 61) = false := by simp; have := HC.out; omega
  have hp := HC.out.2
  conv => arg 2; whnf
  unfold fr
  go_wp2_with (go_at_call 32; refine (part_any _ _).mono ?_; rintro e w1 ⟨rfl, rfl⟩)
  go_quiet (fail)
  go_wp2
  simp only [Exit.then, Exit.inBlock, jumps]
  refine bodyPost_ret (results_tmp4 rfl _ _ _) rfl ?_
  rw [hR.out, hD.out, lex_other HC.out.1.1 HC.out.1.2.1 HC.out.1.2.2.1 HC.out.1.2.2.2.1 HC.out.1.2.2.2.2.1 HC.out.1.2.2.2.2.2 HC.out.2]
  exact ⟨_, rfl, SliceAt.nil, by rw [hB.out]; exact (hS.out.drewN _).below⟩
end Go.Proofs.YtipnhmdibkkifaaGreatDoor
