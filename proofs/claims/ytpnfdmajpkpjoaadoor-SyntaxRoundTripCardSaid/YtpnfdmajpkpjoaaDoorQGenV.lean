/- Drawn programs are valid: plain Lean, no program in sight. -/
import Derived.Test.YtpnfdmajpkpjoaaDoorQLexP
import Derived.Test.YtpnfdmajpkpjoaaDoorQTxtQ
import Derived.Test.YtpnfdmajpkpjoaaDoorQGenP3
import Derived.Test.YtpnfdmajpkpjoaaDoorQTape
set_option linter.unusedVariables false
set_option linter.unusedSimpArgs false
namespace Go.Proofs.YtpnfdmajpkpjoaaDoor

theorem var_name : ∀ v ∈ varNames, nameB v = true := by decide
theorem func_name : ∀ v ∈ funcNames, nameB v = true := by decide
theorem block_name : ∀ v ∈ blockNames, nameB v = true := by decide
theorem names_all {l : List Str} {a b : Int} (h : ∀ x ∈ l, nameB x = true) (h1 : a ≤ (l.length : Int)) (h2 : (l.length : Int) ≤ b) : namesB l a b = true := by
  unfold namesB
  rw [List.all_eq_true.2 h, decide_eq_true h1, decide_eq_true h2]
  rfl
theorem stmt_ok {s : PStmt} (h1 : ∀ x ∈ s.uses, nameB x = true) (h2 : ∀ x ∈ s.targets, nameB x = true) (h3 : s.uses.length ≤ 4) (h4 : s.targets.length ≤ 2) (h5 : opB s.op (nameB s.dfn) s.dfn.isEmpty s.uses.length s.targets.length = true) : stmtB s = true := by
  unfold stmtB
  rw [names_all h1 (by omega) (by omega), names_all h2 (by omega) (by omega), h5]
  rfl
theorem gen_body {F : Int} {s : PStmt} (h : GenBody F s) : stmtB s = true := by
  rcases h with ⟨ho, hd, ⟨h1, h2, h3⟩, ht⟩ | ⟨ho, hd, hu, ht⟩ | ⟨ho, hd, ⟨v, hv, hu⟩, ht⟩ | ⟨ho, hd, hu, r, _, n, hn, ht⟩ | ⟨ho, hd, ⟨h1, h2⟩, ht⟩
  · refine stmt_ok (fun x hx => var_name x (h3 x hx)) (by rw [ht]; simp) (by omega) (by rw [ht]; simp) ?_
    rw [ho, hd, ht]
    simp [opB]
    omega
  · refine stmt_ok (by rw [hu]; simp) (by rw [ht]; simp) (by rw [hu]; simp) (by rw [ht]; simp) ?_
    rw [hu, ht, var_name _ hd]
    rcases ho with ho | ho <;> rw [ho] <;> rfl
  · refine stmt_ok (by rw [hu]; simpa using var_name v hv) (by rw [ht]; simp) (by rw [hu]; simp) (by rw [ht]; simp) ?_
    rw [ho, hd, hu, ht]
    rfl
  · refine stmt_ok (by rw [hu]; simp) (by rw [ht]; simpa using func_name n (List.mem_of_getElem? hn)) (by rw [hu]; simp) (by rw [ht]; simp) ?_
    rw [ho, hd, hu, ht]
    rfl
  · refine stmt_ok (fun x hx => var_name x (h2 x hx)) (by rw [ht]; simp) (by omega) (by rw [ht]; simp) ?_
    rw [ho, ht, var_name _ hd]
    rfl
theorem gen_term {K : Int} {s : PStmt} (h : GenTerm K s) : stmtB s = true := by
  rcases h with ⟨ho, hd, hu, ht⟩ | ⟨ho, hd, hu, r, _, n, hn, ht⟩ | ⟨ho, hd, ⟨v, hv, hu⟩, r, q, _, _, n, m, hn, hm, ht⟩
  · refine stmt_ok (by rw [hu]; simp) (by rw [ht]; simp) (by rw [hu]; simp) (by rw [ht]; simp) ?_
    rw [ho, hd, hu, ht]
    rfl
  · refine stmt_ok (by rw [hu]; simp) (by rw [ht]; simpa using block_name n (List.mem_of_getElem? hn)) (by rw [hu]; simp) (by rw [ht]; simp) ?_
    rw [ho, hd, hu, ht]
    rfl
  · refine stmt_ok (by rw [hu]; simpa using var_name v hv) (by rw [ht]; simpa using ⟨block_name n (List.mem_of_getElem? hn), block_name m (List.mem_of_getElem? hm)⟩) (by rw [hu]; simp) (by rw [ht]; simp) ?_
    rw [ho, hd, hu, ht]
    rfl
theorem gen_block {F K : Int} {k : Nat} {b : PBlock} (h : GenBlock F K k b) : blockB b = true := by
  obtain ⟨hn, l, t, e, hl, h1, h2⟩ := h
  unfold blockB
  rw [block_name _ (List.mem_of_getElem? hn), e, List.all_eq_true.2 (fun x hx => ?_)]
  · simp; omega
  · rcases List.mem_append.1 hx with hx | hx
    · exact gen_body (h1 x hx)
    · simp at hx; rw [hx]; exact gen_term h2
theorem gen_func {F : Int} {i : Nat} {f : PFunc} (h : GenFunc F i f) : funcB f = true := by
  obtain ⟨hn, h1, h2, h3⟩ := h
  unfold funcB
  rw [func_name _ (List.mem_of_getElem? hn), decide_eq_true h1, decide_eq_true (show f.blocks.length ≤ 16 by omega), List.all_eq_true.2 (fun x hx => ?_)]
  · rfl
  · obtain ⟨k, hk⟩ := List.mem_iff_getElem?.1 hx
    exact gen_block (h3 k x hk)
theorem gen_valid {p : List PFunc} (h : GenProg p) : validB p = true := by
  obtain ⟨h1, h2, h3⟩ := h
  unfold validB
  rw [decide_eq_true h1, decide_eq_true (show p.length ≤ 8 by omega), List.all_eq_true.2 (fun x hx => ?_)]
  · rfl
  · obtain ⟨k, hk⟩ := List.mem_iff_getElem?.1 hx
    exact gen_func (h3 k x hk)
/-- Its lines begin with a function's. -/
theorem lines_head {p : List PFunc} (h : validB p = true) : ∃ n r, linesT p = ([102, 117, 110, 99, 32] ++ n) :: r := by
  cases p with
  | nil => simp [validB] at h
  | cons f p => exact ⟨f.name, _, rfl⟩
theorem print_pos {p : List PFunc} (h : validB p = true) : 1 ≤ (printT p).length := by
  obtain ⟨n, r, e⟩ := lines_head h
  unfold printT
  rw [h, e]
  simp
theorem inline_pos {p : List PFunc} (h : validB p = true) : 1 ≤ (inlineT p).length := by
  obtain ⟨n, r, e⟩ := lines_head h
  unfold inlineT
  rw [h, e]
  simp [joinT]
end Go.Proofs.YtpnfdmajpkpjoaaDoor

/- Walks: a drawn source text, drawn pieces, the comparison of the scanners. -/
namespace Go.Proofs.YtpnfdmajpkpjoaaDoor
open Go.RowKit

theorem fun1 {w : World} {v : Value} {p : List PFunc} (h : FuncsAt w v p) (o : Obj) : FuncsAt (w.alloc o) v p := h.keep SameT.alloc SameT.alloc SameT.alloc SameT.alloc

def SrcPost (B bt : Nat) (w : World) (e : Ending) (w' : World) : Prop := ∃ s : ByteArray, e = .returned (.string s) ∧ s.size ≤ 1000000 ∧ TapeOk B w' bt ∧ But bt w w'

/-- .. and it is not empty. -/
def SrcPost1 (B bt : Nat) (w : World) (e : Ending) (w' : World) : Prop := ∃ s : ByteArray, e = .returned (.string s) ∧ 1 ≤ s.size ∧ s.size ≤ 1000000 ∧ TapeOk B w' bt ∧ But bt w w'

theorem catT_max (l : List Str) (h : ∀ x ∈ l, x.length ≤ 200) (hn : l.length ≤ 4240) : (catT l).length ≤ 1000000 := by
  have h1 := catT_len l h
  have h2 := Nat.mul_le_mul_right 201 hn
  omega
theorem joinT_max (l : List Str) (h : ∀ x ∈ l, x.length ≤ 200) (hn : l.length ≤ 4240) : (joinT l).length ≤ 1000000 := by
  have h1 := joinT_len l h
  have h2 := Nat.mul_le_mul_right 202 hn
  omega
theorem printT_max (p : List PFunc) : (printT p).length ≤ 1000000 := by
  cases h : validB p
  · unfold printT; rw [h]; simp
  · have e : printT p = catT (linesT p) := by unfold printT; rw [h]; rfl
    rw [e]; exact catT_max _ (linesT_each h) (linesT_len h)
theorem inlineT_max (p : List PFunc) : (inlineT p).length ≤ 1000000 := by
  cases h : validB p
  · unfold inlineT; rw [h]; simp
  · have e : inlineT p = joinT (linesT p) := by unfold inlineT; rw [h]; rfl
    rw [e]; exact joinT_max _ (linesT_each h) (linesT_len h)

theorem source_any {B bt : Nat} {w : World} (ht : TapeOk B w bt) :
    Calls Tryd.prog 10 #[.pointer (some ⟨bt, 0, none⟩)] w (SrcPost1 B bt w) := by
  have hlt := ht.lt
  have Ht := Lib.hid ht
  clear ht
  go_enter Tryd.func10, Tryd.ntmps10
  go_wp2_with fail
  refine (program_any Ht.out).mono ?_
  rintro e w1 ⟨p, v, hgp, rfl, hf, ht1, hb1⟩
  have HV := Lib.hid (gen_valid hgp)
  clear hgp
  obtain ⟨a, n, c, rfl⟩ := valid_cells hf
  have T1 := Lib.hid (ht1.alloc (.cells #[.slice a n c] 34))
  have B1 := Lib.hid (hb1.alloc (.cells #[.slice a n c] 34))
  have hz := hb1.size
  have F1 := Lib.hid (fun1 hf (.cells #[.slice a n c] 34))
  clear hf ht1 hb1
  go_wp2_with fail
  refine (next_any T1.out 2 (by omega)).mono ?_
  rintro e w2 ⟨r, r0, r1, rfl, t2, b2⟩
  have hx : w2.cell? ⟨w1.heap.size, 0, none⟩ = some (.slice a n c) := (b2.cell w1.heap.size 0 (by simp) (by omega)).trans (World.cell?_alloc_new _ _ _ _)
  have T2 := Lib.hid t2
  have B2 := Lib.hid (B1.out.trans b2)
  have F2 : Hid (FuncsAt w2 (.slice a n c) p) := F1.out.keep (SameT.but b2 (by rw [T1.out.ty]; decide)) (SameT.but b2 (by rw [T1.out.ty]; decide)) (SameT.but b2 (by rw [T1.out.ty]; decide)) (SameT.but b2 (by rw [T1.out.ty]; decide))
  have hP := Lib.hid (print_any p _ _ F2.out)
  have hI := Lib.hid (inline_any p _ _ F2.out)
  clear t2 b2 T1 B1 F1
  have hr : r = 0 ∨ r = 1 := by omega
  rcases hr with rfl | rfl
  · go_wp2_with fail
    refine hI.out.mono ?_
    rintro e w3 ⟨rfl, hb3⟩
    have T3 := Lib.hid (T2.out.below hb3)
    have B3 := Lib.hid (B2.out.below hb3)
    clear hb3
    go_wp2
    go_ret
    exact ⟨⟨(inlineT p).toArray⟩, rfl, by show _ ≤ (inlineT p).toArray.size; simpa using inline_pos HV.out, by show (inlineT p).toArray.size ≤ _; simpa using inlineT_max p, T3.out, B3.out⟩
  · go_wp2_with fail
    refine hP.out.mono ?_
    rintro e w3 ⟨rfl, hb3⟩
    have T3 := Lib.hid (T2.out.below hb3)
    have B3 := Lib.hid (B2.out.below hb3)
    clear hb3
    go_wp2
    go_ret
    exact ⟨⟨(printT p).toArray⟩, rfl, by show _ ≤ (printT p).toArray.size; simpa using print_pos HV.out, by show (printT p).toArray.size ≤ _; simpa using printT_max p, T3.out, B3.out⟩
end Go.Proofs.YtpnfdmajpkpjoaaDoor

/- Small facts on strings in a row. No walk. -/
namespace Go.Proofs.YtpnfdmajpkpjoaaDoor
open Go.RowKit

theorem append_size' (a b : ByteArray) : (a ++ b).size = a.size + b.size := by simp
def shortB (m : Nat) : Value → Bool
  | .string s => decide (s.size ≤ m)
  | _ => false
theorem bits_at (A : Array Value) (n m : Nat) (hA : A.size = n) (h : A.toList.all (shortB m) = true) (q : Nat) (hq : q < n) : ∃ p : ByteArray, A[q]? = some (.string p) ∧ p.size ≤ m := by
  have h1 : q < A.size := by omega
  have h2 := List.all_eq_true.1 h A[q] (by simp)
  rw [Array.getElem?_eq_getElem h1]
  generalize A[q] = v at h2
  cases v <;> simp [shortB] at h2
  exact ⟨_, rfl, h2⟩

end Go.Proofs.YtpnfdmajpkpjoaaDoor

/- Walk of the law's drawn pieces. Printed by wip/gen_spcs.py. -/
namespace Go.Proofs.YtpnfdmajpkpjoaaDoor
open Go.RowKit

/-- How the drawn texts begin. -/
def headBits : Array Value := #[.string ⟨#[102, 117, 110, 99, 32, 109, 59, 32, 98, 108, 111, 99, 107, 32, 98, 59, 32]⟩, .string ⟨#[102, 117, 110, 99, 32, 109, 59, 32]⟩, .string ⟨#[]⟩, .string ⟨#[102, 117, 110, 99, 32, 109, 59, 32, 98, 108, 111, 99, 107, 32, 98, 59, 32, 120, 32, 61, 32, 121, 59, 32]⟩]
/-- The pieces of the drawn texts. -/
def pieceBits : Array Value := #[.string ⟨#[102, 117, 110, 99, 32, 109, 59]⟩, .string ⟨#[98, 108, 111, 99, 107, 32, 98, 59]⟩, .string ⟨#[101, 110, 100, 59]⟩, .string ⟨#[117, 115, 101, 32, 120, 59]⟩, .string ⟨#[117, 115, 101, 32, 120, 32, 121, 32, 122, 32, 120, 32, 121, 59]⟩, .string ⟨#[99, 97, 108, 108, 32, 109, 59]⟩, .string ⟨#[115, 111, 117, 114, 99, 101, 32, 120, 59]⟩, .string ⟨#[115, 105, 110, 107, 32, 120, 59]⟩, .string ⟨#[115, 97, 110, 105, 116, 105, 122, 101, 59]⟩, .string ⟨#[103, 111, 116, 111, 32, 98, 59]⟩, .string ⟨#[98, 114, 97, 110, 99, 104, 32, 120, 32, 98, 32, 98, 59]⟩, .string ⟨#[114, 101, 116, 117, 114, 110, 59]⟩, .string ⟨#[120, 32, 61, 59]⟩, .string ⟨#[120, 32, 61, 32, 121, 32, 121, 32, 121, 32, 121, 59]⟩, .string ⟨#[61, 32, 120, 59]⟩, .string ⟨#[120]⟩, .string ⟨#[117, 115, 101]⟩, .string ⟨#[98, 114, 97, 110, 99, 104, 32, 120, 32, 98, 59]⟩, .string ⟨#[59]⟩, .string ⟨#[114, 101, 116, 117, 114, 110]⟩]
set_option maxHeartbeats 400000 in
theorem pieces_any {B bt : Nat} {w : World} (ht : TapeOk B w bt) :
    Calls Tryd.prog 9 #[.pointer (some ⟨bt, 0, none⟩)] w (SrcPost B bt w) := by
  have Ht := Lib.hid ht
  have hlt := ht.lt
  clear ht
  go_enter Tryd.func9, Tryd.ntmps9
  go_wp2_with fail
  refine (next_any (Ht.out.alloc _) 4 (by omega)).mono ?_
  rintro e w1 ⟨q, q0, q1, rfl, ht1, hb1⟩
  obtain ⟨qn, rfl⟩ := Int.eq_ofNat_of_zero_le q0
  obtain ⟨p, hp1, hp2⟩ := bits_at headBits 4 24 rfl rfl qn (by omega)
  have hc := (hb1.cell w.heap.size qn (by simp) (by omega)).trans ((World.cell?_alloc_new w headBits 9 qn).trans hp1)
  have T1 := Lib.hid ht1
  have B1 := Lib.hid (((But.refl bt w).alloc _).trans hb1)
  have q2 : qn < 4 := by omega
  clear ht1 hb1 hp1 q0 q1
  go_wp2_with fail
  refine (next_any T1.out 10 (by omega)).mono ?_
  rintro e w2 ⟨r, r0, r1, rfl, ht2, hb2⟩
  have T2 := Lib.hid ht2
  have B2 := Lib.hid (B1.out.trans hb2)
  have r3 : r ≤ 9 := by omega
  clear ht2 hb2 r1 T1 B1 hc q2
  go_wp2
  go_loopw [3, 4] (fun x v wi => ∃ (xs : ByteArray) (r : Int), x = .string xs ∧ v = .int .i64 r ∧ 0 ≤ r ∧ (xs.size : Int) + 17 * r ≤ 221 ∧ Hid (TapeOk B wi bt) ∧ Hid (But bt w wi)) (fun _ v _ => (intOf v).toNat)
  case atStart => exact ⟨_, _, rfl, rfl, r0, by omega, T2, B2⟩
  case round =>
    obtain ⟨xs, r, rfl, rfl, r0, hx, T, Bb⟩ := hrel
    by_cases hr : 0 < r
    · go_wp2_with fail
      refine (next_any (T.out.alloc _) 20 (by omega)).mono ?_
      rintro e w3 ⟨q, q0, q1, rfl, ht3, hb3⟩
      obtain ⟨qn, rfl⟩ := Int.eq_ofNat_of_zero_le q0
      obtain ⟨p, hp1, hp2⟩ := bits_at pieceBits 20 14 rfl rfl qn (by omega)
      have hne : wr.heap.size ≠ bt := by have := T.out.lt; omega
      have hc := (hb3.cell wr.heap.size qn (by simp) hne).trans ((World.cell?_alloc_new wr pieceBits 9 qn).trans hp1)
      have T3 := Lib.hid ht3
      have B3 := Lib.hid ((Bb.out.alloc _).trans hb3)
      have q2 : qn < 20 := by omega
      clear ht3 hb3 hp1 hne q0 q1
      go_wp2
      go_roundw
      case rel => exact ⟨_, _, rfl, rfl, by omega, by rw [append_size', append_size', show (ByteArray.mk #[32]).size = 1 from rfl]; omega, T3, B3⟩
      case measure => simp [intOf]; omega
    · obtain rfl : r = 0 := by omega
      go_wp2
      go_ret
      exact ⟨xs, rfl, by omega, T.out, Bb.out⟩
end Go.Proofs.YtpnfdmajpkpjoaaDoor

