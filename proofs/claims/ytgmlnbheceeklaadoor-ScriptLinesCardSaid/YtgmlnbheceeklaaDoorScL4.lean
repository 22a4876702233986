/- The law ScriptLines: the walk. -/
import Derived.Test.YtgmlnbheceeklaaDoorScLr
import Derived.Test.YtgmlnbheceeklaaDoorScL1
import Derived.Test.YtgmlnbheceeklaaDoorBytG
import Derived.Laws.BytesArg
set_option linter.unusedVariables false
set_option linter.unusedSimpArgs false
set_option linter.unusedSectionVars false
namespace Go.Proofs.YtgmlnbheceeklaaDoor
open Go.RowKit
variable [Base]

def zb (k : Nat) : Array Value := (List.replicate k (Value.int .u8 0)).toArray
theorem run_make_u8 (k : Nat) (hk : k ≤ 1000000) (q : Int) (hq : q = k) (w : World) :
    (Instr.makeSlice 38 (.int .i64 q) (.int .i64 q)).run Tryd.prog w = .ok (.slice (some ⟨w.heap.size, 0, none⟩) k k) (w.alloc (.cells (zb k) 5)) := by
  subst hq
  obtain ⟨i, hi, hz, hs1, hs2⟩ := info_parts infoU8
  have h := run_makeSlice (P := Tryd.prog) w 38 5 i _ Tryd.underlying38 hi hz .i64 .i64 (k : Int) (k : Int) (by omega) (Int.le_refl _) (by rw [hs1]; omega) (by rw [hs2]; omega) (by omega)
  have e : madeCells (Value.int .u8 0).cells k = zb k := by
    unfold zb madeCells
    apply Array.ext
    · simp [Value.cells]
    · intro j h1 h2
      simp [Value.cells, Nat.mod_one]
  rw [h, hs1]
  simp only [Int.toNat_natCast, Nat.mul_one, e]
theorem num_size (xs : List Int) : (strOfNums xs).size = xs.length := by simp [strOfNums, ByteArray.size]
theorem lines_to {B : Nat} {s : ByteArray} {ls : List Str} {er : Int} (h : linesR s.data.toList = (ls, er)) (w : World) (hV : VarsIn B w) : Calls Tryd.prog 17 #[.string s] w (LinesQ (ls, er) w) := h ▸ lines_any s.data.toList w hV
theorem rlines_to {s : ByteArray} {ls : List Str} {er : Int} (h : linesR s.data.toList = (ls, er)) (w : World) : Calls Tryd.prog 18 #[.string s] w (LinesQ (ls, er) w) := h ▸ rlines_any s w
theorem lines_len (l : Str) : (linesR l).1.length ≤ 65536 := by
  unfold linesR
  split
  · simp
  · have := lnS_len l
    show (lnS l).length ≤ 65536
    omega
set_option maxRecDepth 100000 in
set_option maxHeartbeats 4000000 in
theorem linesLaw_any (w0 : World) (KT : VarsIn w0.heap.size w0) (s : ByteArray) (nn : Nat) (hn : nn < 256) :
    Calls Tryd.prog 5 #[.string s, .int .u8 nn] w0 (BoolQ true w0) := by
  have hud : ∀ b : Bool, (undef = Value.bool b) = False := fun b => by simp [undef]
  have HK := Lib.hid (show ∀ w', Below w0.heap.size w0 w' → VarsIn w0.heap.size w' from fun w' hb => KT.below hb)
  obtain ⟨ls, er, hq⟩ : ∃ ls er, linesR s.data.toList = (ls, er) := ⟨_, _, rfl⟩
  have hll : ls.length ≤ 65536 := by have := lines_len s.data.toList; rw [hq] at this; exact this
  have HQ := Lib.hid hq
  have hee : (er != er) = false := by simp
  have hle : ((ls.length : Int) != (ls.length : Int)) = false := by simp
  clear hq KT
  go_enter Tryd.func5, Tryd.ntmps5
  go_wp2_with fail
  refine (lines_to (B := w0.heap.size) HQ.out w0 (HK.out _ (Below.refl _ _))).mono ?_
  rintro e w1 ⟨v, rfl, hv, b1⟩
  obtain ⟨a1, c1, rfl, ra⟩ := hv
  have B1 := Lib.hid b1
  have RA0 := Lib.hid (show LnAt w1 (.slice a1 ls.length c1) ls from ⟨a1, c1, rfl, ra⟩)
  clear b1 ra
  go_wp2_with fail
  refine (rlines_to HQ.out w1).mono ?_
  rintro e w2 ⟨v, rfl, hv, b2⟩
  obtain ⟨a2, c2, rfl, rb⟩ := hv
  have B2 := Lib.hid (B1.out.trans (b2.mono B1.out.size))
  obtain ⟨a3, c3, e3, ra⟩ := RA0.out.below b2
  injection e3 with e3 _ _
  subst e3
  have RA := Lib.hid ra
  have RB := Lib.hid rb
  clear b2 rb ra RA0
  go_wp2_with fail
  go_loopw [9] (fun v wr => ∃ k m : Nat, k ≤ ls.length ∧ v = .int .i64 k ∧ wr = w2.drewN m) (fun v _ => ls.length - (intOf v).toNat)
  case atStart => exact ⟨0, 0, Nat.zero_le _, rfl, rfl⟩
  case round =>
    obtain ⟨k, m, hk, rfl, rfl⟩ := hrel
    by_cases hlt : k < ls.length
    · obtain ⟨t, ht⟩ : ∃ t, ls[k]? = some t := ⟨_, List.getElem?_eq_getElem hlt⟩
      obtain ⟨p1, o1, rfl, x1⟩ := RA.out k t ht
      obtain ⟨p2, o2, rfl, x2⟩ := RB.out k t ht
      have htt : (t != t) = false := by simp
      have hk1 : (k : Int) < (ls.length : Int) := by omega
      have hk0 : (0 : Int) ≤ (k : Int) := by omega
      clear ht
      go_wp2_with fail
      go_quiet (fail)
      go_wp2
      go_roundw
      case rel => exact ⟨k + 1, _, by omega, by go_num, rfl⟩
      case measure => simp [intOf]; omega
    · obtain rfl : k = ls.length := by omega
      obtain ⟨w3, hw3⟩ : ∃ w3, w2.drewN m = w3 := ⟨_, rfl⟩
      have B2' := Lib.hid (show Below w0.heap.size w0 w3 by rw [← hw3]; exact below_drewQ B2.out m)
      rw [hw3]
      clear hw3 B2
      have B2 := B2'
      obtain ⟨r, hr, hr2⟩ : ∃ r : Nat, r < 3 ∧ nn % 3 = r := ⟨nn % 3, by omega, rfl⟩
      obtain ⟨L, hL⟩ : ∃ L : Nat, 65535 + r = L := ⟨_, rfl⟩
      have r1 : (nn : Int) % 3 = (r : Int) := by omega
      have r2 : Int.tmod (nn : Int) 3 = (r : Int) := by rw [Int.tmod_eq_emod_of_nonneg (by omega)]; exact r1
      have r3 : IntKind.u8.wrap (r : Int) = (r : Int) := by simp [IntKind.wrap, IntKind.bits, IntKind.signed]; omega
      have r4 : IntKind.i64.wrap (r : Int) = (r : Int) := IntWalk.i64_in _ (by omega)
      have r5 : IntKind.i64.wrap (65536 + (r : Int)) = 65536 + (r : Int) := IntWalk.i64_in _ (by omega)
      have r6 : IntKind.i64.wrap (65536 + (r : Int) - 1) = (L : Int) := by rw [IntWalk.i64_in _ (by omega)]; omega
      have hmk := fun w => run_make_u8 L (by omega) (L : Int) rfl w
      obtain ⟨V, hV⟩ : ∃ V, w3.alloc (.cells (zb L) 5) = V := ⟨_, rfl⟩
      have hcv := run_convert_bytes_arg (P := Tryd.prog) (w3.alloc (.cells (zb L) 5)) 38 5 Tryd.underlying38 Tryd.underlying5 w3.heap.size 0 L L (List.replicate L 0) (by simp) (fun j hj => by
        rw [Nat.zero_add, World.cell?_alloc_new]
        unfold zb
        simp [hj, List.getD]) 9 Tryd.underlying9
      have hzs : (strOfNums (List.replicate L 0)).size = L := by rw [num_size]; simp
      obtain ⟨Z, hZ⟩ : ∃ Z, strOfNums (List.replicate L 0) = Z := ⟨_, rfl⟩
      rw [hZ] at hcv hzs
      rw [hV] at hcv
      have B3 := Lib.hid (show Below w0.heap.size w0 V by rw [← hV]; exact B2.out.alloc B2.out.size _)
      have hlz : Z.data.toList.length = L := by rw [← hzs]; simp
      obtain ⟨ls2, er2, hq2, hdd⟩ : ∃ ls2 er2, linesR Z.data.toList = (ls2, er2) ∧ ((r < 2 ∧ er2 = 0) ∨ (r = 2 ∧ er2 = 7 ∧ ls2 = [])) := by
        unfold linesR
        rcases Nat.lt_or_ge 65536 L with h | h
        · exact ⟨_, _, if_pos (by omega), .inr ⟨by omega, rfl, rfl⟩⟩
        · exact ⟨_, _, if_neg (by omega), .inl ⟨by omega, rfl⟩⟩
      have HQ2 := Lib.hid hq2
      have HV := Lib.hid hV
      clear hZ hq2 hlz hL hr2
      go_wp2_with fail
      refine (lines_to (B := w0.heap.size) HQ2.out V (HK.out _ B3.out)).mono ?_
      rintro e w5 ⟨v, rfl, hv, b3⟩
      obtain ⟨a4, c4, rfl, -⟩ := hv
      have B4 := Lib.hid (B3.out.trans (b3.mono B3.out.size))
      clear b3 hcv hmk
      rcases hdd with ⟨h2, rfl⟩ | ⟨rfl, rfl, rfl⟩
      · have d1 : decide ((r : Int) < 2) = true := by simp; omega
        go_wp2_with fail
        refine (sane_any (B := w0.heap.size) w5 (HK.out _ B4.out) B4.out.size).mono ?_
        rintro e w4 ⟨rfl, b4⟩
        have B5 := Lib.hid (B4.out.trans (b4.mono B4.out.size))
        clear b4
        go_wp2
        go_ret
        exact ⟨rfl, B5.out⟩
      · go_wp2_with fail
        refine (sane_any (B := w0.heap.size) w5 (HK.out _ B4.out) B4.out.size).mono ?_
        rintro e w4 ⟨rfl, b4⟩
        have B5 := Lib.hid (B4.out.trans (b4.mono B4.out.size))
        clear b4
        go_wp2
        go_ret
        exact ⟨rfl, B5.out⟩
end Go.Proofs.YtgmlnbheceeklaaDoor
