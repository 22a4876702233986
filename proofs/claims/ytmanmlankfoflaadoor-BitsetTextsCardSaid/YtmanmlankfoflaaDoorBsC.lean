/- Walks: the program's Count, Members. Printed by wip/gen_bsc.py. -/
import Derived.Test.YtmanmlankfoflaaDoorBsT
import Derived.Test.YtmanmlankfoflaaDoorBsMp
import Derived.Test.YtmanmlankfoflaaDoorBsH
import Derived.Test.YtmanmlankfoflaaDoorBsO
import Derived.Test.YtmanmlankfoflaaDoorMem2
set_option linter.unusedVariables false
set_option linter.unusedSimpArgs false
set_option linter.unusedSectionVars false
namespace Go.Proofs.YtmanmlankfoflaaDoor
open Go.RowKit
variable [Base]

abbrev miv (l : List Nat) : List Value := l.map fun n : Nat => iv (n : Int)
theorem info_int : (Tryd.prog.info? 3).map (fun i => (i.zero, i.size, i.bytes)) = some (some (Value.int .i64 0), 1, 8) := by kernel_rfl
set_option maxHeartbeats 1000000 in
theorem bcount_any (s : QSet) (u : Value) (w : World) (h : WordsAt w u s.words) : Calls Tryd.prog 32 #[setV s u] w (IntQ ((memS s).length : Nat) w) := by
  obtain ⟨a, c, rfl, hm, hc, hcm, hk⟩ := h.cell
  obtain ⟨n, hn⟩ : ∃ n, s.words.length = n := ⟨_, rfl⟩
  obtain ⟨W, hW⟩ : ∃ W, w.alloc (.cells #[.int .i64 s.width, .slice a n c] 25) = W := ⟨_, rfl⟩
  have B0 : Below w.heap.size w W := by rw [← hW]; exact (Below.refl _ _).alloc (Nat.le_refl _) _
  have HB0 : W.heap[w.heap.size]? = some (.cells #[.int .i64 s.width, .slice a n c] 25 (0, 0)) := by rw [← hW]; exact heap_alloc_new _ _
  have x0 := (lies_cells HB0).1 0
  have x1 := (lies_cells HB0).1 1
  simp at x0 x1
  rw [hn] at hm hc ⊢
  have H0 := Lib.hid HB0
  have HW := Lib.hid hW
  have BB := Lib.hid B0
  have HN := Lib.hid hn
  have HR := Lib.hid (show WordsAt W (.slice a n c) s.words by rw [← hn] at *; exact h.below B0)
  have HK := Lib.hid hk
  have HOK := Lib.hid h.2
  unfold maxLen at hm
  clear hW HB0 B0 hk hn h
  rcases Bool.eq_false_or_eq_true (setB s) with hv | hv
  rotate_left
  · have HV := Lib.hid hv
    rw [memS_no hv]
    clear hv
    go_enter Tryd.func32, Tryd.ntmps32
    go_wp2_with fail
    rw [show w.alloc (.cells #[.int .i64 s.width, .slice a n c] 25) = W from HW.out]
    refine (bvalid_to HV.out _ _ HR.out).mono ?_
    rintro e w1 ⟨rfl, b1⟩
    have B1 := Lib.hid (BB.out.trans (b1.mono BB.out.size))
    have L1 := Lib.hid (lies_below H0.out b1 (lt_heap H0.out))
    clear x0 x1 b1
    have x0 := (lies_cells L1.out).1 0
    have x1 := (lies_cells L1.out).1 1
    simp only [List.getElem?_toArray, List.getElem?_cons_zero, List.getElem?_cons_succ] at x0 x1
    go_wp2
    go_ret
    exact ⟨rfl, B1.out⟩
  have HV := Lib.hid hv
  have HE := Lib.hid (memTo_end hv HOK.out)
  obtain ⟨m, f1, f2, f3⟩ := form_len (valid_form hv HOK.out)
  have hn4 : n ≤ 4 := by have := HN.out; unfold wordsN at f3; omega
  clear hv f1 f2 f3
  go_enter Tryd.func32, Tryd.ntmps32
  go_wp2_with fail
  rw [show w.alloc (.cells #[.int .i64 s.width, .slice a n c] 25) = W from HW.out]
  refine (bvalid_to HV.out _ _ HR.out).mono ?_
  rintro e w1 ⟨rfl, b1⟩
  have B1 := Lib.hid (BB.out.trans (b1.mono BB.out.size))
  have L1 := Lib.hid (lies_below H0.out b1 (lt_heap H0.out))
  clear x0 x1 b1
  have x0 := (lies_cells L1.out).1 0
  have x1 := (lies_cells L1.out).1 1
  simp only [List.getElem?_toArray, List.getElem?_cons_zero, List.getElem?_cons_succ] at x0 x1
  go_wp2_with fail
  go_loop [3, 11] (fun z y => ∃ i : Nat, i ≤ n ∧ y = .int .i64 i ∧ z = .int .i64 ((memTo s.words i).length : Nat)) (fun _ y => n - (intOf y).toNat)
  case atStart => exact ⟨0, Nat.zero_le _, rfl, rfl⟩
  case round =>
    obtain ⟨i, hi, rfl, rfl⟩ := hrel
    have ml := memTo_len s.words i
    by_cases hlt : i < n
    · obtain ⟨x, hx⟩ : ∃ x, s.words[i]? = some x := ⟨_, List.getElem?_eq_getElem (show i < s.words.length by have := HN.out; omega)⟩
      obtain ⟨xb, off, rfl, hxb, -, hcell⟩ := HK.out i x hx
      have hxl : x < 18446744073709551616 := HOK.out x (List.mem_of_getElem? hx)
      have gc := (B1.out.cell (p := ⟨xb, off + i, none⟩) hxb).trans hcell
      have HS := Lib.hid (show (memTo s.words (i + 1)).length = (memTo s.words i).length + pop 64 x by rw [memTo_succ hx, List.length_append, List.length_map, bitsW_len])
      have hp : pop 64 x ≤ 64 := by rw [← bitsW_len]; exact bitsW_le x
      obtain ⟨a0, ha0⟩ : ∃ a0, (memTo s.words i).length = a0 := ⟨_, rfl⟩
      obtain ⟨p0, hp0⟩ : ∃ p0, pop 64 x = p0 := ⟨_, rfl⟩
      have HP := Lib.hid hp0
      have HA := Lib.hid ha0
      rw [ha0] at ml ⊢
      rw [hp0] at hp
      clear hx hcell hp0 ha0
      go_wp2_with (go_at_call 61; refine (ones_any x hxl _).mono ?_; rw [HP.out]; rintro e w' ⟨rfl, rfl⟩)
      go_round
      case rel => exact ⟨i + 1, by omega, by go_num, by rw [HS.out, HA.out, HP.out]; go_num⟩
      case measure => simp [intOf]; omega
    · obtain rfl : i = n := by omega
      have HF := Lib.hid (show ((memTo s.words i).length : Nat) = (memS s).length by rw [← HE.out, HN.out])
      go_wp2
      go_ret
      exact ⟨ret_intQ (by rw [HF.out]), B1.out⟩
theorem clip_any (a : Option Addr) (n c : Nat) (h : n ≤ c) (hc : c ≤ 9223372036854775807) (w : World) : Calls Tryd.prog 74 #[.slice a n c] w fun e w' => e = .returned (.slice a n n) ∧ w = w' := by
  have i1 : (0 : Int) ≤ (n : Int) := by omega
  have i2 : (n : Int) ≤ (c : Int) := by omega
  have i3 : (n : Int) ≤ (n : Int) := by omega
  go_enter Tryd.func74, Tryd.ntmps74
  go_wp2
  go_ret
  exact ⟨rfl, rfl⟩
theorem IntsAt.clip {w : World} {a : Option Addr} {n c : Nat} {l : List Int} (h : IntsAt w (.slice a n c) l) : IntsAt w (.slice a n n) l := by
  obtain ⟨n', cap, h1, h2, h3, h4⟩ := h
  rcases h4 with ⟨⟨a', h4⟩, h0⟩ | ⟨b, off, c', fr, e4, e5, e6⟩
  · injection h4 with _ h6 _
    subst h0 h6
    exact ⟨0, 0, h1, Nat.le_refl _, Nat.zero_le _, .inl ⟨⟨a, rfl⟩, rfl⟩⟩
  · injection e4 with e4 e7 e8
    subst e4 e7 e8
    exact ⟨n, n, h1, Nat.le_refl _, by omega, .inr ⟨b, off, c', fr, rfl, e5, e6⟩⟩
/-- What a row of own numbers says. -/
def IntsQ (l : List Int) (w : World) (e : Ending) (w' : World) : Prop := ∃ v, e = .returned v ∧ IntsAt w' v l ∧ Below w.heap.size w w'
structure MIn (w0 wr : World) (v : Value) (l : List Nat) : Prop where
  below : Below w0.heap.size w0 wr
  own : wr.ownsRow w0.heap.size 3 1 v l.length (miv l)
theorem MIn.push {w0 wr w2 : World} {v v2 : Value} {l : List Nat} {x : Nat} (h : MIn w0 wr v l) (ho : w2.ownsRow w0.heap.size 3 1 v2 (l.length + 1) (miv l ++ [iv (x : Int)])) (hg : wr.grownBy w2 v.ownBlock) : MIn w0 w2 v2 (l ++ [x]) :=
  ⟨h.below.trans (Below.of_grown hg h.own h.below.size), by rw [List.length_append]; simpa [miv] using ho⟩
theorem MIn.shape {w0 wr : World} {v : Value} {l : List Nat} (h : MIn w0 wr v l) : ∃ a c, v = .slice a l.length c ∧ l.length ≤ c ∧ c ≤ maxLen := own_slice h.own
theorem MIn.ints {w0 wr : World} {v : Value} {l : List Nat} (h : MIn w0 wr v l) : IntsAt wr v (l.map fun n : Nat => (n : Int)) := by
  unfold IntsAt
  rw [List.map_map]
  exact SliceAt.of_owns h.own
set_option maxHeartbeats 2000000 in
theorem bmembers_any {B : Nat} (s : QSet) (u : Value) (w : World) (h : WordsAt w u s.words) (hT : TabAt 0 Lib.deBruijn64tab w) (hg : 0 < w.heap.size) : Calls Tryd.prog 43 #[setV s u] w (IntsQ ((memS s).map fun n : Nat => (n : Int)) w) := by
  obtain ⟨a, c, rfl, hm, hc, hcm, hk⟩ := h.cell
  obtain ⟨n, hn⟩ : ∃ n, s.words.length = n := ⟨_, rfl⟩
  obtain ⟨W, hW⟩ : ∃ W, w.alloc (.cells #[.int .i64 s.width, .slice a n c] 25) = W := ⟨_, rfl⟩
  have B0 : Below w.heap.size w W := by rw [← hW]; exact (Below.refl _ _).alloc (Nat.le_refl _) _
  have HB0 : W.heap[w.heap.size]? = some (.cells #[.int .i64 s.width, .slice a n c] 25 (0, 0)) := by rw [← hW]; exact heap_alloc_new _ _
  have x0 := (lies_cells HB0).1 0
  have x1 := (lies_cells HB0).1 1
  simp at x0 x1
  rw [hn] at hm hc ⊢
  have H0 := Lib.hid HB0
  have HW := Lib.hid hW
  have BB := Lib.hid B0
  have HN := Lib.hid hn
  have HR := Lib.hid (show WordsAt W (.slice a n c) s.words by rw [← hn] at *; exact h.below B0)
  have HK := Lib.hid hk
  have HOK := Lib.hid h.2
  unfold maxLen at hm
  clear hW HB0 B0 hk hn h
  have HT := Lib.hid (show ∀ w9, Below w.heap.size w w9 → TabAt 0 Lib.deBruijn64tab w9 from fun w9 hb j hj => (hb.cell (p := ⟨0, j, none⟩) hg).trans (hT j hj))
  clear hT hg
  rcases Bool.eq_false_or_eq_true (setB s) with hv | hv
  rotate_left
  · have HV := Lib.hid hv
    rw [memS_no hv]
    clear hv
    go_enter Tryd.func43, Tryd.ntmps43
    go_wp2_with fail
    rw [show w.alloc (.cells #[.int .i64 s.width, .slice a n c] 25) = W from HW.out]
    refine (bvalid_to HV.out _ _ HR.out).mono ?_
    rintro e w1 ⟨rfl, b1⟩
    have B1 := Lib.hid (BB.out.trans (b1.mono BB.out.size))
    have L1 := Lib.hid (lies_below H0.out b1 (lt_heap H0.out))
    clear x0 x1 b1
    have x0 := (lies_cells L1.out).1 0
    have x1 := (lies_cells L1.out).1 1
    simp only [List.getElem?_toArray, List.getElem?_cons_zero, List.getElem?_cons_succ] at x0 x1
    go_wp2
    go_ret
    exact ⟨_, rfl, IntsAt.nil, B1.out⟩
  have HV := Lib.hid hv
  have HE := Lib.hid (memTo_end hv HOK.out)
  obtain ⟨m, f1, f2, f3⟩ := form_len (valid_form hv HOK.out)
  have hn4 : n ≤ 4 := by have := HN.out; unfold wordsN at f3; omega
  clear hv f1 f2 f3
  go_enter Tryd.func43, Tryd.ntmps43
  go_wp2_with fail
  rw [show w.alloc (.cells #[.int .i64 s.width, .slice a n c] 25) = W from HW.out]
  refine (bvalid_to HV.out _ _ HR.out).mono ?_
  rintro e w1 ⟨rfl, b1⟩
  have B1 := Lib.hid (BB.out.trans (b1.mono BB.out.size))
  have L1 := Lib.hid (lies_below H0.out b1 (lt_heap H0.out))
  clear x0 x1 b1
  have x0 := (lies_cells L1.out).1 0
  have x1 := (lies_cells L1.out).1 1
  simp only [List.getElem?_toArray, List.getElem?_cons_zero, List.getElem?_cons_succ] at x0 x1
  go_wp2_with fail
  have I0 := Lib.hid (show MIn w w1 (.slice none 0 0) (memTo s.words 0) from ⟨B1.out, World.ownsRow_nil _ _ _ _⟩)
  go_loopw [3, 12] (fun z y wr => ∃ i : Nat, i ≤ n ∧ y = .int .i64 i ∧ Hid (MIn w wr z (memTo s.words i))) (fun _ y _ => n - (intOf y).toNat)
  case atStart => exact ⟨0, Nat.zero_le _, rfl, I0⟩
  case round =>
    clear I0
    obtain ⟨i, hi, rfl, I⟩ := hrel
    by_cases hlt : i < n
    · obtain ⟨x, hx⟩ : ∃ x, s.words[i]? = some x := ⟨_, List.getElem?_eq_getElem (show i < s.words.length by have := HN.out; omega)⟩
      obtain ⟨xb, off, rfl, hxb, -, hcell⟩ := HK.out i x hx
      have hxl : x < 18446744073709551616 := HOK.out x (List.mem_of_getElem? hx)
      have gc := (I.out.below.cell (p := ⟨xb, off + i, none⟩) hxb).trans hcell
      have HS := Lib.hid (memTo_succ hx)
      clear hx hcell
      go_wp2_with fail
      go_loopw [3, 5] (fun z q wr => ∃ (y : Nat) (acc : List Nat), q = uv y ∧ y < 18446744073709551616 ∧ acc.length ≤ 64 * (i + 1) ∧ Hid (MIn w wr z acc ∧ acc ++ (bitsW y).map (64 * i + ·) = memTo s.words (i + 1))) (fun _ q _ => (intOf q).toNat)
      case atStart => exact ⟨x, memTo s.words i, rfl, hxl, by have := memTo_len s.words i; omega, I.out, HS.out.symm⟩
      case round =>
        clear I gc
        obtain ⟨y, acc, rfl, hyl, hal, II⟩ := hrel
        by_cases hy : y = 0
        · subst hy
          have HI : Hid (MIn w wr u3 (memTo s.words (i + 1))) := Lib.hid (by have h2 := II.out.2; rw [bitsW_zero, List.map_nil, List.append_nil] at h2; rw [← h2]; exact II.out.1)
          go_wp2
          go_roundw
          case rel => exact ⟨i + 1, by omega, by go_num, HI⟩
          case measure => simp [intOf]; omega
        · have hy1 : ((y : Int) != 0) = true := by simpa using hy
          obtain ⟨st1, st2⟩ := bitsW_step hy hyl
          obtain ⟨k, hk⟩ : ∃ k, Lib.ctz 64 y = k := ⟨_, rfl⟩
          rw [hk] at st1
          have ST := Lib.hid st2
          have HKK := Lib.hid hk
          have hcl := clear_lt hy
          have hand : bits BinOp.and IntKind.u64 (y : Int) ((y : Int) - 1) = ((y &&& (y - 1) : Nat) : Int) := by
            rw [show ((y : Int) - 1) = ((y - 1 : Nat) : Int) by omega]
            exact and_nat y (y - 1) hyl (by omega)
          obtain ⟨q, hq⟩ : ∃ q, y &&& (y - 1) = q := ⟨_, rfl⟩
          rw [hq] at hand hcl
          have HQ := Lib.hid hq
          have OWN := Lib.hid II.out.1.own
          have LE := Lib.hid II.out.1.below.size
          have HTW := Lib.hid (HT.out _ II.out.1.below)
          clear st2 hk hq
          go_wp2_with first | (go_at_call 73; refine (tz_any y hy hyl _ HTW.out).mono ?_; rw [HKK.out]; rintro e w' ⟨rfl, rfl⟩) | (at_builtin; refine wpList_pushH [iv ((i : Int) * 64 + (k : Int))] rfl _ _ 22 rfl w.heap.size 3 _ 1 8 Tryd.underlying22 info_int rfl (by decide) _ acc.length _ OWN.out rfl _ rfl rfl rfl rfl (by unfold maxLen; omega) (by omega) LE.out ?_; intro g cap w6 own2 gr2 q1 q2; have OW2 := Lib.hid own2; have GR2 := Lib.hid gr2; clear own2 gr2 q1 q2)
          have HCA : Hid ((acc ++ [64 * i + k]) ++ (bitsW q).map (64 * i + ·) = memTo s.words (i + 1)) := Lib.hid (by rw [← II.out.2, ST.out, HKK.out, HQ.out, List.map_cons, List.append_assoc]; rfl)
          have HLA : (acc ++ [64 * i + k]).length ≤ 64 * (i + 1) := by
            have h1 := congrArg List.length HCA.out
            rw [List.length_append] at h1
            have := memTo_len s.words (i + 1)
            omega
          have HMI := Lib.hid (II.out.1.push (x := 64 * i + k) (by rw [show iv ((64 * i + k : Nat) : Int) = iv ((i : Int) * 64 + (k : Int)) from by congr 1; omega]; exact OW2.out) GR2.out)
          go_roundw
          case rel => exact ⟨q, _, rfl, by omega, HLA, HMI.out, HCA.out⟩
          case measure => simp [intOf]; omega
    · obtain rfl : i = n := by omega
      have HF := Lib.hid (show memTo s.words i = memS s by rw [← HE.out, HN.out])
      obtain ⟨za, zc, rfl, zl, zm⟩ := I.out.shape
      obtain ⟨ln, hln⟩ : ∃ ln, (memTo s.words i).length = ln := ⟨_, rfl⟩
      have HLN := Lib.hid hln
      have hl4 := memTo_len s.words i
      rw [hln] at zl hl4 I ⊢
      clear hln
      go_wp2_with (go_at_call 74; refine (clip_any za ln zc zl (by unfold maxLen at zm; omega) _).mono ?_; rintro e w' ⟨rfl, rfl⟩)
      go_ret
      refine ⟨_, rfl, ?_, I.out.below⟩
      have k := I.out.ints
      rw [HF.out] at k
      exact k.clip
end Go.Proofs.YtmanmlankfoflaaDoor
