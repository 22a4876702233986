/- Walks: the program's Text. Printed by wip/gen_bst.py. -/
import Derived.Test.YtmanmlankfoflaaDoorBsC
import Derived.Test.YtmanmlankfoflaaDoorBsK
import Derived.Lib.Join
import Derived.Deep.RegionHeld3
set_option linter.unusedVariables false
set_option linter.unusedSimpArgs false
set_option linter.unusedSectionVars false
namespace Go.Proofs.YtmanmlankfoflaaDoor
open Go.RowKit
variable [Base]

def StrsAt (w : World) (v : Value) (l : List Str) : Prop := SliceAt w 9 1 v (l.map qs)
theorem StrsAt.below {w w' : World} {v : Value} {l : List Str} (h : StrsAt w v l) (hb : Below w.heap.size w w') : StrsAt w' v l := h.same (SameT.below hb)
theorem join_len : ∀ (l : List Str), (∀ x ∈ l, x.length ≤ 20) → (Lib.join l [44]).length ≤ 21 * l.length
  | [], _ => by rw [Lib.join_nil]; simp
  | x :: r, h => by
    rw [Lib.join_cons, List.length_append]
    have h1 := h x List.mem_cons_self
    have h2 : ∀ (r : List Str), (∀ x ∈ r, x.length ≤ 20) → (Lib.joinTail [44] r).length ≤ 21 * r.length := by
      intro r
      induction r with
      | nil => intro _; simp [Lib.joinTail]
      | cons y r ih =>
        intro hr
        have := ih fun z hz => hr z (List.mem_cons_of_mem _ hz)
        have h3 := hr y List.mem_cons_self
        unfold Lib.joinTail at *
        simp only [List.map_cons, List.flatten_cons, List.length_append, List.length_cons, List.length_nil]
        omega
    have := h2 r fun z hz => h z (List.mem_cons_of_mem _ hz)
    simp only [List.length_cons]
    omega
theorem join_any (l : List Str) (v : Value) (w : World) (h : StrsAt w v l) (hl : l.length ≤ 1000) (hx : ∀ x ∈ l, x.length ≤ 20) : Calls Tryd.prog 66 #[v, .string ⟨#[44]⟩] w (StrQ (Lib.join l [44]) w) := by
  obtain ⟨a, n, c, rfl, h1, h2, h3, h4, h5⟩ := SliceAt.form h
  rw [List.length_map, Nat.mul_one] at h1
  have hj := join_len l hx
  rcases l with _ | ⟨x, r⟩
  · simp at h1
    subst h1
    refine (Tryd.strings_Join_none a c _ w).mono ?_
    rintro e w' ⟨rfl, rfl⟩
    exact ⟨rfl, Below.refl _ _⟩
  · obtain ⟨b, off, rfl, hb, _, hc⟩ := h5 (by simp at h1; omega)
    have k := Tryd.strings_Join b off c ((x :: r).map fun s => (⟨s.toArray⟩ : ByteArray)) ⟨#[44]⟩ w ?_ hb (by simp; simp at hl; omega) (by rw [List.length_map]; omega) ?_
    · rw [List.length_map, h1] at k
      refine k.mono ?_
      rintro e w' ⟨rfl, hb⟩
      refine ⟨?_, hb⟩
      congr 3
      simp [List.map_map, Function.comp_def]
    · intro j y hy
      rw [List.getElem?_map] at hy
      obtain ⟨s, hs, rfl⟩ := Option.map_eq_some_iff.1 hy
      have hj2 := (List.getElem?_eq_some_iff.1 hs).1
      rw [hc j (by rw [List.length_map]; exact hj2), List.getElem?_map, hs]
      rfl
    · simp only [List.map_map, Function.comp_def, List.map_id']
      omega
theorem ret_strQ {a b : ByteArray} (h : a = b) : Ending.returned (.string a) = .returned (.string b) := by rw [h]
/-- The text of a set. -/
def textS (s : QSet) : Str := if setB s = true then Lib.join ((memS s).map dec10) [44] ++ (47 :: dec10 s.width.toNat) else []
theorem textS_no {s : QSet} (h : setB s = false) : textS s = [] := by unfold textS; rw [h]; rfl
structure TIn2 (w0 wr : World) (v : Value) (l : List Str) : Prop where
  below : Below w0.heap.size w0 wr
  own : wr.ownsRow w0.heap.size 9 1 v l.length (l.map qs)
theorem TIn2.push {w0 wr w2 : World} {v v2 : Value} {l : List Str} {x : Str} (h : TIn2 w0 wr v l) (ho : w2.ownsRow w0.heap.size 9 1 v2 (l.length + 1) (l.map qs ++ [qs x])) (hg : wr.grownBy w2 v.ownBlock) : TIn2 w0 w2 v2 (l ++ [x]) :=
  ⟨h.below.trans (Below.of_grown hg h.own h.below.size), by rw [List.length_append, List.map_append]; exact ho⟩
theorem TIn2.after {w0 wr w2 : World} {v : Value} {l : List Str} (h : TIn2 w0 wr v l) (hb : Below wr.heap.size wr w2) : TIn2 w0 w2 v l := by
  refine ⟨h.below.trans (hb.mono h.below.size), h.own.1, ?_⟩
  rcases h.own.2 with hn | ⟨g, cap, cur, rfl, hg, hh, rest⟩
  · exact .inl hn
  · exact .inr ⟨g, cap, cur, rfl, hg, (hb.block g (lt_heap hh)).trans hh, rest⟩
theorem TIn2.strs {w0 wr : World} {v : Value} {l : List Str} (h : TIn2 w0 wr v l) : StrsAt wr v l := SliceAt.of_owns h.own
theorem info_str : (Tryd.prog.info? 9).map (fun i => (i.zero, i.size, i.bytes)) = some (some (Value.string ⟨#[]⟩), 1, 16) := by kernel_rfl
theorem app_str (a b : Str) : (ByteArray.mk a.toArray) ++ (ByteArray.mk b.toArray) = ⟨(a ++ b).toArray⟩ := by
  apply ByteArray.ext
  simp [ByteArray.data_append]
set_option maxHeartbeats 2000000 in
theorem btext_any {B : Nat} (s : QSet) (u : Value) (w : World) (h : WordsAt w u s.words) (hT : TabsIn B w) (hB : B ≤ w.heap.size) : Calls Tryd.prog 35 #[setV s u] w (StrQ (textS s) w) := by
  have HR0 := Lib.hid h
  obtain ⟨a, c, rfl, hm, hc, hcm, hk⟩ := h.cell
  obtain ⟨n, hn⟩ : ∃ n, s.words.length = n := ⟨_, rfl⟩
  obtain ⟨W, hW⟩ : ∃ W, w.alloc (.cells #[.int .i64 s.width, .slice a n c] 25) = W := ⟨_, rfl⟩
  have B0 : Below w.heap.size w W := by rw [← hW]; exact (Below.refl _ _).alloc (Nat.le_refl _) _
  have HB0 : W.heap[w.heap.size]? = some (.cells #[.int .i64 s.width, .slice a n c] 25 (0, 0)) := by rw [← hW]; exact heap_alloc_new _ _
  have x0 := (lies_cells HB0).1 0
  have x1 := (lies_cells HB0).1 1
  simp at x0 x1
  rw [hn] at hm hc ⊢
  have H0 := Lib.hid HB0
  have HW := Lib.hid hW
  have BB := Lib.hid B0
  have HN := Lib.hid hn
  have HR := Lib.hid (show WordsAt W (.slice a n c) s.words by rw [← hn] at *; exact h.below B0)
  have HK := Lib.hid hk
  have HOK := Lib.hid h.2
  unfold maxLen at hm
  clear hW HB0 B0 hk hn h
  have HRB := Lib.hid (show ∀ w9, Below w.heap.size w w9 → WordsAt w9 (.slice a n c) s.words from fun w9 hb => by have k := HR0.out; rw [HN.out] at k; exact k.below hb)
  have HT := Lib.hid hT
  have hnum := hT.num
  clear hT
  rcases Bool.eq_false_or_eq_true (setB s) with hv | hv
  rotate_left
  · have HV := Lib.hid hv
    rw [textS_no hv]
    clear hv
    go_enter Tryd.func35, Tryd.ntmps35
    go_wp2_with fail
    rw [show w.alloc (.cells #[.int .i64 s.width, .slice a n c] 25) = W from HW.out]
    refine (bvalid_to HV.out _ _ HR.out).mono ?_
    rintro e w1 ⟨rfl, b1⟩
    have B1 := Lib.hid (BB.out.trans (b1.mono BB.out.size))
    have L1 := Lib.hid (lies_below H0.out b1 (lt_heap H0.out))
    clear x0 x1 b1
    have x0 := (lies_cells L1.out).1 0
    have x1 := (lies_cells L1.out).1 1
    simp only [List.getElem?_toArray, List.getElem?_cons_zero, List.getElem?_cons_succ] at x0 x1
    go_wp2
    go_ret
    exact ⟨rfl, B1.out⟩
  have HV := Lib.hid hv
  have HE := Lib.hid (show textS s = Lib.join ((memS s).map dec10) [44] ++ (47 :: dec10 s.width.toNat) by unfold textS; rw [if_pos hv])
  obtain ⟨m, f1, f2, f3⟩ := form_len (valid_form hv HOK.out)
  have HF1 := Lib.hid f1
  obtain ⟨ml, hml⟩ : ∃ ml, (memS s).length = ml := ⟨_, rfl⟩
  have HML := Lib.hid hml
  have hm6 : ml ≤ 256 := by rw [← hml]; exact memS_len s HOK.out
  clear hv f1 f3 hml
  go_enter Tryd.func35, Tryd.ntmps35
  go_wp2_with fail
  rw [show w.alloc (.cells #[.int .i64 s.width, .slice a n c] 25) = W from HW.out]
  refine (bvalid_to HV.out _ _ HR.out).mono ?_
  rintro e w1 ⟨rfl, b1⟩
  have B1 := Lib.hid (BB.out.trans (b1.mono BB.out.size))
  have L1 := Lib.hid (lies_below H0.out b1 (lt_heap H0.out))
  clear x0 x1 b1
  have x0 := (lies_cells L1.out).1 0
  have x1 := (lies_cells L1.out).1 1
  simp only [List.getElem?_toArray, List.getElem?_cons_zero, List.getElem?_cons_succ] at x0 x1
  go_wp2_with fail
  refine (bmembers_any (B := B) s _ _ (HRB.out _ B1.out) (HT.out.below (B1.out.mono hB)).tz (by have := B1.out.size; omega)).mono ?_
  rintro e w2 ⟨mv, rfl, hmv, b2⟩
  obtain ⟨ma, mc, rfl, -, -, -, hmc⟩ := hmv.cell
  rw [List.length_map, HML.out]
  have B2 := Lib.hid (B1.out.trans (b2.mono B1.out.size))
  have L2 := Lib.hid (lies_below L1.out b2 (lt_heap L1.out))
  have HMC := Lib.hid hmc
  have I0 := Lib.hid (show TIn2 w2 w2 (.slice none 0 0) (((memS s).take 0).map dec10) from ⟨Below.refl _ _, World.ownsRow_nil _ _ _ _⟩)
  clear b2 x0 x1 hmv hmc
  go_wp2_with fail
  go_loopw [3, 12] (fun z y wr => ∃ i : Nat, i ≤ ml ∧ y = .int .i64 i ∧ Hid (TIn2 w2 wr z (((memS s).take i).map dec10))) (fun _ y _ => ml - (intOf y).toNat)
  case atStart => exact ⟨0, Nat.zero_le _, rfl, I0.out⟩
  case round =>
    clear I0
    obtain ⟨i, hi, rfl, I⟩ := hrel
    by_cases hlt : i < ml
    · obtain ⟨x, hx⟩ : ∃ x, (memS s)[i]? = some x := ⟨_, List.getElem?_eq_getElem (show i < (memS s).length by have := HML.out; omega)⟩
      have hx256 : x < 256 := memS_lt HOK.out (List.mem_of_getElem? hx)
      obtain ⟨xb, off, rfl, hxb, hcell⟩ := HMC.out i (x : Int) (by rw [List.getElem?_map, hx]; rfl)
      have gc := (I.out.below.cell (p := ⟨xb, off + i, none⟩) hxb).trans hcell
      have HS := Lib.hid (show ((memS s).take (i + 1)).map dec10 = ((memS s).take i).map dec10 ++ [dec10 x] by rw [List.take_add_one, hx, List.map_append]; rfl)
      have HLI := Lib.hid (show (((memS s).take i).map dec10).length = i by rw [List.length_map, List.length_take, HML.out]; omega)
      obtain ⟨d, hd⟩ : ∃ d, dec10 x = d := ⟨_, rfl⟩
      have HD := Lib.hid hd
      have HTW := Lib.hid (HT.out.below ((B2.out.trans (I.out.below.mono B2.out.size)).mono hB))
      clear hx hcell hd
      go_wp2_with fail
      refine (itoa_any x (by omega) _ HTW.out).mono ?_
      rw [HD.out]
      rintro e w4 ⟨rfl, b4⟩
      have I4 := Lib.hid (I.out.after b4)
      have OWN := Lib.hid (show w4.ownsRow w2.heap.size 9 1 u3 i ((((memS s).take i).map dec10).map qs) by have k := I4.out.own; rw [HLI.out] at k; exact k)
      have LE := Lib.hid I4.out.below.size
      clear gc b4
      go_wp2_with (at_builtin; refine wpList_pushH [qs d] rfl _ _ 55 rfl w2.heap.size 9 _ 1 16 Tryd.underlying55 info_str rfl (by decide) _ i _ OWN.out rfl _ rfl rfl rfl rfl (by unfold maxLen; omega) (by omega) LE.out ?_; intro g cap w6 own2 gr2 q1 q2; have OW2 := Lib.hid own2; have GR2 := Lib.hid gr2; clear own2 gr2 q1 q2)
      have I6 := Lib.hid (I4.out.push (x := d) (by rw [HLI.out]; exact OW2.out) GR2.out)
      go_roundw
      case rel => exact ⟨i + 1, by omega, by go_num, by rw [HS.out, HD.out]; exact I6.out⟩
      case measure => simp [intOf]; omega
    · obtain rfl : i = ml := by omega
      have I7 := Lib.hid (show TIn2 w2 wr u3 ((memS s).map dec10) by have k := I.out; rw [List.take_of_length_le (by rw [HML.out]; exact Nat.le_refl _)] at k; exact k)
      obtain ⟨za, zc, rfl, -, -⟩ := own_slice I7.out.own
      have hll : ((memS s).map dec10).length = i := by rw [List.length_map, HML.out]
      rw [hll] at I7 ⊢
      have HLL := Lib.hid hll
      have hx20 := Lib.hid (show ∀ x ∈ (memS s).map dec10, x.length ≤ 20 from fun x hx => by obtain ⟨y, hy, rfl⟩ := List.mem_map.1 hx; exact decF_len 20 y)
      have L7 := Lib.hid (lies_below L2.out I7.out.below (lt_heap L2.out))
      have x0 := (lies_cells L7.out).1 0
      have x1 := (lies_cells L7.out).1 1
      simp only [List.getElem?_toArray, List.getElem?_cons_zero, List.getElem?_cons_succ] at x0 x1
      obtain ⟨jn, hjn⟩ : ∃ jn, Lib.join ((memS s).map dec10) [44] = jn := ⟨_, rfl⟩
      have HJN := Lib.hid hjn
      have hjl : jn.length ≤ 6000 := by have k := join_len _ hx20.out; rw [HJN.out, HLL.out] at k; omega
      rw [HF1.out] at x0
      obtain ⟨dw, hdw⟩ : ∃ dw, dec10 m = dw := ⟨_, rfl⟩
      have HDW := Lib.hid hdw
      have hdl : dw.length ≤ 20 := by rw [← hdw]; exact decF_len 20 m
      have hs1 : ¬ 9223372036854775807 < jn.length + 1 := by omega
      have hs2 : ¬ 9223372036854775807 < jn.length + 1 + List.length dw := by omega
      have hw0 : w.heap.size < wr.heap.size := lt_heap L7.out
      have HTW := Lib.hid (HT.out.below ((B2.out.trans (I7.out.below.mono B2.out.size)).mono hB))
      have HBW := Lib.hid (Nat.le_trans hB (B2.out.trans (I7.out.below.mono B2.out.size)).size)
      clear hll hjn hdw
      go_wp2_with fail
      go_region_held3 (fun w' => w'.cell? ⟨w.heap.size, 0, none⟩ = some (.int .i64 (m : Int))) (go_keep) (first | (go_at_call 66; refine (join_any ((memS s).map dec10) _ wr.drew (I7.out.strs.below (Below.refl _ _).drew) (by rw [HLL.out]; omega) hx20.out).mono ?_; rw [HJN.out]; rintro e w5 ⟨rfl, b5⟩; have B5 := Lib.hid (show Below wr.heap.size wr w5 from (Below.refl _ _).drew.trans b5); have x5 := (b5.cell (p := ⟨w.heap.size, 0, none⟩) hw0).trans x0; clear b5) | (go_at_call 65; refine (itoa_any m (by omega) w5 (HTW.out.below (B5.out.mono HBW.out))).mono ?_; rw [HDW.out]; rintro e w6 ⟨rfl, b6⟩; have B6 := Lib.hid (B5.out.trans (b6.mono B5.out.size)); have x6 := (b6.cell (p := ⟨w.heap.size, 0, none⟩) (Nat.lt_of_lt_of_le hw0 B5.out.size)).trans x5; clear b6))
      all_goals
        go_wp2
        go_ret
        exact ⟨ret_strQ (by rw [HE.out, HJN.out, HF1.out, Int.toNat_natCast, HDW.out]; apply ByteArray.ext; simp), (B2.out.trans (I7.out.below.mono B2.out.size)).trans (B6.out.mono (B2.out.trans (I7.out.below.mono B2.out.size)).size)⟩
end Go.Proofs.YtmanmlankfoflaaDoor
