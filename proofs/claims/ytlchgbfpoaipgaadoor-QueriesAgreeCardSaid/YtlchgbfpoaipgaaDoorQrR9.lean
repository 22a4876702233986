/- Walks: the reference's Unload. Printed by wip/gen_qrr9.py. -/
import Derived.Test.YtlchgbfpoaipgaaDoorQrR6
import Derived.Test.YtlchgbfpoaipgaaDoorQrW10
set_option linter.unusedVariables false
set_option linter.unusedSimpArgs false
set_option linter.unusedSectionVars false
namespace Go.Proofs.YtlchgbfpoaipgaaDoor
open Go.RowKit
variable [Base]

theorem UIn.hit0 {w0 w w' : World} {l : List QRec} {p : Int} {n d i g : Nat} {iv iv' : Value} {r : QRec} (h : UIn w0 w l p n i (.slice (some ⟨g, 0, none⟩) n d) iv) (hr : l[i]? = some r) (hh : hitB p r = true) (hty : tyAt w g = some 31) (hw : w0.heap.size ≤ g)
    (hown : w'.ownsRow w0.heap.size 9 1 iv' ((idsU l p i).length + 1) ((idsU l p i).map qs ++ [qs r.id])) (hg : (w.setCell ⟨g, i * 8 + 5, none⟩ (.int .i64 4)).grownBy w' iv.ownBlock) (hbs : Base.b ≤ w0.heap.size := by omega) : UIn w0 w' l p n (i + 1) (.slice (some ⟨g, 0, none⟩) n d) iv' := by
  obtain ⟨xss, h1, h2⟩ := h.rows
  have hi := own_off (x := .int .i64 4) (j := i * 8 + 5) h.ids hty (by decide)
  have hu : SameT 61 w w' := (SameT.words hty).trans (SameT.grown hg hi (by decide))
  obtain ⟨x, hx, u, e, hu2⟩ := h2.satR (tabU_at (p := p) hr)
  have hsz : w0.heap.size ≤ (w.setCell ⟨g, i * 8 + 5, none⟩ (.int .i64 4)).heap.size := by simpa using h.lt
  refine ⟨(h.below.setCell hw _).trans (Below.of_grown hg hi hsz), ⟨xss.set i (x.set 5 (.int .i64 4)), ?_, ?_⟩, ?_⟩
  · rw [← flatten_set 8 _ 5 (by omega) xss i x (rows_len h2) hx]
    exact own_grown (own_set h1 _ _) hi hg (by decide)
  · rw [tabU_set hr]
    refine All2.set ?_ i (h2.mono fun _ _ hx => RecCells.keep hu hx)
    rw [e]
    exact ⟨u, by unfold unload1; rw [hh]; rfl, by unfold unload1; rw [hh]; exact hu2.keep hu⟩
  · rw [idsU_hit hr hh, List.map_append, List.length_append]
    exact hown
set_option maxHeartbeats 2000000 in
theorem runload_any (l : List QRec) (p : Int) (v : Value) (w : World) (h : RecsAt w v l) (hbs : Base.b ≤ w.heap.size) :
    Calls Tryd.prog 32 #[v, .int .i64 p] w (UnlQ l p w) := by
  obtain ⟨a, c, rfl, hn, hcn, hcm, -⟩ := h.cell
  obtain ⟨n, hl⟩ : ∃ n, l.length = n := ⟨_, rfl⟩
  rw [hl] at hn h hcn ⊢
  have HL := Lib.hid hl
  have HR := Lib.hid h
  unfold maxLen at hn hcm
  clear h hl
  rcases Bool.eq_false_or_eq_true (tabB l) with ht | ht
  rotate_left
  · go_enter Tryd.func32, Tryd.ntmps32
    go_wp2_with (go_at_call 35; refine (rtvalid_eq ht _ _ HR.out).mono ?_; rintro e w1 ⟨rfl, b1⟩; have B1 := Lib.hid b1; clear b1)
    go_ret2
    exact ⟨_, _, rfl, by unfold unloadQ; rw [ht]; exact HR.out.below B1.out, by unfold unloadIds; rw [ht]; exact SliceAt.nil, B1.out⟩
  have h64 : n ≤ 64 := by have := tabB_len ht; have := HL.out; omega
  obtain ⟨xss, sa, al, ln, oc⟩ := RecsAt.rows HR.out
  rw [HL.out] at ln
  have SA := Lib.hid sa
  have AL := Lib.hid al
  have LN := Lib.hid ln
  have OC := Lib.hid oc
  clear sa al ln oc
  go_enter Tryd.func32, Tryd.ntmps32
  go_wp2_with first | (go_at_call 35; refine (rtvalid_eq ht _ _ HR.out).mono ?_; rintro e w1 ⟨rfl, b1⟩; have B1 := Lib.hid b1; clear b1) | (at_builtin; refine wpList_append_sl rfl _ _ 22 rfl w1.heap.size 31 _ 8 88 Tryd.underlying22 info_rec rfl (by decide) _ _ _ (empty_rec w1) rfl _ n _ rfl (SliceAt.same (SliceAt.same SA.out (SameT.below B1.out)) SameT.alloc) LN.out OC.out (by unfold maxLen; omega) (by omega) (by simp) ?_; intro g0 d w2 own gr; simp only [Nat.zero_add, List.nil_append] at own; have OW := Lib.hid own; have B2 := Lib.hid (((Below.refl w1.heap.size w1).alloc (Nat.le_refl _) (.cells #[] 31)).trans (Below.of_grown gr (empty_rec w1) (by simp))); clear own gr)
  have I0 : Hid (UIn w w2 l p n 0 (.slice g0 n d) (.slice none 0 0)) := by
    have B12 : Below w.heap.size w w2 := B1.out.trans (B2.out.mono B1.out.size)
    refine ⟨B12, ⟨xss, ?_, ?_⟩, World.ownsRow_nil _ _ _ _⟩
    · exact own_base OW.out B1.out.size
    · exact AL.out.mono fun _ _ hx => RecCells.keep (SameT.below B12) hx
  clear OW B2
  go_loopw [7, 8] (fun o y wr => ∃ i : Nat, i ≤ n ∧ y = .int .i64 i ∧ Hid (UIn w wr l p n i (.slice g0 n d) o)) (fun _ y _ => n - (intOf y).toNat)
  case atStart => exact ⟨0, Nat.zero_le _, rfl, I0⟩
  case round =>
    obtain ⟨i, hi, rfl, I⟩ := hrel
    by_cases hlt : i < n
    · obtain ⟨r, hr⟩ : ∃ r, l[i]? = some r := ⟨_, List.getElem?_eq_getElem (show i < l.length by have := HL.out; omega)⟩
      obtain ⟨xs2, o2, al2⟩ := I.out.rows
      obtain ⟨g, rfl, hg1, hg2, hty, hgc, hgf⟩ := own_pos o2 (by omega)
      obtain ⟨a2, c2, ea, -, -, -, hcc⟩ := RecsAt.cell (⟨xs2, SliceAt.of_owns o2, al2⟩ : RecsAt wr (.slice (some ⟨g, 0, none⟩) n d) (tabU l p i))
      obtain ⟨rb, off, u, e4, hrb, hu, hcs⟩ := hcc i r (tabU_at hr)
      injection ea with e1 e2 e3
      rw [← e1] at e4
      injection e4 with e4
      injection e4 with e5 e6
      subst e5 e6
      have g0 := hcs 0 (by omega)
      have g1 := hcs 1 (by omega)
      have g5 := hcs 5 (by omega)
      simp only [List.getElem?_cons_zero, List.getElem?_cons_succ, Nat.add_zero, Nat.zero_add] at g0 g1 g5
      have hwz := I.out.lt
      have HRI := Lib.hid hr
      by_cases hh : hitB p r = true
      · have hp : (r.prog == p) = true := by simp only [hitB, Bool.and_eq_true, decide_eq_true_eq] at hh; simp [hh.1]
        have hs : (r.status == 1) = true := by simp only [hitB, Bool.and_eq_true, decide_eq_true_eq] at hh; simp [hh.2]
        have f5 := hgf (i * 8 + 5)
        have k0 := cell_else (g := g) (o := i * 8) (j := i * 8 + 5) (u := .int .i64 4) (by omega) g0
        have HTY := Lib.hid hty
        have II := Lib.hid I.out
        have IDS := Lib.hid (own_off (x := .int .i64 4) (j := i * 8 + 5) I.out.ids hty (by decide))
        obtain ⟨k, hk⟩ : ∃ k, (idsU l p i).length = k := ⟨_, rfl⟩
        have hkn : k ≤ 64 := by
          rw [← hk]; unfold idsU; rw [List.length_map]
          refine Nat.le_trans (List.length_filter_le _ _) ?_
          rw [List.length_take]; omega
        rw [hk] at IDS
        have HSZ := Lib.hid (show (wr.setCell ⟨g, i * 8 + 5, none⟩ (.int .i64 4)).heap.size = wr.heap.size by simp)
        have LE := Lib.hid (show w.heap.size ≤ (wr.setCell ⟨g, i * 8 + 5, none⟩ (.int .i64 4)).heap.size by simp; omega)
        have HHH := Lib.hid hh
        have HKK := Lib.hid hk
        clear hcs hr hu hcc hgc hgf hh I o2 al2 e1 e2 e3 I0 hk
        go_wp2_with (at_builtin; refine wpList_pushH [qs r.id] rfl _ _ 48 rfl w.heap.size 9 _ 1 16 Tryd.underlying48 info_str rfl (by omega) _ k _ IDS.out rfl _ rfl HSZ.out rfl rfl (by unfold maxLen; omega) (by omega) LE.out ?_; intro g2 cap w6 own2 gr2 q1 q2; have OW2 := Lib.hid own2; have GR2 := Lib.hid gr2; clear own2 gr2 q1 q2)
        go_roundw
        case rel => exact ⟨i + 1, by omega, by go_num, II.out.hit0 HRI.out HHH.out HTY.out hg1 (by rw [HKK.out]; exact OW2.out) GR2.out⟩
        case measure => simp [intOf]; omega
      · have hhf : hitB p r = false := by simpa using hh
        have J2 := Lib.hid (I.out.miss hr hhf)
        by_cases hp1 : r.status = 1
        · have hs : (r.status == 1) = true := by simp [hp1]
          have hp : (r.prog == p) = false := by simpa [hitB, hp1] using hhf
          clear hcs hr hu hcc hgc hgf hh I o2 al2 e1 e2 e3 I0 hhf hp1
          go_wp2
          go_roundw
          case rel => exact ⟨i + 1, by omega, by go_num, J2⟩
          case measure => simp [intOf]; omega
        · have hp : (r.status == 1) = false := by simpa using hp1
          clear hcs hr hu hcc hgc hgf hh I o2 al2 e1 e2 e3 I0 hhf hp1
          go_wp2
          go_roundw
          case rel => exact ⟨i + 1, by omega, by go_num, J2⟩
          case measure => simp [intOf]; omega
    · obtain rfl : i = n := by omega
      go_wp2
      go_ret2
      refine ⟨_, _, rfl, ?_, ?_, I.out.below⟩
      · obtain ⟨xs2, o2, al2⟩ := I.out.rows
        rw [← tabU_end (i := i) (by have := HL.out; omega) ht]
        exact ⟨xs2, SliceAt.of_owns o2, al2⟩
      · rw [← idsU_end (i := i) (by have := HL.out; omega) ht]
        exact SliceAt.of_owns I.out.ids
end Go.Proofs.YtlchgbfpoaipgaaDoor
