/- Walks: queries.Unload. Printed by wip/gen_qrw10.py. -/
import Derived.Test.YtlchgbfpoaipgaaDoorQrW9
import Derived.Test.YtlchgbfpoaipgaaDoorQryU
import Derived.Test.YtlchgbfpoaipgaaDoorMem2
set_option linter.unusedVariables false
set_option linter.unusedSimpArgs false
set_option linter.unusedSectionVars false
namespace Go.Proofs.YtlchgbfpoaipgaaDoor
open Go.RowKit
variable [Base]

theorem info_str : (Tryd.prog.info? 9).map (fun i => (i.zero, i.size, i.bytes)) = some (some (Value.string ⟨#[]⟩), 1, 16) := by kernel_rfl
theorem own_base {w : World} {b b' sz n : Nat} {e : TypeId} {v : Value} {xs : List Value} (h : w.ownsRow b e sz v n xs) (hb : b' ≤ b) : w.ownsRow b' e sz v n xs := by
  refine ⟨h.1, ?_⟩
  rcases h.2 with hn | ⟨g, cap, cur, rfl, hg, rest⟩
  · exact .inl hn
  · exact .inr ⟨g, cap, cur, rfl, Nat.le_trans hb hg, rest⟩
def UnlQ (l : List QRec) (p : Int) (w : World) (e : Ending) (w' : World) : Prop := ∃ v iv, e = .returned (.tuple #[v, iv]) ∧ RecsAt w' v (unloadQ l p) ∧ SliceAt w' 9 1 iv ((unloadIds l p).map qs) ∧ Below w.heap.size w w'
set_option maxHeartbeats 2000000 in
theorem unload_any {B : Nat} (l : List QRec) (p : Int) (v : Value) (w : World) (KW : KwIn B w) (hB : B ≤ w.heap.size) (h : RecsAt w v l) :
    Calls Tryd.prog 21 #[v, .int .i64 p] w (UnlQ l p w) := by
  have hbs := Nat.le_trans KW.bs hB
  obtain ⟨a, c, rfl, hn, hcn, hcm, -⟩ := h.cell
  have HK := Lib.hid KW
  obtain ⟨n, hl⟩ : ∃ n, l.length = n := ⟨_, rfl⟩
  rw [hl] at hn h hcn ⊢
  have HL := Lib.hid hl
  have HR := Lib.hid h
  unfold maxLen at hn hcm
  clear h hl KW
  rcases Bool.eq_false_or_eq_true (tabB l) with ht | ht
  rotate_left
  · go_enter Tryd.func21, Tryd.ntmps21
    go_wp2_with (go_at_call 22; refine (tvalid_eq (B := B) ht _ _ HK.out hB HR.out).mono ?_; rintro e w1 ⟨rfl, b1⟩; have B1 := Lib.hid b1; clear b1)
    go_ret2
    exact ⟨_, _, rfl, by unfold unloadQ; rw [ht]; exact HR.out.below B1.out, by unfold unloadIds; rw [ht]; exact SliceAt.nil, B1.out⟩
  have h64 : n ≤ 64 := by have := tabB_len ht; have := HL.out; omega
  obtain ⟨xss, sa, al, ln, oc⟩ := RecsAt.rows HR.out
  rw [HL.out] at ln
  have SA := Lib.hid sa
  have AL := Lib.hid al
  have LN := Lib.hid ln
  have OC := Lib.hid oc
  clear sa al ln oc
  go_enter Tryd.func21, Tryd.ntmps21
  go_wp2_with first | (go_at_call 22; refine (tvalid_eq (B := B) ht _ _ HK.out hB HR.out).mono ?_; rintro e w1 ⟨rfl, b1⟩; have B1 := Lib.hid b1; clear b1) | (go_at_call 26; refine (clone_rec _ n xss.flatten w1 (SliceAt.same SA.out (SameT.below B1.out)) LN.out OC.out (by omega)).mono ?_; rintro e w2 ⟨g0, d, rfl, own, b2⟩; have OW := Lib.hid own; have B2 := Lib.hid b2; clear own b2)
  have I0 : Hid (UIn w w2 l p n 0 (.slice g0 n d) (.slice none 0 0)) := by
    have B12 : Below w.heap.size w w2 := B1.out.trans (B2.out.mono B1.out.size)
    refine ⟨B12, ⟨xss, ?_, ?_⟩, World.ownsRow_nil _ _ _ _⟩
    · exact own_base OW.out B1.out.size
    · exact AL.out.mono fun _ _ hx => RecCells.keep (SameT.below B12) hx
  clear OW B2
  go_loopw [7, 18] (fun o y wr => ∃ i : Nat, i ≤ n ∧ y = .int .i64 i ∧ Hid (UIn w wr l p n i (.slice g0 n d) o)) (fun _ y _ => n - (intOf y).toNat)
  case atStart => exact ⟨0, Nat.zero_le _, rfl, I0⟩
  case round =>
    obtain ⟨i, hi, rfl, I⟩ := hrel
    by_cases hlt : i < n
    · obtain ⟨r, hr⟩ : ∃ r, l[i]? = some r := ⟨_, List.getElem?_eq_getElem (show i < l.length by have := HL.out; omega)⟩
      obtain ⟨xs2, o2, al2⟩ := I.out.rows
      obtain ⟨g, rfl, hg1, hg2, hty, hgc, hgf⟩ := own_pos o2 (by omega)
      obtain ⟨a2, c2, ea, -, -, -, hcc⟩ := RecsAt.cell (⟨xs2, SliceAt.of_owns o2, al2⟩ : RecsAt wr (.slice (some ⟨g, 0, none⟩) n d) (tabU l p i))
      obtain ⟨rb, off, u, e4, hrb, hu, hcs⟩ := hcc i r (tabU_at hr)
      injection ea with e1 e2 e3
      rw [← e1] at e4
      injection e4 with e4
      injection e4 with e5 e6
      subst e5 e6
      obtain ⟨ua, uc, rfl, hum, -⟩ := hu.cell
      obtain ⟨un, hun⟩ : ∃ n, r.value.words.length = n := ⟨_, rfl⟩
      rw [hun] at hcs hum
      have g0 := hcs 0 (by omega)
      have g1 := hcs 1 (by omega)
      have g2 := hcs 2 (by omega)
      have g3 := hcs 3 (by omega)
      have g4 := hcs 4 (by omega)
      have g5 := hcs 5 (by omega)
      have g6 := hcs 6 (by omega)
      have g7 := hcs 7 (by omega)
      simp only [List.getElem?_cons_zero, List.getElem?_cons_succ, Nat.add_zero, Nat.zero_add] at g0 g1 g2 g3 g4 g5 g6 g7
      have J := Lib.hid (I.out.alloc (.cells #[qs r.id, .int .i64 r.prog, .int .i64 r.kind, .int .i64 r.node, .int .i64 r.prio, .int .i64 r.status, .int .i64 r.value.width, .slice ua un uc] 31))
      have hwz := I.out.lt
      have HRI := Lib.hid hr
      by_cases hh : hitB p r = true
      · have hp : (r.prog == p) = true := by simp only [hitB, Bool.and_eq_true, decide_eq_true_eq] at hh; simp [hh.1]
        have hs : (r.status == 1) = true := by simp only [hitB, Bool.and_eq_true, decide_eq_true_eq] at hh; simp [hh.2]
        have f5 := hgf (i * 8 + 5)
        have HTY := Lib.hid hty
        have II := Lib.hid I.out
        have IDS := Lib.hid (ownB (own_off (x := .int .i64 4) (j := i * 8 + 5) I.out.ids hty (by decide)) ((Below.refl (wr.setCell ⟨g, i * 8 + 5, none⟩ (.int .i64 4)).heap.size _).alloc (Nat.le_refl _) (.cells #[qs r.id, .int .i64 r.prog, .int .i64 r.kind, .int .i64 r.node, .int .i64 r.prio, .int .i64 r.status, .int .i64 r.value.width, .slice ua un uc] 31)))
        obtain ⟨k, hk⟩ : ∃ k, (idsU l p i).length = k := ⟨_, rfl⟩
        have hkn : k ≤ 64 := by
          rw [← hk]; unfold idsU; rw [List.length_map]
          refine Nat.le_trans (List.length_filter_le _ _) ?_
          rw [List.length_take]; omega
        rw [hk] at IDS
        have HSZ := Lib.hid (show ((wr.setCell ⟨g, i * 8 + 5, none⟩ (.int .i64 4)).alloc (.cells #[qs r.id, .int .i64 r.prog, .int .i64 r.kind, .int .i64 r.node, .int .i64 r.prio, .int .i64 r.status, .int .i64 r.value.width, .slice ua un uc] 31)).heap.size = wr.heap.size + 1 by simp)
        have LE := Lib.hid (show w.heap.size ≤ ((wr.setCell ⟨g, i * 8 + 5, none⟩ (.int .i64 4)).alloc (.cells #[qs r.id, .int .i64 r.prog, .int .i64 r.kind, .int .i64 r.node, .int .i64 r.prio, .int .i64 r.status, .int .i64 r.value.width, .slice ua un uc] 31)).heap.size by simp; omega)
        have HHH := Lib.hid hh
        have HKK := Lib.hid hk
        clear hcs hr hu hun hcc hgc hgf hh I o2 al2 e1 e2 e3 I0 hk
        go_wp2_with (at_builtin; refine wpList_pushH [qs r.id] rfl _ _ 48 rfl w.heap.size 9 _ 1 16 Tryd.underlying48 info_str rfl (by omega) _ k _ IDS.out rfl _ rfl HSZ.out rfl rfl (by unfold maxLen; omega) (by omega) LE.out ?_; intro g2 cap w6 own2 gr2 q1 q2; have OW2 := Lib.hid own2; have GR2 := Lib.hid gr2; clear own2 gr2 q1 q2)
        go_roundw
        case rel => exact ⟨i + 1, by omega, by go_num, II.out.hit HRI.out HHH.out HTY.out hg1 (by rw [HKK.out]; exact OW2.out) GR2.out⟩
        case measure => simp [intOf]; omega
      · have hhf : hitB p r = false := by simpa using hh
        have J2 := Lib.hid (J.out.miss hr hhf)
        by_cases hp1 : r.prog = p
        · have hp : (r.prog == p) = true := by simp [hp1]
          have hs : (r.status == 1) = false := by simpa [hitB, hp1] using hhf
          clear hcs hr hu hun hcc hgc hgf hh I o2 al2 e1 e2 e3 I0 hhf hp1
          go_wp2
          go_roundw
          case rel => exact ⟨i + 1, by omega, by go_num, J2⟩
          case measure => simp [intOf]; omega
        · have hp : (r.prog == p) = false := by simpa using hp1
          clear hcs hr hu hun hcc hgc hgf hh I o2 al2 e1 e2 e3 I0 hhf hp1
          go_wp2
          go_roundw
          case rel => exact ⟨i + 1, by omega, by go_num, J2⟩
          case measure => simp [intOf]; omega
    · obtain rfl : i = n := by omega
      go_wp2
      go_ret2
      refine ⟨_, _, rfl, ?_, ?_, I.out.below⟩
      · obtain ⟨xs2, o2, al2⟩ := I.out.rows
        rw [← tabU_end (i := i) (by have := HL.out; omega) ht]
        exact ⟨xs2, SliceAt.of_owns o2, al2⟩
      · rw [← idsU_end (i := i) (by have := HL.out; omega) ht]
        exact SliceAt.of_owns I.out.ids
end Go.Proofs.YtlchgbfpoaipgaaDoor
