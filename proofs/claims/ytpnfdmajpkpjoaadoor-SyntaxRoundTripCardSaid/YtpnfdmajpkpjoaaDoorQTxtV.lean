/- Walk of the reference's test on programs. -/
import Derived.Test.YtpnfdmajpkpjoaaDoorQTxtW
set_option linter.unusedVariables false
set_option linter.unusedSimpArgs false
namespace Go.Proofs.YtpnfdmajpkpjoaaDoor
open Go.RowKit

theorem rname_sv (s : Str) (w : World) : Calls Tryd.prog 66 #[sv s] w (RNamePost (nameB s) w) := rname_any ⟨s.toArray⟩ w
theorem funcB_name {f : PFunc} (h : nameB f.name = false) : funcB f = false := by unfold funcB; rw [h]; rfl
theorem funcB_few (f : PFunc) (h : f.blocks.length < 1) : funcB f = false := by
  unfold funcB; rw [show decide (1 ≤ f.blocks.length) = false from decide_eq_false (by omega)]; simp
theorem funcB_many (f : PFunc) (h : 16 < f.blocks.length) : funcB f = false := by
  unfold funcB; rw [show decide (f.blocks.length ≤ 16) = false from decide_eq_false (by omega)]; simp
theorem funcB_in (f : PFunc) (h : nameB f.name = true) (h1 : 1 ≤ f.blocks.length) (h2 : f.blocks.length ≤ 16) : funcB f = f.blocks.all blockB := by
  unfold funcB; rw [h]; simp [h1, h2]
theorem blockB_name {f : PBlock} (h : nameB f.name = false) : blockB f = false := by unfold blockB; rw [h]; rfl
theorem blockB_few (f : PBlock) (h : f.stmts.length < 1) : blockB f = false := by
  unfold blockB; rw [show decide (1 ≤ f.stmts.length) = false from decide_eq_false (by omega)]; simp
theorem blockB_many (f : PBlock) (h : 32 < f.stmts.length) : blockB f = false := by
  unfold blockB; rw [show decide (f.stmts.length ≤ 32) = false from decide_eq_false (by omega)]; simp
theorem blockB_in (f : PBlock) (h : nameB f.name = true) (h1 : 1 ≤ f.stmts.length) (h2 : f.stmts.length ≤ 32) : blockB f = f.stmts.all stmtB := by
  unfold blockB; rw [h]; simp [h1, h2]

set_option maxRecDepth 100000 in
set_option maxHeartbeats 4000000 in
theorem valid_in (p : List PFunc) (v : Value) (w : World) (h : FuncsAt w v p) (h1 : 1 ≤ p.length) (h8 : p.length ≤ 8) :
    Calls Tryd.prog 42 #[.agg #[v]] w (BoolPost (p.all funcB) w) := by
  obtain ⟨a, c, rfl, hn, hc⟩ := h.cell
  have HC := Lib.hid hc
  obtain ⟨n, hl⟩ : ∃ n, p.length = n := ⟨_, rfl⟩
  rw [hl] at hn h1 h8 ⊢
  have HL := Lib.hid hl
  clear hc h hl hn
  go_enter Tryd.func42, Tryd.ntmps42
  go_wp2
  have B0 := Lib.hid ((Below.refl w.heap.size w).alloc (Nat.le_refl _) (.cells #[.slice a n c] 34))
  go_loopw [3] (fun x wr => ∃ i : Nat, i ≤ n ∧ x = .int .i64 i ∧ Hid (Below w.heap.size w wr) ∧ w.heap.size < wr.heap.size ∧ wr.cell? ⟨w.heap.size, 0, none⟩ = some (.slice a n c) ∧ Hid (p.all funcB = (p.drop i).all funcB)) (fun x _ => n - (intOf x).toNat)
  case atStart => exact ⟨0, Nat.zero_le _, rfl, B0, by simp, World.cell?_alloc_new _ _ _ _, by unfold Hid; simp⟩
  case round =>
    obtain ⟨i, hi, rfl, HB, hz, hp0, hs⟩ := hrel
    by_cases hlt : i < n
    · obtain ⟨f, hf⟩ : ∃ f, p[i]? = some f := ⟨_, List.getElem?_eq_getElem (show i < p.length by have := HL.out; omega)⟩
      obtain ⟨fb, off, bv, rfl, hfb, g0, g1, hbl⟩ := HC.out i f hf
      have g0 := (HB.out.cell (p := ⟨fb, off + i * 2, none⟩) hfb).trans g0
      have g1 := (HB.out.cell (p := ⟨fb, off + i * 2 + 1, none⟩) hfb).trans g1
      have st := Lib.hid (all_drop' p i f hf funcB)
      obtain ⟨ba, bc, rfl, hbn, hbc⟩ := hbl.cell
      have HBC := Lib.hid hbc
      obtain ⟨bn, hbl2⟩ : ∃ n, f.blocks.length = n := ⟨_, rfl⟩
      rw [hbl2] at hbn g1
      unfold maxLen at hbn
      have HBL := Lib.hid hbl2
      clear hf hbl hbc hbl2 B0
      have hR := Lib.hid (fun w => rname_sv f.name w)
      go_wp2_with fail
      refine (hR.out _).mono ?_
      rintro e w2 ⟨rfl, hb2⟩
      have hsz := hb2.size
      simp at hsz
      have q0 : w2.cell? ⟨wr.heap.size, 0, none⟩ = some (sv f.name) := (hb2.cell (p := ⟨wr.heap.size, 0, none⟩) (by simp)).trans (World.cell?_alloc_new _ _ _ _)
      have q1 : w2.cell? ⟨wr.heap.size, 1, none⟩ = some (.slice ba bn bc) := (hb2.cell (p := ⟨wr.heap.size, 1, none⟩) (by simp)).trans (World.cell?_alloc_new _ _ _ _)
      have ba1 := (Below.refl wr.heap.size wr).alloc (Nat.le_refl _) (.cells #[sv f.name, .slice ba bn bc] 50)
      have hp0 := (hb2.cell (p := ⟨w.heap.size, 0, none⟩) (by simp; omega)).trans ((ba1.cell (p := ⟨w.heap.size, 0, none⟩) hz).trans hp0)
      have HB2 := Lib.hid ((HB.out.trans (ba1.mono (by omega))).trans (hb2.mono (by simp; omega)))
      obtain ⟨bf, hbf⟩ : ∃ b, wr.heap.size = b := ⟨_, rfl⟩
      rw [hbf] at q0 q1 hsz hz
      rw [hbf]
      clear hb2 HB g0 g1 ba1 hbf hR
      cases e : nameB f.name
      · have hF := Lib.hid (funcB_name e)
        go_wp2
        go_ret
        exact ⟨ret_bool (by rw [hs.out, st.out, hF.out]; rfl), HB2.out⟩
      have E := Lib.hid e
      clear e
      by_cases hb1 : (bn : Int) < 1
      · have hF := Lib.hid (funcB_few f (by rw [HBL.out]; omega))
        go_wp2
        go_ret
        exact ⟨ret_bool (by rw [hs.out, st.out, hF.out]; rfl), HB2.out⟩
      by_cases hb16 : (16 : Int) < (bn : Int)
      · have hF := Lib.hid (funcB_many f (by rw [HBL.out]; omega))
        go_wp2
        go_ret
        exact ⟨ret_bool (by rw [hs.out, st.out, hF.out]; rfl), HB2.out⟩
      have hF := Lib.hid (funcB_in f E.out (by rw [HBL.out]; omega) (by rw [HBL.out]; omega))
      go_wp2
      obtain ⟨wo, rfl⟩ : ∃ wo : World, wo = w2 := ⟨_, rfl⟩
      go_loopw [5] (fun x wi => ∃ k : Nat, k ≤ bn ∧ x = .int .i64 k ∧ Hid (Below w.heap.size w wi) ∧ bf < wi.heap.size ∧ wi.cell? ⟨w.heap.size, 0, none⟩ = some (.slice (some ⟨fb, off, none⟩) n c) ∧ wi.cell? ⟨bf, 1, none⟩ = some (.slice ba bn bc) ∧ Hid (f.blocks.all blockB = (f.blocks.drop k).all blockB)) (fun x _ => bn - (intOf x).toNat)
      case atStart => exact ⟨0, Nat.zero_le _, rfl, HB2, by omega, hp0, q1, by unfold Hid; simp⟩
      case round =>
        obtain ⟨k, hk, rfl, HB, hbz, hp0, q1, hs2⟩ := hrel
        by_cases hlt2 : k < bn
        · obtain ⟨b, hb⟩ : ∃ b, f.blocks[k]? = some b := ⟨_, List.getElem?_eq_getElem (show k < f.blocks.length by have := HBL.out; omega)⟩
          obtain ⟨kb, koff, sv1, rfl, hkb, g0, g1, hsl⟩ := HBC.out k b hb
          have g0 := (HB.out.cell (p := ⟨kb, koff + k * 2, none⟩) hkb).trans g0
          have g1 := (HB.out.cell (p := ⟨kb, koff + k * 2 + 1, none⟩) hkb).trans g1
          have st2 := Lib.hid (all_drop' f.blocks k b hb blockB)
          obtain ⟨sa, sc, rfl, hsn, hsc⟩ := hsl.cell
          have HSC := Lib.hid hsc
          obtain ⟨sn, hsl2⟩ : ∃ n, b.stmts.length = n := ⟨_, rfl⟩
          rw [hsl2] at hsn g1
          unfold maxLen at hsn
          have HSL := Lib.hid hsl2
          clear hb hsl hsc hsl2
          have hR := Lib.hid (fun w => rname_sv b.name w)
          go_wp2_with fail
          refine (hR.out _).mono ?_
          rintro e w2 ⟨rfl, hb2⟩
          have hsz := hb2.size
          simp at hsz
          have r0 : w2.cell? ⟨wr.heap.size, 0, none⟩ = some (sv b.name) := (hb2.cell (p := ⟨wr.heap.size, 0, none⟩) (by simp)).trans (World.cell?_alloc_new _ _ _ _)
          have r1 : w2.cell? ⟨wr.heap.size, 1, none⟩ = some (.slice sa sn sc) := (hb2.cell (p := ⟨wr.heap.size, 1, none⟩) (by simp)).trans (World.cell?_alloc_new _ _ _ _)
          have ba1 := (Below.refl wr.heap.size wr).alloc (Nat.le_refl _) (.cells #[sv b.name, .slice sa sn sc] 53)
          have hp0 := (hb2.cell (p := ⟨w.heap.size, 0, none⟩) (by simp; omega)).trans ((ba1.cell (p := ⟨w.heap.size, 0, none⟩) (by show w.heap.size < _; omega)).trans hp0)
          have q1 := (hb2.cell (p := ⟨bf, 1, none⟩) (by simp; omega)).trans ((ba1.cell (p := ⟨bf, 1, none⟩) hbz).trans q1)
          have HB2 := Lib.hid ((HB.out.trans (ba1.mono (by omega))).trans (hb2.mono (by simp; omega)))
          obtain ⟨bb, hbb⟩ : ∃ b, wr.heap.size = b := ⟨_, rfl⟩
          rw [hbb] at r0 r1 hsz hbz
          rw [hbb]
          clear hb2 HB g0 g1 ba1 hbb hR
          cases e : nameB b.name
          · have hK := Lib.hid (blockB_name e)
            go_wp2
            go_ret
            exact ⟨ret_bool (by rw [hs.out, st.out, hF.out, hs2.out, st2.out, hK.out]; rfl), HB2.out⟩
          have E := Lib.hid e
          clear e
          by_cases hc1 : (sn : Int) < 1
          · have hK := Lib.hid (blockB_few b (by rw [HSL.out]; omega))
            go_wp2
            go_ret
            exact ⟨ret_bool (by rw [hs.out, st.out, hF.out, hs2.out, st2.out, hK.out]; rfl), HB2.out⟩
          by_cases hc32 : (32 : Int) < (sn : Int)
          · have hK := Lib.hid (blockB_many b (by rw [HSL.out]; omega))
            go_wp2
            go_ret
            exact ⟨ret_bool (by rw [hs.out, st.out, hF.out, hs2.out, st2.out, hK.out]; rfl), HB2.out⟩
          have hK := Lib.hid (blockB_in b E.out (by rw [HSL.out]; omega) (by rw [HSL.out]; omega))
          go_wp2
          obtain ⟨wo, rfl⟩ : ∃ wo : World, wo = w2 := ⟨_, rfl⟩
          go_loopw [7] (fun x wi => ∃ j : Nat, j ≤ sn ∧ x = .int .i64 j ∧ Hid (Below w.heap.size w wi) ∧ bb < wi.heap.size ∧ wi.cell? ⟨w.heap.size, 0, none⟩ = some (.slice (some ⟨fb, off, none⟩) n c) ∧ wi.cell? ⟨bf, 1, none⟩ = some (.slice (some ⟨kb, koff, none⟩) bn bc) ∧ wi.cell? ⟨bb, 1, none⟩ = some (.slice sa sn sc) ∧ Hid (b.stmts.all stmtB = (b.stmts.drop j).all stmtB)) (fun x _ => sn - (intOf x).toNat)
          case atStart => exact ⟨0, Nat.zero_le _, rfl, HB2, by omega, hp0, q1, r1, by unfold Hid; simp⟩
          case round =>
            obtain ⟨j, hj, rfl, HB, hcz, hp0, q1, r1, hs3⟩ := hrel
            by_cases hlt3 : j < sn
            · obtain ⟨s, hs4⟩ : ∃ s, b.stmts[j]? = some s := ⟨_, List.getElem?_eq_getElem (show j < b.stmts.length by have := HSL.out; omega)⟩
              obtain ⟨jb, joff, su, tu, rfl, hjb, g0, g1, g2, g3, hsu, htu⟩ := HSC.out j s hs4
              have g0 := (HB.out.cell (p := ⟨jb, joff + j * 4, none⟩) hjb).trans g0
              have g1 := (HB.out.cell (p := ⟨jb, joff + j * 4 + 1, none⟩) hjb).trans g1
              have g2 := (HB.out.cell (p := ⟨jb, joff + j * 4 + 2, none⟩) hjb).trans g2
              have g3 := (HB.out.cell (p := ⟨jb, joff + j * 4 + 3, none⟩) hjb).trans g3
              have st3 := Lib.hid (all_drop' b.stmts j s hs4 stmtB)
              have hR := Lib.hid (stmtOK_any s su tu wr (SliceAt.same hsu (SameT.below HB.out)) (SliceAt.same htu (SameT.below HB.out)))
              clear hs4 hsu htu
              go_wp2_with fail
              refine hR.out.mono ?_
              rintro e w2 ⟨rfl, hb2⟩
              have hsz := hb2.size
              have hp0 := (hb2.cell (p := ⟨w.heap.size, 0, none⟩) (by show w.heap.size < _; omega)).trans hp0
              have q1 := (hb2.cell (p := ⟨bf, 1, none⟩) (by show bf < _; omega)).trans q1
              have r1 := (hb2.cell (p := ⟨bb, 1, none⟩) hcz).trans r1
              have HB2 := Lib.hid (HB.out.trans (hb2.mono (by omega)))
              clear hb2 HB g0 g1 g2 g3 hR
              cases e : stmtB s
              · have E := Lib.hid e
                clear e
                go_wp2
                go_ret
                exact ⟨ret_bool (by rw [hs.out, st.out, hF.out, hs2.out, st2.out, hK.out, hs3.out, st3.out, E.out]; rfl), HB2.out⟩
              · have E := Lib.hid e
                clear e
                go_wp2
                go_roundw
                case rel => exact ⟨j + 1, by omega, by go_num, HB2, by omega, hp0, q1, r1, by unfold Hid; rw [hs3.out, st3.out, E.out]; rfl⟩
                case measure => simp [intOf]; omega
            · have hall : Hid (blockB b = true) := by unfold Hid; rw [hK.out, hs3.out, List.drop_of_length_le (by have := HSL.out; omega)]; rfl
              go_wp2
              go_roundw
              case rel => exact ⟨k + 1, by omega, by go_num, HB, by omega, hp0, q1, by unfold Hid; rw [hs2.out, st2.out, hall.out]; rfl⟩
              case measure => simp [intOf]; omega
        · have hall : Hid (funcB f = true) := by unfold Hid; rw [hF.out, hs2.out, List.drop_of_length_le (by have := HBL.out; omega)]; rfl
          go_wp2
          go_roundw
          case rel => exact ⟨i + 1, by omega, by go_num, HB, by omega, hp0, by unfold Hid; rw [hs.out, st.out, hall.out]; rfl⟩
          case measure => simp [intOf]; omega
    · go_wp2
      go_ret
      exact ⟨ret_bool (by rw [hs.out, List.drop_of_length_le (by have := HL.out; omega)]; rfl), HB.out⟩

theorem valid_any (p : List PFunc) (v : Value) (w : World) (h : FuncsAt w v p) :
    Calls Tryd.prog 42 #[.agg #[v]] w (BoolPost (validB p) w) := by
  by_cases h1 : 1 ≤ p.length
  · by_cases h8 : p.length ≤ 8
    · have e : validB p = p.all funcB := by unfold validB; simp [h1, h8]
      rw [e]
      exact valid_in p v w h h1 h8
    · have e : validB p = false := by unfold validB; simp [h8]
      rw [e]
      obtain ⟨a, c, rfl, hn, _⟩ := h.cell
      have g1 : decide ((p.length : Int) < 1) = false := by simp; omega
      have g8 : decide ((8 : Int) < (p.length : Int)) = true := by simp; omega
      clear h h1 h8 e hn
      go_enter Tryd.func42, Tryd.ntmps42
      go_wp2
      go_ret
      exact ⟨rfl, (Below.refl _ _).alloc (Nat.le_refl _) _⟩
  · have e : validB p = false := by unfold validB; simp [h1]
    rw [e]
    obtain ⟨a, c, rfl, hn, _⟩ := h.cell
    have g1 : decide ((p.length : Int) < 1) = true := by simp; omega
    clear h h1 e hn
    go_enter Tryd.func42, Tryd.ntmps42
    go_wp2
    go_ret
    exact ⟨rfl, (Below.refl _ _).alloc (Nat.le_refl _) _⟩
end Go.Proofs.YtpnfdmajpkpjoaaDoor

