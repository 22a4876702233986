/- A part of the proof. -/
import Derived.Test.YtipnhmdibkkifaaGreatDoorNu08
import Derived.Test.YtipnhmdibkkifaaGreatDoorNu02
set_option linter.unusedVariables false
set_option linter.unusedSimpArgs false
set_option linter.unusedVariables false
set_option linter.unusedSimpArgs false
set_option linter.unusedSectionVars false
namespace Go.Proofs.YtipnhmdibkkifaaGreatDoor
open Go.RowKit
variable [Base]
theorem iname_sv {B : Nat} {w0 w : World} (kw : KwIn B w0) (hB : B ≤ w0.heap.size) (b : Below w0.heap.size w0 w) (s : Str) : Calls Tryz.prog 13 #[sv s] w (BoolPost (nameB s) w) :=
  (isname_any ⟨s.toArray⟩ w (kw.at_ (b.mono hB))).mono fun e w' ⟨h, k, h2⟩ => ⟨h, by rw [h2]; exact below_drewN (Below.refl _ _) k⟩
set_option maxRecDepth 100000 in
set_option maxHeartbeats 4000000 in
theorem pvalid_in {B : Nat} {w : World} (kw : KwIn B w) (hB : B ≤ w.heap.size) (p : List PFunc) (v : Value) (h : FuncsAt w v p) (hf : ∀ f ∈ p, ∀ b ∈ f.blocks, ∀ s ∈ b.stmts, FitS s) (h1 : 1 ≤ p.length) (h8 : p.length ≤ 8) :
    Calls Tryz.prog 42 #[.agg #[v]] w (BoolPost (p.all funcB) w) := by
  obtain ⟨a, c, rfl, hn, hc⟩ := h.cell
  have HC := Lib.hid hc
  obtain ⟨n, hl⟩ : ∃ n, p.length = n := ⟨_, rfl⟩
  rw [hl] at hn h1 h8 ⊢
  have HL := Lib.hid hl
  have KK := Lib.hid kw
  have HFF := Lib.hid hf
  clear hc h hl hn kw hf
  go_enter Tryz.func42, Tryz.ntmps42
  go_wp2
  have B0 := Lib.hid ((Below.refl w.heap.size w).alloc (Nat.le_refl _) (.cells #[.slice a n c] 48))
  go_loopw [20] (fun x wr => ∃ i : Nat, i ≤ n ∧ x = .int .i64 i ∧ Hid (Below w.heap.size w wr) ∧ w.heap.size < wr.heap.size ∧ wr.cell? ⟨w.heap.size, 0, none⟩ = some (.slice a n c) ∧ Hid (p.all funcB = (p.drop i).all funcB)) (fun x _ => n - (intOf x).toNat)
  case atStart => exact ⟨0, Nat.zero_le _, rfl, B0, by simp, World.cell?_alloc_new _ _ _ _, by unfold Hid; simp⟩
  case round =>
    obtain ⟨i, hi, rfl, HB, hz, hp0, hs⟩ := hrel
    by_cases hlt : i < n
    · obtain ⟨f, hf2⟩ : ∃ f, p[i]? = some f := ⟨_, List.getElem?_eq_getElem (show i < p.length by have := HL.out; omega)⟩
      obtain ⟨fb, off, bv, rfl, hfb, g0, g1, hbl⟩ := HC.out i f hf2
      have g0 := (HB.out.cell (p := ⟨fb, off + i * 2, none⟩) hfb).trans g0
      have g1 := (HB.out.cell (p := ⟨fb, off + i * 2 + 1, none⟩) hfb).trans g1
      have st := Lib.hid (all_drop' p i f hf2 funcB)
      obtain ⟨ba, bc, rfl, hbn, hbc⟩ := hbl.cell
      have HBC := Lib.hid hbc
      obtain ⟨bn, hbl2⟩ : ∃ n, f.blocks.length = n := ⟨_, rfl⟩
      rw [hbl2] at hbn g1
      unfold maxLen at hbn
      have HBL := Lib.hid hbl2
      have HIF := Lib.hid (List.mem_of_getElem? hf2)
      clear hf2 hbl hbc hbl2 B0
      have hR := Lib.hid (fun (w2 : World) (b : Below w.heap.size w w2) => iname_sv KK.out hB b f.name)
      go_wp2_with fail
      refine (hR.out _ (HB.out.trans (((Below.refl _ _).alloc (Nat.le_refl _) _).mono (by omega)))).mono ?_
      rintro e w2 ⟨rfl, hb2⟩
      have hsz := hb2.size
      simp at hsz
      have q0 : w2.cell? ⟨wr.heap.size, 0, none⟩ = some (sv f.name) := (hb2.cell (p := ⟨wr.heap.size, 0, none⟩) (by simp)).trans (World.cell?_alloc_new _ _ _ _)
      have q1 : w2.cell? ⟨wr.heap.size, 1, none⟩ = some (.slice ba bn bc) := (hb2.cell (p := ⟨wr.heap.size, 1, none⟩) (by simp)).trans (World.cell?_alloc_new _ _ _ _)
      have ba1 := (Below.refl wr.heap.size wr).alloc (Nat.le_refl _) (.cells #[sv f.name, .slice ba bn bc] 74)
      have hp0 := (hb2.cell (p := ⟨w.heap.size, 0, none⟩) (by simp; omega)).trans ((ba1.cell (p := ⟨w.heap.size, 0, none⟩) hz).trans hp0)
      have HB2 := Lib.hid ((HB.out.trans (ba1.mono (by omega))).trans (hb2.mono (by simp; omega)))
      obtain ⟨bf, hbf⟩ : ∃ b, wr.heap.size = b := ⟨_, rfl⟩
      rw [hbf] at q0 q1 hsz hz
      rw [hbf]
      clear hb2 HB g0 g1 ba1 hbf hR
      cases e : nameB f.name
      · have hF := Lib.hid (funcB_name e)
        go_wp2
        go_ret
        exact ⟨ret_bool (by rw [hs.out, st.out, hF.out]; rfl), HB2.out⟩
      have E := Lib.hid e
      clear e
      by_cases hb1 : (bn : Int) < 1
      · have hF := Lib.hid (funcB_few f (by rw [HBL.out]; omega))
        go_wp2
        go_ret
        exact ⟨ret_bool (by rw [hs.out, st.out, hF.out]; rfl), HB2.out⟩
      by_cases hb16 : (16 : Int) < (bn : Int)
      · have hF := Lib.hid (funcB_many f (by rw [HBL.out]; omega))
        go_wp2
        go_ret
        exact ⟨ret_bool (by rw [hs.out, st.out, hF.out]; rfl), HB2.out⟩
      have hF := Lib.hid (funcB_in f E.out (by rw [HBL.out]; omega) (by rw [HBL.out]; omega))
      go_wp2
      obtain ⟨wo, rfl⟩ : ∃ wo : World, wo = w2 := ⟨_, rfl⟩
      go_loopw [43] (fun x wi => ∃ k : Nat, k ≤ bn ∧ x = .int .i64 k ∧ Hid (Below w.heap.size w wi) ∧ bf < wi.heap.size ∧ wi.cell? ⟨w.heap.size, 0, none⟩ = some (.slice (some ⟨fb, off, none⟩) n c) ∧ wi.cell? ⟨bf, 1, none⟩ = some (.slice ba bn bc) ∧ Hid (f.blocks.all blockB = (f.blocks.drop k).all blockB)) (fun x _ => bn - (intOf x).toNat)
      case atStart => exact ⟨0, Nat.zero_le _, rfl, HB2, by omega, hp0, q1, by unfold Hid; simp⟩
      case round =>
        obtain ⟨k, hk, rfl, HB, hbz, hp0, q1, hs2⟩ := hrel
        by_cases hlt2 : k < bn
        · obtain ⟨b, hb⟩ : ∃ b, f.blocks[k]? = some b := ⟨_, List.getElem?_eq_getElem (show k < f.blocks.length by have := HBL.out; omega)⟩
          obtain ⟨kb, koff, sv1, rfl, hkb, g0, g1, hsl⟩ := HBC.out k b hb
          have g0 := (HB.out.cell (p := ⟨kb, koff + k * 2, none⟩) hkb).trans g0
          have g1 := (HB.out.cell (p := ⟨kb, koff + k * 2 + 1, none⟩) hkb).trans g1
          have st2 := Lib.hid (all_drop' f.blocks k b hb blockB)
          obtain ⟨sa, sc, rfl, hsn, hsc⟩ := hsl.cell
          have HST := Lib.hid (fun (w2 : World) (b2 : Below w.heap.size w w2) => StmtsAt.keep (SameT.below b2) (SameT.below b2) hsl)
          have HFS := Lib.hid (fun s hs => HFF.out f HIF.out b (List.mem_of_getElem? hb) s hs)
          obtain ⟨sn, hsl2⟩ : ∃ n, b.stmts.length = n := ⟨_, rfl⟩
          rw [hsl2] at hsn g1 HST
          unfold maxLen at hsn
          have HSL := Lib.hid hsl2
          clear hb hsl hsc hsl2
          have hR := Lib.hid (fun (w2 : World) (b2 : Below w.heap.size w w2) => iname_sv KK.out hB b2 b.name)
          go_wp2_with fail
          refine (hR.out _ (HB.out.trans (((Below.refl _ _).alloc (Nat.le_refl _) _).mono (by omega)))).mono ?_
          rintro e w2 ⟨rfl, hb2⟩
          have hsz := hb2.size
          simp at hsz
          have r0 : w2.cell? ⟨wr.heap.size, 0, none⟩ = some (sv b.name) := (hb2.cell (p := ⟨wr.heap.size, 0, none⟩) (by simp)).trans (World.cell?_alloc_new _ _ _ _)
          have r1 : w2.cell? ⟨wr.heap.size, 1, none⟩ = some (.slice sa sn sc) := (hb2.cell (p := ⟨wr.heap.size, 1, none⟩) (by simp)).trans (World.cell?_alloc_new _ _ _ _)
          have ba1 := (Below.refl wr.heap.size wr).alloc (Nat.le_refl _) (.cells #[sv b.name, .slice sa sn sc] 99)
          have hp0 := (hb2.cell (p := ⟨w.heap.size, 0, none⟩) (by simp; omega)).trans ((ba1.cell (p := ⟨w.heap.size, 0, none⟩) (by show w.heap.size < _; omega)).trans hp0)
          have q1 := (hb2.cell (p := ⟨bf, 1, none⟩) (by simp; omega)).trans ((ba1.cell (p := ⟨bf, 1, none⟩) hbz).trans q1)
          have HB2 := Lib.hid ((HB.out.trans (ba1.mono (by omega))).trans (hb2.mono (by simp; omega)))
          obtain ⟨bb, hbb⟩ : ∃ b, wr.heap.size = b := ⟨_, rfl⟩
          rw [hbb] at r0 r1 hsz hbz
          rw [hbb]
          clear hb2 HB g0 g1 ba1 hbb hR
          cases e : nameB b.name
          · have hK := Lib.hid (blockB_name e)
            go_wp2
            go_ret
            exact ⟨ret_bool (by rw [hs.out, st.out, hF.out, hs2.out, st2.out, hK.out]; rfl), HB2.out⟩
          have E := Lib.hid e
          clear e
          by_cases hc1 : (sn : Int) < 1
          · have hK := Lib.hid (blockB_few b (by rw [HSL.out]; omega))
            go_wp2
            go_ret
            exact ⟨ret_bool (by rw [hs.out, st.out, hF.out, hs2.out, st2.out, hK.out]; rfl), HB2.out⟩
          by_cases hc32 : (32 : Int) < (sn : Int)
          · have hK := Lib.hid (blockB_many b (by rw [HSL.out]; omega))
            go_wp2
            go_ret
            exact ⟨ret_bool (by rw [hs.out, st.out, hF.out, hs2.out, st2.out, hK.out]; rfl), HB2.out⟩
          have hK := Lib.hid (blockB_in b E.out (by rw [HSL.out]; omega) (by rw [HSL.out]; omega))
          have K := Lib.hid (containss_any (w := w2) (KwIn.keep KK.out fun k hk => HB2.out.block k (Nat.lt_of_lt_of_le hk hB)) (Nat.le_trans hB HB2.out.size) b.stmts (.slice sa sn sc) (HST.out _ HB2.out) (HFS.out))
          obtain ⟨r, hr⟩ : ∃ r, b.stmts.all stmtB = r := ⟨_, rfl⟩
          rw [hr] at K hK
          clear hr
          go_wp2_with fail
          refine K.out.mono ?_
          rintro e w3 ⟨rfl, hb3⟩
          have hsz3 := hb3.size
          have hp0 := (hb3.cell (p := ⟨w.heap.size, 0, none⟩) (by show w.heap.size < _; omega)).trans hp0
          have q1 := (hb3.cell (p := ⟨bf, 1, none⟩) (by show bf < _; omega)).trans q1
          have HB3 := Lib.hid (HB2.out.trans (hb3.mono (by omega)))
          clear hb3 r0 r1 HB2
          cases r
          · go_wp2
            go_ret
            exact ⟨ret_bool (by rw [hs.out, st.out, hF.out, hs2.out, st2.out, hK.out]; rfl), HB3.out⟩
          · go_wp2
            go_roundw
            case rel => exact ⟨k + 1, by omega, by go_num, HB3, by omega, hp0, q1, by unfold Hid; rw [hs2.out, st2.out, hK.out]; rfl⟩
            case measure => simp [intOf]; omega
        · have hall : Hid (funcB f = true) := by unfold Hid; rw [hF.out, hs2.out, List.drop_of_length_le (by have := HBL.out; omega)]; rfl
          go_wp2
          go_roundw
          case rel => exact ⟨i + 1, by omega, by go_num, HB, by omega, hp0, by unfold Hid; rw [hs.out, st.out, hall.out]; rfl⟩
          case measure => simp [intOf]; omega
    · go_wp2
      go_ret
      exact ⟨ret_bool (by rw [hs.out, List.drop_of_length_le (by have := HL.out; omega)]; rfl), HB.out⟩
theorem pvalidp_any {B : Nat} {w : World} (kw : KwIn B w) (hB : B ≤ w.heap.size) (p : List PFunc) (v : Value) (h : FuncsAt w v p) (hf : ∀ f ∈ p, ∀ b ∈ f.blocks, ∀ s ∈ b.stmts, FitS s) :
    Calls Tryz.prog 42 #[.agg #[v]] w (BoolPost (validB p) w) := by
  by_cases h1 : 1 ≤ p.length
  · by_cases h8 : p.length ≤ 8
    · have e : validB p = p.all funcB := by unfold validB; simp [h1, h8]
      rw [e]
      exact pvalid_in kw hB p v h hf h1 h8
    · have e : validB p = false := by unfold validB; simp [h8]
      rw [e]
      obtain ⟨a, c, rfl, hn, _⟩ := h.cell
      have g1 : decide ((p.length : Int) < 1) = false := by simp; omega
      have g8 : decide ((8 : Int) < (p.length : Int)) = true := by simp; omega
      clear h h1 h8 e hn
      go_enter Tryz.func42, Tryz.ntmps42
      go_wp2
      go_ret
      exact ⟨rfl, (Below.refl _ _).alloc (Nat.le_refl _) _⟩
  · have e : validB p = false := by unfold validB; simp [h1]
    rw [e]
    obtain ⟨a, c, rfl, hn, _⟩ := h.cell
    have g1 : decide ((p.length : Int) < 1) = true := by simp; omega
    clear h h1 e hn
    go_enter Tryz.func42, Tryz.ntmps42
    go_wp2
    go_ret
    exact ⟨rfl, (Below.refl _ _).alloc (Nat.le_refl _) _⟩
end Go.Proofs.YtipnhmdibkkifaaGreatDoor
set_option linter.unusedVariables false
set_option linter.unusedSimpArgs false
set_option linter.unusedSectionVars false
namespace Go.Proofs.YtipnhmdibkkifaaGreatDoor
open Go.RowKit
variable [Base]
structure Two (z nb eb : Nat) (x y : Int) (w w' : World) : Prop where
  below : Below z w w'
  rest : ∀ k, k < w.heap.size → k ≠ nb → k ≠ eb → w'.heap[k]? = w.heap[k]?
  nat : w'.heap[nb]? = some (.cells #[iv x] 3 (0, 0))
  eat : w'.heap[eb]? = some (.cells #[iv y] 3 (0, 0))
theorem set1c {w : World} {b : Nat} {a0 : Value} {t : TypeId} {fr : Nat × Nat} (h : w.heap[b]? = some (.cells #[a0] t fr)) (x : Value) : (w.setCell ⟨b, 0, none⟩ x).heap[b]? = some (.cells #[x] t fr) := by
  simp [World.setCell, Array.getElem?_modify, h]
theorem set_ne {w : World} {b k : Nat} (h : b ≠ k) (x : Value) : (w.setCell ⟨b, 0, none⟩ x).heap[k]? = w.heap[k]? := by
  simp [World.setCell, Array.getElem?_modify, h]
theorem Two.setN {z nb eb : Nat} {x y : Int} {w w' : World} (h : Two z nb eb x y w w') (hz : z ≤ nb) (hne : nb ≠ eb) (x' : Int) : Two z nb eb x' y w (w'.setCell ⟨nb, 0, none⟩ (iv x')) :=
  ⟨h.below.setCell (p := ⟨nb, 0, none⟩) hz _, fun k hk h1 h2 => (set_ne (fun e => h1 e.symm) _).trans (h.rest k hk h1 h2), set1c h.nat _, (set_ne hne _).trans h.eat⟩
theorem Two.setE {z nb eb : Nat} {x y : Int} {w w' : World} (h : Two z nb eb x y w w') (hz : z ≤ eb) (hne : nb ≠ eb) (y' : Int) : Two z nb eb x y' w (w'.setCell ⟨eb, 0, none⟩ (iv y')) :=
  ⟨h.below.setCell (p := ⟨eb, 0, none⟩) hz _, fun k hk h1 h2 => (set_ne (fun e => h2 e.symm) _).trans (h.rest k hk h1 h2), (set_ne (fun e => hne e.symm) _).trans h.nat, set1c h.eat _⟩
set_option maxRecDepth 100000 in
set_option maxHeartbeats 4000000 in
theorem sizes1_any (z nb eb : Nat) (s : PStmt) (u t : Value) (w : World) (x y : Int) (hz : z ≤ nb ∧ z ≤ eb ∧ nb ≠ eb) (hx : w.heap[nb]? = some (.cells #[iv x] 3 (0, 0))) (hy : w.heap[eb]? = some (.cells #[iv y] 3 (0, 0))) (h0 : 0 ≤ x ∧ x ≤ 1000000 ∧ 0 ≤ y ∧ y ≤ 1000000) :
    Calls Tryz.prog 74 #[.agg #[iv s.op, sv s.dfn, u, t], .pointer (some ⟨nb, 0, none⟩), .pointer (some ⟨eb, 0, none⟩)] w (fun e w' => e = .returned (.tuple #[]) ∧ Two z nb eb (x + nodeC s) (y + edgeC s) w w') := by
  have hnb := lt_heap hx
  have heb := lt_heap hy
  obtain ⟨hz1, hz2, hne⟩ := hz
  obtain ⟨op, d, us, ts⟩ := s
  obtain ⟨W, hW⟩ : ∃ W, w.alloc (.cells #[iv op, sv d, u, t] 118) = W := ⟨_, rfl⟩
  have T0 : Two z nb eb x y w W := by
    rw [← hW]
    exact ⟨(Below.refl _ _).alloc (by omega) _, fun k hk _ _ => ((Below.refl w.heap.size w).alloc (Nat.le_refl _) _).block k hk, alloc_blk _ hx, alloc_blk _ hy⟩
  have T := Lib.hid T0
  have T1 := Lib.hid (T0.setN hz1 hne (x + 1))
  have x0 := (blk_cells T0.nat).1 0
  have y0 := (blk_cells T0.eat).1 0
  have xf := (blk_cells T0.nat).2 0
  have yf := (blk_cells T0.eat).2 0
  have s0 : W.cell? ⟨w.heap.size, 0, none⟩ = some (iv op) := by rw [← hW]; exact World.cell?_alloc_new _ _ _ _
  have HW := Lib.hid hW
  clear T0 hW hx hy
  simp at x0 y0
  go_enter Tryz.func74, Tryz.ntmps74
  go_upto_region 1 with (fail)
  rw [show w.alloc (.cells #[iv op, sv d, u, t] 118) = W from HW.out]
  go_upto_region 2 with (fail)
  have ws : w.heap.size < W.heap.size := by rw [← HW.out]; simp
  have hs1 : W.heap[w.heap.size]? = some (.cells #[iv op, sv d, u, t] 118 (0, 0)) := by rw [← HW.out]; exact heap_alloc_new _ _
  have HS1 := Lib.hid ((set_ne (b := nb) (k := w.heap.size) (w := W) (by omega) (iv (x + 1))).trans hs1)
  obtain ⟨W1, hW1⟩ : ∃ X, W.setCell ⟨nb, 0, none⟩ (iv (x + 1)) = X := ⟨_, rfl⟩
  rw [show W.setCell ⟨nb, 0, none⟩ (.int .i64 (x + 1)) = W1 from hW1]
  rw [hW1] at T1 HS1
  clear x0 y0 xf yf s0 hW1 hs1 ws HW T
  have x0 := (blk_cells T1.out.nat).1 0
  have y0 := (blk_cells T1.out.eat).1 0
  have xf := (blk_cells T1.out.nat).2 0
  have yf := (blk_cells T1.out.eat).2 0
  simp at x0 y0
  obtain ⟨s0, s1, s2, s3⟩ := cells4s HS1.out
  by_cases h3 : op = 3
  · subst h3
    have T2 := Lib.hid ((T1.out.setN hz1 hne (x + 1 + 1)).setE hz2 hne (y + 3))
    have yy := (blk_cells (T1.out.setN hz1 hne (x + 1 + 1)).eat).1 0
    have yz := (blk_cells (T1.out.setN hz1 hne (x + 1 + 1)).eat).2 0
    simp at yy
    go_wp2
    exact bodyPost_end (v := .tuple #[]) (by simp [results, Tryz.results74, go_sem]) rfl ⟨rfl, by rw [show x + nodeC ⟨3, d, us, ts⟩ = x + 1 + 1 by unfold nodeC; simp; omega, show y + edgeC ⟨3, d, us, ts⟩ = y + 3 by unfold edgeC; simp]; exact T2.out⟩
  · by_cases h8 : op = 8
    · subst h8
      have T2 := Lib.hid (T1.out.setE hz2 hne (y + 2))
      go_wp2
      exact bodyPost_end (v := .tuple #[]) (by simp [results, Tryz.results74, go_sem]) rfl ⟨rfl, by rw [show x + nodeC ⟨8, d, us, ts⟩ = x + 1 by unfold nodeC; simp, show y + edgeC ⟨8, d, us, ts⟩ = y + 2 by unfold edgeC; simp]; exact T2.out⟩
    · have T2 := Lib.hid (T1.out.setE hz2 hne (y + 1))
      go_wp2
      exact bodyPost_end (v := .tuple #[]) (by simp [results, Tryz.results74, go_sem]) rfl ⟨rfl, by rw [show x + nodeC ⟨op, d, us, ts⟩ = x + 1 by unfold nodeC; simp [h3], show y + edgeC ⟨op, d, us, ts⟩ = y + 1 by unfold edgeC; simp [h3, h8]]; exact T2.out⟩
end Go.Proofs.YtipnhmdibkkifaaGreatDoor
set_option linter.unusedVariables false
set_option linter.unusedSimpArgs false
set_option linter.unusedSectionVars false
namespace Go.Proofs.YtipnhmdibkkifaaGreatDoor
open Go.RowKit
variable [Base]
theorem sumI_acc (l : List Int) (a : Int) : l.foldl (· + ·) a = a + sumI l := by
  unfold sumI
  induction l generalizing a with
  | nil => simp
  | cons x r ih => simp only [List.foldl_cons]; rw [ih (a + x), ih (0 + x)]; omega
theorem sumI_append (l r : List Int) : sumI (l ++ r) = sumI l + sumI r := by
  unfold sumI
  rw [List.foldl_append]
  exact sumI_acc r _
end Go.Proofs.YtipnhmdibkkifaaGreatDoor
set_option linter.unusedVariables false
set_option linter.unusedSimpArgs false
set_option linter.unusedSectionVars false
namespace Go.Proofs.YtipnhmdibkkifaaGreatDoor
open Go.RowKit
variable [Base]
theorem nodeC_le (s : PStmt) : 1 ≤ nodeC s ∧ nodeC s ≤ 2 ∧ 1 ≤ edgeC s ∧ edgeC s ≤ 3 := by
  unfold nodeC edgeC
  repeat' split
  all_goals omega
def nodeSum (l : List PStmt) : Int := sumI (l.map nodeC)
def edgeSum (l : List PStmt) : Int := sumI (l.map edgeC)
theorem sumS_le (l : List PStmt) : 0 ≤ nodeSum l ∧ nodeSum l ≤ 2 * (l.length : Int) ∧ 0 ≤ edgeSum l ∧ edgeSum l ≤ 3 * (l.length : Int) := by
  unfold nodeSum edgeSum
  induction l with
  | nil => simp [sumI]
  | cons s r ih =>
    have h := nodeC_le s
    simp only [List.map_cons, sumI_cons, List.length_cons]
    push_cast
    omega
end Go.Proofs.YtipnhmdibkkifaaGreatDoor
set_option linter.unusedVariables false
set_option linter.unusedSimpArgs false
set_option linter.unusedSectionVars false
namespace Go.Proofs.YtipnhmdibkkifaaGreatDoor
open Go.RowKit
variable [Base]
theorem valid_few {p : List PFunc} (hv : validB p = true) : p.length ≤ 8 ∧ ∀ f ∈ p, f.blocks.length ≤ 16 ∧ ∀ b ∈ f.blocks, b.stmts.length ≤ 32 := by
  unfold validB at hv
  simp only [Bool.and_eq_true, decide_eq_true_eq, List.all_eq_true] at hv
  refine ⟨by omega, fun f hf => ?_⟩
  have h := hv.2.2 f hf
  unfold funcB at h
  simp only [Bool.and_eq_true, decide_eq_true_eq, List.all_eq_true] at h
  refine ⟨by omega, fun b hb => ?_⟩
  have h2 := h.2.2.2 b hb
  unfold blockB at h2
  simp only [Bool.and_eq_true, decide_eq_true_eq, List.all_eq_true] at h2
  omega
theorem flat_few {α : Type} (l : List (List α)) (c : Nat) (h : ∀ x ∈ l, x.length ≤ c) : l.flatten.length ≤ c * l.length := by
  induction l with
  | nil => simp
  | cons x r ih =>
    have h1 := h x List.mem_cons_self
    have h2 := ih fun y hy => h y (List.mem_cons_of_mem _ hy)
    simp only [List.flatten_cons, List.length_append, List.length_cons, Nat.mul_succ]
    omega
def stmtsF (f : PFunc) : List PStmt := (f.blocks.map PBlock.stmts).flatten
theorem stmtsP_take {p : List PFunc} {i : Nat} {f : PFunc} (h : p[i]? = some f) : stmtsP (p.take (i + 1)) = stmtsP (p.take i) ++ stmtsF f := by
  unfold stmtsP stmtsF
  rw [List.take_add_one, h]
  simp
def stmtsBs (l : List PBlock) : List PStmt := (l.map PBlock.stmts).flatten
theorem stmtsBs_take {l : List PBlock} {i : Nat} {b : PBlock} (h : l[i]? = some b) : stmtsBs (l.take (i + 1)) = stmtsBs (l.take i) ++ b.stmts := by
  unfold stmtsBs
  rw [List.take_add_one, h]
  simp
theorem nodeSum_app (a b : List PStmt) : nodeSum (a ++ b) = nodeSum a + nodeSum b ∧ edgeSum (a ++ b) = edgeSum a + edgeSum b := by
  unfold nodeSum edgeSum
  simp [sumI_append]
theorem stmtsF_few {p : List PFunc} (hv : validB p = true) {f : PFunc} (hf : f ∈ p) : (stmtsF f).length ≤ 512 := by
  have h := (valid_few hv).2 f hf
  have h2 := flat_few (f.blocks.map PBlock.stmts) 32 (by intro x hx; obtain ⟨b, hb, rfl⟩ := List.mem_map.1 hx; exact h.2 b hb)
  unfold stmtsF
  rw [List.length_map] at h2
  omega
theorem stmtsP_few {p : List PFunc} (hv : validB p = true) (i : Nat) : (stmtsP (p.take i)).length ≤ 4096 := by
  have h2 := flat_few ((p.take i).map stmtsF) 512 (by intro x hx; obtain ⟨f, hf, rfl⟩ := List.mem_map.1 hx; exact stmtsF_few hv (List.mem_of_mem_take hf))
  have h3 := (valid_few hv).1
  rw [List.length_map, List.length_take] at h2
  show ((p.take i).map stmtsF).flatten.length ≤ _
  omega
end Go.Proofs.YtipnhmdibkkifaaGreatDoor
set_option linter.unusedVariables false
set_option linter.unusedSimpArgs false
set_option linter.unusedSectionVars false
namespace Go.Proofs.YtipnhmdibkkifaaGreatDoor
open Go.RowKit
variable [Base]
theorem stmtsP_split {p : List PFunc} {i k j : Nat} {f : PFunc} {b : PBlock} {s : PStmt} (hf : p[i]? = some f) (hb : f.blocks[k]? = some b) (hs : b.stmts[j]? = some s) : ∃ r, stmtsP p = (stmtsP (p.take i) ++ stmtsBs (f.blocks.take k) ++ b.stmts.take j) ++ s :: r := by
  refine ⟨b.stmts.drop (j + 1) ++ stmtsBs (f.blocks.drop (k + 1)) ++ stmtsP (p.drop (i + 1)), ?_⟩
  have e1 : p = p.take i ++ f :: p.drop (i + 1) := by
    have hi : i < p.length := (List.getElem?_eq_some_iff.1 hf).1
    rw [← (List.getElem?_eq_some_iff.1 hf).2, List.getElem_cons_drop, List.take_append_drop]
  have e2 : f.blocks = f.blocks.take k ++ b :: f.blocks.drop (k + 1) := by
    rw [← (List.getElem?_eq_some_iff.1 hb).2, List.getElem_cons_drop, List.take_append_drop]
  have e3 : b.stmts = b.stmts.take j ++ s :: b.stmts.drop (j + 1) := by
    rw [← (List.getElem?_eq_some_iff.1 hs).2, List.getElem_cons_drop, List.take_append_drop]
  have h1 : ∀ x y : List PFunc, stmtsP (x ++ y) = stmtsP x ++ stmtsP y := fun x y => by simp [stmtsP]
  have h2 : ∀ x y : List PBlock, stmtsBs (x ++ y) = stmtsBs x ++ stmtsBs y := fun x y => by simp [stmtsBs]
  have h3 : ∀ x y, stmtsP (x :: y) = stmtsBs x.blocks ++ stmtsP y := fun x y => by simp [stmtsP, stmtsBs]
  have h4 : ∀ x y, stmtsBs (x :: y) = x.stmts ++ stmtsBs y := fun x y => by simp [stmtsBs]
  conv => lhs; rw [e1, h1, h3, e2, h2, h4, e3]
  simp
end Go.Proofs.YtipnhmdibkkifaaGreatDoor
