/- The law BitsetChanges: the walk. Printed by wip/gen_bslh.py. -/
import Derived.Test.YtmanmlankfoflaaDoorBsCh
import Derived.Test.YtmanmlankfoflaaDoorBsG3
import Derived.Test.YtmanmlankfoflaaDoorBsSa
import Derived.Test.YtmanmlankfoflaaDoorBsZd
import Derived.Test.YtmanmlankfoflaaDoorBsS
import Derived.Deep.CutRange
set_option linter.unusedVariables false
set_option linter.unusedSimpArgs false
set_option linter.unusedSectionVars false
namespace Go.Proofs.YtmanmlankfoflaaDoor
open Go.RowKit
variable [Base]

theorem wide_at {B bt : Nat} (w : World) (ht : TapeOk B w bt) : Calls Tryd.prog 10 #[.pointer (some ⟨bt, 0, none⟩)] w (fun e w' => ∃ (s : QSet) (u : Value), e = .returned (.agg #[.int .i64 s.width, u]) ∧ (FormS s ∧ setB s = true) ∧ WordsAt w' u s.words ∧ TapeOk B w' bt ∧ But bt w w') :=
  (wide_any w ht).mono fun e w' ⟨s, u, h1, h2, h3, h4⟩ => ⟨s, u, h1, ⟨h2, h3⟩, h4⟩
theorem spoil_at {B bt : Nat} (s : QSet) (hf : FormS s) (u : Value) (w : World) (ht : TapeOk B w bt) (hu : WordsAt w u s.words) : Calls Tryd.prog 13 #[.pointer (some ⟨bt, 0, none⟩), .agg #[.int .i64 s.width, u]] w (fun e w' => ∃ (s : QSet) (u : Value), e = .returned (.agg #[.int .i64 s.width, u]) ∧ WordsAt w' u s.words ∧ TapeOk B w' bt ∧ But bt w w') := by
  obtain ⟨m, h1, h2, h3⟩ := form_len hf
  exact spoilset_any s u w ht hu (by omega) (by omega) (by rw [h3]; unfold wordsN; omega)
theorem But.drew1 {bt : Nat} (w : World) : But bt w w.drew := ⟨rfl, rfl, rfl, Nat.le_refl _, fun _ _ _ => rfl⟩
theorem empty_is {m : Nat} (hm : m ≤ 256) : Ok m (emptyS m) := ⟨form_empty hm, empty_ok hm, rfl⟩
theorem diff_one {m k : Nat} {s : QSet} (hs : Ok m s) (hk : k < m) : mergeS clr s (putS (emptyS m) k) = (remS s k, 0) := by
  have he := empty_is hs.le
  have ho : Ok m (putS (emptyS m) k) := ⟨form_put he.form k, put_ok he.ok he.words (by rw [he.width]; omega), rfl⟩
  obtain ⟨r, e, hr, hb⟩ := clr_ok hs ho
  rw [e]
  congr 1
  refine set_ext (hr.width.trans hs.width.symm) hr.form (form_rem hs.form k) fun b => ?_
  rw [hb, show bitOf (remS s k).words b = _ from bit_rem, put_bit he.form (by rw [he.width]; omega), empty_bit]
  simp
/-- With, Without: no error .. -/
theorem with_w {s : QSet} {b : Int} {k : Nat} (h : chgS s b true = (putS s k, 0)) (u : Value) (w : World) (h1 : WordsAt w u s.words) (hbs : Base.b ≤ w.heap.size) : Calls Tryd.prog 19 #[.agg #[.int .i64 s.width, u], .int .i64 b] w (fun e w' => ∃ u', e = .returned (.tuple #[.agg #[.int .i64 s.width, u'], .int .i64 0]) ∧ WordsAt w' u' (putS s k).words ∧ Below w.heap.size w w') :=
  (with_any s b u w h1 hbs).mono fun e w' h2 => by rw [h] at h2; exact h2
theorem without_w {s : QSet} {b : Int} {k : Nat} (h : chgS s b false = (remS s k, 0)) (u : Value) (w : World) (h1 : WordsAt w u s.words) (hbs : Base.b ≤ w.heap.size) : Calls Tryd.prog 20 #[.agg #[.int .i64 s.width, u], .int .i64 b] w (fun e w' => ∃ u', e = .returned (.tuple #[.agg #[.int .i64 s.width, u'], .int .i64 0]) ∧ WordsAt w' u' (remS s k).words ∧ Below w.heap.size w w') :=
  (without_any s b u w h1 hbs).mono fun e w' h2 => by rw [h] at h2; exact h2
/-- .. or an error. -/
theorem with_e {s : QSet} {b n : Int} (h : chgS s b true = (zeroS, n)) (u : Value) (w : World) (h1 : WordsAt w u s.words) (hbs : Base.b ≤ w.heap.size) : Calls Tryd.prog 19 #[.agg #[.int .i64 s.width, u], .int .i64 b] w (fun e w' => ∃ a c, e = .returned (.tuple #[.agg #[.int .i64 0, .slice a 0 c], .int .i64 n]) ∧ WordsAt w' (.slice a 0 c) [] ∧ Below w.heap.size w w') :=
  (with_any s b u w h1 hbs).mono fun e w' h2 => by
    rw [h] at h2
    obtain ⟨u', e1, h3, h4⟩ := h2
    obtain ⟨a, c, rfl, -⟩ := h3.cell
    exact ⟨a, c, e1, h3, h4⟩
theorem without_e {s : QSet} {b n : Int} (h : chgS s b false = (zeroS, n)) (u : Value) (w : World) (h1 : WordsAt w u s.words) (hbs : Base.b ≤ w.heap.size) : Calls Tryd.prog 20 #[.agg #[.int .i64 s.width, u], .int .i64 b] w (fun e w' => ∃ a c, e = .returned (.tuple #[.agg #[.int .i64 0, .slice a 0 c], .int .i64 n]) ∧ WordsAt w' (.slice a 0 c) [] ∧ Below w.heap.size w w') :=
  (without_any s b u w h1 hbs).mono fun e w' h2 => by
    rw [h] at h2
    obtain ⟨u', e1, h3, h4⟩ := h2
    obtain ⟨a, c, rfl, -⟩ := h3.cell
    exact ⟨a, c, e1, h3, h4⟩
theorem rvalid_w {s : QSet} {b : Bool} (hb : setB s = b) (u : Value) (w : World) (h : WordsAt w u s.words) : Calls Tryd.prog 21 #[.agg #[.int .i64 s.width, u]] w (BoolQ b w) := rbvalid_to hb u w h
theorem empty_w {d : Int} {m : Nat} (hm : m ≤ 256) (hd : (emptyS m).width = d) (w : World) : Calls Tryd.prog 23 #[.int .i64 d] w (fun e w' => ∃ u, e = .returned (.agg #[.int .i64 d, u]) ∧ WordsAt w' u (emptyS m).words ∧ Below w.heap.size w w') := by
  subst hd
  exact (empty_any m hm w).mono fun e w' ⟨u, h1, h2, h3⟩ => ⟨u, h1, h2.words, h3⟩
theorem put_w {d : Int} {t : QSet} {k : Nat} (ht : FormS t) (hd : t.width = d) (hk : (k : Int) < t.width) (u : Value) (w : World) (hu : WordsAt w u t.words) : Calls Tryd.prog 22 #[.agg #[.int .i64 d, u], .int .i64 k] w (fun e w' => ∃ u', e = .returned (.agg #[.int .i64 d, u']) ∧ WordsAt w' u' (putS t k).words ∧ Below w.heap.size w w') := by
  subst hd
  exact (put_any t k u w ht hk hu).mono fun e w' ⟨u, h1, h2, h3⟩ => ⟨u, h1, h2.words, h3⟩
theorem diff_w {d : Int} {s t r : QSet} (h : mergeS clr s t = (r, 0)) (hs : s.width = d) (ht : t.width = d) (hr : r.width = d) (u1 u2 : Value) (w : World) (h1 : WordsAt w u1 s.words) (h2 : WordsAt w u2 t.words) : Calls Tryd.prog 24 #[.agg #[.int .i64 d, u1], .agg #[.int .i64 d, u2]] w (fun e w' => ∃ u', e = .returned (.tuple #[.agg #[.int .i64 d, u'], .int .i64 0]) ∧ WordsAt w' u' r.words ∧ Below w.heap.size w w') := by
  have c := rdiff_any s t u1 u2 w h1 h2
  rw [show setV s u1 = .agg #[.int .i64 s.width, u1] from rfl, show setV t u2 = .agg #[.int .i64 t.width, u2] from rfl, hs, ht] at c
  refine c.mono fun e w' h3 => ?_
  rw [h] at h3
  obtain ⟨u, e1, e2, e3⟩ := h3
  refine ⟨u, ?_, e2.words, e3⟩
  rw [e1, show setV r u = .agg #[.int .i64 r.width, u] from rfl, hr]
theorem same_w {d : Int} {t : QSet} (hd : t.width = d) (u1 u2 : Value) (w : World) (h1 : WordsAt w u1 t.words) (h2 : WordsAt w u2 t.words) : Calls Tryd.prog 25 #[.agg #[.int .i64 d, u1], .agg #[.int .i64 d, u2]] w (BoolQ true w) := by
  subst hd
  exact rsame_any t u1 u2 w h1 h2
set_option maxRecDepth 100000 in
set_option maxHeartbeats 4000000 in
theorem chgLaw_any (w0 : World) (a : Option Addr) (n c : Nat) (hn : n ≤ maxLen)
    (h : ∀ j : Nat, j < n → ∃ b off z, a = some ⟨b, off, none⟩ ∧ b < w0.heap.size ∧ w0.cell? ⟨b, off + j, none⟩ = some (.int .i64 z)) (KT : TabsIn w0.heap.size w0) (hbs : Base.b ≤ w0.heap.size) (bb : Int) :
    Calls Tryd.prog 6 #[.slice a n c, .int .i64 bb] w0 (BoolQ true w0) := by
  have hud : ∀ b : Bool, (undef = Value.bool b) = False := fun b => by simp [undef]
  have HK := Lib.hid KT
  have H := Lib.hid h
  clear h KT
  go_enter Tryd.func6, Tryd.ntmps6
  go_wp2_with fail
  refine (new_any rfl a n c hn H.out hbs).mono ?_
  rintro e w1 ⟨rfl, ht, hb⟩
  have T1 := Lib.hid ht
  have B1 := Lib.hid hb
  clear ht hb
  go_wp2_with fail
  go_loopw [6] (fun y6 wr => ∃ i : Nat, i ≤ 5 ∧ y6 = .int .i64 i ∧ Hid (TapeOk w0.heap.size wr w0.heap.size) ∧ Hid (Below w0.heap.size w0 wr)) (fun y _ => 5 - (intOf y).toNat)
  case atStart => exact ⟨0, by omega, rfl, T1, B1⟩
  case round =>
    clear T1 B1
    obtain ⟨i, hi, rfl, HT, HB⟩ := hrel
    by_cases hlt : i < 5
    · have i2 : (i : Int) < 5 := by omega
      go_wp2_with fail
      refine (wide_at _ HT.out).mono ?_
      rintro e p1 ⟨X, ux, rfl, okx, dx, t, b⟩
      obtain ⟨ax, nx, cx, rfl⟩ := dx.shape
      obtain ⟨VV, hv⟩ : ∃ VV, p1.alloc (.cells #[.int .i64 X.width, .slice ax nx cx] 25) = VV := ⟨_, rfl⟩
      have hb2 : Below p1.heap.size p1 VV := by rw [← hv]; exact (Below.refl _ _).alloc (Nat.le_refl _) _
      have QX := Lib.hid (show VV.heap[p1.heap.size]? = some (.cells #[.int .i64 X.width, .slice ax nx cx] 25 (0, 0)) by rw [← hv]; exact heap_alloc_new _ _)
      have RX := Lib.hid (dx.below hb2)
      have T0 := Lib.hid (t.below hb2)
      have B2 := HB.out.trans (b.toBelow (Nat.le_refl _) HB.out.size)
      have BVV := Lib.hid (B2.trans (hb2.mono B2.size))
      have OX := Lib.hid okx.1
      have hbv1 : w0.heap.size < p1.heap.size := t.lt
      obtain ⟨hm0, hm1⟩ : 0 ≤ X.width ∧ X.width ≤ 256 := by obtain ⟨m0, hm0, hm1, -⟩ := form_len okx.1; omega
      have HVV := Lib.hid hv
      have x0 := (lies_cells QX.out).1 0
      have x1 := (lies_cells QX.out).1 1
      simp only [List.getElem?_toArray, List.getElem?_cons_zero, List.getElem?_cons_succ] at x0 x1
      have hwr : IntKind.i64.wrap (X.width + 3) = X.width + 3 := IntWalk.i64_in _ (by omega)
      clear b hb2 hv t dx okx B2
      go_wp2_with fail
      rw [show p1.alloc (.cells #[.int .i64 X.width, .slice ax nx cx] 25) = VV from HVV.out]
      refine (next_pos2 (w := VV) T0.out (X.width + 3) (by omega) (by omega)).mono ?_
      rintro e p2 ⟨z, z0, z1, rfl, t, b⟩
      have hwz : IntKind.i64.wrap (z - 1) = z - 1 := IntWalk.i64_in _ (by omega)
      have T2 := Lib.hid t
      have F2 := Lib.hid b
      clear t b x0 x1
      go_upto_if 32 with fail
      go_cut [8] from 19 to 117 (fun y8 wx => ∃ (N : Int) (wy : World), wy = wx ∧ y8 = .int .i64 N ∧ wy = p2)
      case first =>
        by_cases h4 : i = 4
        · subst h4
          go_wp2_with fail
          go_meet
          case rel => exact ⟨_, _, rfl, rfl, rfl⟩
        · have h4b : ((i : Int) == 4) = false := by simp; omega
          go_wp2_with fail
          go_meet
          case rel => exact ⟨_, _, rfl, rfl, rfl⟩
      case rest =>
      obtain ⟨N, wy, rfl, rfl, rfl⟩ := hcut
      go_wp2_with fail
      refine (next_pos2 T2.out 4 (by omega) (by omega)).mono ?_
      rintro e p3 ⟨q, q0, q1, rfl, t, b⟩
      have T3 := Lib.hid t
      have F3 := Lib.hid (F2.out.trans b)
      clear t b F2 T2
      have Q3 := Lib.hid ((F3.out.block p1.heap.size (lt_heap QX.out) (by omega)).trans QX.out)
      have R3 := Lib.hid (RX.out.keep (F3.out.sameT T0.out (by decide)))
      have x0 := (lies_cells Q3.out).1 0
      have x1 := (lies_cells Q3.out).1 1
      have x2 := (lies_cells Q3.out).2 0
      have x3 := (lies_cells Q3.out).2 1
      simp only [List.getElem?_toArray, List.getElem?_cons_zero, List.getElem?_cons_succ] at x0 x1
      go_upto_if 36 with fail
      go_cut [8] from 19 to 117 (fun y8 wx => ∃ (P : QSet) (ap : Option Addr) (kp cp : Nat) (V : World), V = wx ∧ y8 = .int .i64 N ∧ Hid (V.heap[p1.heap.size]? = some (.cells #[.int .i64 P.width, .slice ap kp cp] 25 (0, 0))) ∧ Hid (WordsAt V (.slice ap kp cp) P.words) ∧ Hid (TapeOk w0.heap.size V w0.heap.size) ∧ Hid (Below w0.heap.size w0 V))
      case first =>
        by_cases hq : q = 0
        · subst hq
          go_wp2_with fail
          refine (spoil_at X OX.out _ _ T3.out R3.out).mono ?_
          rintro e p4 ⟨P, up, rfl, dP, t, b⟩
          obtain ⟨ap, kp, cp, rfl⟩ := dP.shape
          have DP := Lib.hid dP
          have T4 := Lib.hid t
          have F4 := Lib.hid (F3.out.trans b)
          have Q4 := Lib.hid ((b.block p1.heap.size (lt_heap Q3.out) (by omega)).trans Q3.out)
          clear t b dP x0 x1 x2 x3
          have x0 := (lies_cells Q4.out).1 0
          have x1 := (lies_cells Q4.out).1 1
          have x2 := (lies_cells Q4.out).2 0
          have x3 := (lies_cells Q4.out).2 1
          simp only [List.getElem?_toArray, List.getElem?_cons_zero, List.getElem?_cons_succ] at x0 x1
          have hty : tyAt p4 p1.heap.size = some 25 := tyAt_of Q4.out
          have HTY := Lib.hid hty
          have QQ := Lib.hid (show ((p4.setCell ⟨p1.heap.size, 0, none⟩ (.int .i64 P.width)).setCell ⟨p1.heap.size, 1, none⟩ (.slice ap kp cp)).heap[p1.heap.size]? = some (.cells #[.int .i64 P.width, .slice ap kp cp] 25 (0, 0)) by have h4 := Q4.out; simp [World.setCell, Array.getElem?_modify, h4])
          have hvv : VV.heap.size = p1.heap.size + 1 := by rw [← HVV.out]; simp
          clear hty
          go_wp2_with fail
          go_meet
          case rel => exact ⟨P, ap, kp, cp, _, rfl, rfl, QQ, Lib.hid (DP.out.keep (SameT.trans (SameT.setCell (U := 25) HTY.out (by decide)) (SameT.setCell (U := 25) ((tyAt_set _).trans HTY.out) (by decide)))), Lib.hid ((T4.out.setCell (p := ⟨p1.heap.size, 0, none⟩) (by show p1.heap.size ≠ w0.heap.size; omega) (by show w0.heap.size ≤ p1.heap.size; omega) _).setCell (p := ⟨p1.heap.size, 1, none⟩) (by show p1.heap.size ≠ w0.heap.size; omega) (by show w0.heap.size ≤ p1.heap.size; omega) _), Lib.hid (((BVV.out.trans (F4.out.toBelow (Nat.le_refl _) BVV.out.size)).setCell (p := ⟨p1.heap.size, 0, none⟩) (by show w0.heap.size ≤ p1.heap.size; omega) _).setCell (p := ⟨p1.heap.size, 1, none⟩) (by show w0.heap.size ≤ p1.heap.size; omega) _)⟩
        · have hqb : (q == 0) = false := by simpa using hq
          go_wp2_with fail
          go_meet
          case rel => exact ⟨X, ax, nx, cx, _, rfl, rfl, Q3, R3, T3, Lib.hid (BVV.out.trans (F3.out.toBelow (Nat.le_refl _) BVV.out.size))⟩
      case rest =>
      clear x0 x1 x2 x3 Q3 R3 T3 F3
      obtain ⟨P, ap, kp, cp, V, rfl, rfl, Ps, Ws, TV, BV⟩ := hcut
      have hbV : Base.b ≤ V.heap.size := Nat.le_trans hbs BV.out.size
      rcases Bool.eq_false_or_eq_true (setB P) with hv | hv
      rotate_left
      · have HC1 := Lib.hid (show chgS P N true = (zeroS, 1) by unfold chgS; rw [hv]; rfl)
        have HC2 := Lib.hid (show chgS P N false = (zeroS, 1) by unfold chgS; rw [hv]; rfl)
        have HV2 := Lib.hid hv
        clear hv
        have E0 := Lib.hid (Below.refl V.heap.size V)
        have xs0 := (lies_cells Ps.out).1 0
        have xs1 := (lies_cells Ps.out).1 1
        simp only [List.getElem?_toArray, List.getElem?_cons_zero, List.getElem?_cons_succ] at xs0 xs1
        go_wp2_with fail
        refine (with_e HC1.out _ _ Ws.out (by have := E0.out.size; omega)).mono ?_
        rintro e v1 ⟨ax2, cx2, rfl, nx, b⟩
        have BB1 := Lib.hid b
        have E1 := Lib.hid (E0.out.trans (BB1.out.mono E0.out.size))
        have Ps_ := Lib.hid (lies_below Ps.out BB1.out (lt_heap Ps.out))
        have Ws_ := Lib.hid (Ws.out.below BB1.out)
        clear Ps Ws
        have Ps := Ps_
        have Ws := Ws_
        clear Ps_ Ws_
        clear b
        clear xs0 xs1
        have Wx := Lib.hid nx
        clear nx
        have xs0 := (lies_cells Ps.out).1 0
        have xs1 := (lies_cells Ps.out).1 1
        simp only [List.getElem?_toArray, List.getElem?_cons_zero, List.getElem?_cons_succ] at xs0 xs1
        have ys0 : p1.heap.size < v1.heap.size := lt_heap Ps.out
        have ys1 : p1.heap.size ≠ v1.heap.size := by omega
        have ys2 : v1.heap.size ≠ p1.heap.size := by omega
        go_wp2_with fail
        refine (without_e HC2.out _ _ (Ws.out.below ((Below.refl _ _).alloc (Nat.le_refl _) _)) (by have := E1.out.size; simp; omega)).mono ?_
        rintro e v2 ⟨ay2, cy2, rfl, ny, b⟩
        have BB2 := Lib.hid (((Below.refl v1.heap.size v1).alloc (Nat.le_refl _) _).trans (b.mono (by simp)))
        have E2 := Lib.hid (E1.out.trans (BB2.out.mono E1.out.size))
        have Ps_ := Lib.hid (lies_below Ps.out BB2.out (lt_heap Ps.out))
        have Ws_ := Lib.hid (Ws.out.below BB2.out)
        clear Ps Ws
        have Ps := Ps_
        have Ws := Ws_
        clear Ps_ Ws_
        have Px := Lib.hid ((b.block v1.heap.size (by simp)).trans (heap_alloc_new v1 (.cells #[.int .i64 0, .slice ax2 0 cx2] 25)))
        have Wx_ := Lib.hid (Wx.out.below BB2.out)
        clear Wx
        have Wx := Wx_
        clear Wx_
        clear b
        clear xs0 xs1 ys0 ys1 ys2
        have Wy := Lib.hid ny
        clear ny
        have xs0 := (lies_cells Ps.out).1 0
        have xs1 := (lies_cells Ps.out).1 1
        simp only [List.getElem?_toArray, List.getElem?_cons_zero, List.getElem?_cons_succ] at xs0 xs1
        have ys0 : p1.heap.size < v2.heap.size := lt_heap Ps.out
        have ys1 : p1.heap.size ≠ v2.heap.size := by omega
        have ys2 : v2.heap.size ≠ p1.heap.size := by omega
        go_wp2_with fail
        refine (rvalid_w HV2.out _ _ (Ws.out.below ((Below.refl _ _).alloc (Nat.le_refl _) _))).mono ?_
        rintro e v3 ⟨rfl, b⟩
        have BB3 := Lib.hid (((Below.refl v2.heap.size v2).alloc (Nat.le_refl _) _).trans (b.mono (by simp)))
        have E3 := Lib.hid (E2.out.trans (BB3.out.mono E2.out.size))
        have Ps_ := Lib.hid (lies_below Ps.out BB3.out (lt_heap Ps.out))
        have Ws_ := Lib.hid (Ws.out.below BB3.out)
        clear Ps Ws
        have Ps := Ps_
        have Ws := Ws_
        clear Ps_ Ws_
        have Px_ := Lib.hid (lies_below Px.out BB3.out (lt_heap Px.out))
        have Wx_ := Lib.hid (Wx.out.below BB3.out)
        clear Px Wx
        have Px := Px_
        have Wx := Wx_
        clear Px_ Wx_
        have Py := Lib.hid ((b.block v2.heap.size (by simp)).trans (heap_alloc_new v2 (.cells #[.int .i64 0, .slice ay2 0 cy2] 25)))
        have Wy_ := Lib.hid (Wy.out.below BB3.out)
        clear Wy
        have Wy := Wy_
        clear Wy_
        clear b
        clear xs0 xs1 ys0 ys1 ys2
        have xs0 := (lies_cells Ps.out).1 0
        have xs1 := (lies_cells Ps.out).1 1
        simp only [List.getElem?_toArray, List.getElem?_cons_zero, List.getElem?_cons_succ] at xs0 xs1
        have xx0 := (lies_cells Px.out).1 0
        have xx1 := (lies_cells Px.out).1 1
        simp only [List.getElem?_toArray, List.getElem?_cons_zero, List.getElem?_cons_succ] at xx0 xx1
        have xy0 := (lies_cells Py.out).1 0
        have xy1 := (lies_cells Py.out).1 1
        simp only [List.getElem?_toArray, List.getElem?_cons_zero, List.getElem?_cons_succ] at xy0 xy1
        have TE := Lib.hid (TV.out.below E3.out)
        have BE := Lib.hid (BV.out.trans (E3.out.mono BV.out.size))
        go_wp2
        go_roundw
        case rel => exact ⟨i + 1, by omega, by go_num, TE, BE⟩
        case measure => simp [intOf]; omega
      by_cases hin : 0 ≤ N ∧ N < P.width
      rotate_left
      · have HC1 := Lib.hid (show chgS P N true = (zeroS, 3) by unfold chgS; rw [hv, if_pos rfl, if_neg hin])
        have HC2 := Lib.hid (show chgS P N false = (zeroS, 3) by unfold chgS; rw [hv, if_pos rfl, if_neg hin])
        have HV2 := Lib.hid hv
        clear hv
        by_cases hN : N < 0
        · have d1 : decide (N < 0) = true := by simpa using hN
          clear hin
          have E0 := Lib.hid (Below.refl V.heap.size V)
          have xs0 := (lies_cells Ps.out).1 0
          have xs1 := (lies_cells Ps.out).1 1
          simp only [List.getElem?_toArray, List.getElem?_cons_zero, List.getElem?_cons_succ] at xs0 xs1
          go_wp2_with fail
          refine (with_e HC1.out _ _ Ws.out (by have := E0.out.size; omega)).mono ?_
          rintro e v1 ⟨ax2, cx2, rfl, nx, b⟩
          have BB1 := Lib.hid b
          have E1 := Lib.hid (E0.out.trans (BB1.out.mono E0.out.size))
          have Ps_ := Lib.hid (lies_below Ps.out BB1.out (lt_heap Ps.out))
          have Ws_ := Lib.hid (Ws.out.below BB1.out)
          clear Ps Ws
          have Ps := Ps_
          have Ws := Ws_
          clear Ps_ Ws_
          clear b
          clear xs0 xs1
          have Wx := Lib.hid nx
          clear nx
          have xs0 := (lies_cells Ps.out).1 0
          have xs1 := (lies_cells Ps.out).1 1
          simp only [List.getElem?_toArray, List.getElem?_cons_zero, List.getElem?_cons_succ] at xs0 xs1
          have ys0 : p1.heap.size < v1.heap.size := lt_heap Ps.out
          have ys1 : p1.heap.size ≠ v1.heap.size := by omega
          have ys2 : v1.heap.size ≠ p1.heap.size := by omega
          go_wp2_with fail
          refine (without_e HC2.out _ _ (Ws.out.below ((Below.refl _ _).alloc (Nat.le_refl _) _)) (by have := E1.out.size; simp; omega)).mono ?_
          rintro e v2 ⟨ay2, cy2, rfl, ny, b⟩
          have BB2 := Lib.hid (((Below.refl v1.heap.size v1).alloc (Nat.le_refl _) _).trans (b.mono (by simp)))
          have E2 := Lib.hid (E1.out.trans (BB2.out.mono E1.out.size))
          have Ps_ := Lib.hid (lies_below Ps.out BB2.out (lt_heap Ps.out))
          have Ws_ := Lib.hid (Ws.out.below BB2.out)
          clear Ps Ws
          have Ps := Ps_
          have Ws := Ws_
          clear Ps_ Ws_
          have Px := Lib.hid ((b.block v1.heap.size (by simp)).trans (heap_alloc_new v1 (.cells #[.int .i64 0, .slice ax2 0 cx2] 25)))
          have Wx_ := Lib.hid (Wx.out.below BB2.out)
          clear Wx
          have Wx := Wx_
          clear Wx_
          clear b
          clear xs0 xs1 ys0 ys1 ys2
          have Wy := Lib.hid ny
          clear ny
          have xs0 := (lies_cells Ps.out).1 0
          have xs1 := (lies_cells Ps.out).1 1
          simp only [List.getElem?_toArray, List.getElem?_cons_zero, List.getElem?_cons_succ] at xs0 xs1
          have ys0 : p1.heap.size < v2.heap.size := lt_heap Ps.out
          have ys1 : p1.heap.size ≠ v2.heap.size := by omega
          have ys2 : v2.heap.size ≠ p1.heap.size := by omega
          go_wp2_with fail
          refine (rvalid_w HV2.out _ _ (Ws.out.below ((Below.refl _ _).alloc (Nat.le_refl _) _))).mono ?_
          rintro e v3 ⟨rfl, b⟩
          have BB3 := Lib.hid (((Below.refl v2.heap.size v2).alloc (Nat.le_refl _) _).trans (b.mono (by simp)))
          have E3 := Lib.hid (E2.out.trans (BB3.out.mono E2.out.size))
          have Ps_ := Lib.hid (lies_below Ps.out BB3.out (lt_heap Ps.out))
          have Ws_ := Lib.hid (Ws.out.below BB3.out)
          clear Ps Ws
          have Ps := Ps_
          have Ws := Ws_
          clear Ps_ Ws_
          have Px_ := Lib.hid (lies_below Px.out BB3.out (lt_heap Px.out))
          have Wx_ := Lib.hid (Wx.out.below BB3.out)
          clear Px Wx
          have Px := Px_
          have Wx := Wx_
          clear Px_ Wx_
          have Py := Lib.hid ((b.block v2.heap.size (by simp)).trans (heap_alloc_new v2 (.cells #[.int .i64 0, .slice ay2 0 cy2] 25)))
          have Wy_ := Lib.hid (Wy.out.below BB3.out)
          clear Wy
          have Wy := Wy_
          clear Wy_
          clear b
          clear xs0 xs1 ys0 ys1 ys2
          have xs0 := (lies_cells Ps.out).1 0
          have xs1 := (lies_cells Ps.out).1 1
          simp only [List.getElem?_toArray, List.getElem?_cons_zero, List.getElem?_cons_succ] at xs0 xs1
          have xx0 := (lies_cells Px.out).1 0
          have xx1 := (lies_cells Px.out).1 1
          simp only [List.getElem?_toArray, List.getElem?_cons_zero, List.getElem?_cons_succ] at xx0 xx1
          have xy0 := (lies_cells Py.out).1 0
          have xy1 := (lies_cells Py.out).1 1
          simp only [List.getElem?_toArray, List.getElem?_cons_zero, List.getElem?_cons_succ] at xy0 xy1
          have TE := Lib.hid (TV.out.below E3.out)
          have BE := Lib.hid (BV.out.trans (E3.out.mono BV.out.size))
          go_wp2
          go_roundw
          case rel => exact ⟨i + 1, by omega, by go_num, TE, BE⟩
          case measure => simp [intOf]; omega
        · have d1 : decide (N < 0) = false := by simpa using hN
          have d2 : decide (P.width ≤ N) = true := by simp; omega
          clear hin
          have E0 := Lib.hid (Below.refl V.heap.size V)
          have xs0 := (lies_cells Ps.out).1 0
          have xs1 := (lies_cells Ps.out).1 1
          simp only [List.getElem?_toArray, List.getElem?_cons_zero, List.getElem?_cons_succ] at xs0 xs1
          go_wp2_with fail
          refine (with_e HC1.out _ _ Ws.out (by have := E0.out.size; omega)).mono ?_
          rintro e v1 ⟨ax2, cx2, rfl, nx, b⟩
          have BB1 := Lib.hid b
          have E1 := Lib.hid (E0.out.trans (BB1.out.mono E0.out.size))
          have Ps_ := Lib.hid (lies_below Ps.out BB1.out (lt_heap Ps.out))
          have Ws_ := Lib.hid (Ws.out.below BB1.out)
          clear Ps Ws
          have Ps := Ps_
          have Ws := Ws_
          clear Ps_ Ws_
          clear b
          clear xs0 xs1
          have Wx := Lib.hid nx
          clear nx
          have xs0 := (lies_cells Ps.out).1 0
          have xs1 := (lies_cells Ps.out).1 1
          simp only [List.getElem?_toArray, List.getElem?_cons_zero, List.getElem?_cons_succ] at xs0 xs1
          have ys0 : p1.heap.size < v1.heap.size := lt_heap Ps.out
          have ys1 : p1.heap.size ≠ v1.heap.size := by omega
          have ys2 : v1.heap.size ≠ p1.heap.size := by omega
          go_wp2_with fail
          refine (without_e HC2.out _ _ (Ws.out.below ((Below.refl _ _).alloc (Nat.le_refl _) _)) (by have := E1.out.size; simp; omega)).mono ?_
          rintro e v2 ⟨ay2, cy2, rfl, ny, b⟩
          have BB2 := Lib.hid (((Below.refl v1.heap.size v1).alloc (Nat.le_refl _) _).trans (b.mono (by simp)))
          have E2 := Lib.hid (E1.out.trans (BB2.out.mono E1.out.size))
          have Ps_ := Lib.hid (lies_below Ps.out BB2.out (lt_heap Ps.out))
          have Ws_ := Lib.hid (Ws.out.below BB2.out)
          clear Ps Ws
          have Ps := Ps_
          have Ws := Ws_
          clear Ps_ Ws_
          have Px := Lib.hid ((b.block v1.heap.size (by simp)).trans (heap_alloc_new v1 (.cells #[.int .i64 0, .slice ax2 0 cx2] 25)))
          have Wx_ := Lib.hid (Wx.out.below BB2.out)
          clear Wx
          have Wx := Wx_
          clear Wx_
          clear b
          clear xs0 xs1 ys0 ys1 ys2
          have Wy := Lib.hid ny
          clear ny
          have xs0 := (lies_cells Ps.out).1 0
          have xs1 := (lies_cells Ps.out).1 1
          simp only [List.getElem?_toArray, List.getElem?_cons_zero, List.getElem?_cons_succ] at xs0 xs1
          have ys0 : p1.heap.size < v2.heap.size := lt_heap Ps.out
          have ys1 : p1.heap.size ≠ v2.heap.size := by omega
          have ys2 : v2.heap.size ≠ p1.heap.size := by omega
          go_wp2_with fail
          refine (rvalid_w HV2.out _ _ (Ws.out.below ((Below.refl _ _).alloc (Nat.le_refl _) _))).mono ?_
          rintro e v3 ⟨rfl, b⟩
          have BB3 := Lib.hid (((Below.refl v2.heap.size v2).alloc (Nat.le_refl _) _).trans (b.mono (by simp)))
          have E3 := Lib.hid (E2.out.trans (BB3.out.mono E2.out.size))
          have Ps_ := Lib.hid (lies_below Ps.out BB3.out (lt_heap Ps.out))
          have Ws_ := Lib.hid (Ws.out.below BB3.out)
          clear Ps Ws
          have Ps := Ps_
          have Ws := Ws_
          clear Ps_ Ws_
          have Px_ := Lib.hid (lies_below Px.out BB3.out (lt_heap Px.out))
          have Wx_ := Lib.hid (Wx.out.below BB3.out)
          clear Px Wx
          have Px := Px_
          have Wx := Wx_
          clear Px_ Wx_
          have Py := Lib.hid ((b.block v2.heap.size (by simp)).trans (heap_alloc_new v2 (.cells #[.int .i64 0, .slice ay2 0 cy2] 25)))
          have Wy_ := Lib.hid (Wy.out.below BB3.out)
          clear Wy
          have Wy := Wy_
          clear Wy_
          clear b
          clear xs0 xs1 ys0 ys1 ys2
          have xs0 := (lies_cells Ps.out).1 0
          have xs1 := (lies_cells Ps.out).1 1
          simp only [List.getElem?_toArray, List.getElem?_cons_zero, List.getElem?_cons_succ] at xs0 xs1
          have xx0 := (lies_cells Px.out).1 0
          have xx1 := (lies_cells Px.out).1 1
          simp only [List.getElem?_toArray, List.getElem?_cons_zero, List.getElem?_cons_succ] at xx0 xx1
          have xy0 := (lies_cells Py.out).1 0
          have xy1 := (lies_cells Py.out).1 1
          simp only [List.getElem?_toArray, List.getElem?_cons_zero, List.getElem?_cons_succ] at xy0 xy1
          have TE := Lib.hid (TV.out.below E3.out)
          have BE := Lib.hid (BV.out.trans (E3.out.mono BV.out.size))
          go_wp2
          go_roundw
          case rel => exact ⟨i + 1, by omega, by go_num, TE, BE⟩
          case measure => simp [intOf]; omega
      obtain ⟨hN, hN2⟩ := hin
      obtain ⟨k, rfl⟩ := Int.eq_ofNat_of_zero_le hN
      have hf := valid_form hv Ws.out.2
      obtain ⟨m, e1, e2, -⟩ := form_len hf
      have hkm : k < m := by omega
      have HO := Lib.hid (show Ok m P from ⟨hf, hv, e1⟩)
      have HC1 := Lib.hid (show chgS P k true = (putS P k, 0) by unfold chgS; rw [hv, if_pos rfl, if_pos ⟨hN, hN2⟩]; rfl)
      have HC2 := Lib.hid (show chgS P k false = (remS P k, 0) by unfold chgS; rw [hv, if_pos rfl, if_pos ⟨hN, hN2⟩]; rfl)
      have HV2 := Lib.hid hv
      have HD := Lib.hid (diff_one HO.out hkm)
      have HE := Lib.hid (empty_is e2)
      have HW1 := Lib.hid e1
      have hk0 : decide ((k : Int) < 0) = false := by simp
      have hk1 : decide (P.width ≤ (k : Int)) = false := by simp; omega
      clear hv hf e1 hN hN2
      have E0 := Lib.hid (Below.refl V.heap.size V)
      have xs0 := (lies_cells Ps.out).1 0
      have xs1 := (lies_cells Ps.out).1 1
      simp only [List.getElem?_toArray, List.getElem?_cons_zero, List.getElem?_cons_succ] at xs0 xs1
      go_wp2_with fail
      refine (with_w HC1.out _ _ Ws.out (by have := E0.out.size; omega)).mono ?_
      rintro e v1 ⟨ux, rfl, nx, b⟩
      have BB1 := Lib.hid b
      have E1 := Lib.hid (E0.out.trans (BB1.out.mono E0.out.size))
      have Ps_ := Lib.hid (lies_below Ps.out BB1.out (lt_heap Ps.out))
      have Ws_ := Lib.hid (Ws.out.below BB1.out)
      clear Ps Ws
      have Ps := Ps_
      have Ws := Ws_
      clear Ps_ Ws_
      clear b
      clear xs0 xs1
      obtain ⟨ax, kx, cx, rfl⟩ := nx.shape
      have Wx := Lib.hid nx
      clear nx
      have xs0 := (lies_cells Ps.out).1 0
      have xs1 := (lies_cells Ps.out).1 1
      simp only [List.getElem?_toArray, List.getElem?_cons_zero, List.getElem?_cons_succ] at xs0 xs1
      have ys0 : p1.heap.size < v1.heap.size := lt_heap Ps.out
      have ys1 : p1.heap.size ≠ v1.heap.size := by omega
      have ys2 : v1.heap.size ≠ p1.heap.size := by omega
      go_wp2_with fail
      refine (without_w HC2.out _ _ (Ws.out.below ((Below.refl _ _).alloc (Nat.le_refl _) _)) (by have := E1.out.size; simp; omega)).mono ?_
      rintro e v2 ⟨uy, rfl, ny, b⟩
      have BB2 := Lib.hid (((Below.refl v1.heap.size v1).alloc (Nat.le_refl _) _).trans (b.mono (by simp)))
      have E2 := Lib.hid (E1.out.trans (BB2.out.mono E1.out.size))
      have Ps_ := Lib.hid (lies_below Ps.out BB2.out (lt_heap Ps.out))
      have Ws_ := Lib.hid (Ws.out.below BB2.out)
      clear Ps Ws
      have Ps := Ps_
      have Ws := Ws_
      clear Ps_ Ws_
      have Px := Lib.hid ((b.block v1.heap.size (by simp)).trans (heap_alloc_new v1 (.cells #[.int .i64 P.width, .slice ax kx cx] 25)))
      have Wx_ := Lib.hid (Wx.out.below BB2.out)
      clear Wx
      have Wx := Wx_
      clear Wx_
      clear b
      clear xs0 xs1 ys0 ys1 ys2
      obtain ⟨ay, ky, cy, rfl⟩ := ny.shape
      have Wy := Lib.hid ny
      clear ny
      have xs0 := (lies_cells Ps.out).1 0
      have xs1 := (lies_cells Ps.out).1 1
      simp only [List.getElem?_toArray, List.getElem?_cons_zero, List.getElem?_cons_succ] at xs0 xs1
      have ys0 : p1.heap.size < v2.heap.size := lt_heap Ps.out
      have ys1 : p1.heap.size ≠ v2.heap.size := by omega
      have ys2 : v2.heap.size ≠ p1.heap.size := by omega
      go_wp2_with fail
      refine (rvalid_w HV2.out _ _ (Ws.out.below ((Below.refl _ _).alloc (Nat.le_refl _) _))).mono ?_
      rintro e v3 ⟨rfl, b⟩
      have BB3 := Lib.hid (((Below.refl v2.heap.size v2).alloc (Nat.le_refl _) _).trans (b.mono (by simp)))
      have E3 := Lib.hid (E2.out.trans (BB3.out.mono E2.out.size))
      have Ps_ := Lib.hid (lies_below Ps.out BB3.out (lt_heap Ps.out))
      have Ws_ := Lib.hid (Ws.out.below BB3.out)
      clear Ps Ws
      have Ps := Ps_
      have Ws := Ws_
      clear Ps_ Ws_
      have Px_ := Lib.hid (lies_below Px.out BB3.out (lt_heap Px.out))
      have Wx_ := Lib.hid (Wx.out.below BB3.out)
      clear Px Wx
      have Px := Px_
      have Wx := Wx_
      clear Px_ Wx_
      have Py := Lib.hid ((b.block v2.heap.size (by simp)).trans (heap_alloc_new v2 (.cells #[.int .i64 P.width, .slice ay ky cy] 25)))
      have Wy_ := Lib.hid (Wy.out.below BB3.out)
      clear Wy
      have Wy := Wy_
      clear Wy_
      clear b
      clear xs0 xs1 ys0 ys1 ys2
      have xs0 := (lies_cells Ps.out).1 0
      have xs1 := (lies_cells Ps.out).1 1
      simp only [List.getElem?_toArray, List.getElem?_cons_zero, List.getElem?_cons_succ] at xs0 xs1
      go_wp2_with fail
      refine (empty_w (d := P.width) e2 HW1.out.symm _).mono ?_
      rintro e v4 ⟨ue, rfl, ne, b⟩
      have BB4 := Lib.hid b
      have E4 := Lib.hid (E3.out.trans (BB4.out.mono E3.out.size))
      have Ps_ := Lib.hid (lies_below Ps.out BB4.out (lt_heap Ps.out))
      have Ws_ := Lib.hid (Ws.out.below BB4.out)
      clear Ps Ws
      have Ps := Ps_
      have Ws := Ws_
      clear Ps_ Ws_
      have Px_ := Lib.hid (lies_below Px.out BB4.out (lt_heap Px.out))
      have Wx_ := Lib.hid (Wx.out.below BB4.out)
      clear Px Wx
      have Px := Px_
      have Wx := Wx_
      clear Px_ Wx_
      have Py_ := Lib.hid (lies_below Py.out BB4.out (lt_heap Py.out))
      have Wy_ := Lib.hid (Wy.out.below BB4.out)
      clear Py Wy
      have Py := Py_
      have Wy := Wy_
      clear Py_ Wy_
      clear b
      clear xs0 xs1
      have Ne := Lib.hid ne
      clear ne
      go_wp2_with fail
      refine (put_w (d := P.width) HE.out.form HW1.out.symm (by show (k : Int) < (m : Int); omega) _ _ Ne.out).mono ?_
      rintro e v5 ⟨uo, rfl, no, b⟩
      have BB5 := Lib.hid b
      have E5 := Lib.hid (E4.out.trans (BB5.out.mono E4.out.size))
      have Ps_ := Lib.hid (lies_below Ps.out BB5.out (lt_heap Ps.out))
      have Ws_ := Lib.hid (Ws.out.below BB5.out)
      clear Ps Ws
      have Ps := Ps_
      have Ws := Ws_
      clear Ps_ Ws_
      have Px_ := Lib.hid (lies_below Px.out BB5.out (lt_heap Px.out))
      have Wx_ := Lib.hid (Wx.out.below BB5.out)
      clear Px Wx
      have Px := Px_
      have Wx := Wx_
      clear Px_ Wx_
      have Py_ := Lib.hid (lies_below Py.out BB5.out (lt_heap Py.out))
      have Wy_ := Lib.hid (Wy.out.below BB5.out)
      clear Py Wy
      have Py := Py_
      have Wy := Wy_
      clear Py_ Wy_
      clear b
      obtain ⟨ao, ko, co, rfl⟩ := no.shape
      have Wo := Lib.hid no
      clear no
      have xs0 := (lies_cells Ps.out).1 0
      have xs1 := (lies_cells Ps.out).1 1
      simp only [List.getElem?_toArray, List.getElem?_cons_zero, List.getElem?_cons_succ] at xs0 xs1
      have ys0 : p1.heap.size < v5.heap.size := lt_heap Ps.out
      have ys1 : p1.heap.size ≠ v5.heap.size := by omega
      have ys2 : v5.heap.size ≠ p1.heap.size := by omega
      go_wp2_with fail
      refine (diff_w (d := P.width) HD.out rfl HW1.out.symm rfl _ _ _ (Ws.out.below ((Below.refl _ _).alloc (Nat.le_refl _) _)) (Wo.out.below ((Below.refl _ _).alloc (Nat.le_refl _) _))).mono ?_
      rintro e v6 ⟨ud, rfl, nd, b⟩
      have BB6 := Lib.hid (((Below.refl v5.heap.size v5).alloc (Nat.le_refl _) _).trans (b.mono (by simp)))
      have E6 := Lib.hid (E5.out.trans (BB6.out.mono E5.out.size))
      have Ps_ := Lib.hid (lies_below Ps.out BB6.out (lt_heap Ps.out))
      have Ws_ := Lib.hid (Ws.out.below BB6.out)
      clear Ps Ws
      have Ps := Ps_
      have Ws := Ws_
      clear Ps_ Ws_
      have Px_ := Lib.hid (lies_below Px.out BB6.out (lt_heap Px.out))
      have Wx_ := Lib.hid (Wx.out.below BB6.out)
      clear Px Wx
      have Px := Px_
      have Wx := Wx_
      clear Px_ Wx_
      have Py_ := Lib.hid (lies_below Py.out BB6.out (lt_heap Py.out))
      have Wy_ := Lib.hid (Wy.out.below BB6.out)
      clear Py Wy
      have Py := Py_
      have Wy := Wy_
      clear Py_ Wy_
      have Po := Lib.hid ((b.block v5.heap.size (by simp)).trans (heap_alloc_new v5 (.cells #[.int .i64 P.width, .slice ao ko co] 25)))
      have Wo_ := Lib.hid (Wo.out.below BB6.out)
      clear Wo
      have Wo := Wo_
      clear Wo_
      clear b
      clear xs0 xs1 ys0 ys1 ys2
      obtain ⟨ad, kd, cd, rfl⟩ := nd.shape
      have Wd := Lib.hid nd
      clear nd
      obtain ⟨v7, hv⟩ : ∃ V, v6.alloc (.cells #[.int .i64 P.width, .slice ad kd cd] 25) = V := ⟨_, rfl⟩
      have b : Below (v6.alloc (.cells #[.int .i64 P.width, .slice ad kd cd] 25)).heap.size (v6.alloc (.cells #[.int .i64 P.width, .slice ad kd cd] 25)) v7 := by rw [← hv]; exact Below.refl _ _
      have HW := Lib.hid hv
      clear hv
      have BB7 := Lib.hid (((Below.refl v6.heap.size v6).alloc (Nat.le_refl _) _).trans (b.mono (by simp)))
      have E7 := Lib.hid (E6.out.trans (BB7.out.mono E6.out.size))
      have Ps_ := Lib.hid (lies_below Ps.out BB7.out (lt_heap Ps.out))
      have Ws_ := Lib.hid (Ws.out.below BB7.out)
      clear Ps Ws
      have Ps := Ps_
      have Ws := Ws_
      clear Ps_ Ws_
      have Px_ := Lib.hid (lies_below Px.out BB7.out (lt_heap Px.out))
      have Wx_ := Lib.hid (Wx.out.below BB7.out)
      clear Px Wx
      have Px := Px_
      have Wx := Wx_
      clear Px_ Wx_
      have Py_ := Lib.hid (lies_below Py.out BB7.out (lt_heap Py.out))
      have Wy_ := Lib.hid (Wy.out.below BB7.out)
      clear Py Wy
      have Py := Py_
      have Wy := Wy_
      clear Py_ Wy_
      have Po_ := Lib.hid (lies_below Po.out BB7.out (lt_heap Po.out))
      have Wo_ := Lib.hid (Wo.out.below BB7.out)
      clear Po Wo
      have Po := Po_
      have Wo := Wo_
      clear Po_ Wo_
      have Pd := Lib.hid ((b.block v6.heap.size (by simp)).trans (heap_alloc_new v6 (.cells #[.int .i64 P.width, .slice ad kd cd] 25)))
      have Wd_ := Lib.hid (Wd.out.below BB7.out)
      clear Wd
      have Wd := Wd_
      clear Wd_
      clear b
      have HS : Hid (∀ w', Below v7.heap.size v7 w' → w'.cell? ⟨p1.heap.size, 0, none⟩ = some (.int .i64 P.width) ∧ w'.cell? ⟨p1.heap.size, 1, none⟩ = some (.slice ap kp cp) ∧ w'.cell? ⟨v1.heap.size, 0, none⟩ = some (.int .i64 P.width) ∧ w'.cell? ⟨v1.heap.size, 1, none⟩ = some (.slice ax kx cx) ∧ w'.cell? ⟨v2.heap.size, 0, none⟩ = some (.int .i64 P.width) ∧ w'.cell? ⟨v2.heap.size, 1, none⟩ = some (.slice ay ky cy) ∧ w'.cell? ⟨v6.heap.size, 0, none⟩ = some (.int .i64 P.width) ∧ w'.cell? ⟨v6.heap.size, 1, none⟩ = some (.slice ad kd cd)) := by
        refine Lib.hid fun w' hb => ?_
        have zs0 := (lies_cells Ps.out).1 0
        have zs1 := (lies_cells Ps.out).1 1
        simp only [List.getElem?_toArray, List.getElem?_cons_zero, List.getElem?_cons_succ] at zs0 zs1
        have zx0 := (lies_cells Px.out).1 0
        have zx1 := (lies_cells Px.out).1 1
        simp only [List.getElem?_toArray, List.getElem?_cons_zero, List.getElem?_cons_succ] at zx0 zx1
        have zy0 := (lies_cells Py.out).1 0
        have zy1 := (lies_cells Py.out).1 1
        simp only [List.getElem?_toArray, List.getElem?_cons_zero, List.getElem?_cons_succ] at zy0 zy1
        have zd0 := (lies_cells Pd.out).1 0
        have zd1 := (lies_cells Pd.out).1 1
        simp only [List.getElem?_toArray, List.getElem?_cons_zero, List.getElem?_cons_succ] at zd0 zd1
        exact ⟨(hb.cell (p := ⟨p1.heap.size, 0, none⟩) (lt_heap Ps.out)).trans zs0, (hb.cell (p := ⟨p1.heap.size, 1, none⟩) (lt_heap Ps.out)).trans zs1, (hb.cell (p := ⟨v1.heap.size, 0, none⟩) (lt_heap Px.out)).trans zx0, (hb.cell (p := ⟨v1.heap.size, 1, none⟩) (lt_heap Px.out)).trans zx1, (hb.cell (p := ⟨v2.heap.size, 0, none⟩) (lt_heap Py.out)).trans zy0, (hb.cell (p := ⟨v2.heap.size, 1, none⟩) (lt_heap Py.out)).trans zy1, (hb.cell (p := ⟨v6.heap.size, 0, none⟩) (lt_heap Pd.out)).trans zd0, (hb.cell (p := ⟨v6.heap.size, 1, none⟩) (lt_heap Pd.out)).trans zd1⟩
      have F0 := Lib.hid (show Below v7.heap.size v7 v7.drew from (Below.refl _ _).drew)
      have HKW : (k : Int) < P.width := by have := HW1.out; omega
      go_wp2_with fail
      rw [show v6.alloc (.cells #[.int .i64 P.width, .slice ad kd cd] 25) = v7 from HW.out]
      go_region_held3 (fun w' => w'.cell? ⟨p1.heap.size, 0, none⟩ = some (.int .i64 P.width) ∧ w'.cell? ⟨p1.heap.size, 1, none⟩ = some (.slice ap kp cp) ∧ w'.cell? ⟨v1.heap.size, 0, none⟩ = some (.int .i64 P.width) ∧ w'.cell? ⟨v1.heap.size, 1, none⟩ = some (.slice ax kx cx) ∧ w'.cell? ⟨v2.heap.size, 0, none⟩ = some (.int .i64 P.width) ∧ w'.cell? ⟨v2.heap.size, 1, none⟩ = some (.slice ay ky cy) ∧ w'.cell? ⟨v6.heap.size, 0, none⟩ = some (.int .i64 P.width) ∧ w'.cell? ⟨v6.heap.size, 1, none⟩ = some (.slice ad kd cd)) (first | exact HS.out _ F3.out | exact HS.out _ F2.out | exact HS.out _ F1.out | exact HS.out _ F0.out | exact HS.out _ (Below.refl _ _) | go_keep) (first | (go_at_call 22; ((with_reducible refine (put_w (d := P.width) HO.out.form rfl HKW (.slice ap kp cp) v7.drew (Ws.out.below F0.out)).mono ?_)); go_must (rintro e z1 ⟨up, rfl, np, b⟩; have F1 := Lib.hid (F0.out.trans (b.mono F0.out.size)); obtain ⟨ap2, kp2, cp2, rfl⟩ := np.shape; have Wp := Lib.hid np; clear np; clear b)) | (go_at_call 25; ((with_reducible refine (same_w (d := P.width) (t := putS P k) rfl (.slice ax kx cx) (.slice ap2 kp2 cp2) z1 (Wx.out.below F1.out) Wp.out).mono ?_)); go_must (rintro e z2 ⟨rfl, b⟩; have F2 := Lib.hid (F1.out.trans (b.mono F1.out.size)); clear b)) | (go_at_call 25; ((with_reducible refine (same_w (d := P.width) (t := remS P k) rfl (.slice ay ky cy) (.slice ad kd cd) z2 (Wy.out.below F2.out) (Wd.out.below F2.out)).mono ?_)); go_must (rintro e z3 ⟨rfl, b⟩; have F3 := Lib.hid (F2.out.trans (b.mono F2.out.size)); clear b)))
      all_goals
        have TE := Lib.hid (TV.out.below (E7.out.trans (F3.out.mono E7.out.size)))
        have BE := Lib.hid (BV.out.trans ((E7.out.trans (F3.out.mono E7.out.size)).mono BV.out.size))
        go_wp2
        go_roundw
        case rel => exact ⟨i + 1, by omega, by go_num, TE, BE⟩
        case measure => simp [intOf]; omega
    · obtain rfl : i = 5 := by omega
      have HKR := Lib.hid (HK.out.below HB.out)
      go_wp2_with fail
      refine (sane_any (B := w0.heap.size) wr HKR.out HB.out.size).mono ?_
      rintro e w6 ⟨rfl, b6⟩
      have B6 := Lib.hid (HB.out.trans (b6.mono HB.out.size))
      clear b6
      go_wp2
      go_ret
      exact ⟨rfl, B6.out⟩
end Go.Proofs.YtmanmlankfoflaaDoor
