/- The law AuditAgrees, walked. Printed by wip/gen_aual.py. -/
import Derived.Test.YtbgoogjhgeoapaaAuAg
import Derived.Test.YtbgoogjhgeoapaaAuLr
import Derived.Test.YtbgoogjhgeoapaaAuSp
import Derived.Test.YtbgoogjhgeoapaaHold3
set_option linter.unusedVariables false
set_option linter.unusedSimpArgs false
set_option linter.unusedSectionVars false
namespace Go.Proofs.Ytbgoogjhgeoapaa
open Go.RowKit
variable [Base]

theorem TapeOk.sameT {B bt : Nat} {w w' : World} (ht : TapeOk B w bt) (hb : But bt w w') {T : TypeId} (hne : T ≠ 41) : SameT T w w' := by
  intro b c fr U hU e
  by_cases e1 : b = bt
  · exfalso
    subst e1
    obtain ⟨a, n, c', i, h1, -⟩ := ht.get
    rw [e] at h1
    injection h1 with h1
    injection h1 with h2 h3 h4
    rcases hU with hU | hU
    · exact hne (hU ▸ h3)
    · have := ht.bs; omega
  · exact (hb.block b (lt_heap e) e1).trans e
/-- What stands while the law asks. -/
structure LawAt (bt cb c0 : Nat) (w : World) (d c : CV) (vx : Value) (lx : List TV) (vy : Value) (ly : List TV) (v : Value) (l : List TV) (x : World) : Prop where
  tape : TapeOk bt x bt
  but : But bt w x
  cd : x.heap[cb]? = some (.cells #[iv d.p, iv d.pe, iv d.me, iv d.no, iv d.ed, iv d.ba, iv d.ag] 26 (0, 0))
  cc : x.heap[c0]? = some (.cells #[iv c.p, iv c.pe, iv c.me, iv c.no, iv c.ed, iv c.ba, iv c.ag] 26 (0, 0))
  hx : TurnsAt x vx lx
  hy : TurnsAt x vy ly
  hl : TurnsAt x v l
theorem LawAt.next {bt cb c0 : Nat} {w : World} {d c : CV} {vx : Value} {lx : List TV} {vy : Value} {ly : List TV} {v : Value} {l : List TV} {x y : World} (h : LawAt bt cb c0 w d c vx lx vy ly v l x) (h1 : cb ≠ bt) (h2 : c0 ≠ bt) (ht : TapeOk bt y bt) (hb : But bt x y) : LawAt bt cb c0 w d c vx lx vy ly v l y :=
  ⟨ht, h.but.trans hb, (hb.block cb (lt_heap h.cd) h1).trans h.cd, (hb.block c0 (lt_heap h.cc) h2).trans h.cc, h.hx.keep (h.tape.sameT hb (by decide)), h.hy.keep (h.tape.sameT hb (by decide)), h.hl.keep (h.tape.sameT hb (by decide))⟩
theorem LawAt.below {bt cb c0 : Nat} {w : World} {d c : CV} {vx : Value} {lx : List TV} {vy : Value} {ly : List TV} {v : Value} {l : List TV} {x y : World} (h : LawAt bt cb c0 w d c vx lx vy ly v l x) (hb : Below x.heap.size x y) : LawAt bt cb c0 w d c vx lx vy ly v l y :=
  ⟨h.tape.below hb, h.but.below hb, lies_below h.cd hb (lt_heap h.cd), lies_below h.cc hb (lt_heap h.cc), h.hx.below hb, h.hy.below hb, h.hl.below hb⟩
theorem LawAt.drewN {bt cb c0 : Nat} {w : World} {d c : CV} {vx : Value} {lx : List TV} {vy : Value} {ly : List TV} {v : Value} {l : List TV} {x : World} (h : LawAt bt cb c0 w d c vx lx vy ly v l x) (n : Nat) : LawAt bt cb c0 w d c vx lx vy ly v l (x.drewN n) :=
  ⟨h.tape.drewN n, h.but.drewN n, h.cd, h.cc, h.hx.keep SameT.drewN, h.hy.keep SameT.drewN, h.hl.keep SameT.drewN⟩
theorem LawAt.cells {bt cb c0 : Nat} {w : World} {d c : CV} {vx : Value} {lx : List TV} {vy : Value} {ly : List TV} {v : Value} {l : List TV} {x : World} (h : LawAt bt cb c0 w d c vx lx vy ly v l x) : x.cell? ⟨cb, 0, none⟩ = some (iv d.p) ∧ x.cell? ⟨cb, 1, none⟩ = some (iv d.pe) ∧ x.cell? ⟨cb, 2, none⟩ = some (iv d.me) ∧ x.cell? ⟨cb, 3, none⟩ = some (iv d.no) ∧ x.cell? ⟨cb, 4, none⟩ = some (iv d.ed) ∧ x.cell? ⟨cb, 5, none⟩ = some (iv d.ba) ∧ x.cell? ⟨cb, 6, none⟩ = some (iv d.ag) ∧ x.cell? ⟨c0, 0, none⟩ = some (iv c.p) ∧ x.cell? ⟨c0, 1, none⟩ = some (iv c.pe) ∧ x.cell? ⟨c0, 2, none⟩ = some (iv c.me) ∧ x.cell? ⟨c0, 3, none⟩ = some (iv c.no) ∧ x.cell? ⟨c0, 4, none⟩ = some (iv c.ed) ∧ x.cell? ⟨c0, 5, none⟩ = some (iv c.ba) ∧ x.cell? ⟨c0, 6, none⟩ = some (iv c.ag) :=
  have a := (lies_cells h.cd).1
  have b := (lies_cells h.cc).1
  ⟨a 0, a 1, a 2, a 3, a 4, a 5, a 6, b 0, b 1, b 2, b 3, b 4, b 5, b 6⟩
theorem LawAt.bs {bt cb c0 : Nat} {w : World} {d c : CV} {vx : Value} {lx : List TV} {vy : Value} {ly : List TV} {v : Value} {l : List TV} {x : World} (h : LawAt bt cb c0 w d c vx lx vy ly v l x) : Base.b ≤ x.heap.size := by have := h.tape.bs; have := h.tape.lt; omega
set_option maxRecDepth 100000 in
set_option maxHeartbeats 8000000 in
theorem agreesLaw_any (w : World) (ta : Option Addr) (tn tc : Nat) (hbw : Base.b ≤ w.heap.size) (hn : tn ≤ maxLen) (h : ∀ j : Nat, j < tn → ∃ b off z, ta = some ⟨b, off, none⟩ ∧ b < w.heap.size ∧ w.cell? ⟨b, off + j, none⟩ = some (.int .i64 z))
    (c : CV) (v : Value) (l : List TV) (hl : TurnsAt w v l) (a b : Int) : Calls Try.prog 5 #[.slice ta tn tc, cfgV c, v, iv a, iv b] w (BoolQ true w) := by
  obtain ⟨la, lc, rfl, hlm, -, -, -⟩ := hl.cell
  obtain ⟨n, hln⟩ : ∃ n, l.length = n := ⟨_, rfl⟩
  rw [hln] at hl hlm ⊢
  have HBW := Lib.hid hbw
  have HNN := Lib.hid hn
  unfold cfgV
  obtain ⟨c0, hc0⟩ : ∃ b, w.heap.size = b := ⟨_, rfl⟩
  obtain ⟨W, hW⟩ : ∃ W, w.alloc (.cells #[iv c.p, iv c.pe, iv c.me, iv c.no, iv c.ed, iv c.ba, iv c.ag] 26) = W := ⟨_, rfl⟩
  have HWC := Lib.hid (show W.heap[c0]? = some (.cells #[iv c.p, iv c.pe, iv c.me, iv c.no, iv c.ed, iv c.ba, iv c.ag] 26 (0, 0)) by rw [← hW, ← hc0]; exact heap_alloc_new _ _)
  have BW := Lib.hid (show Below w.heap.size w W by rw [← hW]; exact (Below.refl _ _).alloc (Nat.le_refl _) _)
  have HH := Lib.hid (show ∀ j : Nat, j < tn → ∃ b off z, ta = some ⟨b, off, none⟩ ∧ b < W.heap.size ∧ W.cell? ⟨b, off + j, none⟩ = some (.int .i64 z) from fun j hj => by
    obtain ⟨b, off, z, h1, h2, h3⟩ := h j hj
    have h4 := BW.out.size
    refine ⟨b, off, z, h1, by omega, ?_⟩
    unfold World.cell? at h3 ⊢
    rw [BW.out.block b h2]; exact h3)
  have HL := Lib.hid (hl.below BW.out)
  have HW := Lib.hid hW
  have HSZ := Lib.hid (show W.heap.size = c0 + 1 by rw [← hW, ← hc0]; simp)
  obtain ⟨bt, hbt⟩ : ∃ b, W.heap.size = b := ⟨_, rfl⟩
  have HBT := Lib.hid hbt
  have hcbt : c0 ≠ bt := by have := HSZ.out; omega
  have hbw2 : Base.b ≤ W.heap.size := by have := HSZ.out; omega
  have HB2 := Lib.hid hbw2
  have HC0 := Lib.hid hc0
  have HFIN := Lib.hid (show ∀ x : World, But bt w x → Below w.heap.size w x from fun x hx => hx.toBelow (by have := HSZ.out; omega) (Nat.le_refl _))
  have BUW := Lib.hid (show But bt w W from ⟨BW.out.os, BW.out.tape, BW.out.output, BW.out.size, fun k hk _ => BW.out.block k hk⟩)
  clear h hl hbw hn hW hbt hbw2 hc0 hln
  go_enter Try.func5, Try.ntmps5
  go_upto_region 1 with (fail)
  rw [show w.alloc (.cells #[iv c.p, iv c.pe, iv c.me, iv c.no, iv c.ed, iv c.ba, iv c.ag] 26) = W from HW.out, HC0.out]
  go_wp2_with fail
  refine (new_any rfl ta tn tc HNN.out HH.out HB2.out).mono ?_
  rintro e w1 ⟨rfl, t1, b1⟩
  rw [HBT.out] at t1 ⊢
  have HT0 := Lib.hid t1
  have HB0 := Lib.hid (show But bt W w1 from ⟨b1.os, b1.tape, b1.output, b1.size, fun k hk _ => b1.block k hk⟩)
  clear t1 b1
  go_wp2_with fail
  go_loopw [12] (fun y wr => ∃ i : Nat, i ≤ 4 ∧ y = .int .i64 i ∧ Hid (TapeOk bt wr bt) ∧ Hid (But bt W wr) ∧ Hid (TurnsAt wr (.slice la n lc) l)) (fun y _ => 4 - (intOf y).toNat)
  case atStart => exact ⟨0, by omega, rfl, HT0.out, HB0.out, HL.out.below ⟨HB0.out.os, HB0.out.tape, HB0.out.output, HB0.out.size, fun k hk => HB0.out.block k hk (by have := HBT.out; omega)⟩⟩
  case round =>
    obtain ⟨i, hi, rfl, HT, HB, HLL⟩ := hrel
    have HCC := Lib.hid (show wr.heap[c0]? = some (.cells #[iv c.p, iv c.pe, iv c.me, iv c.no, iv c.ed, iv c.ba, iv c.ag] 26 (0, 0)) from (HB.out.block c0 (lt_heap HWC.out) hcbt).trans HWC.out)
    by_cases hlt : i < 4
    rotate_left
    · have HSS := Lib.hid (show TapeOk bt wr bt ∧ But bt W wr ∧ TurnsAt wr (.slice la n lc) l ∧ wr.heap[c0]? = some (.cells #[iv c.p, iv c.pe, iv c.me, iv c.no, iv c.ed, iv c.ba, iv c.ag] 26 (0, 0)) from ⟨HT.out, HB.out, HLL.out, HCC.out⟩)
      have HBS := Lib.hid (show Base.b ≤ wr.heap.size by have := HT.out.bs; have := HT.out.lt; omega)
      by_cases h40 : n ≤ 40
      rotate_left
      · have HF := Lib.hid (HFIN.out wr (BUW.out.trans HB.out))
        go_wp2_with fail
        go_ret
        exact ⟨rfl, HF.out⟩
      · obtain ⟨p0, p1, p2, p3, p4, p5, p6⟩ := cells7' HCC.out
        have HAG := Lib.hid (fun (w' : World) (c' : CV) (h : TurnsAt w' (.slice la n lc) l) (hb : Base.b ≤ w'.heap.size) => (show Calls Try.prog 13 #[.agg #[iv c'.p, iv c'.pe, iv c'.me, iv c'.no, iv c'.ed, iv c'.ba, iv c'.ag], .slice la n lc, iv a, iv b] w' (BoolQ true w') from agrees_any c' l a b _ w' h hb))
        go_wp2_with first
          | (go_at_call 13; (first | ((with_reducible refine (HAG.out _ c ?_ ?_).mono ?_); exact HLL.out; exact HBS.out; rintro e w5 ⟨rfl, b5⟩; have B5 := Lib.hid b5; clear b5; have HT5 := Lib.hid (HT.out.below B5.out)) | ((with_reducible refine (HAG.out _ d ?_ ?_).mono ?_); exact HLL6.out; exact HBS6.out; rintro e w7 ⟨rfl, b7⟩; have BU7 := Lib.hid (BU6.out.below b7); clear b7)))
          | (go_at_call 7; refine (config_any HT5.out).mono ?_; rintro e w6 ⟨d, hd, rfl, t6, b6⟩; have HT6 := Lib.hid t6; have BU6 := Lib.hid ((BUW.out.trans (HB.out.below B5.out)).trans b6); have HLL6 := Lib.hid ((HLL.out.below B5.out).keep (HT5.out.sameT b6 (by decide))); have HBS6 := Lib.hid (show Base.b ≤ w6.heap.size by have := t6.bs; have := t6.lt; omega); clear hd t6 b6; unfold cfgV)
          | (go_at_call 10; refine (sane_any _).mono ?_; rintro e w8 ⟨rfl, b8⟩; have BU8 := Lib.hid (BU7.out.below b8); clear b8)
        go_ret
        exact ⟨rfl, HFIN.out _ BU8.out⟩
    · go_wp2_with fail
      refine (config_any HT.out).mono ?_
      rintro e w2 ⟨d, hd, rfl, t2, b2⟩
      have HC := Lib.hid hd
      have HT2 := Lib.hid t2
      have HB2 := Lib.hid (HB.out.trans b2)
      have HLL2 := Lib.hid (HLL.out.keep (HT.out.sameT b2 (by decide)))
      clear hd t2 b2
      unfold cfgV
      obtain ⟨Y, hY⟩ : ∃ Y, w2.alloc (.cells #[iv d.p, iv d.pe, iv d.me, iv d.no, iv d.ed, iv d.ba, iv d.ag] 26) = Y := ⟨_, rfl⟩
      have HCB := Lib.hid (show Y.heap[w2.heap.size]? = some (.cells #[iv d.p, iv d.pe, iv d.me, iv d.no, iv d.ed, iv d.ba, iv d.ag] 26 (0, 0)) by rw [← hY]; exact heap_alloc_new _ _)
      have HT3 := Lib.hid (show TapeOk bt Y bt by rw [← hY]; exact HT2.out.alloc _)
      have HB3 := Lib.hid (show But bt W Y by rw [← hY]; exact HB2.out.alloc _)
      have HLL3 := Lib.hid (show TurnsAt Y (.slice la n lc) l from HLL2.out.keep (by rw [← hY]; exact SameT.alloc))
      obtain ⟨k0, k1, k2, k3, k4, k5, k6⟩ := cells7' HCB.out
      have HYY := Lib.hid hY
      have hbs : w2.heap.size < Y.heap.size := lt_heap HCB.out
      have hbn : w2.heap.size ≠ bt := by have h1 := HT2.out.lt; omega
      clear hY
      obtain ⟨cb, hcb⟩ : ∃ b, w2.heap.size = b := ⟨_, rfl⟩
      rw [hcb] at HCB k0 k1 k2 k3 k4 k5 k6 hbs hbn
      have HCBE := Lib.hid hcb
      clear hcb
      go_upto_region 6 with (fail)
      rw [show w2.alloc (.cells #[.int .i64 d.p, .int .i64 d.pe, .int .i64 d.me, .int .i64 d.no, .int .i64 d.ed, .int .i64 d.ba, .int .i64 d.ag] 26) = Y from HYY.out, HCBE.out]
      go_wp2_with fail
      refine (log_any HT3.out d (cfg_bounds HC.out).1 (cfg_bounds HC.out).2).mono ?_
      rintro e w3 ⟨r, lx, nx, vx, hlg, rfl, htu, hot, t3, b3⟩
      obtain ⟨xa, xc, rfl⟩ := hot.slice
      have hl0 : lx.length ≤ 99999 := by have h1 := (hlg.facts (cfg_bounds HC.out).1 (cfg_bounds HC.out).2 (by decide)).ll; omega
      have HL0 := Lib.hid hl0
      have HTU := Lib.hid htu
      have HT4 := Lib.hid t3
      have HB4 := Lib.hid (HB3.out.trans b3)
      have HLL4 := Lib.hid (HLL3.out.keep (HT3.out.sameT b3 (by decide)))
      have HCB2 := Lib.hid (show w3.heap[cb]? = _ from (b3.block cb hbs hbn).trans HCB.out)
      clear hlg htu hot t3 b3 k0 k1 k2 k3 k4 k5 k6 hl0
      go_wp2_with fail
      refine (spoil_any HT4.out _ lx HTU.out (Nat.le_trans HL0.out (by decide))).mono ?_
      rintro e w4 ⟨ly, ya, yc, rfl, hll, hot, t4, b4⟩
      have HSS := Lib.hid (show LawAt bt cb c0 W d c (.slice xa lx.length xc) lx (.slice ya ly.length yc) ly (.slice la n lc) l w4 from
        ⟨t4, HB4.out.trans b4, (b4.block cb (lt_heap HCB2.out) hbn).trans HCB2.out, ((HB4.out.trans b4).block c0 (lt_heap HWC.out) hcbt).trans HWC.out, HTU.out.keep (HT4.out.sameT b4 (by decide)), hot.turns, HLL4.out.keep (HT4.out.sameT b4 (by decide))⟩)
      have hly : ly.length ≤ 100000 := by have := HL0.out; omega
      obtain ⟨mx, hmx⟩ : ∃ k, lx.length = k := ⟨_, rfl⟩
      obtain ⟨my, hmy⟩ : ∃ k, ly.length = k := ⟨_, rfl⟩
      rw [hmx, hmy] at HSS
      rw [hmx, hmy]
      have HMY := Lib.hid (show ly.length ≤ 100000 from hly)
      clear hll hot t4 b4 hmx hmy hly
      go_upto_region 8 with (fail)
      have HS2 := Lib.hid (HSS.out.drewN 1)
      clear HSS
      have HSS := HS2
      clear HS2
      refine wp_region_D (S := fun w' => w'.cell? ⟨cb, 0, none⟩ = some (iv d.p) ∧ w'.cell? ⟨cb, 1, none⟩ = some (iv d.pe) ∧ w'.cell? ⟨cb, 2, none⟩ = some (iv d.me) ∧ w'.cell? ⟨cb, 3, none⟩ = some (iv d.no) ∧ w'.cell? ⟨cb, 4, none⟩ = some (iv d.ed) ∧ w'.cell? ⟨cb, 5, none⟩ = some (iv d.ba) ∧ w'.cell? ⟨cb, 6, none⟩ = some (iv d.ag) ∧ w'.cell? ⟨c0, 0, none⟩ = some (iv c.p) ∧ w'.cell? ⟨c0, 1, none⟩ = some (iv c.pe) ∧ w'.cell? ⟨c0, 2, none⟩ = some (iv c.me) ∧ w'.cell? ⟨c0, 3, none⟩ = some (iv c.no) ∧ w'.cell? ⟨c0, 4, none⟩ = some (iv c.ed) ∧ w'.cell? ⟨c0, 5, none⟩ = some (iv c.ba) ∧ w'.cell? ⟨c0, 6, none⟩ = some (iv c.ag)) (st := 33) (by kernel_rfl) ?_
      have hS0 : (fun w' : World => w'.cell? ⟨cb, 0, none⟩ = some (iv d.p) ∧ w'.cell? ⟨cb, 1, none⟩ = some (iv d.pe) ∧ w'.cell? ⟨cb, 2, none⟩ = some (iv d.me) ∧ w'.cell? ⟨cb, 3, none⟩ = some (iv d.no) ∧ w'.cell? ⟨cb, 4, none⟩ = some (iv d.ed) ∧ w'.cell? ⟨cb, 5, none⟩ = some (iv d.ba) ∧ w'.cell? ⟨cb, 6, none⟩ = some (iv d.ag) ∧ w'.cell? ⟨c0, 0, none⟩ = some (iv c.p) ∧ w'.cell? ⟨c0, 1, none⟩ = some (iv c.pe) ∧ w'.cell? ⟨c0, 2, none⟩ = some (iv c.me) ∧ w'.cell? ⟨c0, 3, none⟩ = some (iv c.no) ∧ w'.cell? ⟨c0, 4, none⟩ = some (iv c.ed) ∧ w'.cell? ⟨c0, 5, none⟩ = some (iv c.ba) ∧ w'.cell? ⟨c0, 6, none⟩ = some (iv c.ag)) _ := HSS.out.cells
      refine wpAnyT_pureC 0 (some 30) [6, 8, 15, 18, 23, 26] ?v1 rfl (by kernel_rfl) (by kernel_rfl) (by kernel_rfl) (by kernel_rfl) (fun _ _ _ h => h) hS0 (by kernel_rfl) rfl ?run1 ?rest1
      case run1 => intro w hS; obtain ⟨q0, q1, q2, q3, q4, q5, q6, p0, p1, p2, p3, p4, p5, p6⟩ := hS; go_simp; rfl
      refine wpAnyT_pureC 1 (some 31) [6, 8, 15, 18, 23, 26] ?v2 rfl (by kernel_rfl) (by kernel_rfl) (by kernel_rfl) (by kernel_rfl) (fun _ _ _ h => h) hS0 (by kernel_rfl) rfl ?run2 ?rest2
      case run2 => intro w hS; obtain ⟨q0, q1, q2, q3, q4, q5, q6, p0, p1, p2, p3, p4, p5, p6⟩ := hS; go_simp; rfl
      refine wpAnyT_pureC 2 (some 32) [3, 6, 8, 15, 18, 23, 26] ?v3 rfl (by kernel_rfl) (by kernel_rfl) (by kernel_rfl) (by kernel_rfl) (fun _ _ _ h => h) hS0 (by kernel_rfl) rfl ?run3 ?rest3
      case run3 => intro w hS; obtain ⟨q0, q1, q2, q3, q4, q5, q6, p0, p1, p2, p3, p4, p5, p6⟩ := hS; go_simp; rfl
      refine wpAnyT_pureC 4 (some 34) [5, 6, 8, 15, 18, 23, 26] ?v4 rfl (by kernel_rfl) (by kernel_rfl) (by kernel_rfl) (by kernel_rfl) (fun _ _ _ h => h) hS0 (by kernel_rfl) rfl ?run4 ?rest4
      case run4 => intro w hS; obtain ⟨q0, q1, q2, q3, q4, q5, q6, p0, p1, p2, p3, p4, p5, p6⟩ := hS; go_simp; rfl
      refine wpAnyT_call 3 (some 33) 14 #[pv bt, iv 4] rfl (by kernel_rfl) (by kernel_rfl) (by kernel_rfl) rfl ?_
      refine (next_any HSS.out.tape 4 (by decide)).mono ?_
      rintro e z3 ⟨r1, -, -, rfl, t, b⟩
      have HS2 := Lib.hid (HSS.out.next hbn hcbt t b); clear HSS t b; have HSS := HS2; clear HS2
      refine ⟨_, rfl, fun _ => HSS.out.cells, ?_⟩
      have hS0 : (fun w' : World => w'.cell? ⟨cb, 0, none⟩ = some (iv d.p) ∧ w'.cell? ⟨cb, 1, none⟩ = some (iv d.pe) ∧ w'.cell? ⟨cb, 2, none⟩ = some (iv d.me) ∧ w'.cell? ⟨cb, 3, none⟩ = some (iv d.no) ∧ w'.cell? ⟨cb, 4, none⟩ = some (iv d.ed) ∧ w'.cell? ⟨cb, 5, none⟩ = some (iv d.ba) ∧ w'.cell? ⟨cb, 6, none⟩ = some (iv d.ag) ∧ w'.cell? ⟨c0, 0, none⟩ = some (iv c.p) ∧ w'.cell? ⟨c0, 1, none⟩ = some (iv c.pe) ∧ w'.cell? ⟨c0, 2, none⟩ = some (iv c.me) ∧ w'.cell? ⟨c0, 3, none⟩ = some (iv c.no) ∧ w'.cell? ⟨c0, 4, none⟩ = some (iv c.ed) ∧ w'.cell? ⟨c0, 5, none⟩ = some (iv c.ba) ∧ w'.cell? ⟨c0, 6, none⟩ = some (iv c.ag)) z3 := HSS.out.cells
      refine wpAnyT_call 5 (some 35) 14 #[pv bt, iv 4] rfl (by kernel_rfl) (by kernel_rfl) (by kernel_rfl) rfl ?_
      refine (next_any HSS.out.tape 4 (by decide)).mono ?_
      rintro e z5 ⟨r2, -, -, rfl, t, b⟩
      have HS2 := Lib.hid (HSS.out.next hbn hcbt t b); clear HSS t b; have HSS := HS2; clear HS2
      refine ⟨_, rfl, fun _ => HSS.out.cells, ?_⟩
      have hS0 : (fun w' : World => w'.cell? ⟨cb, 0, none⟩ = some (iv d.p) ∧ w'.cell? ⟨cb, 1, none⟩ = some (iv d.pe) ∧ w'.cell? ⟨cb, 2, none⟩ = some (iv d.me) ∧ w'.cell? ⟨cb, 3, none⟩ = some (iv d.no) ∧ w'.cell? ⟨cb, 4, none⟩ = some (iv d.ed) ∧ w'.cell? ⟨cb, 5, none⟩ = some (iv d.ba) ∧ w'.cell? ⟨cb, 6, none⟩ = some (iv d.ag) ∧ w'.cell? ⟨c0, 0, none⟩ = some (iv c.p) ∧ w'.cell? ⟨c0, 1, none⟩ = some (iv c.pe) ∧ w'.cell? ⟨c0, 2, none⟩ = some (iv c.me) ∧ w'.cell? ⟨c0, 3, none⟩ = some (iv c.no) ∧ w'.cell? ⟨c0, 4, none⟩ = some (iv c.ed) ∧ w'.cell? ⟨c0, 5, none⟩ = some (iv c.ba) ∧ w'.cell? ⟨c0, 6, none⟩ = some (iv c.ag)) z5 := HSS.out.cells
      refine wpAnyT_call 6 (some 36) 13 #[.agg #[iv d.p, iv d.pe, iv d.me, iv d.no, iv d.ed, iv d.ba, iv d.ag], (.slice xa mx xc), iv r1, iv r2] rfl (by kernel_rfl) (by kernel_rfl) (by kernel_rfl) rfl ?_
      refine (show Calls Try.prog 13 #[.agg #[iv d.p, iv d.pe, iv d.me, iv d.no, iv d.ed, iv d.ba, iv d.ag], (.slice xa mx xc), iv r1, iv r2] _ _ from agrees_any d lx r1 r2 _ _ HSS.out.hx HSS.out.bs).mono ?_
      rintro e z6 ⟨rfl, b⟩
      have HS2 := Lib.hid (HSS.out.below b); clear HSS b; have HSS := HS2; clear HS2
      refine ⟨_, rfl, fun _ => HSS.out.cells, ?_⟩
      have hS0 : (fun w' : World => w'.cell? ⟨cb, 0, none⟩ = some (iv d.p) ∧ w'.cell? ⟨cb, 1, none⟩ = some (iv d.pe) ∧ w'.cell? ⟨cb, 2, none⟩ = some (iv d.me) ∧ w'.cell? ⟨cb, 3, none⟩ = some (iv d.no) ∧ w'.cell? ⟨cb, 4, none⟩ = some (iv d.ed) ∧ w'.cell? ⟨cb, 5, none⟩ = some (iv d.ba) ∧ w'.cell? ⟨cb, 6, none⟩ = some (iv d.ag) ∧ w'.cell? ⟨c0, 0, none⟩ = some (iv c.p) ∧ w'.cell? ⟨c0, 1, none⟩ = some (iv c.pe) ∧ w'.cell? ⟨c0, 2, none⟩ = some (iv c.me) ∧ w'.cell? ⟨c0, 3, none⟩ = some (iv c.no) ∧ w'.cell? ⟨c0, 4, none⟩ = some (iv c.ed) ∧ w'.cell? ⟨c0, 5, none⟩ = some (iv c.ba) ∧ w'.cell? ⟨c0, 6, none⟩ = some (iv c.ag)) z6 := HSS.out.cells
      refine wpAnyT_pureC 7 (some 37) [8, 15, 18, 23, 26] ?v5 rfl (by kernel_rfl) (by kernel_rfl) (by kernel_rfl) (by kernel_rfl) (fun _ _ _ h => h) hS0 (by kernel_rfl) rfl ?run5 ?rest5
      case run5 => intro w hS; obtain ⟨q0, q1, q2, q3, q4, q5, q6, p0, p1, p2, p3, p4, p5, p6⟩ := hS; go_simp; rfl
      refine wpAnyT_pureC 8 (some 38) [15, 18, 23, 26] ?v6 rfl (by kernel_rfl) (by kernel_rfl) (by kernel_rfl) (by kernel_rfl) (fun _ _ _ h => h) hS0 (by kernel_rfl) rfl ?run6 ?rest6
      case run6 => intro w hS; obtain ⟨q0, q1, q2, q3, q4, q5, q6, p0, p1, p2, p3, p4, p5, p6⟩ := hS; go_simp; rfl
      refine wpAnyT_pureC 9 (some 39) [15, 18, 23, 26] ?v7 rfl (by kernel_rfl) (by kernel_rfl) (by kernel_rfl) (by kernel_rfl) (fun _ _ _ h => h) hS0 (by kernel_rfl) rfl ?run7 ?rest7
      case run7 => intro w hS; obtain ⟨q0, q1, q2, q3, q4, q5, q6, p0, p1, p2, p3, p4, p5, p6⟩ := hS; go_simp; rfl
      refine wpAnyT_pureC 10 (some 40) [15, 18, 23, 26] ?v8 rfl (by kernel_rfl) (by kernel_rfl) (by kernel_rfl) (by kernel_rfl) (fun _ _ _ h => h) hS0 (by kernel_rfl) rfl ?run8 ?rest8
      case run8 => intro w hS; obtain ⟨q0, q1, q2, q3, q4, q5, q6, p0, p1, p2, p3, p4, p5, p6⟩ := hS; go_simp; rfl
      refine wpAnyT_pureC 11 (some 41) [12, 15, 18, 23, 26] ?v9 rfl (by kernel_rfl) (by kernel_rfl) (by kernel_rfl) (by kernel_rfl) (fun _ _ _ h => h) hS0 (by kernel_rfl) rfl ?run9 ?rest9
      case run9 => intro w hS; obtain ⟨q0, q1, q2, q3, q4, q5, q6, p0, p1, p2, p3, p4, p5, p6⟩ := hS; go_simp; rfl
      refine wpAnyT_pureC 13 (some 43) [14, 15, 18, 23, 26] ?v10 rfl (by kernel_rfl) (by kernel_rfl) (by kernel_rfl) (by kernel_rfl) (fun _ _ _ h => h) hS0 (by kernel_rfl) rfl ?run10 ?rest10
      case run10 => intro w hS; obtain ⟨q0, q1, q2, q3, q4, q5, q6, p0, p1, p2, p3, p4, p5, p6⟩ := hS; go_simp; rfl
      refine wpAnyT_call 12 (some 42) 14 #[pv bt, iv 4] rfl (by kernel_rfl) (by kernel_rfl) (by kernel_rfl) rfl ?_
      refine (next_any HSS.out.tape 4 (by decide)).mono ?_
      rintro e z12 ⟨r3, -, -, rfl, t, b⟩
      have HS2 := Lib.hid (HSS.out.next hbn hcbt t b); clear HSS t b; have HSS := HS2; clear HS2
      refine ⟨_, rfl, fun _ => HSS.out.cells, ?_⟩
      have hS0 : (fun w' : World => w'.cell? ⟨cb, 0, none⟩ = some (iv d.p) ∧ w'.cell? ⟨cb, 1, none⟩ = some (iv d.pe) ∧ w'.cell? ⟨cb, 2, none⟩ = some (iv d.me) ∧ w'.cell? ⟨cb, 3, none⟩ = some (iv d.no) ∧ w'.cell? ⟨cb, 4, none⟩ = some (iv d.ed) ∧ w'.cell? ⟨cb, 5, none⟩ = some (iv d.ba) ∧ w'.cell? ⟨cb, 6, none⟩ = some (iv d.ag) ∧ w'.cell? ⟨c0, 0, none⟩ = some (iv c.p) ∧ w'.cell? ⟨c0, 1, none⟩ = some (iv c.pe) ∧ w'.cell? ⟨c0, 2, none⟩ = some (iv c.me) ∧ w'.cell? ⟨c0, 3, none⟩ = some (iv c.no) ∧ w'.cell? ⟨c0, 4, none⟩ = some (iv c.ed) ∧ w'.cell? ⟨c0, 5, none⟩ = some (iv c.ba) ∧ w'.cell? ⟨c0, 6, none⟩ = some (iv c.ag)) z12 := HSS.out.cells
      refine wpAnyT_call 14 (some 44) 14 #[pv bt, iv 4] rfl (by kernel_rfl) (by kernel_rfl) (by kernel_rfl) rfl ?_
      refine (next_any HSS.out.tape 4 (by decide)).mono ?_
      rintro e z14 ⟨r4, -, -, rfl, t, b⟩
      have HS2 := Lib.hid (HSS.out.next hbn hcbt t b); clear HSS t b; have HSS := HS2; clear HS2
      refine ⟨_, rfl, fun _ => HSS.out.cells, ?_⟩
      have hS0 : (fun w' : World => w'.cell? ⟨cb, 0, none⟩ = some (iv d.p) ∧ w'.cell? ⟨cb, 1, none⟩ = some (iv d.pe) ∧ w'.cell? ⟨cb, 2, none⟩ = some (iv d.me) ∧ w'.cell? ⟨cb, 3, none⟩ = some (iv d.no) ∧ w'.cell? ⟨cb, 4, none⟩ = some (iv d.ed) ∧ w'.cell? ⟨cb, 5, none⟩ = some (iv d.ba) ∧ w'.cell? ⟨cb, 6, none⟩ = some (iv d.ag) ∧ w'.cell? ⟨c0, 0, none⟩ = some (iv c.p) ∧ w'.cell? ⟨c0, 1, none⟩ = some (iv c.pe) ∧ w'.cell? ⟨c0, 2, none⟩ = some (iv c.me) ∧ w'.cell? ⟨c0, 3, none⟩ = some (iv c.no) ∧ w'.cell? ⟨c0, 4, none⟩ = some (iv c.ed) ∧ w'.cell? ⟨c0, 5, none⟩ = some (iv c.ba) ∧ w'.cell? ⟨c0, 6, none⟩ = some (iv c.ag)) z14 := HSS.out.cells
      refine wpAnyT_call 15 (some 45) 13 #[.agg #[iv d.p, iv d.pe, iv d.me, iv d.no, iv d.ed, iv d.ba, iv d.ag], (.slice ya my yc), iv r3, iv r4] rfl (by kernel_rfl) (by kernel_rfl) (by kernel_rfl) rfl ?_
      refine (show Calls Try.prog 13 #[.agg #[iv d.p, iv d.pe, iv d.me, iv d.no, iv d.ed, iv d.ba, iv d.ag], (.slice ya my yc), iv r3, iv r4] _ _ from agrees_any d ly r3 r4 _ _ HSS.out.hy HSS.out.bs).mono ?_
      rintro e z15 ⟨rfl, b⟩
      have HS2 := Lib.hid (HSS.out.below b); clear HSS b; have HSS := HS2; clear HS2
      refine ⟨_, rfl, fun _ => HSS.out.cells, ?_⟩
      have hS0 : (fun w' : World => w'.cell? ⟨cb, 0, none⟩ = some (iv d.p) ∧ w'.cell? ⟨cb, 1, none⟩ = some (iv d.pe) ∧ w'.cell? ⟨cb, 2, none⟩ = some (iv d.me) ∧ w'.cell? ⟨cb, 3, none⟩ = some (iv d.no) ∧ w'.cell? ⟨cb, 4, none⟩ = some (iv d.ed) ∧ w'.cell? ⟨cb, 5, none⟩ = some (iv d.ba) ∧ w'.cell? ⟨cb, 6, none⟩ = some (iv d.ag) ∧ w'.cell? ⟨c0, 0, none⟩ = some (iv c.p) ∧ w'.cell? ⟨c0, 1, none⟩ = some (iv c.pe) ∧ w'.cell? ⟨c0, 2, none⟩ = some (iv c.me) ∧ w'.cell? ⟨c0, 3, none⟩ = some (iv c.no) ∧ w'.cell? ⟨c0, 4, none⟩ = some (iv c.ed) ∧ w'.cell? ⟨c0, 5, none⟩ = some (iv c.ba) ∧ w'.cell? ⟨c0, 6, none⟩ = some (iv c.ag)) z15 := HSS.out.cells
      refine wpAnyT_pureC 16 (some 46) [17, 18, 23, 26] ?v11 rfl (by kernel_rfl) (by kernel_rfl) (by kernel_rfl) (by kernel_rfl) (fun _ _ _ h => h) hS0 (by kernel_rfl) rfl ?run11 ?rest11
      case run11 => intro w hS; obtain ⟨q0, q1, q2, q3, q4, q5, q6, p0, p1, p2, p3, p4, p5, p6⟩ := hS; go_simp; rfl
      refine wpAnyT_pureC 17 (some 47) [18, 23, 26] ?v12 rfl (by kernel_rfl) (by kernel_rfl) (by kernel_rfl) (by kernel_rfl) (fun _ _ _ h => h) hS0 (by kernel_rfl) rfl ?run12 ?rest12
      case run12 => intro w hS; obtain ⟨q0, q1, q2, q3, q4, q5, q6, p0, p1, p2, p3, p4, p5, p6⟩ := hS; go_simp; rfl
      refine wpAnyT_pureC 18 (some 48) [23, 26] ?v13 rfl (by kernel_rfl) (by kernel_rfl) (by kernel_rfl) (by kernel_rfl) (fun _ _ _ h => h) hS0 (by kernel_rfl) rfl ?run13 ?rest13
      case run13 => intro w hS; obtain ⟨q0, q1, q2, q3, q4, q5, q6, p0, p1, p2, p3, p4, p5, p6⟩ := hS; go_simp; rfl
      refine wpAnyT_pureC 19 (some 49) [23, 26] ?v14 rfl (by kernel_rfl) (by kernel_rfl) (by kernel_rfl) (by kernel_rfl) (fun _ _ _ h => h) hS0 (by kernel_rfl) rfl ?run14 ?rest14
      case run14 => intro w hS; obtain ⟨q0, q1, q2, q3, q4, q5, q6, p0, p1, p2, p3, p4, p5, p6⟩ := hS; go_simp; rfl
      refine wpAnyT_pureC 20 (some 50) [22, 23, 26] ?v15 rfl (by kernel_rfl) (by kernel_rfl) (by kernel_rfl) (by kernel_rfl) (fun _ _ _ h => h) hS0 (by kernel_rfl) rfl ?run15 ?rest15
      case run15 => intro w hS; obtain ⟨q0, q1, q2, q3, q4, q5, q6, p0, p1, p2, p3, p4, p5, p6⟩ := hS; go_simp; rfl
      refine wpAnyT_pureC 21 (some 51) [22, 23, 26] ?v16 rfl (by kernel_rfl) (by kernel_rfl) (by kernel_rfl) (by kernel_rfl) (fun _ _ _ h => h) hS0 (by kernel_rfl) rfl ?run16 ?rest16
      case run16 => intro w hS; obtain ⟨q0, q1, q2, q3, q4, q5, q6, p0, p1, p2, p3, p4, p5, p6⟩ := hS; go_simp; rfl
      refine wpAnyT_call 22 (some 52) 11 #[pv bt, (.slice ya my yc)] rfl (by kernel_rfl) (by kernel_rfl) (by kernel_rfl) rfl ?_
      refine (show Calls Try.prog 11 #[pv bt, (.slice ya my yc)] _ _ from spoil_any HSS.out.tape _ ly HSS.out.hy HMY.out).mono ?_
      rintro e z22 ⟨lz, za, zc, rfl, -, hot, t, b⟩
      have HZ := Lib.hid hot.turns
      obtain ⟨mz, hmz⟩ : ∃ k, lz.length = k := ⟨_, rfl⟩
      rw [hmz] at HZ ⊢
      have HS2 := Lib.hid (HSS.out.next hbn hcbt t b); clear HSS t b hot hmz; have HSS := HS2; clear HS2
      refine ⟨_, rfl, fun _ => HSS.out.cells, ?_⟩
      have hS0 : (fun w' : World => w'.cell? ⟨cb, 0, none⟩ = some (iv d.p) ∧ w'.cell? ⟨cb, 1, none⟩ = some (iv d.pe) ∧ w'.cell? ⟨cb, 2, none⟩ = some (iv d.me) ∧ w'.cell? ⟨cb, 3, none⟩ = some (iv d.no) ∧ w'.cell? ⟨cb, 4, none⟩ = some (iv d.ed) ∧ w'.cell? ⟨cb, 5, none⟩ = some (iv d.ba) ∧ w'.cell? ⟨cb, 6, none⟩ = some (iv d.ag) ∧ w'.cell? ⟨c0, 0, none⟩ = some (iv c.p) ∧ w'.cell? ⟨c0, 1, none⟩ = some (iv c.pe) ∧ w'.cell? ⟨c0, 2, none⟩ = some (iv c.me) ∧ w'.cell? ⟨c0, 3, none⟩ = some (iv c.no) ∧ w'.cell? ⟨c0, 4, none⟩ = some (iv c.ed) ∧ w'.cell? ⟨c0, 5, none⟩ = some (iv c.ba) ∧ w'.cell? ⟨c0, 6, none⟩ = some (iv c.ag)) z22 := HSS.out.cells
      refine wpAnyT_call 23 (some 53) 13 #[.agg #[iv d.p, iv d.pe, iv d.me, iv d.no, iv d.ed, iv d.ba, iv d.ag], (.slice za mz zc), iv 0, iv 1] rfl (by kernel_rfl) (by kernel_rfl) (by kernel_rfl) rfl ?_
      refine (show Calls Try.prog 13 #[.agg #[iv d.p, iv d.pe, iv d.me, iv d.no, iv d.ed, iv d.ba, iv d.ag], (.slice za mz zc), iv 0, iv 1] _ _ from agrees_any d lz 0 1 _ _ HZ.out HSS.out.bs).mono ?_
      rintro e z23 ⟨rfl, b⟩
      have HS2 := Lib.hid (HSS.out.below b); clear HSS b; have HSS := HS2; clear HS2
      refine ⟨_, rfl, fun _ => HSS.out.cells, ?_⟩
      have hS0 : (fun w' : World => w'.cell? ⟨cb, 0, none⟩ = some (iv d.p) ∧ w'.cell? ⟨cb, 1, none⟩ = some (iv d.pe) ∧ w'.cell? ⟨cb, 2, none⟩ = some (iv d.me) ∧ w'.cell? ⟨cb, 3, none⟩ = some (iv d.no) ∧ w'.cell? ⟨cb, 4, none⟩ = some (iv d.ed) ∧ w'.cell? ⟨cb, 5, none⟩ = some (iv d.ba) ∧ w'.cell? ⟨cb, 6, none⟩ = some (iv d.ag) ∧ w'.cell? ⟨c0, 0, none⟩ = some (iv c.p) ∧ w'.cell? ⟨c0, 1, none⟩ = some (iv c.pe) ∧ w'.cell? ⟨c0, 2, none⟩ = some (iv c.me) ∧ w'.cell? ⟨c0, 3, none⟩ = some (iv c.no) ∧ w'.cell? ⟨c0, 4, none⟩ = some (iv c.ed) ∧ w'.cell? ⟨c0, 5, none⟩ = some (iv c.ba) ∧ w'.cell? ⟨c0, 6, none⟩ = some (iv c.ag)) z23 := HSS.out.cells
      refine wpAnyT_pureC 24 (some 54) [25, 26] ?v17 rfl (by kernel_rfl) (by kernel_rfl) (by kernel_rfl) (by kernel_rfl) (fun _ _ _ h => h) hS0 (by kernel_rfl) rfl ?run17 ?rest17
      case run17 => intro w hS; obtain ⟨q0, q1, q2, q3, q4, q5, q6, p0, p1, p2, p3, p4, p5, p6⟩ := hS; go_simp; rfl
      refine wpAnyT_pureC 25 (some 55) [26] ?v18 rfl (by kernel_rfl) (by kernel_rfl) (by kernel_rfl) (by kernel_rfl) (fun _ _ _ h => h) hS0 (by kernel_rfl) rfl ?run18 ?rest18
      case run18 => intro w hS; obtain ⟨q0, q1, q2, q3, q4, q5, q6, p0, p1, p2, p3, p4, p5, p6⟩ := hS; go_simp; rfl
      refine wpAnyT_pureD 26 (some 56) ?v19 rfl (by kernel_rfl) (by kernel_rfl) (by kernel_rfl) (by kernel_rfl) (fun _ _ _ h => h) hS0 (by kernel_rfl) rfl ?run19 ?rest19
      case run19 => intro w hS; obtain ⟨q0, q1, q2, q3, q4, q5, q6, p0, p1, p2, p3, p4, p5, p6⟩ := hS; go_simp; rfl
      refine wpAnyT_pureC 27 (some 57) [31, 32] ?v20 rfl (by kernel_rfl) (by kernel_rfl) (by kernel_rfl) (by kernel_rfl) (fun _ _ _ h => h) hS0 (by kernel_rfl) rfl ?run20 ?rest20
      case run20 => intro w hS; obtain ⟨q0, q1, q2, q3, q4, q5, q6, p0, p1, p2, p3, p4, p5, p6⟩ := hS; go_simp; rfl
      refine wpAnyT_pureC 28 (some 58) [31, 32] ?v21 rfl (by kernel_rfl) (by kernel_rfl) (by kernel_rfl) (by kernel_rfl) (fun _ _ _ h => h) hS0 (by kernel_rfl) rfl ?run21 ?rest21
      case run21 => intro w hS; obtain ⟨q0, q1, q2, q3, q4, q5, q6, p0, p1, p2, p3, p4, p5, p6⟩ := hS; go_simp; rfl
      refine wpAnyT_pureC 29 (some 59) [31, 32] ?v22 rfl (by kernel_rfl) (by kernel_rfl) (by kernel_rfl) (by kernel_rfl) (fun _ _ _ h => h) hS0 (by kernel_rfl) rfl ?run22 ?rest22
      case run22 => intro w hS; obtain ⟨q0, q1, q2, q3, q4, q5, q6, p0, p1, p2, p3, p4, p5, p6⟩ := hS; go_simp; rfl
      refine wpAnyT_pureC 30 (some 60) [31, 32] ?v23 rfl (by kernel_rfl) (by kernel_rfl) (by kernel_rfl) (by kernel_rfl) (fun _ _ _ h => h) hS0 (by kernel_rfl) rfl ?run23 ?rest23
      case run23 => intro w hS; obtain ⟨q0, q1, q2, q3, q4, q5, q6, p0, p1, p2, p3, p4, p5, p6⟩ := hS; go_simp; rfl
      refine wpAnyT_call 31 (some 61) 13 #[.agg #[iv c.p, iv c.pe, iv c.me, iv c.no, iv c.ed, iv c.ba, iv c.ag], (.slice xa mx xc), iv a, iv b] rfl (by kernel_rfl) (by kernel_rfl) (by kernel_rfl) rfl ?_
      refine (show Calls Try.prog 13 #[.agg #[iv c.p, iv c.pe, iv c.me, iv c.no, iv c.ed, iv c.ba, iv c.ag], (.slice xa mx xc), iv a, iv b] _ _ from agrees_any c lx a b _ _ HSS.out.hx HSS.out.bs).mono ?_
      rintro e z31 ⟨rfl, b⟩
      have HS2 := Lib.hid (HSS.out.below b); clear HSS b; have HSS := HS2; clear HS2
      refine ⟨_, rfl, fun _ => HSS.out.cells, ?_⟩
      have hS0 : (fun w' : World => w'.cell? ⟨cb, 0, none⟩ = some (iv d.p) ∧ w'.cell? ⟨cb, 1, none⟩ = some (iv d.pe) ∧ w'.cell? ⟨cb, 2, none⟩ = some (iv d.me) ∧ w'.cell? ⟨cb, 3, none⟩ = some (iv d.no) ∧ w'.cell? ⟨cb, 4, none⟩ = some (iv d.ed) ∧ w'.cell? ⟨cb, 5, none⟩ = some (iv d.ba) ∧ w'.cell? ⟨cb, 6, none⟩ = some (iv d.ag) ∧ w'.cell? ⟨c0, 0, none⟩ = some (iv c.p) ∧ w'.cell? ⟨c0, 1, none⟩ = some (iv c.pe) ∧ w'.cell? ⟨c0, 2, none⟩ = some (iv c.me) ∧ w'.cell? ⟨c0, 3, none⟩ = some (iv c.no) ∧ w'.cell? ⟨c0, 4, none⟩ = some (iv c.ed) ∧ w'.cell? ⟨c0, 5, none⟩ = some (iv c.ba) ∧ w'.cell? ⟨c0, 6, none⟩ = some (iv c.ag)) z31 := HSS.out.cells
      refine wpAnyT_pureD 32 (some 62) ?v24 rfl (by kernel_rfl) (by kernel_rfl) (by kernel_rfl) (by kernel_rfl) (fun _ _ _ h => h) hS0 (by kernel_rfl) rfl ?run24 ?rest24
      case run24 => intro w hS; obtain ⟨q0, q1, q2, q3, q4, q5, q6, p0, p1, p2, p3, p4, p5, p6⟩ := hS; go_simp; rfl
      refine wpAnyT_value 33 (some 63) (.bool false) z31 rfl (by kernel_rfl) (by kernel_rfl) (by go_simp) rfl (fun h => absurd rfl h) ?_
      refine wpAnyT_done (by kernel_rfl) ?_ _
      generalize hA : Act.put _ _ _ = A0
      simp only [put_mk, put_no, List.setIfInBounds_toArray, List.set_cons_succ, List.set_cons_zero] at hA
      subst hA
      go_wp2
      go_roundw
      case rel => exact ⟨i + 1, by omega, by go_num, HSS.out.tape, HSS.out.but, HSS.out.hl⟩
      case measure => simp [intOf]; omega
end Go.Proofs.Ytbgoogjhgeoapaa
