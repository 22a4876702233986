/- Walks: flqref19.Spend, at a valid ring whose seat is open. Printed by wip/gen_aug7.py. -/
import Derived.Test.YtbgoogjhgeoapaaAuG6
set_option linter.unusedVariables false
set_option linter.unusedSimpArgs false
set_option linter.unusedSectionVars false
namespace Go.Proofs.Ytbgoogjhgeoapaa
open Go.RowKit
variable [Base]

def SpendQ (B : Nat) (r : RV) (w : World) (e : Ending) (w' : World) : Prop := ∃ v' b, e = .returned (.tuple #[ringV r v', .bool b, iv 0]) ∧ OwnS B w' v' r.ss ∧ Below w.heap.size w w'
theorem own_ne_block {w : World} {B : Nat} {e t : TypeId} {size n b : Nat} {v : Value} {xs : List Value} {c : Array Value} {fr : Nat × Nat} (h : w.ownsRow B e size v n xs) (hb : w.heap[b]? = some (.cells c t fr)) (hne : e ≠ t) : v.ownBlock ≠ some b := by
  intro hh
  rcases h.2 with ⟨rfl, _⟩ | ⟨g2, cap, cur, rfl, _, e3, _⟩
  · cases hh
  · obtain rfl : g2 = b := by simpa [Value.ownBlock] using hh
    rw [hb] at e3
    injection e3 with e3
    injection e3 with _ e6
    exact hne e6.symm
theorem ST_ne_RT : (49 : TypeId) ≠ 44 := by decide
/-- The answer's block, whatever the row's base. -/
theorem fin_any {B : Nat} {w F : World} {rb : Nat} {z0 z1 z2 z3 z4 y0 y1 y2 y3 y4 : Value} {s : Value} {l : List SV} {v : World} (hz : v.heap[rb + 1]? = some (.cells #[z0, z1, z2, z3, z4] 44 (0, 0))) (ho : OwnS B v s l) (hb : Below w.heap.size w v) (h1 : w.heap.size = rb)
    (hF : F = (((((v.setCell ⟨rb + 1, 0, none⟩ y0).setCell ⟨rb + 1, 1, none⟩ y1).setCell ⟨rb + 1, 2, none⟩ y2).setCell ⟨rb + 1, 3, none⟩ y3).setCell ⟨rb + 1, 4, none⟩ y4)) :
    F.heap[rb + 1]? = some (.cells #[y0, y1, y2, y3, y4] 44 (0, 0)) ∧ OwnS B F s l ∧ Below w.heap.size w F := by
  have hk : But (rb + 1) v F := by
    subst hF
    exact (((((But.refl (rb + 1) v).setCell ⟨rb + 1, 0, none⟩ (.inl rfl) _).setCell ⟨rb + 1, 1, none⟩ (.inl rfl) _).setCell ⟨rb + 1, 2, none⟩ (.inl rfl) _).setCell ⟨rb + 1, 3, none⟩ (.inl rfl) _).setCell ⟨rb + 1, 4, none⟩ (.inl rfl) _
  refine ⟨?_, own_but ho hk (own_ne_block ho hz ST_ne_RT), ?_⟩
  · subst hF
    have e1 := set_cells (o := 4) (u := y4) (set_cells (o := 3) (u := y3) (set_cells (o := 2) (u := y2) (set_cells (o := 1) (u := y1) (set_cells (o := 0) (u := y0) hz))))
    simp only [List.setIfInBounds_toArray, List.set_cons_zero, List.set_cons_succ] at e1
    exact e1
  · exact hb.trans (hk.toBelow (by omega) hb.size)
/-- The open seat pays. -/
theorem PickAt.pay {Bs : Nat} {w0 : World} {rb : Nat} {r : RV} {g n c : Nat} {tv : Value} {ts : List TV} {v : World} (h : PickAt Bs w0 rb r g n c tv ts v) (hrb : w0.heap.size = rb) (hb : rb + 1 < Bs) (hgB : Bs ≤ g) (hn : r.ss.length = n) {s : SV} (hs : r.ss[r.at_]? = some s) (ho : r.op = true) (co : Int) :
    PickAt Bs w0 rb (payR r s co) g n c tv ts (v.setCell ⟨g, r.at_ * 4 + 3, none⟩ (iv (s.df - co))) := by
  have hgr : rb ≠ g := by omega
  have hgr1 : rb + 1 ≠ g := by omega
  have hown := h.own
  unfold OwnS at hown
  rw [hn] at hown
  refine ⟨?_, ?_, ?_, ?_, ?_⟩
  · rw [Below.heap_setCell _ _ _ _ hgr]; have := h.rbk; rw [ho] at this; exact this
  · rw [Below.heap_setCell _ _ _ _ hgr1]; exact h.z
  · unfold OwnS payR
    simp only [List.length_set]
    rw [hn]
    have o1 := own_set hown (j := r.at_ * 4 + 3) (iv (s.df - co))
    rw [seatsX_set (s' := payS s co) r.ss r.at_ 3 s (iv (s.df - co)) hs rfl (by omega)] at o1
    exact o1
  · exact own_but h.tur ((But.refl g v).setCell ⟨g, _, none⟩ (.inl rfl) _) (own_apart hown h.tur ST_ne_TT)
  · exact h.bel.setCell (by show w0.heap.size ≤ g; omega) _
theorem OwnS.slice {B : Nat} {w : World} {v : Value} {l : List SV} (h : OwnS B w v l) : ∃ a m c, v = .slice a m c := by
  rcases h.val with ⟨h, _⟩ | ⟨g, c, h, _⟩ <;> exact ⟨_, _, _, h⟩
set_option maxRecDepth 100000 in
set_option maxHeartbeats 4000000 in
theorem spend_fin {B : Nat} (r : RV) (s : SV) (w : World) (g0 n c0 : Nat) (co : Int) (hB : B ≤ w.heap.size) (hl : r.ss.length = n) (hown : OwnS B w (.slice (some ⟨g0, 0, none⟩) n c0) r.ss) (hr : RingOk r) (hop : r.op = true) (hs : r.ss[r.at_]? = some s) (h1 : 1 ≤ co) (h2 : co ≤ 8)  :
    Calls Try.prog 19 #[ringV r (.slice (some ⟨g0, 0, none⟩) n c0), iv co, .bool true] w (SpendQ B (spendR r s co true) w) := by
  have hx := hown.seats
  have HX := Lib.hid hx
  have HOWN := Lib.hid hown
  have HR := Lib.hid hr
  have HL := Lib.hid hl
  have HBB := Lib.hid hB
  have HS := Lib.hid hs
  have hn16 : n ≤ 16 := by rw [← hl]; exact hr.len
  obtain ⟨at0, hat⟩ : ∃ a, r.at_ = a := ⟨_, rfl⟩
  have hat1 : at0 < n := by rw [← hat, ← hl]; exact (List.getElem?_eq_some_iff.1 hs).1
  have hn0 : 0 < n := by omega
  have HRV : ∀ v, ringV r v = .agg #[iv r.ba, iv r.pe, v, iv at0, .bool true] := fun v => by unfold ringV; rw [hop, hat]
  have HOP := Lib.hid hop
  have hhigh := hr.high hs hop
  obtain ⟨d1l, d1h⟩ := hhigh
  rw [HRV]
  have HVR := Lib.hid (show ∀ w', SeatsAt w' (.slice (some ⟨g0, 0, none⟩) n c0) r.ss → Calls Try.prog 29 #[.agg #[iv r.ba, iv r.pe, (.slice (some ⟨g0, 0, none⟩) n c0), iv at0, .bool true]] w' (BoolQ true w') from fun w' h' => by rw [← HRV]; exact vring_any r _ w' h' HR.out)
  obtain ⟨W, hW⟩ : ∃ W, (w.alloc (.cells #[iv r.ba, iv r.pe, (.slice (some ⟨g0, 0, none⟩) n c0), iv at0, .bool true] 44)).alloc (.cells #[iv 0, iv 0, .slice none 0 0, iv 0, .bool false] 44) = W := ⟨_, rfl⟩
  obtain ⟨rb, hrb⟩ : ∃ b, w.heap.size = b := ⟨_, rfl⟩
  have HB := Lib.hid (show W.heap[rb]? = some (.cells #[iv r.ba, iv r.pe, (.slice (some ⟨g0, 0, none⟩) n c0), iv at0, .bool true] 44 (0, 0)) by rw [← hW, ← hrb]; exact lies_alloc _ (heap_alloc_new _ _))
  have HZ := Lib.hid (show W.heap[rb + 1]? = some (.cells #[iv 0, iv 0, .slice none 0 0, iv 0, .bool false] 44 (0, 0)) by rw [← hW, ← hrb]; exact lies_new2 _ _)
  have BW := Lib.hid (show Below w.heap.size w W by rw [← hW]; exact ((Below.refl _ _).alloc (Nat.le_refl _) _).alloc (by simp) _)
  have HW := Lib.hid hW
  have HRB := Lib.hid hrb
  have HAT := Lib.hid hat
  have hud : ∀ b : Bool, (undef = Value.bool b) = False := fun b => by simp [undef]
  have i1 : (0 : Int) ≤ (at0 : Int) := Int.natCast_nonneg _
  have i2 : (at0 : Int) < (n : Int) := Int.ofNat_lt.2 hat1
  obtain ⟨at2, hat2⟩ : ∃ a, (remR r r.at_).at_ = a := ⟨_, rfl⟩
  obtain ⟨op2, hop2⟩ : ∃ a, (remR r r.at_).op = a := ⟨_, rfl⟩
  have HRC := Lib.hid (show ∀ v, ringV (remR r r.at_) v = .agg #[iv r.ba, iv r.pe, v, iv at2, .bool op2] from fun v => by unfold ringV; rw [hat2, hop2]; rfl)
  have HRE := Lib.hid (show ∀ w', Below w.heap.size w w' → Calls Try.prog 17 #[.agg #[iv r.ba, iv r.pe, (.slice (some ⟨g0, 0, none⟩) n c0), iv at0, .bool true], iv s.id] w' (RingQ B (remR r r.at_) (.bool true) w') from fun w' h' => by
    rw [← HRV]; exact remove_any r s w' _ r.at_ (Nat.le_trans HBB.out h'.size) (own_below HOWN.out h') HR.out HS.out)
  have hform := hown.form
  have hg0 : g0 < w.heap.size := hform.2.2.1
  have HGC := Lib.hid (show w.cell? ⟨g0, at0 * 4, none⟩ = some (iv s.id) from by have h1 := hform.2.2.2.2.2.2 _ s hs 0 (by omega); rw [hat] at h1; exact h1)
  have HG0 := Lib.hid hg0
  clear hx hown hr hl hop hat HRV hW hB hs hform hg0 hat2 hop2
  go_enter Try.func19, Try.ntmps19
  go_wp2_with fail
  rw [show (w.alloc (.cells #[iv r.ba, iv r.pe, (.slice (some ⟨g0, 0, none⟩) n c0), iv at0, .bool true] 44)).alloc (.cells #[iv 0, iv 0, .slice none 0 0, iv 0, .bool false] 44) = W from HW.out]
  try rw [HRB.out]
  obtain ⟨x0, x1, x2, x3, x4⟩ := cells5 HB.out
  clear hrb
  go_upto_region 6 with ((go_at_call 29; refine (HVR.out _ (HX.out.below BW.out)).mono ?_; rintro e w1 ⟨rfl, b1⟩; have B1 := Lib.hid b1; clear b1 x0 x1 x2 x3 x4; have HB1 := Lib.hid (lies_below HB.out B1.out (lt_heap HB.out)); have HZ1 := Lib.hid (lies_below HZ.out B1.out (lt_heap HZ.out)); obtain ⟨x0, x1, x2, x3, x4⟩ := cells5 HB1.out; have hlrz : rb + 1 < w1.heap.size := lt_heap HZ1.out; have hlrb : rb < w1.heap.size := lt_heap HB1.out; have BW1 := Lib.hid (show Below w.heap.size w w1 from BW.out.trans (B1.out.mono BW.out.size))))
  have gc := (World.cell?_of_block (BW1.out.block g0 HG0.out) : w1.cell? ⟨g0, at0 * 4, none⟩ = w.cell? ⟨g0, at0 * 4, none⟩).trans HGC.out
  have hg0w : g0 < w1.heap.size := Nat.lt_of_lt_of_le HG0.out BW1.out.size
  have hq1 : rb ≠ w1.heap.size := Nat.ne_of_lt hlrb
  have hq2 : w1.heap.size ≠ rb := Ne.symm hq1
  have hq3 : g0 ≠ w1.heap.size := Nat.ne_of_lt hg0w
  have hq4 : w1.heap.size ≠ g0 := Ne.symm hq3
  have hq5 : rb + 1 ≠ w1.heap.size := Nat.ne_of_lt hlrz
  have hq6 : w1.heap.size ≠ rb + 1 := Ne.symm hq5
  go_region_held3 (fun w' => w'.cell? ⟨rb, 0, none⟩ = some (iv r.ba) ∧ w'.cell? ⟨rb, 1, none⟩ = some (iv r.pe) ∧ w'.cell? ⟨rb, 2, none⟩ = some (.slice (some ⟨g0, 0, none⟩) n c0) ∧ w'.cell? ⟨rb, 3, none⟩ = some (iv at0) ∧ w'.cell? ⟨rb, 4, none⟩ = some (.bool true) ∧ w'.cell? ⟨g0, at0 * 4, none⟩ = some (iv s.id)) (go_keep) ((go_at_call 17; refine (HRE.out _ (by first | exact below_drewQ BW1.out 1 | exact (below_drewQ BW1.out 1).alloc BW1.out.size _)).mono ?_; rintro e w2 ⟨v2, rfl, own2, b2⟩; rw [HRC.out]; obtain ⟨a2, m2, c2, rfl⟩ := own2.slice; have OW2 := Lib.hid own2; have B2 := Lib.hid (show Below w1.heap.size w1 w2 from by first | exact (below_drewQ (Below.refl _ _) 1).trans b2 | exact ((below_drewQ (Below.refl _ _) 1).alloc (Nat.le_refl _) _).trans (b2.mono (by simp))); (first | (have ORD : Below w1.drew.heap.size w1.drew w2 := b2) | (have HZS := Lib.hid (show w2.heap[w1.heap.size]? = some (.cells #[iv 0, iv 0, .slice none 0 0, iv 0, .bool false] 44 (0, 0)) from lies_below (w := (w1.alloc (.cells #[iv 0, iv 0, .slice none 0 0, iv 0, .bool false] 44)).drew) (heap_alloc_new w1 _) b2 (by show w1.heap.size < (w1.alloc _).heap.size; simp)); (obtain ⟨t0, t1, t2, t3, t4⟩ := cells5 HZS.out); (have ft := (lies_cells HZS.out).2))); clear own2 b2; have HB2 := Lib.hid (lies_below HB1.out B2.out hlrb); have HZ2 := Lib.hid (lies_below HZ1.out B2.out hlrz); obtain ⟨k0, k1, k2, k3, k4⟩ := cells5 HB2.out; have hlr2 : rb < w2.heap.size := lt_heap HB2.out; have hlz2 : rb + 1 < w2.heap.size := lt_heap HZ2.out; have hlg2 : g0 < w2.heap.size := Nat.lt_of_lt_of_le hg0w B2.out.size; have gc2 := (World.cell?_of_block (B2.out.block g0 hg0w)).trans gc))
  rotate_left
  · obtain ⟨Y, hY⟩ : ∃ Y, (((((w2.setCell ⟨w1.heap.size, 0, none⟩ (iv r.ba)).setCell ⟨w1.heap.size, 1, none⟩ (iv r.pe)).setCell ⟨w1.heap.size, 2, none⟩ (.slice a2 m2 c2)).setCell ⟨w1.heap.size, 3, none⟩ (iv (at2 : Nat))).setCell ⟨w1.heap.size, 4, none⟩ (.bool op2)) = Y := ⟨_, rfl⟩
    have HT := Lib.hid (show Y.heap[w1.heap.size]? = some (.cells #[iv r.ba, iv r.pe, .slice a2 m2 c2, iv at2, .bool op2] 44 (0, 0)) by
      rw [← hY]
      have e1 := set_cells (o := 4) (u := .bool op2) (set_cells (o := 3) (u := iv (at2 : Nat)) (set_cells (o := 2) (u := .slice a2 m2 c2) (set_cells (o := 1) (u := iv r.pe) (set_cells (o := 0) (u := iv r.ba) HZS.out))))
      exact e1)
    have hk : But w1.heap.size w2 Y := by
      rw [← hY]
      exact (((((But.refl w1.heap.size w2).setCell ⟨_, 0, none⟩ (.inl rfl) _).setCell ⟨_, 1, none⟩ (.inl rfl) _).setCell ⟨_, 2, none⟩ (.inl rfl) _).setCell ⟨_, 3, none⟩ (.inl rfl) _).setCell ⟨_, 4, none⟩ (.inl rfl) _
    have HZY := Lib.hid (show Y.heap[rb + 1]? = some (.cells #[iv 0, iv 0, .slice none 0 0, iv 0, .bool false] 44 (0, 0)) from (hk.block _ hlz2 hq5).trans HZ2.out)
    have OWY := Lib.hid (own_but OW2.out hk (own_ne_block OW2.out HZS.out ST_ne_RT))
    have BY := Lib.hid (show Below w.heap.size w Y from (BW1.out.trans (B2.out.mono BW1.out.size)).trans (hk.toBelow BW1.out.size (Nat.le_trans BW1.out.size B2.out.size)))
    obtain ⟨T, hT⟩ : ∃ t, w1.heap.size = t := ⟨_, rfl⟩
    show Exit.then _ (Exit.then _ _) _ _ (((((w2.setCell ⟨w1.heap.size, 0, none⟩ (iv r.ba)).setCell ⟨w1.heap.size, 1, none⟩ (iv r.pe)).setCell ⟨w1.heap.size, 2, none⟩ (.slice a2 m2 c2)).setCell ⟨w1.heap.size, 3, none⟩ (iv (at2 : Nat))).setCell ⟨w1.heap.size, 4, none⟩ (.bool op2))
    rw [hY, hT]
    rw [hT] at HT
    clear x0 x1 x2 x3 x4 k0 k1 k2 k3 k4 gc gc2 hT hY
    obtain ⟨k0, k1, k2, k3, k4⟩ := cells5 HT.out
    obtain ⟨z0, z1, z2, z3, z4⟩ := cells5 HZY.out
    have fz := (lies_cells HZY.out).2
    go_wp2
    show bodyPost _ _ _ _ _ (((((Y.setCell ⟨rb + 1, 0, none⟩ (iv r.ba)).setCell ⟨rb + 1, 1, none⟩ (iv r.pe)).setCell ⟨rb + 1, 2, none⟩ (.slice a2 m2 c2)).setCell ⟨rb + 1, 3, none⟩ (iv (at2 : Nat))).setCell ⟨rb + 1, 4, none⟩ (.bool op2))
    obtain ⟨F, hF⟩ : ∃ F, (((((Y.setCell ⟨rb + 1, 0, none⟩ (iv r.ba)).setCell ⟨rb + 1, 1, none⟩ (iv r.pe)).setCell ⟨rb + 1, 2, none⟩ (.slice a2 m2 c2)).setCell ⟨rb + 1, 3, none⟩ (iv (at2 : Nat))).setCell ⟨rb + 1, 4, none⟩ (.bool op2)) = F := ⟨_, rfl⟩
    rw [hF]
    have HFF := Lib.hid (fin_any HZY.out OWY.out BY.out HRB.out hF.symm)
    clear hF
    obtain ⟨f0, f1, f2, f3, f4⟩ := cells5 HFF.out.1
    refine bodyPost_ret (v := .tuple #[ringV (remR r r.at_) (.slice a2 m2 c2), .bool true, iv 0]) (by rw [HRC.out]; simp [results, Try.results19, go_sem, f0, f1, f2, f3, f4]) rfl ⟨.slice a2 m2 c2, true, rfl, HFF.out.2.1, HFF.out.2.2⟩
  · obtain ⟨Y, hY⟩ : ∃ Y, w2.alloc (.cells #[iv r.ba, iv r.pe, .slice a2 m2 c2, iv at2, .bool op2] 44) = Y := ⟨_, rfl⟩
    have HT := Lib.hid (show Y.heap[w2.heap.size]? = some (.cells #[iv r.ba, iv r.pe, .slice a2 m2 c2, iv at2, .bool op2] 44 (0, 0)) by rw [← hY]; exact heap_alloc_new _ _)
    have HZY := Lib.hid (show Y.heap[rb + 1]? = some (.cells #[iv 0, iv 0, .slice none 0 0, iv 0, .bool false] 44 (0, 0)) from (by rw [← hY]; exact lies_alloc _ HZ2.out))
    have OWY := Lib.hid (own_below OW2.out (show Below w2.heap.size w2 Y by rw [← hY]; exact (Below.refl _ _).alloc (Nat.le_refl _) _))
    have BY := Lib.hid (show Below w.heap.size w Y from by rw [← hY]; exact (BW1.out.trans (B2.out.mono BW1.out.size)).alloc (Nat.le_trans BW1.out.size B2.out.size) _)
    obtain ⟨T, hT⟩ : ∃ t, w2.heap.size = t := ⟨_, rfl⟩
    show Exit.then _ (Exit.then _ _) _ _ (w2.alloc (.cells #[iv r.ba, iv r.pe, .slice a2 m2 c2, iv at2, .bool op2] 44))
    rw [hY, hT]
    rw [hT] at HT
    clear x0 x1 x2 x3 x4 k0 k1 k2 k3 k4 gc gc2 hT hY
    obtain ⟨k0, k1, k2, k3, k4⟩ := cells5 HT.out
    obtain ⟨z0, z1, z2, z3, z4⟩ := cells5 HZY.out
    have fz := (lies_cells HZY.out).2
    go_wp2
    show bodyPost _ _ _ _ _ (((((Y.setCell ⟨rb + 1, 0, none⟩ (iv r.ba)).setCell ⟨rb + 1, 1, none⟩ (iv r.pe)).setCell ⟨rb + 1, 2, none⟩ (.slice a2 m2 c2)).setCell ⟨rb + 1, 3, none⟩ (iv (at2 : Nat))).setCell ⟨rb + 1, 4, none⟩ (.bool op2))
    obtain ⟨F, hF⟩ : ∃ F, (((((Y.setCell ⟨rb + 1, 0, none⟩ (iv r.ba)).setCell ⟨rb + 1, 1, none⟩ (iv r.pe)).setCell ⟨rb + 1, 2, none⟩ (.slice a2 m2 c2)).setCell ⟨rb + 1, 3, none⟩ (iv (at2 : Nat))).setCell ⟨rb + 1, 4, none⟩ (.bool op2)) = F := ⟨_, rfl⟩
    rw [hF]
    have HFF := Lib.hid (fin_any HZY.out OWY.out BY.out HRB.out hF.symm)
    clear hF
    obtain ⟨f0, f1, f2, f3, f4⟩ := cells5 HFF.out.1
    refine bodyPost_ret (v := .tuple #[ringV (remR r r.at_) (.slice a2 m2 c2), .bool true, iv 0]) (by rw [HRC.out]; simp [results, Try.results19, go_sem, f0, f1, f2, f3, f4]) rfl ⟨.slice a2 m2 c2, true, rfl, HFF.out.2.1, HFF.out.2.2⟩
set_option maxRecDepth 100000 in
set_option maxHeartbeats 4000000 in
theorem spend_go {B : Nat} (r : RV) (s : SV) (w : World) (g0 n c0 : Nat) (co : Int) (hB : B ≤ w.heap.size) (hl : r.ss.length = n) (hown : OwnS B w (.slice (some ⟨g0, 0, none⟩) n c0) r.ss) (hr : RingOk r) (hop : r.op = true) (hs : r.ss[r.at_]? = some s) (h1 : 1 ≤ co) (h2 : co ≤ 8) (hbB : Base.b ≤ B) (hp : 0 < s.df - co) :
    Calls Try.prog 19 #[ringV r (.slice (some ⟨g0, 0, none⟩) n c0), iv co, .bool false] w (SpendQ B (spendR r s co false) w) := by
  have hx := hown.seats
  have HX := Lib.hid hx
  have HOWN := Lib.hid hown
  have HR := Lib.hid hr
  have HL := Lib.hid hl
  have HBB := Lib.hid hB
  have HS := Lib.hid hs
  have hn16 : n ≤ 16 := by rw [← hl]; exact hr.len
  obtain ⟨at0, hat⟩ : ∃ a, r.at_ = a := ⟨_, rfl⟩
  have hat1 : at0 < n := by rw [← hat, ← hl]; exact (List.getElem?_eq_some_iff.1 hs).1
  have hn0 : 0 < n := by omega
  have HRV : ∀ v, ringV r v = .agg #[iv r.ba, iv r.pe, v, iv at0, .bool true] := fun v => by unfold ringV; rw [hop, hat]
  have HOP := Lib.hid hop
  have hhigh := hr.high hs hop
  obtain ⟨d1l, d1h⟩ := hhigh
  rw [HRV]
  have HVR := Lib.hid (show ∀ w', SeatsAt w' (.slice (some ⟨g0, 0, none⟩) n c0) r.ss → Calls Try.prog 29 #[.agg #[iv r.ba, iv r.pe, (.slice (some ⟨g0, 0, none⟩) n c0), iv at0, .bool true]] w' (BoolQ true w') from fun w' h' => by rw [← HRV]; exact vring_any r _ w' h' HR.out)
  obtain ⟨W, hW⟩ : ∃ W, (w.alloc (.cells #[iv r.ba, iv r.pe, (.slice (some ⟨g0, 0, none⟩) n c0), iv at0, .bool true] 44)).alloc (.cells #[iv 0, iv 0, .slice none 0 0, iv 0, .bool false] 44) = W := ⟨_, rfl⟩
  obtain ⟨rb, hrb⟩ : ∃ b, w.heap.size = b := ⟨_, rfl⟩
  have HB := Lib.hid (show W.heap[rb]? = some (.cells #[iv r.ba, iv r.pe, (.slice (some ⟨g0, 0, none⟩) n c0), iv at0, .bool true] 44 (0, 0)) by rw [← hW, ← hrb]; exact lies_alloc _ (heap_alloc_new _ _))
  have HZ := Lib.hid (show W.heap[rb + 1]? = some (.cells #[iv 0, iv 0, .slice none 0 0, iv 0, .bool false] 44 (0, 0)) by rw [← hW, ← hrb]; exact lies_new2 _ _)
  have BW := Lib.hid (show Below w.heap.size w W by rw [← hW]; exact ((Below.refl _ _).alloc (Nat.le_refl _) _).alloc (by simp) _)
  have HW := Lib.hid hW
  have HRB := Lib.hid hrb
  have HAT := Lib.hid hat
  have hud : ∀ b : Bool, (undef = Value.bool b) = False := fun b => by simp [undef]
  have i1 : (0 : Int) ≤ (at0 : Int) := Int.natCast_nonneg _
  have i2 : (at0 : Int) < (n : Int) := Int.ofNat_lt.2 hat1
  have LX := Lib.hid (show (seatsX r.ss).length = n * 4 by rw [seatsX_len, hl])
  clear hx hown hr hl hop hat HRV hW hB hs
  go_enter Try.func19, Try.ntmps19
  go_wp2_with fail
  rw [show (w.alloc (.cells #[iv r.ba, iv r.pe, (.slice (some ⟨g0, 0, none⟩) n c0), iv at0, .bool true] 44)).alloc (.cells #[iv 0, iv 0, .slice none 0 0, iv 0, .bool false] 44) = W from HW.out]
  try rw [HRB.out]
  obtain ⟨x0, x1, x2, x3, x4⟩ := cells5 HB.out
  clear hrb
  go_upto_region 9 with (first
    | (go_at_call 29; refine (HVR.out _ (HX.out.below BW.out)).mono ?_; rintro e w1 ⟨rfl, b1⟩; have B1 := Lib.hid b1; clear b1 x0 x1 x2 x3 x4; have HB1 := Lib.hid (lies_below HB.out B1.out (lt_heap HB.out)); have HZ1 := Lib.hid (lies_below HZ.out B1.out (lt_heap HZ.out)); obtain ⟨x0, x1, x2, x3, x4⟩ := cells5 HB1.out; have hlrz : rb + 1 < w1.heap.size := lt_heap HZ1.out; have hlrb : rb < w1.heap.size := lt_heap HB1.out; have BW1 := Lib.hid (show Below w.heap.size w w1 from BW.out.trans (B1.out.mono BW.out.size)))
    | (at_builtin; refine wpList_append_sl rfl _ _ 42 rfl w1.heap.size 49 _ 4 32 Try.underlying42 info_seat rfl (by decide) _ 0 [] (own_empty (w := w1) (by simp)) rfl (.slice (some ⟨g0, 0, none⟩) n c0) n (seatsX r.ss) rfl (SliceAt.same HX.out (SameT.below (BW1.out.alloc BW1.out.size _))) LX.out (seatsX_oc _) (by unfold maxLen; omega) (by omega) (by simp) ?_; intro g1 d1 v1 own1 gr1; (try simp only [Nat.zero_add, List.nil_append] at own1); have B3 := Lib.hid (show Below w1.heap.size w1 v1 from grown_below rfl gr1); (obtain ⟨g, rfl⟩ := own_some own1 hn0); have OW1 := Lib.hid own1; clear own1 gr1 x0 x1 x2 x3 x4; have HB3 := Lib.hid (lies_below HB1.out B3.out (lt_heap HB1.out)); have HZ3 := Lib.hid (lies_below HZ1.out B3.out (lt_heap HZ1.out)); obtain ⟨x0, x1, x2, x3, x4⟩ := cells5 HB3.out; have f2 := (lies_cells HB3.out).2 2))
  obtain ⟨Bs, hbs⟩ : ∃ b, w1.heap.size = b := ⟨_, rfl⟩
  have hlb : rb + 1 < Bs := by omega
  obtain ⟨V, hV⟩ : ∃ V, v1.setCell ⟨rb, 2, none⟩ (.slice (some ⟨g, 0, none⟩) n d1) = V := ⟨_, rfl⟩
  have HP0 := Lib.hid (show PickAt Bs w rb r g n d1 (.slice none 0 0) [] V from by
    rw [← hV]
    have e1 := set_cells (o := 2) (u := .slice (some ⟨g, 0, none⟩) n d1) HB3.out
    refine ⟨by rw [e1, HAT.out, HOP.out]; rfl, by rw [Below.heap_setCell _ _ _ _ (by show rb + 1 ≠ rb; omega)]; exact HZ3.out, ?_, ⟨rfl, .inl ⟨rfl, rfl⟩⟩, ?_⟩
    · refine own_keep (show v1.ownsRow Bs 49 4 (.slice (some ⟨g, 0, none⟩) n d1) r.ss.length (seatsX r.ss) from by rw [HL.out, ← hbs]; exact OW1.out) fun q _ hq2 => Below.heap_setCell _ _ _ _ (by show q ≠ rb; omega)
    · exact (BW1.out.trans (B3.out.mono BW1.out.size)).setCell (by show w.heap.size ≤ rb; rw [HRB.out]; exact Nat.le_refl _) _)
  rw [hV]
  clear hbs hlrz hlrb x0 x1 x2 x3 x4 f2 hV
  have hform := HP0.out.own.form
  have hgB : Bs ≤ g := hform.2.1
  have gc : V.cell? ⟨g, at0 * 4 + 3, none⟩ = some (iv s.df) := by have h1 := hform.2.2.2.2.2.2 _ s HS.out 3 (by omega); rw [HAT.out] at h1; exact h1
  have gf := hform.2.2.2.2.2.1 (at0 * 4 + 3)
  clear hform
  have HB4 := Lib.hid HP0.out.rbk
  rw [HAT.out, HOP.out] at HB4
  obtain ⟨y0, y1, y2, y3, y4⟩ := cells5 HB4.out
  obtain ⟨z0, z1, z2, z3, z4⟩ := cells5 HP0.out.z
  have fz := (lies_cells HP0.out.z).2
  have hgr : g ≠ rb := by omega
  have hgr2 : g ≠ rb + 1 := by omega
  have hgr3 : rb + 1 ≠ g := by omega
  have hgr4 : rb ≠ g := by omega
  have HPP := Lib.hid (show PickAt Bs w rb (payR r s co) g n d1 (.slice none 0 0) [] (V.setCell ⟨g, at0 * 4 + 3, none⟩ (iv (s.df - co))) from by
    have h1 := HP0.out.pay HRB.out hlb hgB HL.out HS.out HOP.out co
    rw [HAT.out] at h1; exact h1)
  go_wp2
  show bodyPost _ _ _ _ _ ((((((V.setCell ⟨g, at0 * 4 + 3, none⟩ (iv (s.df - co))).setCell ⟨rb + 1, 0, none⟩ (iv r.ba)).setCell ⟨rb + 1, 1, none⟩ (iv r.pe)).setCell ⟨rb + 1, 2, none⟩ (.slice (some ⟨g, 0, none⟩) n d1)).setCell ⟨rb + 1, 3, none⟩ (iv (at0 : Nat))).setCell ⟨rb + 1, 4, none⟩ (.bool true))
  obtain ⟨F, hF⟩ : ∃ F, ((((((V.setCell ⟨g, at0 * 4 + 3, none⟩ (iv (s.df - co))).setCell ⟨rb + 1, 0, none⟩ (iv r.ba)).setCell ⟨rb + 1, 1, none⟩ (iv r.pe)).setCell ⟨rb + 1, 2, none⟩ (.slice (some ⟨g, 0, none⟩) n d1)).setCell ⟨rb + 1, 3, none⟩ (iv (at0 : Nat))).setCell ⟨rb + 1, 4, none⟩ (.bool true)) = F := ⟨_, rfl⟩
  rw [hF]
  have HFF := Lib.hid (fin_any HPP.out.z HPP.out.own HPP.out.bel HRB.out hF.symm)
  clear hF
  obtain ⟨f0, f1, f2, f3, f4⟩ := cells5 HFF.out.1
  have HSP : spendR r s co false = payR r s co := by unfold spendR; rw [if_neg (by decide), if_pos hp]
  have HRG : ringV (payR r s co) (.slice (some ⟨g, 0, none⟩) n d1) = .agg #[iv r.ba, iv r.pe, .slice (some ⟨g, 0, none⟩) n d1, iv at0, .bool true] := by unfold ringV payR; simp only []; rw [HAT.out]
  rw [HSP]
  refine bodyPost_ret (v := .tuple #[ringV (payR r s co) (.slice (some ⟨g, 0, none⟩) n d1), .bool false, iv 0]) (by rw [HRG]; simp [results, Try.results19, go_sem, f0, f1, f2, f3, f4]) rfl ⟨_, false, rfl, own_base HFF.out.2.1 (by have h1 := HBB.out; have h2 := HRB.out; omega), HFF.out.2.2⟩
set_option maxRecDepth 100000 in
set_option maxHeartbeats 4000000 in
theorem spend_over {B : Nat} (r : RV) (s : SV) (w : World) (g0 n c0 : Nat) (co : Int) (hB : B ≤ w.heap.size) (hl : r.ss.length = n) (hown : OwnS B w (.slice (some ⟨g0, 0, none⟩) n c0) r.ss) (hr : RingOk r) (hop : r.op = true) (hs : r.ss[r.at_]? = some s) (h1 : 1 ≤ co) (h2 : co ≤ 8) (hbB : Base.b ≤ B) (hp : s.df - co ≤ 0) :
    Calls Try.prog 19 #[ringV r (.slice (some ⟨g0, 0, none⟩) n c0), iv co, .bool false] w (SpendQ B (spendR r s co false) w) := by
  have hx := hown.seats
  have HX := Lib.hid hx
  have HOWN := Lib.hid hown
  have HR := Lib.hid hr
  have HL := Lib.hid hl
  have HBB := Lib.hid hB
  have HS := Lib.hid hs
  have hn16 : n ≤ 16 := by rw [← hl]; exact hr.len
  obtain ⟨at0, hat⟩ : ∃ a, r.at_ = a := ⟨_, rfl⟩
  have hat1 : at0 < n := by rw [← hat, ← hl]; exact (List.getElem?_eq_some_iff.1 hs).1
  have hn0 : 0 < n := by omega
  have HRV : ∀ v, ringV r v = .agg #[iv r.ba, iv r.pe, v, iv at0, .bool true] := fun v => by unfold ringV; rw [hop, hat]
  have HOP := Lib.hid hop
  have hhigh := hr.high hs hop
  obtain ⟨d1l, d1h⟩ := hhigh
  rw [HRV]
  have HVR := Lib.hid (show ∀ w', SeatsAt w' (.slice (some ⟨g0, 0, none⟩) n c0) r.ss → Calls Try.prog 29 #[.agg #[iv r.ba, iv r.pe, (.slice (some ⟨g0, 0, none⟩) n c0), iv at0, .bool true]] w' (BoolQ true w') from fun w' h' => by rw [← HRV]; exact vring_any r _ w' h' HR.out)
  obtain ⟨W, hW⟩ : ∃ W, (w.alloc (.cells #[iv r.ba, iv r.pe, (.slice (some ⟨g0, 0, none⟩) n c0), iv at0, .bool true] 44)).alloc (.cells #[iv 0, iv 0, .slice none 0 0, iv 0, .bool false] 44) = W := ⟨_, rfl⟩
  obtain ⟨rb, hrb⟩ : ∃ b, w.heap.size = b := ⟨_, rfl⟩
  have HB := Lib.hid (show W.heap[rb]? = some (.cells #[iv r.ba, iv r.pe, (.slice (some ⟨g0, 0, none⟩) n c0), iv at0, .bool true] 44 (0, 0)) by rw [← hW, ← hrb]; exact lies_alloc _ (heap_alloc_new _ _))
  have HZ := Lib.hid (show W.heap[rb + 1]? = some (.cells #[iv 0, iv 0, .slice none 0 0, iv 0, .bool false] 44 (0, 0)) by rw [← hW, ← hrb]; exact lies_new2 _ _)
  have BW := Lib.hid (show Below w.heap.size w W by rw [← hW]; exact ((Below.refl _ _).alloc (Nat.le_refl _) _).alloc (by simp) _)
  have HW := Lib.hid hW
  have HRB := Lib.hid hrb
  have HAT := Lib.hid hat
  have hud : ∀ b : Bool, (undef = Value.bool b) = False := fun b => by simp [undef]
  have i1 : (0 : Int) ≤ (at0 : Int) := Int.natCast_nonneg _
  have i2 : (at0 : Int) < (n : Int) := Int.ofNat_lt.2 hat1
  have LX := Lib.hid (show (seatsX r.ss).length = n * 4 by rw [seatsX_len, hl])
  clear hx hown hr hl hop hat HRV hW hB hs
  go_enter Try.func19, Try.ntmps19
  go_wp2_with fail
  rw [show (w.alloc (.cells #[iv r.ba, iv r.pe, (.slice (some ⟨g0, 0, none⟩) n c0), iv at0, .bool true] 44)).alloc (.cells #[iv 0, iv 0, .slice none 0 0, iv 0, .bool false] 44) = W from HW.out]
  try rw [HRB.out]
  obtain ⟨x0, x1, x2, x3, x4⟩ := cells5 HB.out
  clear hrb
  go_upto_region 9 with (first
    | (go_at_call 29; refine (HVR.out _ (HX.out.below BW.out)).mono ?_; rintro e w1 ⟨rfl, b1⟩; have B1 := Lib.hid b1; clear b1 x0 x1 x2 x3 x4; have HB1 := Lib.hid (lies_below HB.out B1.out (lt_heap HB.out)); have HZ1 := Lib.hid (lies_below HZ.out B1.out (lt_heap HZ.out)); obtain ⟨x0, x1, x2, x3, x4⟩ := cells5 HB1.out; have hlrz : rb + 1 < w1.heap.size := lt_heap HZ1.out; have hlrb : rb < w1.heap.size := lt_heap HB1.out; have BW1 := Lib.hid (show Below w.heap.size w w1 from BW.out.trans (B1.out.mono BW.out.size)))
    | (at_builtin; refine wpList_append_sl rfl _ _ 42 rfl w1.heap.size 49 _ 4 32 Try.underlying42 info_seat rfl (by decide) _ 0 [] (own_empty (w := w1) (by simp)) rfl (.slice (some ⟨g0, 0, none⟩) n c0) n (seatsX r.ss) rfl (SliceAt.same HX.out (SameT.below (BW1.out.alloc BW1.out.size _))) LX.out (seatsX_oc _) (by unfold maxLen; omega) (by omega) (by simp) ?_; intro g1 d1 v1 own1 gr1; (try simp only [Nat.zero_add, List.nil_append] at own1); have B3 := Lib.hid (show Below w1.heap.size w1 v1 from grown_below rfl gr1); (obtain ⟨g, rfl⟩ := own_some own1 hn0); have OW1 := Lib.hid own1; clear own1 gr1 x0 x1 x2 x3 x4; have HB3 := Lib.hid (lies_below HB1.out B3.out (lt_heap HB1.out)); have HZ3 := Lib.hid (lies_below HZ1.out B3.out (lt_heap HZ1.out)); obtain ⟨x0, x1, x2, x3, x4⟩ := cells5 HB3.out; have f2 := (lies_cells HB3.out).2 2))
  obtain ⟨Bs, hbs⟩ : ∃ b, w1.heap.size = b := ⟨_, rfl⟩
  have hlb : rb + 1 < Bs := by omega
  obtain ⟨V, hV⟩ : ∃ V, v1.setCell ⟨rb, 2, none⟩ (.slice (some ⟨g, 0, none⟩) n d1) = V := ⟨_, rfl⟩
  have HP0 := Lib.hid (show PickAt Bs w rb r g n d1 (.slice none 0 0) [] V from by
    rw [← hV]
    have e1 := set_cells (o := 2) (u := .slice (some ⟨g, 0, none⟩) n d1) HB3.out
    refine ⟨by rw [e1, HAT.out, HOP.out]; rfl, by rw [Below.heap_setCell _ _ _ _ (by show rb + 1 ≠ rb; omega)]; exact HZ3.out, ?_, ⟨rfl, .inl ⟨rfl, rfl⟩⟩, ?_⟩
    · refine own_keep (show v1.ownsRow Bs 49 4 (.slice (some ⟨g, 0, none⟩) n d1) r.ss.length (seatsX r.ss) from by rw [HL.out, ← hbs]; exact OW1.out) fun q _ hq2 => Below.heap_setCell _ _ _ _ (by show q ≠ rb; omega)
    · exact (BW1.out.trans (B3.out.mono BW1.out.size)).setCell (by show w.heap.size ≤ rb; rw [HRB.out]; exact Nat.le_refl _) _)
  rw [hV]
  clear hbs hlrz hlrb x0 x1 x2 x3 x4 f2 hV
  have hform := HP0.out.own.form
  have hgB : Bs ≤ g := hform.2.1
  have gc : V.cell? ⟨g, at0 * 4 + 3, none⟩ = some (iv s.df) := by have h1 := hform.2.2.2.2.2.2 _ s HS.out 3 (by omega); rw [HAT.out] at h1; exact h1
  have gf := hform.2.2.2.2.2.1 (at0 * 4 + 3)
  clear hform
  have HB4 := Lib.hid HP0.out.rbk
  rw [HAT.out, HOP.out] at HB4
  obtain ⟨y0, y1, y2, y3, y4⟩ := cells5 HB4.out
  obtain ⟨z0, z1, z2, z3, z4⟩ := cells5 HP0.out.z
  have fz := (lies_cells HP0.out.z).2
  have hgr : g ≠ rb := by omega
  have hgr2 : g ≠ rb + 1 := by omega
  have hgr3 : rb + 1 ≠ g := by omega
  have hgr4 : rb ≠ g := by omega
  have HPP := Lib.hid (show PickAt Bs w rb (payR r s co) g n d1 (.slice none 0 0) [] (V.setCell ⟨g, at0 * 4 + 3, none⟩ (iv (s.df - co))) from by
    have h1 := HP0.out.pay HRB.out hlb hgB HL.out HS.out HOP.out co
    rw [HAT.out] at h1; exact h1)
  obtain ⟨at2, hat2⟩ : ∃ a, (overR (payR r s co) (payS s co)).at_ = a := ⟨_, rfl⟩
  have HRC := Lib.hid (show ringV (overR (payR r s co) (payS s co)) (.slice (some ⟨g, 0, none⟩) n d1) = .agg #[iv r.ba, iv r.pe, .slice (some ⟨g, 0, none⟩) n d1, iv at2, .bool false] by unfold ringV; rw [hat2]; rfl)
  have HOV := Lib.hid (show ∀ X, OwnS Bs X (.slice (some ⟨g, 0, none⟩) n d1) (payR r s co).ss → Calls Try.prog 32 #[.agg #[iv r.ba, iv r.pe, .slice (some ⟨g, 0, none⟩) n d1, iv at0, .bool true]] X (OverQ Bs (overR (payR r s co) (payS s co)) (.slice (some ⟨g, 0, none⟩) n d1) g X) from fun X hX => by
    have h1 := over_any (payR r s co) (payS s co) X g n d1 hX (by show (r.ss.set r.at_ (payS s co))[r.at_]? = some _; exact List.getElem?_set_self (by rw [HL.out, HAT.out]; exact hat1)) hn16
    have e : ringV (payR r s co) (.slice (some ⟨g, 0, none⟩) n d1) = .agg #[iv r.ba, iv r.pe, .slice (some ⟨g, 0, none⟩) n d1, iv at0, .bool true] := by unfold ringV payR; simp only []; rw [HAT.out]
    rw [e] at h1
    exact h1)
  clear hat2
  have hltz : rb + 1 < V.heap.size := lt_heap HP0.out.z
  go_wp2_with (go_at_call 32; refine (HOV.out _ HPP.out.own).mono ?_; rintro e w3 ⟨rfl, own3, but3⟩; rw [HRC.out]; have OW3 := Lib.hid own3; have BT3 := Lib.hid but3; clear own3 but3 y0 y1 y2 y3 y4 z0 z1 z2 z3 z4 fz gc gf; have HZ4 := Lib.hid ((BT3.out.block (rb + 1) (lt_heap HPP.out.z) hgr3).trans HPP.out.z); obtain ⟨z0, z1, z2, z3, z4⟩ := cells5 HZ4.out; have fz := (lies_cells HZ4.out).2)
  show bodyPost _ _ _ _ _ (((((w3.setCell ⟨rb + 1, 0, none⟩ (iv r.ba)).setCell ⟨rb + 1, 1, none⟩ (iv r.pe)).setCell ⟨rb + 1, 2, none⟩ (.slice (some ⟨g, 0, none⟩) n d1)).setCell ⟨rb + 1, 3, none⟩ (iv (at2 : Nat))).setCell ⟨rb + 1, 4, none⟩ (.bool false))
  obtain ⟨F, hF⟩ : ∃ F, (((((w3.setCell ⟨rb + 1, 0, none⟩ (iv r.ba)).setCell ⟨rb + 1, 1, none⟩ (iv r.pe)).setCell ⟨rb + 1, 2, none⟩ (.slice (some ⟨g, 0, none⟩) n d1)).setCell ⟨rb + 1, 3, none⟩ (iv (at2 : Nat))).setCell ⟨rb + 1, 4, none⟩ (.bool false)) = F := ⟨_, rfl⟩
  rw [hF]
  have HFF := Lib.hid (fin_any HZ4.out OW3.out (HPP.out.bel.trans (BT3.out.toBelow (by have h1 := HRB.out; omega) HPP.out.bel.size)) HRB.out hF.symm)
  clear hF
  obtain ⟨f0, f1, f2, f3, f4⟩ := cells5 HFF.out.1
  have HSP : spendR r s co false = overR (payR r s co) (payS s co) := by unfold spendR; rw [if_neg (by decide), if_neg (by omega)]
  rw [HSP]
  refine bodyPost_ret (v := .tuple #[ringV (overR (payR r s co) (payS s co)) (.slice (some ⟨g, 0, none⟩) n d1), .bool true, iv 0]) (by rw [HRC.out]; simp [results, Try.results19, go_sem, f0, f1, f2, f3, f4]) rfl ⟨_, true, rfl, own_base HFF.out.2.1 (by have h1 := HBB.out; have h2 := HRB.out; omega), HFF.out.2.2⟩
theorem spend_any {B : Nat} (r : RV) (s : SV) (w : World) (v : Value) (co : Int) (fin : Bool) (hB : B ≤ w.heap.size) (hbB : Base.b ≤ B) (hown : OwnS B w v r.ss) (hr : RingOk r) (hop : r.op = true) (hs : r.ss[r.at_]? = some s) (h1 : 1 ≤ co) (h2 : co ≤ 8) :
    Calls Try.prog 19 #[ringV r v, iv co, .bool fin] w (SpendQ B (spendR r s co fin) w) := by
  rcases hown.val with ⟨-, h⟩ | ⟨g, c, rfl, hnc, hc⟩
  · rw [h] at hs; simp at hs
  cases fin with
  | true =>
    have := spend_fin r s w g _ c co hB rfl hown hr hop hs h1 h2
    have e : spendR r s co true = remR r r.at_ := if_pos rfl
    exact this
  | false =>
    rcases Int.lt_or_le 0 (s.df - co) with h3 | h3
    · exact spend_go r s w g _ c co hB rfl hown hr hop hs h1 h2 hbB h3
    · exact spend_over r s w g _ c co hB rfl hown hr hop hs h1 h2 hbB h3
end Go.Proofs.Ytbgoogjhgeoapaa
