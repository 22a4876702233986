/- Walks: flqref30.Check. Printed by wip/auf4_cut.py. -/
import Derived.Test.YtbgoogjhgeoapaaAuF3
import Derived.Test.YtbgoogjhgeoapaaAuW2
import Derived.Deep.CutRange
set_option linter.unusedVariables false
set_option linter.unusedSimpArgs false
set_option linter.unusedSectionVars false
namespace Go.Proofs.Ytbgoogjhgeoapaa
open Go.RowKit
variable [Base]

def rArr (a : RAcc) (g : Nat → Bool) : Array Value := #[iv a.query, iv a.df, iv a.turns, .bool a.fin, .bool (g 0), .bool (g 1), .bool (g 2), .bool (g 3), iv a.seen]
theorem rArr_get {w : World} {p k : Nat} {a : RAcc} {g : Nat → Bool} (h : w.heap[p]? = some (.cells (rArr a g) 83 (0, 0))) (hk : k < 4) : w.cell? ⟨p, 4 + k, none⟩ = some (.bool (g k)) := by
  rw [(lies_cells h).1 (4 + k)]
  rcases (by omega : k = 0 ∨ k = 1 ∨ k = 2 ∨ k = 3) with rfl | rfl | rfl | rfl <;> rfl
theorem rArr_set {a : RAcc} {m f : Nat → Bool} {k : Nat} (hk : k < 4) : (rArr a (mk m f k)).setIfInBounds (4 + k) (.bool (m k && f k)) = rArr a (mk m f (k + 1)) := by
  rcases (by omega : k = 0 ∨ k = 1 ∨ k = 2 ∨ k = 3) with rfl | rfl | rfl | rfl <;> rfl
/-- Bounds of an account ahead of entry i. -/
def BndR (i : Nat) (a : RAcc) : Prop := -(i * 2147483648 : Int) ≤ a.df ∧ a.df ≤ i * 2147483648 ∧ 0 ≤ a.turns ∧ a.turns ≤ i ∧ -1 ≤ a.seen ∧ a.seen < i
theorem BndR.mono {i j : Nat} {a : RAcc} (h : BndR i a) (hij : i ≤ j) : BndR j a := by
  obtain ⟨h1, h2, h3, h4, h5, h6⟩ := h
  refine ⟨?_, ?_, h3, ?_, h5, ?_⟩ <;> omega
theorem BndR.new (q : Int) (i : Nat) : BndR i (newR q) := by
  unfold BndR newR
  simp only
  omega
/-- What stands in memory between the entries. -/
structure RAt (Bs cb : Nat) (w0 : World) (c : CV) (va : Value) (all : List RAcc) (x : World) : Prop where
  cfg : x.heap[cb]? = some (.cells #[iv c.p, iv c.pe, iv c.me, iv c.no, iv c.ed, iv c.ba, iv c.ag] 26 (0, 0))
  own : OwnR Bs x va all
  bel : Below w0.heap.size w0 x
theorem RAt.below {Bs cb : Nat} {w0 : World} {c : CV} {va : Value} {all : List RAcc} {x y : World} (h : RAt Bs cb w0 c va all x) (hb : Below x.heap.size x y) : RAt Bs cb w0 c va all y :=
  ⟨lies_below h.cfg hb (lt_heap h.cfg), own_below h.own hb, h.bel.trans (hb.mono h.bel.size)⟩
theorem turnB_facts {t : TV} (h : turnB t = true) : (0 ≤ t.q ∧ t.q ≤ 1073741824) ∧ (0 ≤ t.qu ∧ t.qu ≤ 64) ∧ 0 ≤ t.st ∧ 0 ≤ t.co ∧ t.co ≤ 1073741824 := by
  unfold turnB cnB btwB at h
  simp only [Bool.and_eq_true, decide_eq_true_eq] at h
  omega
theorem RAt.only {Bs cb : Nat} {w0 : World} {c : CV} {g M D ab : Nat} {all : List RAcc} {x y : World} (h : RAt Bs cb w0 c (.slice (some ⟨g, 0, none⟩) M D) all x) (hne : g ≠ ab) (hcb : cb ≠ ab) (hw : w0.heap.size ≤ ab) (ho : OnlyAt ab x y) : RAt Bs cb w0 c (.slice (some ⟨g, 0, none⟩) M D) all y :=
  ⟨(ho.block cb hcb).trans h.cfg, own_but h.own ⟨ho.os, ho.tape, ho.output, Nat.le_of_eq ho.size.symm, fun k _ hk => ho.block k hk⟩ (by simp [Value.ownBlock]; exact hne), ⟨ho.os.trans h.bel.os, ho.tape.trans h.bel.tape, ho.output.trans h.bel.output, by rw [ho.size]; exact h.bel.size, fun q hq => (ho.block q (by omega)).trans (h.bel.block q hq)⟩⟩
theorem own_setG {w : World} {base : Nat} {e : TypeId} {size g n c m : Nat} {xs : List Value} (h : w.ownsRow base e size (.slice (some ⟨g, 0, none⟩) n c) m xs) {j : Nat} (u : Value) : (w.setCell ⟨g, j, none⟩ u).ownsRow base e size (.slice (some ⟨g, 0, none⟩) n c) m (xs.set j u) := by
  have hm : m = n := by
    rcases h.2 with ⟨h2, _⟩ | ⟨g', cap, cur, e1, _⟩
    · cases h2
    · injection e1 with _ e2; exact e2.symm
  subst hm
  exact own_set h u
theorem own_set9 {w : World} {base : Nat} {e : TypeId} {size g n c m : Nat} {xs : List Value} (h : w.ownsRow base e size (.slice (some ⟨g, 0, none⟩) n c) m xs) (o : Nat) (a : RAcc) : (((((((((w.setCell ⟨g, o, none⟩ (iv a.query)).setCell ⟨g, o + 1, none⟩ (iv a.df)).setCell ⟨g, o + 2, none⟩ (iv a.turns)).setCell ⟨g, o + 3, none⟩ (.bool a.fin)).setCell ⟨g, o + 4, none⟩ (.bool (a.may.getD 0 false))).setCell ⟨g, o + 5, none⟩ (.bool (a.may.getD 1 false))).setCell ⟨g, o + 6, none⟩ (.bool (a.may.getD 2 false))).setCell ⟨g, o + 7, none⟩ (.bool (a.may.getD 3 false))).setCell ⟨g, o + 8, none⟩ (iv a.seen)).ownsRow base e size (.slice (some ⟨g, 0, none⟩) n c) m (((((((((xs.set (o) (iv a.query)).set (o + 1) (iv a.df)).set (o + 2) (iv a.turns)).set (o + 3) (.bool a.fin)).set (o + 4) (.bool (a.may.getD 0 false))).set (o + 5) (.bool (a.may.getD 1 false))).set (o + 6) (.bool (a.may.getD 2 false))).set (o + 7) (.bool (a.may.getD 3 false))).set (o + 8) (iv a.seen)) :=
  own_setG (own_setG (own_setG (own_setG (own_setG (own_setG (own_setG (own_setG (own_setG h _) _) _) _) _) _) _) _) _
theorem RAt.cell {Bs cb : Nat} {w0 : World} {c : CV} {g M D ab : Nat} {all : List RAcc} {x : World} (h : RAt Bs cb w0 c (.slice (some ⟨g, 0, none⟩) M D) all x) (hne : g ≠ ab) (hcb : cb ≠ ab) (hw : w0.heap.size ≤ ab) (o : Nat) (u : Value) : RAt Bs cb w0 c (.slice (some ⟨g, 0, none⟩) M D) all (x.setCell ⟨ab, o, none⟩ u) :=
  ⟨by rw [Below.heap_setCell _ _ _ _ (by exact hcb)]; exact h.cfg, own_but h.own ((But.refl ab x).setCell ⟨ab, o, none⟩ (.inl rfl) u) (by simp [Value.ownBlock]; exact hne), h.bel.setCell (by exact hw) u⟩
def chain9 (x : World) (g o : Nat) (a : RAcc) : World := (((((((((x.setCell ⟨g, o, none⟩ (iv a.query)).setCell ⟨g, o + 1, none⟩ (iv a.df)).setCell ⟨g, o + 2, none⟩ (iv a.turns)).setCell ⟨g, o + 3, none⟩ (.bool a.fin)).setCell ⟨g, o + 4, none⟩ (.bool (a.may.getD 0 false))).setCell ⟨g, o + 5, none⟩ (.bool (a.may.getD 1 false))).setCell ⟨g, o + 6, none⟩ (.bool (a.may.getD 2 false))).setCell ⟨g, o + 7, none⟩ (.bool (a.may.getD 3 false))).setCell ⟨g, o + 8, none⟩ (iv a.seen))
theorem RAt.store {Bs cb : Nat} {w0 : World} {c : CV} {g M D : Nat} {all : List RAcc} {x : World} (h : RAt Bs cb w0 c (.slice (some ⟨g, 0, none⟩) M D) all x) (hcb : cb < Bs) (hw : w0.heap.size ≤ Bs) (hg : Bs ≤ g) {pl : Nat} {a0 : RAcc} (hk : all[pl]? = some a0) (ay : RAcc) : RAt Bs cb w0 c (.slice (some ⟨g, 0, none⟩) M D) (all.set pl ay) (chain9 x g (pl * 9) ay) := by
  have ho := h.own
  unfold OwnR at ho
  have o9 := own_set9 ho (pl * 9) ay
  rw [show ((((((((((accX all).set (pl * 9) (iv ay.query)).set (pl * 9 + 1) (iv ay.df)).set (pl * 9 + 2) (iv ay.turns)).set (pl * 9 + 3) (.bool ay.fin)).set (pl * 9 + 4) (.bool (ay.may.getD 0 false))).set (pl * 9 + 5) (.bool (ay.may.getD 1 false))).set (pl * 9 + 6) (.bool (ay.may.getD 2 false))).set (pl * 9 + 7) (.bool (ay.may.getD 3 false))).set (pl * 9 + 8) (iv ay.seen)) = setsAt (accX all) (pl * 9) (rC ay) from rfl, accX_sets all pl a0 hk] at o9
  refine ⟨?_, ?_, ?_⟩
  · unfold chain9
    rw [Below.heap_setCell _ _ _ _ (by show cb ≠ g; omega), Below.heap_setCell _ _ _ _ (by show cb ≠ g; omega), Below.heap_setCell _ _ _ _ (by show cb ≠ g; omega), Below.heap_setCell _ _ _ _ (by show cb ≠ g; omega), Below.heap_setCell _ _ _ _ (by show cb ≠ g; omega), Below.heap_setCell _ _ _ _ (by show cb ≠ g; omega), Below.heap_setCell _ _ _ _ (by show cb ≠ g; omega), Below.heap_setCell _ _ _ _ (by show cb ≠ g; omega), Below.heap_setCell _ _ _ _ (by show cb ≠ g; omega)]
    exact h.cfg
  · unfold OwnR
    rw [List.length_set]
    exact o9
  · unfold chain9
    exact ((((((((h.bel.setCell (by show _ ≤ g; omega) _).setCell (by show _ ≤ g; omega) _).setCell (by show _ ≤ g; omega) _).setCell (by show _ ≤ g; omega) _).setCell (by show _ ≤ g; omega) _).setCell (by show _ ≤ g; omega) _).setCell (by show _ ≤ g; omega) _).setCell (by show _ ≤ g; omega) _).setCell (by show _ ≤ g; omega) _
/-- A row of accounts in memory. -/
theorem OwnR.form {B : Nat} {w : World} {g n c : Nat} {l : List RAcc} (h : OwnR B w (.slice (some ⟨g, 0, none⟩) n c) l) : l.length = n ∧ B ≤ g ∧ g < w.heap.size ∧ n ≤ c ∧ c ≤ maxLen ∧ (∀ o, w.frozen? ⟨g, o, none⟩ = false) ∧ ∀ k x, l[k]? = some x → ∀ j, j < 9 → w.cell? ⟨g, k * 9 + j, none⟩ = (rC x)[j]? := by
  obtain ⟨h1, h2⟩ := h
  rcases h2 with ⟨h2, _⟩ | ⟨g', cap, cur, e1, e2, e3, e4, e5, e6, e7⟩
  · cases h2
  · injection e1 with e1 e9 e8
    injection e1 with e1
    injection e1 with e1 _
    subst e1 e8
    refine ⟨e9.symm, e2, lt_heap e3, by omega, e5, (lies_cells e3).2, fun k x hk j hj => ?_⟩
    have hx : (accX l)[k * 9 + j]? = (rC x)[j]? := by
      obtain ⟨q1, rfl⟩ := List.getElem?_eq_some_iff.1 hk
      rw [flatten_get 9 _ (rC_len l) k j (by simpa using q1) hj]
      simp
    rw [(lies_cells e3).1, ← hx, ← e7, List.getElem?_take_of_lt (by have := (List.getElem?_eq_some_iff.1 hk).1; omega), Array.getElem?_toList]
theorem RT_ne_CT : (83 : TypeId) ≠ 26 := by decide
theorem RT_ne_TTt : (83 : TypeId) ≠ 53 := by decide
/-- An account is appended. -/
theorem RAt.push {Bs cb : Nat} {w0 : World} {c : CV} {va : Value} {all : List RAcc} {x U v : World} (h : RAt Bs cb w0 c va all x) (hbB : Base.b ≤ Bs) (hw : w0.heap.size ≤ Bs) (hcb : cb < Bs) (hU : Below x.heap.size x U) (hUs : Bs ≤ U.heap.size) {a : Option Addr} {d : Nat} {q : Int}
    (ho : v.ownsRow Bs 83 9 (.slice a (all.length + 1) d) (all.length + 1) (accX all ++ rC (newR q))) (hg : U.grownBy v va.ownBlock) : RAt Bs cb w0 c (.slice a (all.length + 1) d) (all ++ [newR q]) v := by
  have ht : U.ownsRow Bs 83 9 va all.length (accX all) := own_below h.own hU
  have hB1 : Below Bs U v := Below.of_grown hg ht hUs
  refine ⟨(hB1.block cb hcb).trans (lies_below h.cfg hU (lt_heap h.cfg)), ?_, (h.bel.trans (hU.mono h.bel.size)).trans (hB1.mono hw)⟩
  unfold OwnR
  rw [List.length_append, List.length_singleton, accX_app]
  exact (by simpa [accX] using ho)
set_option maxRecDepth 100000 in
set_option maxHeartbeats 16000000 in
theorem rcheck_any (c : CV) (l : List TV) (v : Value) (w : World) (h : TurnsAt w v l) (hbw : Base.b ≤ w.heap.size) : Calls Try.prog 25 #[cfgV c, v] w (PairQ (auditR c l) w) := by
  have HT := Lib.hid h
  obtain ⟨la, lc, rfl, hn, -, -, hc⟩ := h.cell
  have HC := Lib.hid hc
  obtain ⟨n, hl⟩ : ∃ n, l.length = n := ⟨_, rfl⟩
  rw [hl] at hn HT ⊢
  have HL := Lib.hid hl
  clear hc h hl hn
  have HCF := Lib.hid (rcvalid_any c)
  unfold cfgV at HCF ⊢
  obtain ⟨W, hW⟩ : ∃ W, w.alloc (.cells #[iv c.p, iv c.pe, iv c.me, iv c.no, iv c.ed, iv c.ba, iv c.ag] 26) = W := ⟨_, rfl⟩
  have HB := Lib.hid (show W.heap[w.heap.size]? = some (.cells #[iv c.p, iv c.pe, iv c.me, iv c.no, iv c.ed, iv c.ba, iv c.ag] 26 (0, 0)) by rw [← hW]; exact heap_alloc_new _ _)
  have BW := Lib.hid (show Below w.heap.size w W by rw [← hW]; exact (Below.refl _ _).alloc (Nat.le_refl _) _)
  have HW := Lib.hid hW
  obtain ⟨x0, x1, x2, x3, x4, x5, x6⟩ := cells7' HB.out
  have hud : ∀ b : Bool, (undef = Value.bool b) = False := fun b => by simp [undef]
  clear hW
  have HLV := Lib.hid (fun (w' : World) (h : TurnsAt w' (.slice la n lc) l) => rlvalid_any l _ w' h)
  cases hcb : cfgB c with
  | false =>
    have HCB := Lib.hid hcb
    have HE := Lib.hid (show auditR c l = (0, 1) by unfold auditR; rw [if_pos (.inl hcb)])
    rw [hcb] at HCF
    clear hcb
    go_enter Try.func25, Try.ntmps25
    go_upto_region 1 with (fail)
    rw [show w.alloc (.cells #[iv c.p, iv c.pe, iv c.me, iv c.no, iv c.ed, iv c.ba, iv c.ag] 26) = W from HW.out]
    go_wp2_with (go_at_call 38; refine (HCF.out _).mono ?_; rintro e w1 ⟨rfl, b1⟩; have B1 := Lib.hid (BW.out.trans (b1.mono BW.out.size)); clear b1)
    rw [HE.out]
    exact bodyPost_ret (v := .tuple #[iv 0, iv 1]) (by simp [results, Try.results25, go_sem]) rfl ⟨rfl, B1.out⟩
  | true =>
  rw [hcb] at HCF
  cases hlb : logB l with
  | false =>
    have HE := Lib.hid (show auditR c l = (0, 1) by unfold auditR; rw [if_pos (.inr hlb)])
    rw [hlb] at HLV
    clear hcb hlb
    go_enter Try.func25, Try.ntmps25
    go_upto_region 1 with (fail)
    rw [show w.alloc (.cells #[iv c.p, iv c.pe, iv c.me, iv c.no, iv c.ed, iv c.ba, iv c.ag] 26) = W from HW.out]
    go_wp2_with first
      | (go_at_call 38; refine (HCF.out _).mono ?_; rintro e w1 ⟨rfl, b1⟩; have B1 := Lib.hid (BW.out.trans (b1.mono BW.out.size)); clear b1)
      | (go_at_call 12; refine (HLV.out _ (HT.out.below B1.out)).mono ?_; rintro e w2 ⟨rfl, b2⟩; have B2 := Lib.hid (B1.out.trans (b2.mono B1.out.size)); clear b2)
    rw [HE.out]
    exact bodyPost_ret (v := .tuple #[iv 0, iv 1]) (by simp [results, Try.results25, go_sem]) rfl ⟨rfl, B2.out⟩
  | true =>
  have HE := Lib.hid (show auditR c l = auditRGo c l [] (-1) 0 l by unfold auditR; rw [if_neg (by rw [hcb, hlb]; simp)])
  have HTB := Lib.hid (fun (i : Nat) (x : TV) (hx : l[i]? = some x) => logB_turn hlb hx)
  have hn4 : n ≤ 4096 := by rw [← HL.out]; exact logB_len hlb
  rw [hlb] at HLV
  clear hcb hlb
  go_enter Try.func25, Try.ntmps25
  go_upto_region 1 with (fail)
  rw [show w.alloc (.cells #[iv c.p, iv c.pe, iv c.me, iv c.no, iv c.ed, iv c.ba, iv c.ag] 26) = W from HW.out]
  obtain ⟨cb, hcb⟩ : ∃ b, w.heap.size = b := ⟨_, rfl⟩
  rw [hcb] at HB x0 x1 x2 x3 x4 x5 x6 ⊢
  have HCB := Lib.hid hcb
  have hbb : Base.b ≤ cb := by omega
  clear hcb
  go_upto_region 6 with (first
    | (go_at_call 38; refine (HCF.out _).mono ?_; rintro e w1 ⟨rfl, b1⟩; have B1 := Lib.hid b1; clear b1)
    | (go_at_call 12; refine (HLV.out _ ((HT.out.below BW.out).below B1.out)).mono ?_; rintro e w2 ⟨rfl, b2⟩; have B2 := Lib.hid (B1.out.trans (b2.mono B1.out.size)); clear b2))
  obtain ⟨Bs, hBs⟩ : ∃ b, cb + 1 = b := ⟨_, rfl⟩
  have hcbB : cb < Bs := by omega
  have hbB : Base.b ≤ Bs := by omega
  have hwB : w.heap.size ≤ Bs := by have := HCB.out; omega
  have HBSE := Lib.hid (show cb + 1 = Bs from hBs)
  have HR0 := Lib.hid (show RAt Bs cb w c (.slice none 0 0) [] w2 from ⟨lies_below HB.out B2.out (lt_heap HB.out), ⟨rfl, .inl ⟨rfl, rfl⟩⟩, BW.out.trans (B2.out.mono BW.out.size)⟩)
  clear x0 x1 x2 x3 x4 x5 x6 hBs
  go_loopw [6, 7, 8] (fun y6 y7 y8 wr => ∃ (i : Nat) (all : List RAcc) (op : Int) (a : Option Addr) (m ct : Nat), i ≤ n ∧ y8 = .int .i64 i ∧ y7 = .int .i64 op ∧ y6 = .slice a m ct ∧ Hid (m = all.length) ∧ m ≤ i ∧ Hid (TabR all) ∧ Hid (∀ x ∈ all, BndR i x) ∧ Hid (RAt Bs cb w c (.slice a m ct) all wr) ∧ Hid (auditR c l = auditRGo c l all op i (l.drop i))) (fun _ _ y _ => n - (intOf y).toNat)
  case atStart => exact ⟨0, [], -1, none, 0, 0, Nat.zero_le _, rfl, rfl, rfl, rfl, Nat.le_refl _, .nil, (by intro x hx; cases hx), HR0.out, HE.out⟩
  case round =>
    obtain ⟨i, all, op, a, m, ct, hi, rfl, rfl, rfl, HM, hmi, HTA, HBD, HRA, HAU⟩ := hrel
    by_cases hlt : i < n
    rotate_left
    · have HE2 := Lib.hid (show auditR c l = ((n : Int), 0) by rw [HAU.out, List.drop_eq_nil_of_le (by rw [HL.out]; omega)]; unfold auditRGo; rw [show i = n by omega])
      go_wp2
      rw [HE2.out]
      exact bodyPost_ret (v := .tuple #[iv (n : Int), iv 0]) (by simp [results, Try.results25, go_sem]) rfl ⟨rfl, HRA.out.bel⟩
    obtain ⟨t, ht⟩ : ∃ t, l[i]? = some t := ⟨_, List.getElem?_eq_getElem (by rw [HL.out]; exact hlt)⟩
    have HDR := Lib.hid (show l.drop i = t :: l.drop (i + 1) by obtain ⟨q1, rfl⟩ := List.getElem?_eq_some_iff.1 ht; exact List.drop_eq_getElem_cons q1)
    have htf := turnB_facts (HTB.out i t ht)
    obtain ⟨⟨tq1, tq2⟩, ⟨tu1, tu2⟩, ts1, tc1, tc2⟩ := htf
    obtain ⟨lb, lo, rfl, hlb, hcs⟩ := HC.out i t ht
    have c0 := (HRA.out.bel.cell (p := ⟨lb, lo + i * 5 + 0, none⟩) hlb).trans (hcs 0 (by omega))
    have c1 := (HRA.out.bel.cell (p := ⟨lb, lo + i * 5 + 1, none⟩) hlb).trans (hcs 1 (by omega))
    have c2 := (HRA.out.bel.cell (p := ⟨lb, lo + i * 5 + 2, none⟩) hlb).trans (hcs 2 (by omega))
    have c3 := (HRA.out.bel.cell (p := ⟨lb, lo + i * 5 + 3, none⟩) hlb).trans (hcs 3 (by omega))
    have c4 := (HRA.out.bel.cell (p := ⟨lb, lo + i * 5 + 4, none⟩) hlb).trans (hcs 4 (by omega))
    simp only [turnC, List.getElem?_cons_zero, List.getElem?_cons_succ, Nat.add_zero] at c0 c1 c2 c3 c4
    have HTI := Lib.hid ht
    clear hcs ht
    have hin : (i : Int) < (n : Int) := by omega
    obtain ⟨U, hU⟩ : ∃ U, wr.alloc (.cells #[iv t.q, iv t.qu, iv t.st, iv t.co, .bool t.fin] 53) = U := ⟨_, rfl⟩
    have HTL := Lib.hid (show U.heap[wr.heap.size]? = some (.cells #[iv t.q, iv t.qu, iv t.st, iv t.co, .bool t.fin] 53 (0, 0)) by rw [← hU]; exact heap_alloc_new _ _)
    have BU := Lib.hid (show Below wr.heap.size wr U by rw [← hU]; exact (Below.refl _ _).alloc (Nat.le_refl _) _)
    have HUU := Lib.hid hU
    obtain ⟨tb, htb⟩ : ∃ b, wr.heap.size = b := ⟨_, rfl⟩
    have HTBE := Lib.hid htb
    clear hU
    go_upto_region 9 with (fail)
    rw [show wr.alloc (.cells #[iv t.q, iv t.qu, iv t.st, iv t.co, .bool t.fin] 53) = U from HUU.out]
    try rw [htb]
    rw [htb] at HTL
    have HRU := Lib.hid (HRA.out.below BU.out)
    have htbB : Bs ≤ tb := by rw [← HBSE.out, ← htb]; exact lt_heap HRA.out.cfg
    clear htb c0 c1 c2 c3 c4
    obtain ⟨t0, t1, t2, t3, t4⟩ := cells5 HTL.out
    have HFI := Lib.hid (rfind_any all (.slice a m ct) U (HRU.out.own.accs) t.q)
    go_wp2_with fail
    refine HFI.out.mono ?_
    rintro e w5 ⟨rfl, b5⟩
    have HRV := Lib.hid (HRU.out.below b5)
    have HTV := Lib.hid (lies_below HTL.out b5 (lt_heap HTL.out))
    clear b5 t0 t1 t2 t3 t4
    obtain ⟨t0, t1, t2, t3, t4⟩ := cells5 HTV.out
    have htbv : tb < w5.heap.size := lt_heap HTV.out
    have hBv : Bs ≤ w5.heap.size := by omega
    have HBV := Lib.hid hBv
    go_upto_if 37 with fail
    go_cut [6, 10] from 32 to 47 (fun s6 s10 wx => ∃ (all2 : List RAcc) (a0 : RAcc) (pl g M D : Nat), s6 = .slice (some ⟨g, 0, none⟩) M D ∧ s10 = .int .i64 pl ∧ M ≤ i + 1 ∧ pl < M ∧ Hid (ensureR all t.q = all2) ∧ Hid (TabR all2) ∧ Hid (getR all2 t.q = a0) ∧ Hid (all2[pl]? = some a0) ∧ Hid (∀ x ∈ all2, BndR i x) ∧ Hid (M = all2.length) ∧ Hid (a0.query = t.q) ∧ Hid (RAt Bs cb w c (.slice (some ⟨g, 0, none⟩) M D) all2 wx) ∧ Hid (wx.heap[tb]? = some (.cells #[iv t.q, iv t.qu, iv t.st, iv t.co, .bool t.fin] 53 (0, 0))))
    case first =>
      rcases placeR_spec t.q all 0 with ⟨pl1, pl2, pl3⟩ | ⟨p, a0, pl1, pl2, pl3, pl4⟩
      · rw [pl1]
        have HEN := Lib.hid (show ensureR all t.q = all ++ [newR t.q] by unfold ensureR; rw [pl2])
        have HTA2 := Lib.hid (HTA.out.ensure pl3)
        have HGE := Lib.hid (show getR (all ++ [newR t.q]) t.q = newR t.q by
          unfold getR
          rw [show findR (all ++ [newR t.q]) t.q = some (newR t.q) from findR_snoc (r := newR t.q) pl2])
        have HOW := Lib.hid (show w5.ownsRow Bs 83 9 (.slice a m ct) m (accX all) by have h1 := HRV.out.own; unfold OwnR at h1; rw [← HM.out] at h1; exact h1)
        clear pl1 pl2 pl3
        go_wp2_with (at_builtin; refine wpList_pushH [iv t.q, iv 0, iv 0, .bool false, .bool true, .bool true, .bool true, .bool true, iv (-1)] rfl _ _ 80 rfl Bs 83 _ 9 40 Try.underlying80 info_acc rfl (by decide) _ m _ HOW.out rfl _ rfl rfl rfl rfl (by unfold maxLen; omega) (by omega) HBV.out ?_; intro g d w6 own6 gr6 q1 q2; have OW6 := Lib.hid own6; have GR6 := Lib.hid gr6; clear own6 gr6 q1 q2 t0 t1 t2 t3 t4)
        obtain ⟨M, hM⟩ : ∃ k, m + 1 = k := ⟨_, rfl⟩
        obtain ⟨all2, hall2⟩ : ∃ k, all ++ [newR t.q] = k := ⟨_, rfl⟩
        obtain ⟨a0, ha0⟩ : ∃ k, newR t.q = k := ⟨_, rfl⟩
        have HRZ := Lib.hid (show RAt Bs cb w c (.slice (some ⟨g, 0, none⟩) M d) all2 w6 from by
          have h1 := HRV.out.push hbB hwB hcbB (Below.refl _ _) HBV.out (q := t.q) (by rw [← HM.out]; exact OW6.out) GR6.out
          rw [← HM.out, hM, hall2] at h1; exact h1)
        have HTZ := Lib.hid (show w6.heap[tb]? = some (.cells #[iv t.q, iv t.qu, iv t.st, iv t.co, .bool t.fin] 53 (0, 0)) from (SameT.grown GR6.out HOW.out (Ne.symm RT_ne_TTt) hbB).own HTV.out)
        have HK := Lib.hid (show all2[m]? = some a0 from by rw [← hall2, ← ha0, HM.out]; simp)
        have HBD2 := Lib.hid (show ∀ x ∈ all2, BndR i x from by
          intro x hx
          rw [← hall2] at hx
          rcases List.mem_append.1 hx with h1 | h1
          · exact HBD.out x h1
          · rw [List.mem_singleton.1 h1]; exact BndR.new t.q i)
        have HMM := Lib.hid (show M = all2.length by rw [← hall2, ← hM, List.length_append, List.length_singleton, HM.out])
        rw [hall2] at HEN HTA2 HGE
        rw [ha0] at HGE
        have HQ0 := Lib.hid (show a0.query = t.q by rw [← ha0]; rfl)
        have hM1 : M ≤ i + 1 := by omega
        obtain ⟨pl, hpl⟩ : ∃ k, m = k := ⟨_, rfl⟩
        rw [hM, hpl]
        rw [hpl] at HK
        have hpM : pl < M := by omega
        have HT2 := HTA2
        obtain ⟨Z, hZ⟩ : ∃ k, w6 = k := ⟨_, rfl⟩
        obtain ⟨D, hD⟩ : ∃ k, d = k := ⟨_, rfl⟩
        rw [hZ, hD] at HRZ
        rw [hZ] at HTZ
        rw [hZ, hD]
        clear hM hall2 ha0 hpl hZ hD HTA2
        go_meet
        case rel => exact ⟨all2, a0, pl, g, M, D, rfl, rfl, hM1, hpM, HEN, HT2, HGE, HK, HBD2, HMM, HQ0, HRZ, HTZ⟩
      · rw [pl1]
        have HEN := Lib.hid (show ensureR all t.q = all by unfold ensureR; rw [pl3])
        have HGE := Lib.hid (show getR all t.q = a0 by unfold getR; rw [pl3])
        have HQ0 := Lib.hid pl4
        have HMM := Lib.hid HM.out
        have hpm : p < m := by rw [HM.out]; exact (List.getElem?_eq_some_iff.1 pl2).1
        have hpn : ¬ ((0 + p : Nat) : Int) < 0 := by omega
        obtain ⟨g, rfl⟩ := own_some (show w5.ownsRow Bs 83 9 (.slice a m ct) all.length (accX all) from HRV.out.own) (by rw [← HM.out]; omega)
        have HK := Lib.hid pl2
        obtain ⟨pl, hpl⟩ : ∃ k, 0 + p = k := ⟨_, rfl⟩
        have hpp : p = pl := by omega
        rw [hpl]
        rw [hpl] at hpn
        rw [hpp] at HK
        have hpM : pl < m := by omega
        have hM1 : m ≤ i + 1 := by omega
        have HT2 := HTA
        have HBD2 := HBD
        clear pl1 pl2 pl3 pl4 hpl hpp hpm
        obtain ⟨all2, hall2⟩ : ∃ k, all = k := ⟨_, rfl⟩
        obtain ⟨Z, hZ⟩ : ∃ k, w5 = k := ⟨_, rfl⟩
        obtain ⟨M, hM⟩ : ∃ k, m = k := ⟨_, rfl⟩
        obtain ⟨D, hD⟩ : ∃ k, ct = k := ⟨_, rfl⟩
        have HRZ := Lib.hid (show RAt Bs cb w c (.slice (some ⟨g, 0, none⟩) M D) all2 Z from by rw [← hall2, ← hZ, ← hM, ← hD]; exact HRV.out)
        have HTZ := Lib.hid (show Z.heap[tb]? = some (.cells #[iv t.q, iv t.qu, iv t.st, iv t.co, .bool t.fin] 53 (0, 0)) from by rw [← hZ]; exact HTV.out)
        rw [hall2] at HGE HMM HT2 HBD2 HK
        have HEN2 := Lib.hid (show ensureR all t.q = all2 by rw [← hall2]; exact HEN.out)
        clear HEN
        have HEN := HEN2
        clear HEN2
        rw [hM] at HMM hpM hM1
        rw [hZ, hM, hD]
        clear hall2 hZ hM hD t0 t1 t2 t3 t4
        go_wp2
        go_meet
        case rel => exact ⟨all2, a0, pl, g, M, D, rfl, rfl, hM1, hpM, HEN, HT2, HGE, HK, HBD2, HMM, HQ0, HRZ, HTZ⟩
    case rest =>
      obtain ⟨all2, a0, pl, g, M, D, rfl, rfl, hM1, hpM, HEN, HT2, HGE, HK, HBD2, HMM, HQ0, HRZ, HTZ⟩ := hcut
      obtain ⟨Z, rfl⟩ : ∃ Z, Z = wc := ⟨_, rfl⟩
      clear t0 t1 t2 t3 t4
      have hzf := HRZ.out.own.form
      obtain ⟨hgB, hgl, hMD, hfr, hzc⟩ : Bs ≤ g ∧ g < Z.heap.size ∧ M ≤ D ∧ (∀ o, Z.frozen? ⟨g, o, none⟩ = false) ∧ ∀ j, j < 9 → Z.cell? ⟨g, pl * 9 + j, none⟩ = (rC a0)[j]? := ⟨hzf.2.1, hzf.2.2.1, hzf.2.2.2.1, hzf.2.2.2.2.2.1, fun j hj => hzf.2.2.2.2.2.2 pl a0 HK.out j hj⟩
      have y0 := hzc 0 (by omega)
      have y1 := hzc 1 (by omega)
      have y2 := hzc 2 (by omega)
      have y3 := hzc 3 (by omega)
      have y4 := hzc 4 (by omega)
      have y5 := hzc 5 (by omega)
      have y6 := hzc 6 (by omega)
      have y7 := hzc 7 (by omega)
      have y8 := hzc 8 (by omega)
      simp only [rC, List.getElem?_cons_zero, List.getElem?_cons_succ, Nat.add_zero] at y0 y1 y2 y3 y4 y5 y6 y7 y8
      obtain ⟨m0, hm0⟩ : ∃ b, a0.may.getD 0 false = b := ⟨_, rfl⟩
      obtain ⟨m1, hm1⟩ : ∃ b, a0.may.getD 1 false = b := ⟨_, rfl⟩
      obtain ⟨m2, hm2⟩ : ∃ b, a0.may.getD 2 false = b := ⟨_, rfl⟩
      obtain ⟨m3, hm3⟩ : ∃ b, a0.may.getD 3 false = b := ⟨_, rfl⟩
      rw [hm0] at y4
      rw [hm1] at y5
      rw [hm2] at y6
      rw [hm3] at y7
      have HMF := Lib.hid (And.intro hm0 (And.intro hm1 (And.intro hm2 hm3)))
      clear hm0 hm1 hm2 hm3
      have hplM : (pl : Int) < (M : Int) := by omega
      have hpl0 : (0 : Int) ≤ (pl : Int) := Int.natCast_nonneg _
      clear hzf hzc
      obtain ⟨Z1, hZ1⟩ : ∃ X, Z.alloc (.cells #[iv a0.query, iv a0.df, iv a0.turns, .bool a0.fin, .bool m0, .bool m1, .bool m2, .bool m3, iv a0.seen] 83) = X := ⟨_, rfl⟩
      have HAB := Lib.hid (show Z1.heap[Z.heap.size]? = some (.cells (rArr a0 (fun j => a0.may.getD j false)) 83 (0, 0)) by rw [← hZ1, ← HMF.out.1, ← HMF.out.2.1, ← HMF.out.2.2.1, ← HMF.out.2.2.2]; exact heap_alloc_new _ _)
      have BZ := Lib.hid (show Below Z.heap.size Z Z1 by rw [← hZ1]; exact (Below.refl _ _).alloc (Nat.le_refl _) _)
      have HZ1 := Lib.hid hZ1
      obtain ⟨ab, hab⟩ : ∃ b, Z.heap.size = b := ⟨_, rfl⟩
      have HABE := Lib.hid hab
      clear hZ1
      go_upto_region 14 with (fail)
      rw [show Z.alloc (.cells #[iv a0.query, iv a0.df, iv a0.turns, .bool a0.fin, .bool m0, .bool m1, .bool m2, .bool m3, iv a0.seen] 83) = Z1 from HZ1.out]
      try rw [hab]
      rw [hab] at HAB
      have hgab : g ≠ ab := by omega
      have htab : tb < ab := by rw [← hab]; exact lt_heap HTZ.out
      have hBab : Bs ≤ ab := by omega
      clear hab y0 y1 y2 y3 y4 y5 y6 y7 y8
      have HRZ1 := Lib.hid (HRZ.out.below BZ.out)
      have HTZ1 := Lib.hid (lies_below HTZ.out BZ.out (lt_heap HTZ.out))
      obtain ⟨t0, t1, t2, t3, t4⟩ := cells5 HTZ1.out
      cases hlv : leaveB t with
      | true =>
        have HLE := Lib.hid (show Calls Try.prog 40 #[.agg #[iv t.q, iv t.qu, iv t.st, iv t.co, .bool t.fin]] Z1 (BoolQ true Z1) from by have h1 := rfleave_any t Z1; rw [hlv] at h1; exact h1)
        by_cases hop : op = t.q
        · have HST := Lib.hid (show auditR c l = auditRGo c l all2 (-1) (i + 1) (l.drop (i + 1)) by
            rw [HAU.out, HDR.out]
            have h1 : entryR c l i all op t = some (all2, -1) := by unfold entryR; simp only [HEN.out, hlv, if_true, if_pos hop]
            simp only [auditRGo, h1])
          have hopb : (op == t.q) = true := by simpa using hop
          clear hlv hop
          go_wp2_with (go_at_call 40; refine HLE.out.mono ?_; rintro e w7 ⟨rfl, b7⟩; have B7 := Lib.hid b7; clear b7 t0 t1 t2 t3 t4; have HTZ2 := Lib.hid (lies_below HTZ1.out B7.out (lt_heap HTZ1.out)); obtain ⟨t0, t1, t2, t3, t4⟩ := cells5 HTZ2.out)
          go_roundw
          case rel => exact ⟨i + 1, all2, -1, some ⟨g, 0, none⟩, M, D, by omega, by go_num, rfl, rfl, HMM, hM1, HT2, Lib.hid (fun x hx => (HBD2.out x hx).mono (Nat.le_succ i)), Lib.hid (HRZ1.out.below B7.out), HST⟩
          case measure => simp [intOf]; omega
        · have HST := Lib.hid (show auditR c l = auditRGo c l all2 op (i + 1) (l.drop (i + 1)) by
            rw [HAU.out, HDR.out]
            have h1 : entryR c l i all op t = some (all2, op) := by unfold entryR; simp only [HEN.out, hlv, if_true, if_neg hop]
            simp only [auditRGo, h1])
          have hopb : (op == t.q) = false := by simpa using hop
          clear hlv hop
          go_wp2_with (go_at_call 40; refine HLE.out.mono ?_; rintro e w7 ⟨rfl, b7⟩; have B7 := Lib.hid b7; clear b7 t0 t1 t2 t3 t4; have HTZ2 := Lib.hid (lies_below HTZ1.out B7.out (lt_heap HTZ1.out)); obtain ⟨t0, t1, t2, t3, t4⟩ := cells5 HTZ2.out)
          go_roundw
          case rel => exact ⟨i + 1, all2, op, some ⟨g, 0, none⟩, M, D, by omega, by go_num, rfl, rfl, HMM, hM1, HT2, Lib.hid (fun x hx => (HBD2.out x hx).mono (Nat.le_succ i)), Lib.hid (HRZ1.out.below B7.out), HST⟩
          case measure => simp [intOf]; omega
      | false =>
        have HLV := Lib.hid hlv
        have HLE := Lib.hid (show Calls Try.prog 40 #[.agg #[iv t.q, iv t.qu, iv t.st, iv t.co, .bool t.fin]] Z1 (BoolQ false Z1) from by have h1 := rfleave_any t Z1; rw [hlv] at h1; exact h1)
        have hbd := HBD2.out a0 (List.mem_of_getElem? HK.out)
        obtain ⟨bd1, bd2, bd3, bd4, bd5, bd6⟩ := hbd
        clear hlv
        go_upto_if 60 with (go_at_call 40; refine HLE.out.mono ?_; rintro e w7 ⟨rfl, b7⟩; have B7 := Lib.hid b7; clear b7 t0 t1 t2 t3 t4; have HTZ2 := Lib.hid (lies_below HTZ1.out B7.out (lt_heap HTZ1.out)); obtain ⟨t0, t1, t2, t3, t4⟩ := cells5 HTZ2.out)
        have HRZ2 := Lib.hid (HRZ1.out.below B7.out)
        have HAB2 := Lib.hid (lies_below HAB.out B7.out (lt_heap HAB.out))
        go_cut [] from 52 to 131 (fun wx => ∃ ax : RAcc, Hid (wx.heap[ab]? = some (.cells (rArr ax (fun j => ax.may.getD j false)) 83 (0, 0))) ∧ Hid (RAt Bs cb w c (.slice (some ⟨g, 0, none⟩) M D) all2 wx) ∧ Hid (wx.heap[tb]? = some (.cells #[iv t.q, iv t.qu, iv t.st, iv t.co, .bool t.fin] 53 (0, 0))) ∧ Hid (ax.query = a0.query ∧ ax.may.length = 4 ∧ 0 ≤ ax.turns ∧ ax.turns ≤ i + 1 ∧ -1 ≤ ax.seen ∧ ax.seen < i + 1) ∧ -(i * 2147483648 : Int) ≤ ax.df ∧ ax.df ≤ i * 2147483648 + 64 ∧ Hid (turnR c l i all2 op t (getR all2 t.q) = some ax))
        case first =>
          by_cases hqu : 0 < t.qu
          · obtain ⟨mf, hmf⟩ : ∃ f : Nat → Bool, f = fun j => a0.may.getD j false := ⟨_, rfl⟩
            obtain ⟨qf0, hqf⟩ : ∃ f : Nat → Bool, f = fun (j : Nat) => decide (qf c.ba (j : Int) a0.turns c.ag = t.qu) := ⟨_, rfl⟩
            have HMFF := Lib.hid hmf
            have HQF := Lib.hid hqf
            have HAB3 := Lib.hid (show w7.heap[ab]? = some (.cells (rArr a0 (mk mf qf0 0)) 83 (0, 0)) by rw [hmf]; exact HAB2.out)
            have hcab : cb ≠ ab := by omega
            have htab2 : tb ≠ ab := by omega
            clear hmf hqf
            go_wp2_with fail
            go_loopw [12, 13] (fun y12 y13 wr => ∃ k : Nat, k ≤ 4 ∧ y12 = .bool ((List.range k).any fun j => mf j && qf0 j) ∧ y13 = .int .i64 k ∧ Hid (OnlyAt ab w7 wr) ∧ Hid (wr.heap[ab]? = some (.cells (rArr a0 (mk mf qf0 k)) 83 (0, 0)))) (fun _ y _ => 4 - (intOf y).toNat)
            case atStart => exact ⟨0, by omega, rfl, rfl, OnlyAt.refl _ _, HAB3.out⟩
            case round =>
              obtain ⟨k, hk, rfl, rfl, HO, HCC⟩ := hrel
              by_cases hlt : k < 4
              · have q1 := rArr_get HCC.out hlt
                have qm : mk mf qf0 k k = mf k := if_neg (by omega)
                rw [qm] at q1
                have q2 : wr.cell? ⟨ab, 2, none⟩ = some (iv a0.turns) := (lies_cells HCC.out).1 2
                have q4 := (lies_cells HCC.out).2 (4 + k)
                obtain ⟨z0, z1, z2, z3, z4, z5, z6⟩ := cells7' ((HO.out.block cb hcab).trans HRZ2.out.cfg)
                obtain ⟨x0, x1, x2, x3, x4⟩ := cells5 ((HO.out.block tb htab2).trans HTZ2.out)
                obtain ⟨QQ, hQ⟩ : ∃ Q, qf c.ba (k : Int) a0.turns c.ag = Q := ⟨_, rfl⟩
                have hfk : qf0 k = decide (QQ = t.qu) := by rw [HQF.out, ← hQ]
                have HQ := Lib.hid hQ
                have e1 : (0 : Int) ≤ (k : Int) := by omega
                have e2 : (k : Int) < 4 := by omega
                obtain ⟨sb, hsb⟩ : ∃ sb, ((List.range k).any fun j => mf j && qf0 j) = sb := ⟨_, rfl⟩
                have HSB := Lib.hid hsb
                have HFK := Lib.hid hfk
                obtain ⟨mk0, hmk0⟩ : ∃ mk0, mf k = mk0 := ⟨_, rfl⟩
                rw [hmk0] at q1
                have HMK := Lib.hid hmk0
                obtain ⟨fk, hfk2⟩ : ∃ fk, (QQ == t.qu) = fk := ⟨_, rfl⟩
                have HBW := Lib.hid hfk2
                clear qm hQ hfk hmk0 z0 z1 z2 z3 z4 x0 x2 x3 x4 t0 t1 t2 t3 t4
                rw [hsb]
                clear hsb
                go_upto_region 22 with (fail)
                cases mk0 with
                | true =>
                  refine wp_region_D (S := fun w' => w'.cell? ⟨ab, 4 + k, none⟩ = some (.bool true) ∧ w'.cell? ⟨ab, 2, none⟩ = some (iv a0.turns) ∧ w'.cell? ⟨tb, 1, none⟩ = some (iv t.qu) ∧ w'.cell? ⟨cb, 5, none⟩ = some (iv c.ba) ∧ w'.cell? ⟨cb, 6, none⟩ = some (iv c.ag) ∧ w'.frozen? ⟨ab, 4 + k, none⟩ = false) (st := 20) (by kernel_rfl) ?_
                  have hS0 : (fun w' : World => w'.cell? ⟨ab, 4 + k, none⟩ = some (.bool true) ∧ w'.cell? ⟨ab, 2, none⟩ = some (iv a0.turns) ∧ w'.cell? ⟨tb, 1, none⟩ = some (iv t.qu) ∧ w'.cell? ⟨cb, 5, none⟩ = some (iv c.ba) ∧ w'.cell? ⟨cb, 6, none⟩ = some (iv c.ag) ∧ w'.frozen? ⟨ab, 4 + k, none⟩ = false) _ := ⟨q1, q2, x1, z5, z6, q4⟩
                  refine wpAnyT_pureD 0 (some 65) ?v1 rfl (by kernel_rfl) (by kernel_rfl) (by kernel_rfl) (by kernel_rfl) (fun _ _ _ h => h) hS0 (by kernel_rfl) rfl ?run1 ?rest1
                  case run1 => intro w hS; obtain ⟨s0, s1, s2, s3, s4, s5⟩ := hS; go_simp; rfl
                  refine wpAnyT_pureD 1 (some 66) ?v2 rfl (by kernel_rfl) (by kernel_rfl) (by kernel_rfl) (by kernel_rfl) (fun _ _ _ h => h) hS0 (by kernel_rfl) rfl ?run2 ?rest2
                  case run2 => intro w hS; obtain ⟨s0, s1, s2, s3, s4, s5⟩ := hS; go_simp; rfl
                  refine wpAnyT_pureD 2 (some 67) ?v3 rfl (by kernel_rfl) (by kernel_rfl) (by kernel_rfl) (by kernel_rfl) (fun _ _ _ h => h) hS0 (by kernel_rfl) rfl ?run3 ?rest3
                  case run3 => intro w hS; obtain ⟨s0, s1, s2, s3, s4, s5⟩ := hS; go_simp; rfl
                  refine wpAnyT_pureD 3 (some 68) ?v4 rfl (by kernel_rfl) (by kernel_rfl) (by kernel_rfl) (by kernel_rfl) (fun _ _ _ h => h) hS0 (by kernel_rfl) rfl ?run4 ?rest4
                  case run4 => intro w hS; obtain ⟨s0, s1, s2, s3, s4, s5⟩ := hS; go_simp; rfl
                  refine wpAnyT_pureD 4 (some 69) ?v5 rfl (by kernel_rfl) (by kernel_rfl) (by kernel_rfl) (by kernel_rfl) (fun _ _ _ h => h) hS0 (by kernel_rfl) rfl ?run5 ?rest5
                  case run5 => intro w hS; obtain ⟨s0, s1, s2, s3, s4, s5⟩ := hS; go_simp; rfl
                  refine wpAnyT_pureD 5 (some 70) ?v6 rfl (by kernel_rfl) (by kernel_rfl) (by kernel_rfl) (by kernel_rfl) (fun _ _ _ h => h) hS0 (by kernel_rfl) rfl ?run6 ?rest6
                  case run6 => intro w hS; obtain ⟨s0, s1, s2, s3, s4, s5⟩ := hS; go_simp; rfl
                  refine wpAnyT_pureD 6 (some 71) ?v7 rfl (by kernel_rfl) (by kernel_rfl) (by kernel_rfl) (by kernel_rfl) (fun _ _ _ h => h) hS0 (by kernel_rfl) rfl ?run7 ?rest7
                  case run7 => intro w hS; obtain ⟨s0, s1, s2, s3, s4, s5⟩ := hS; go_simp; rfl
                  refine wpAnyT_pureD 7 (some 72) ?v8 rfl (by kernel_rfl) (by kernel_rfl) (by kernel_rfl) (by kernel_rfl) (fun _ _ _ h => h) hS0 (by kernel_rfl) rfl ?run8 ?rest8
                  case run8 => intro w hS; obtain ⟨s0, s1, s2, s3, s4, s5⟩ := hS; go_simp; rfl
                  refine wpAnyT_pureD 8 (some 73) ?v9 rfl (by kernel_rfl) (by kernel_rfl) (by kernel_rfl) (by kernel_rfl) (fun _ _ _ h => h) hS0 (by kernel_rfl) rfl ?run9 ?rest9
                  case run9 => intro w hS; obtain ⟨s0, s1, s2, s3, s4, s5⟩ := hS; go_simp; rfl
                  refine wpAnyT_pureD 9 (some 74) ?v10 rfl (by kernel_rfl) (by kernel_rfl) (by kernel_rfl) (by kernel_rfl) (fun _ _ _ h => h) hS0 (by kernel_rfl) rfl ?run10 ?rest10
                  case run10 => intro w hS; obtain ⟨s0, s1, s2, s3, s4, s5⟩ := hS; go_simp; rfl
                  refine wpAnyT_pureD 10 (some 75) ?v11 rfl (by kernel_rfl) (by kernel_rfl) (by kernel_rfl) (by kernel_rfl) (fun _ _ _ h => h) hS0 (by kernel_rfl) rfl ?run11 ?rest11
                  case run11 => intro w hS; obtain ⟨s0, s1, s2, s3, s4, s5⟩ := hS; go_simp; rfl
                  refine wpAnyT_pureD 11 (some 76) ?v12 rfl (by kernel_rfl) (by kernel_rfl) (by kernel_rfl) (by kernel_rfl) (fun _ _ _ h => h) hS0 (by kernel_rfl) rfl ?run12 ?rest12
                  case run12 => intro w hS; obtain ⟨s0, s1, s2, s3, s4, s5⟩ := hS; go_simp; rfl
                  refine wpAnyT_pureD 12 (some 77) ?v13 rfl (by kernel_rfl) (by kernel_rfl) (by kernel_rfl) (by kernel_rfl) (fun _ _ _ h => h) hS0 (by kernel_rfl) rfl ?run13 ?rest13
                  case run13 => intro w hS; obtain ⟨s0, s1, s2, s3, s4, s5⟩ := hS; go_simp; rfl
                  refine wpAnyT_pureD 14 (some 79) ?v14 rfl (by kernel_rfl) (by kernel_rfl) (by kernel_rfl) (by kernel_rfl) (fun _ _ _ h => h) hS0 (by kernel_rfl) rfl ?run14 ?rest14
                  case run14 => intro w hS; obtain ⟨s0, s1, s2, s3, s4, s5⟩ := hS; go_simp; rfl
                  refine wpAnyT_pureD 15 (some 80) ?v15 rfl (by kernel_rfl) (by kernel_rfl) (by kernel_rfl) (by kernel_rfl) (fun _ _ _ h => h) hS0 (by kernel_rfl) rfl ?run15 ?rest15
                  case run15 => intro w hS; obtain ⟨s0, s1, s2, s3, s4, s5⟩ := hS; go_simp; rfl
                  refine wpAnyT_pureC 18 (some 83) [19] ?v16 rfl (by kernel_rfl) (by kernel_rfl) (by kernel_rfl) (by kernel_rfl) (fun _ _ _ h => h) hS0 (by kernel_rfl) rfl ?run16 ?rest16
                  case run16 => intro w hS; obtain ⟨s0, s1, s2, s3, s4, s5⟩ := hS; go_simp; rfl
                  refine wpAnyT_call 13 (some 78) 31 #[iv c.ba, iv k, iv a0.turns, iv c.ag] rfl (by kernel_rfl) (by kernel_rfl) (by kernel_rfl) rfl ?_
                  refine (rquantum_eq HQ.out _).mono ?_
                  rintro e z1 ⟨rfl, rfl⟩
                  refine ⟨_, rfl, fun _ => hS0, ?_⟩
                  refine wpAnyT_pureD 16 (some 81) ?v17 rfl (by kernel_rfl) (by kernel_rfl) (by kernel_rfl) (by kernel_rfl) (fun _ _ _ h => h) hS0 (by kernel_rfl) rfl ?run17 ?rest17
                  case run17 => intro w hS; obtain ⟨s0, s1, s2, s3, s4, s5⟩ := hS; go_simp; rfl
                  refine wpAnyT_pureD 17 (some 82) ?v18 rfl (by kernel_rfl) (by kernel_rfl) (by kernel_rfl) (by kernel_rfl) (fun _ _ _ h => h) hS0 (by kernel_rfl) rfl ?run18 ?rest18
                  case run18 => intro w hS; obtain ⟨s0, s1, s2, s3, s4, s5⟩ := hS; go_simp; rfl
                  refine wpAnyT_pureD 19 (some 84) ?v19 rfl (by kernel_rfl) (by kernel_rfl) (by kernel_rfl) (by kernel_rfl) (fun _ _ _ h => h) hS0 (by kernel_rfl) rfl ?run19 ?rest19
                  case run19 => intro w hS; obtain ⟨s0, s1, s2, s3, s4, s5⟩ := hS; go_simp; rfl
                  obtain ⟨s0, s1, s2, s3, s4, s5⟩ := hS0
                  refine wpAnyT_step 20 none ?ws20 rfl (by kernel_rfl) (by kernel_rfl) ?rs20 rfl (fun h => absurd rfl h) ?_
                  case rs20 => go_simp; rfl
                  refine wpAnyT_done (by kernel_rfl) ?_ _
                  obtain ⟨V, hV⟩ : ∃ V, (wr.drewN 1).setCell ⟨ab, 4 + k, none⟩ (.bool fk) = V := ⟨_, rfl⟩
                  have hval : (mf k && qf0 k) = fk := by rw [HMK.out, HFK.out, ← HBW.out]; rfl
                  have HOV := Lib.hid (show OnlyAt ab w7 V by rw [← hV]; exact (HO.out.drewN 1).set _ _)
                  have HCV := Lib.hid (show V.heap[ab]? = some (.cells (rArr a0 (mk mf qf0 (k + 1))) 83 (0, 0)) by
                    rw [← hV, ← rArr_set hlt, hval]; exact set_cells HCC.out)
                  have v1 : V.cell? ⟨ab, 4 + k, none⟩ = some (.bool fk) := by
                    have h1 := rArr_get HCV.out hlt
                    rw [show mk mf qf0 (k + 1) k = fk by unfold mk; rw [if_pos (Nat.lt_succ_self k)]; exact hval] at h1
                    exact h1
                  have HY := Lib.hid (show ((List.range (k + 1)).any fun j => mf j && qf0 j) = (sb || fk) by rw [List.range_succ, List.any_append, HSB.out]; simp [hval])
                  generalize hA : Act.put _ _ _ = A0
                  simp only [put_mk, put_no, List.setIfInBounds_toArray, List.set_cons_succ, List.set_cons_zero] at hA
                  subst hA
                  rw [hV]
                  clear hV hval q1 q2 q4 z5 z6 x1
                  cases sb
                  all_goals
                    go_wp2
                    go_roundw
                    case rel => exact ⟨k + 1, by omega, by rw [HY.out]; rfl, by go_num, HOV, HCV⟩
                    case measure => simp [intOf]; omega
                | false =>
                  refine wp_region_D (S := fun w' => w'.cell? ⟨ab, 4 + k, none⟩ = some (.bool false) ∧ w'.cell? ⟨ab, 2, none⟩ = some (iv a0.turns) ∧ w'.cell? ⟨tb, 1, none⟩ = some (iv t.qu) ∧ w'.cell? ⟨cb, 5, none⟩ = some (iv c.ba) ∧ w'.cell? ⟨cb, 6, none⟩ = some (iv c.ag) ∧ w'.frozen? ⟨ab, 4 + k, none⟩ = false) (st := 20) (by kernel_rfl) ?_
                  have hS0 : (fun w' : World => w'.cell? ⟨ab, 4 + k, none⟩ = some (.bool false) ∧ w'.cell? ⟨ab, 2, none⟩ = some (iv a0.turns) ∧ w'.cell? ⟨tb, 1, none⟩ = some (iv t.qu) ∧ w'.cell? ⟨cb, 5, none⟩ = some (iv c.ba) ∧ w'.cell? ⟨cb, 6, none⟩ = some (iv c.ag) ∧ w'.frozen? ⟨ab, 4 + k, none⟩ = false) _ := ⟨q1, q2, x1, z5, z6, q4⟩
                  refine wpAnyT_pureD 0 (some 65) ?v21 rfl (by kernel_rfl) (by kernel_rfl) (by kernel_rfl) (by kernel_rfl) (fun _ _ _ h => h) hS0 (by kernel_rfl) rfl ?run21 ?rest21
                  case run21 => intro w hS; obtain ⟨s0, s1, s2, s3, s4, s5⟩ := hS; go_simp; rfl
                  refine wpAnyT_pureD 1 (some 66) ?v22 rfl (by kernel_rfl) (by kernel_rfl) (by kernel_rfl) (by kernel_rfl) (fun _ _ _ h => h) hS0 (by kernel_rfl) rfl ?run22 ?rest22
                  case run22 => intro w hS; obtain ⟨s0, s1, s2, s3, s4, s5⟩ := hS; go_simp; rfl
                  refine wpAnyT_pureD 2 (some 67) ?v23 rfl (by kernel_rfl) (by kernel_rfl) (by kernel_rfl) (by kernel_rfl) (fun _ _ _ h => h) hS0 (by kernel_rfl) rfl ?run23 ?rest23
                  case run23 => intro w hS; obtain ⟨s0, s1, s2, s3, s4, s5⟩ := hS; go_simp; rfl
                  refine wpAnyT_pureD 3 (some 68) ?v24 rfl (by kernel_rfl) (by kernel_rfl) (by kernel_rfl) (by kernel_rfl) (fun _ _ _ h => h) hS0 (by kernel_rfl) rfl ?run24 ?rest24
                  case run24 => intro w hS; obtain ⟨s0, s1, s2, s3, s4, s5⟩ := hS; go_simp; rfl
                  refine wpAnyT_pureD 4 (some 69) ?v25 rfl (by kernel_rfl) (by kernel_rfl) (by kernel_rfl) (by kernel_rfl) (fun _ _ _ h => h) hS0 (by kernel_rfl) rfl ?run25 ?rest25
                  case run25 => intro w hS; obtain ⟨s0, s1, s2, s3, s4, s5⟩ := hS; go_simp; rfl
                  refine wpAnyT_pureD 5 (some 70) ?v26 rfl (by kernel_rfl) (by kernel_rfl) (by kernel_rfl) (by kernel_rfl) (fun _ _ _ h => h) hS0 (by kernel_rfl) rfl ?run26 ?rest26
                  case run26 => intro w hS; obtain ⟨s0, s1, s2, s3, s4, s5⟩ := hS; go_simp; rfl
                  refine wpAnyT_skip 6 (some 71) rfl (by kernel_rfl) (by kernel_rfl) (by kernel_rfl) (by kernel_rfl) (fun _ _ _ h => h) hS0 (by kernel_rfl) rfl ?_
                  refine wpAnyT_skip 7 (some 72) rfl (by kernel_rfl) (by kernel_rfl) (by kernel_rfl) (by kernel_rfl) (fun _ _ _ h => h) hS0 (by kernel_rfl) rfl ?_
                  refine wpAnyT_skip 8 (some 73) rfl (by kernel_rfl) (by kernel_rfl) (by kernel_rfl) (by kernel_rfl) (fun _ _ _ h => h) hS0 (by kernel_rfl) rfl ?_
                  refine wpAnyT_skip 9 (some 74) rfl (by kernel_rfl) (by kernel_rfl) (by kernel_rfl) (by kernel_rfl) (fun _ _ _ h => h) hS0 (by kernel_rfl) rfl ?_
                  refine wpAnyT_skip 10 (some 75) rfl (by kernel_rfl) (by kernel_rfl) (by kernel_rfl) (by kernel_rfl) (fun _ _ _ h => h) hS0 (by kernel_rfl) rfl ?_
                  refine wpAnyT_skip 11 (some 76) rfl (by kernel_rfl) (by kernel_rfl) (by kernel_rfl) (by kernel_rfl) (fun _ _ _ h => h) hS0 (by kernel_rfl) rfl ?_
                  refine wpAnyT_skip 12 (some 77) rfl (by kernel_rfl) (by kernel_rfl) (by kernel_rfl) (by kernel_rfl) (fun _ _ _ h => h) hS0 (by kernel_rfl) rfl ?_
                  refine wpAnyT_skip 14 (some 79) rfl (by kernel_rfl) (by kernel_rfl) (by kernel_rfl) (by kernel_rfl) (fun _ _ _ h => h) hS0 (by kernel_rfl) rfl ?_
                  refine wpAnyT_skip 15 (some 80) rfl (by kernel_rfl) (by kernel_rfl) (by kernel_rfl) (by kernel_rfl) (fun _ _ _ h => h) hS0 (by kernel_rfl) rfl ?_
                  refine wpAnyT_pureC 18 (some 83) [19] ?v36 rfl (by kernel_rfl) (by kernel_rfl) (by kernel_rfl) (by kernel_rfl) (fun _ _ _ h => h) hS0 (by kernel_rfl) rfl ?run36 ?rest36
                  case run36 => intro w hS; obtain ⟨s0, s1, s2, s3, s4, s5⟩ := hS; go_simp; rfl
                  refine wpAnyT_skip 13 (some 78) rfl (by kernel_rfl) (by kernel_rfl) (by kernel_rfl) (by kernel_rfl) (fun _ _ _ h => h) hS0 (by kernel_rfl) rfl ?_
                  refine wpAnyT_skip 16 (some 81) rfl (by kernel_rfl) (by kernel_rfl) (by kernel_rfl) (by kernel_rfl) (fun _ _ _ h => h) hS0 (by kernel_rfl) rfl ?_
                  refine wpAnyT_pureD 17 (some 82) ?v38 rfl (by kernel_rfl) (by kernel_rfl) (by kernel_rfl) (by kernel_rfl) (fun _ _ _ h => h) hS0 (by kernel_rfl) rfl ?run38 ?rest38
                  case run38 => intro w hS; obtain ⟨s0, s1, s2, s3, s4, s5⟩ := hS; go_simp; rfl
                  refine wpAnyT_pureD 19 (some 84) ?v39 rfl (by kernel_rfl) (by kernel_rfl) (by kernel_rfl) (by kernel_rfl) (fun _ _ _ h => h) hS0 (by kernel_rfl) rfl ?run39 ?rest39
                  case run39 => intro w hS; obtain ⟨s0, s1, s2, s3, s4, s5⟩ := hS; go_simp; rfl
                  obtain ⟨s0, s1, s2, s3, s4, s5⟩ := hS0
                  refine wpAnyT_step 20 none ?ws40 rfl (by kernel_rfl) (by kernel_rfl) ?rs40 rfl (fun h => absurd rfl h) ?_
                  case rs40 => go_simp; rfl
                  refine wpAnyT_done (by kernel_rfl) ?_ _
                  obtain ⟨V, hV⟩ : ∃ V, (wr.drewN 1).setCell ⟨ab, 4 + k, none⟩ (.bool false) = V := ⟨_, rfl⟩
                  have hval : (mf k && qf0 k) = false := by rw [HMK.out]; rfl
                  have HOV := Lib.hid (show OnlyAt ab w7 V by rw [← hV]; exact (HO.out.drewN 1).set _ _)
                  have HCV := Lib.hid (show V.heap[ab]? = some (.cells (rArr a0 (mk mf qf0 (k + 1))) 83 (0, 0)) by
                    rw [← hV, ← rArr_set hlt, hval]; exact set_cells HCC.out)
                  have v1 : V.cell? ⟨ab, 4 + k, none⟩ = some (.bool false) := by
                    have h1 := rArr_get HCV.out hlt
                    rw [show mk mf qf0 (k + 1) k = false by unfold mk; rw [if_pos (Nat.lt_succ_self k)]; exact hval] at h1
                    exact h1
                  have HY := Lib.hid (show ((List.range (k + 1)).any fun j => mf j && qf0 j) = (sb || false) by rw [List.range_succ, List.any_append, HSB.out]; simp [hval])
                  generalize hA : Act.put _ _ _ = A0
                  simp only [put_mk, put_no, List.setIfInBounds_toArray, List.set_cons_succ, List.set_cons_zero] at hA
                  subst hA
                  rw [hV]
                  clear hV hval q1 q2 q4 z5 z6 x1
                  cases sb
                  all_goals
                    go_wp2
                    go_roundw
                    case rel => exact ⟨k + 1, by omega, by rw [HY.out]; rfl, by go_num, HOV, HCV⟩
                    case measure => simp [intOf]; omega
              · have hk4 : k = 4 := by omega
                subst hk4
                obtain ⟨V, rfl⟩ : ∃ V, V = wr := ⟨_, rfl⟩
                obtain ⟨some0, hsome⟩ : ∃ b, ((List.range 4).any fun j => mf j && qf0 j) = b := ⟨_, rfl⟩
                have HY := Lib.hid (show (mayR c a0 t.qu).any id = some0 by rw [← hsome, HMFF.out, HQF.out]; unfold mayR; rw [List.any_map]; rfl)
                have hwab0 : w.heap.size ≤ ab := by omega
                have HRW := Lib.hid (HRZ2.out.only hgab hcab hwab0 HO.out)
                have HTW := Lib.hid ((HO.out.block tb htab2).trans HTZ2.out)
                have HCV := HCC
                clear t0 t1 t2 t3 t4
                obtain ⟨t0, t1, t2, t3, t4⟩ := cells5 HTW.out
                have v0 := (lies_cells HCV.out).1 0
                have v1 := (lies_cells HCV.out).1 1
                have v2 := (lies_cells HCV.out).1 2
                have v3 := (lies_cells HCV.out).1 3
                have v4 := (lies_cells HCV.out).1 4
                have v5 := (lies_cells HCV.out).1 5
                have v6 := (lies_cells HCV.out).1 6
                have v7 := (lies_cells HCV.out).1 7
                have v8 := (lies_cells HCV.out).1 8
                have hfv := (lies_cells HCV.out).2
                simp only [rArr, List.getElem?_toArray, List.getElem?_cons_zero, List.getElem?_cons_succ] at v0 v1 v2 v3 v4 v5 v6 v7 v8
                have HRL := HRW
                rw [hsome]
                clear hsome
                by_cases hop : 0 ≤ op
                · skip
                  have HST := Lib.hid (show auditR c l = ((i : Int), 15) by
                    rw [HAU.out, HDR.out]
                    have h1 : entryR c l i all op t = none := by unfold entryR; simp only [HEN.out, HLV.out, HGE.out, Bool.false_eq_true, if_false]; unfold turnR; rw [if_pos hqu, if_pos (.inl hop)]
                    simp only [auditRGo, h1])
                  go_wp2
                  rw [HST.out]
                  exact bodyPost_ret (v := .tuple #[iv (i : Int), iv 15]) (by simp [results, Try.results25, go_sem]) rfl ⟨rfl, HRL.out.bel⟩
                cases some0 with
                | false =>
                  have HST := Lib.hid (show auditR c l = ((i : Int), 15) by
                    rw [HAU.out, HDR.out]
                    have h1 : entryR c l i all op t = none := by unfold entryR; simp only [HEN.out, HLV.out, HGE.out, Bool.false_eq_true, if_false]; unfold turnR; rw [if_pos hqu, if_pos (.inr (.inl HY.out))]
                    simp only [auditRGo, h1])
                  go_wp2
                  rw [HST.out]
                  exact bodyPost_ret (v := .tuple #[iv (i : Int), iv 15]) (by simp [results, Try.results25, go_sem]) rfl ⟨rfl, HRL.out.bel⟩
                | true =>
                  by_cases hse : 0 ≤ a0.seen
                  · obtain ⟨pv0, hpv0⟩ : ∃ k : Nat, a0.seen = (k : Int) := ⟨a0.seen.toNat, by omega⟩
                    have hpv1 : a0.seen.toNat = pv0 := by omega
                    have hpvi : pv0 < i := by omega
                    cases hfb : fairB l pv0 i all2 t.q with
                    | false =>
                      have HFA := Lib.hid (show Calls Try.prog 41 #[.slice (some ⟨lb, lo, none⟩) n lc, iv a0.seen, iv (i : Nat), .slice (some ⟨g, 0, none⟩) M D, iv t.q] V (BoolQ false V) from by
                        have h1 := rfair_any l _ all2 _ V (HT.out.below HRW.out.bel) HRW.out.own.accs pv0 i hpvi (by rw [HL.out]; omega) t.q
                        rw [hfb, ← hpv0] at h1; exact h1)
                      have HST := Lib.hid (show auditR c l = ((i : Int), 15) by
                        rw [HAU.out, HDR.out]
                        have h1 : entryR c l i all op t = none := by unfold entryR; simp only [HEN.out, HLV.out, HGE.out, Bool.false_eq_true, if_false]; unfold turnR; rw [if_pos hqu, if_pos (.inr (.inr ⟨hse, by rw [hpv1]; exact hfb⟩))]
                        simp only [auditRGo, h1])
                      clear hpv0 hpv1 hfb
                      go_wp2_with (go_at_call 41; refine HFA.out.mono ?_; rintro e V2 ⟨rfl, bv2⟩; have BV2 := Lib.hid bv2; clear bv2 v0 v1 v2 v3 v4 v5 v6 v7 v8 hfv t0 t1 t2 t3 t4; have HCV2 := Lib.hid (lies_below HCV.out BV2.out (lt_heap HCV.out)); have HRW2 := Lib.hid (HRW.out.below BV2.out); have HTW2 := Lib.hid (lies_below HTW.out BV2.out (lt_heap HTW.out)); obtain ⟨t0, t1, t2, t3, t4⟩ := cells5 HTW2.out; have v0 := (lies_cells HCV2.out).1 0; have v1 := (lies_cells HCV2.out).1 1; have v2 := (lies_cells HCV2.out).1 2; have v3 := (lies_cells HCV2.out).1 3; have v4 := (lies_cells HCV2.out).1 4; have v5 := (lies_cells HCV2.out).1 5; have v6 := (lies_cells HCV2.out).1 6; have v7 := (lies_cells HCV2.out).1 7; have v8 := (lies_cells HCV2.out).1 8; have hfv := (lies_cells HCV2.out).2; simp only [rArr, List.getElem?_toArray, List.getElem?_cons_zero, List.getElem?_cons_succ] at v0 v1 v2 v3 v4 v5 v6 v7 v8)
                      rw [HST.out]
                      exact bodyPost_ret (v := .tuple #[iv (i : Int), iv 15]) (by simp [results, Try.results25, go_sem]) rfl ⟨rfl, HRW2.out.bel⟩
                    | true =>
                      have HFA := Lib.hid (show Calls Try.prog 41 #[.slice (some ⟨lb, lo, none⟩) n lc, iv a0.seen, iv (i : Nat), .slice (some ⟨g, 0, none⟩) M D, iv t.q] V (BoolQ true V) from by
                        have h1 := rfair_any l _ all2 _ V (HT.out.below HRW.out.bel) HRW.out.own.accs pv0 i hpvi (by rw [HL.out]; omega) t.q
                        rw [hfb, ← hpv0] at h1; exact h1)
                      have HNB := Lib.hid (show ¬ (0 ≤ op ∨ (mayR c a0 t.qu).any id = false ∨ (0 ≤ a0.seen ∧ fairB l a0.seen.toNat i all2 t.q = false)) by
                        rintro (h1 | h1 | h1)
                        · exact hop h1
                        · rw [HY.out] at h1; cases h1
                        · rw [hpv1, hfb] at h1; cases h1.2)
                      clear hpv0 hpv1 hfb
                      go_upto_region 26 with (go_at_call 41; refine HFA.out.mono ?_; rintro e V2 ⟨rfl, bv2⟩; have BV2 := Lib.hid bv2; clear bv2 v0 v1 v2 v3 v4 v5 v6 v7 v8 hfv t0 t1 t2 t3 t4; have HCV2 := Lib.hid (lies_below HCV.out BV2.out (lt_heap HCV.out)); have HRW2 := Lib.hid (HRW.out.below BV2.out); have HTW2 := Lib.hid (lies_below HTW.out BV2.out (lt_heap HTW.out)); obtain ⟨t0, t1, t2, t3, t4⟩ := cells5 HTW2.out; have v0 := (lies_cells HCV2.out).1 0; have v1 := (lies_cells HCV2.out).1 1; have v2 := (lies_cells HCV2.out).1 2; have v3 := (lies_cells HCV2.out).1 3; have v4 := (lies_cells HCV2.out).1 4; have v5 := (lies_cells HCV2.out).1 5; have v6 := (lies_cells HCV2.out).1 6; have v7 := (lies_cells HCV2.out).1 7; have v8 := (lies_cells HCV2.out).1 8; have hfv := (lies_cells HCV2.out).2; simp only [rArr, List.getElem?_toArray, List.getElem?_cons_zero, List.getElem?_cons_succ] at v0 v1 v2 v3 v4 v5 v6 v7 v8)
                      -- the turn goes on
                      have HTURN := Lib.hid (show turnR c l i all2 op t (getR all2 t.q) = some { a0 with may := mayR c a0 t.qu, turns := a0.turns + 1, seen := (i : Int), df := a0.df + t.qu } by
                        rw [HGE.out]; unfold turnR; rw [if_pos hqu, if_neg HNB.out])
                      obtain ⟨ax, hax⟩ : ∃ k, ({ a0 with may := mayR c a0 t.qu, turns := a0.turns + 1, seen := (i : Int), df := a0.df + t.qu } : RAcc) = k := ⟨_, rfl⟩
                      have hm4 : ∀ j, j < 4 → mk mf qf0 4 j = (mayR c a0 t.qu).getD j false := by
                        intro j hj
                        unfold mk mayR
                        rw [if_pos hj, HMFF.out, HQF.out]
                        rcases (by omega : j = 0 ∨ j = 1 ∨ j = 2 ∨ j = 3) with rfl | rfl | rfl | rfl <;> rfl
                      obtain ⟨X, hX⟩ : ∃ X, ((V2.setCell ⟨ab, 2, none⟩ (iv (a0.turns + 1))).setCell ⟨ab, 8, none⟩ (iv (i : Int))).setCell ⟨ab, 1, none⟩ (iv (a0.df + t.qu)) = X := ⟨_, rfl⟩
                      have HAX := Lib.hid (show X.heap[ab]? = some (.cells (rArr ax (fun j => ax.may.getD j false)) 83 (0, 0)) by
                        rw [← hX]
                        have e1 := set_cells (o := 1) (u := iv (a0.df + t.qu)) (set_cells (o := 8) (u := iv (i : Int)) (set_cells (o := 2) (u := iv (a0.turns + 1)) HCV2.out))
                        have e2 : rArr ax (fun j => ax.may.getD j false) = (((rArr a0 (mk mf qf0 4)).setIfInBounds 2 (iv (a0.turns + 1))).setIfInBounds 8 (iv (i : Int))).setIfInBounds 1 (iv (a0.df + t.qu)) := by
                          rw [← hax]; unfold rArr; simp only []; rw [hm4 0 (by decide), hm4 1 (by decide), hm4 2 (by decide), hm4 3 (by decide)]; rfl
                        rw [e2]; exact e1)
                      have HRX := Lib.hid (show RAt Bs cb w c (.slice (some ⟨g, 0, none⟩) M D) all2 X by rw [← hX]; exact ((HRW2.out.cell hgab hcab hwab0 2 _).cell hgab hcab hwab0 8 _).cell hgab hcab hwab0 1 _)
                      have HTX := Lib.hid (show X.heap[tb]? = some (.cells #[iv t.q, iv t.qu, iv t.st, iv t.co, .bool t.fin] 53 (0, 0)) by rw [← hX, Below.heap_setCell _ _ _ _ (by exact htab2), Below.heap_setCell _ _ _ _ (by exact htab2), Below.heap_setCell _ _ _ _ (by exact htab2)]; exact HTW2.out)
                      have HAXK := Lib.hid (show ax.query = a0.query ∧ ax.may.length = 4 ∧ 0 ≤ ax.turns ∧ ax.turns ≤ i + 1 ∧ -1 ≤ ax.seen ∧ ax.seen < i + 1 by rw [← hax]; refine ⟨rfl, rfl, ?_, ?_, ?_, ?_⟩ <;> simp only [] <;> omega)
                      have hd1 : -(i * 2147483648 : Int) ≤ ax.df := by rw [← hax]; simp only []; omega
                      have hd2 : ax.df ≤ i * 2147483648 + 64 := by rw [← hax]; simp only []; omega
                      rw [hax] at HTURN
                      go_wp2
                      try rw [show ((V2.setCell ⟨ab, 2, none⟩ (.int .i64 (a0.turns + 1))).setCell ⟨ab, 8, none⟩ (.int .i64 (i : Int))).setCell ⟨ab, 1, none⟩ (.int .i64 (a0.df + t.qu)) = X from hX]
                      go_meet
                      case rel => exact ⟨ax, HAX, HRX, HTX, HAXK, hd1, hd2, HTURN⟩
                  · have HNB := Lib.hid (show ¬ (0 ≤ op ∨ (mayR c a0 t.qu).any id = false ∨ (0 ≤ a0.seen ∧ fairB l a0.seen.toNat i all2 t.q = false)) by
                      rintro (h1 | h1 | h1)
                      · exact hop h1
                      · rw [HY.out] at h1; cases h1
                      · exact hse h1.1)
                    -- the turn goes on
                    have HTURN := Lib.hid (show turnR c l i all2 op t (getR all2 t.q) = some { a0 with may := mayR c a0 t.qu, turns := a0.turns + 1, seen := (i : Int), df := a0.df + t.qu } by
                      rw [HGE.out]; unfold turnR; rw [if_pos hqu, if_neg HNB.out])
                    obtain ⟨ax, hax⟩ : ∃ k, ({ a0 with may := mayR c a0 t.qu, turns := a0.turns + 1, seen := (i : Int), df := a0.df + t.qu } : RAcc) = k := ⟨_, rfl⟩
                    have hm4 : ∀ j, j < 4 → mk mf qf0 4 j = (mayR c a0 t.qu).getD j false := by
                      intro j hj
                      unfold mk mayR
                      rw [if_pos hj, HMFF.out, HQF.out]
                      rcases (by omega : j = 0 ∨ j = 1 ∨ j = 2 ∨ j = 3) with rfl | rfl | rfl | rfl <;> rfl
                    obtain ⟨X, hX⟩ : ∃ X, ((V.setCell ⟨ab, 2, none⟩ (iv (a0.turns + 1))).setCell ⟨ab, 8, none⟩ (iv (i : Int))).setCell ⟨ab, 1, none⟩ (iv (a0.df + t.qu)) = X := ⟨_, rfl⟩
                    have HAX := Lib.hid (show X.heap[ab]? = some (.cells (rArr ax (fun j => ax.may.getD j false)) 83 (0, 0)) by
                      rw [← hX]
                      have e1 := set_cells (o := 1) (u := iv (a0.df + t.qu)) (set_cells (o := 8) (u := iv (i : Int)) (set_cells (o := 2) (u := iv (a0.turns + 1)) HCV.out))
                      have e2 : rArr ax (fun j => ax.may.getD j false) = (((rArr a0 (mk mf qf0 4)).setIfInBounds 2 (iv (a0.turns + 1))).setIfInBounds 8 (iv (i : Int))).setIfInBounds 1 (iv (a0.df + t.qu)) := by
                        rw [← hax]; unfold rArr; simp only []; rw [hm4 0 (by decide), hm4 1 (by decide), hm4 2 (by decide), hm4 3 (by decide)]; rfl
                      rw [e2]; exact e1)
                    have HRX := Lib.hid (show RAt Bs cb w c (.slice (some ⟨g, 0, none⟩) M D) all2 X by rw [← hX]; exact ((HRW.out.cell hgab hcab hwab0 2 _).cell hgab hcab hwab0 8 _).cell hgab hcab hwab0 1 _)
                    have HTX := Lib.hid (show X.heap[tb]? = some (.cells #[iv t.q, iv t.qu, iv t.st, iv t.co, .bool t.fin] 53 (0, 0)) by rw [← hX, Below.heap_setCell _ _ _ _ (by exact htab2), Below.heap_setCell _ _ _ _ (by exact htab2), Below.heap_setCell _ _ _ _ (by exact htab2)]; exact HTW.out)
                    have HAXK := Lib.hid (show ax.query = a0.query ∧ ax.may.length = 4 ∧ 0 ≤ ax.turns ∧ ax.turns ≤ i + 1 ∧ -1 ≤ ax.seen ∧ ax.seen < i + 1 by rw [← hax]; refine ⟨rfl, rfl, ?_, ?_, ?_, ?_⟩ <;> simp only [] <;> omega)
                    have hd1 : -(i * 2147483648 : Int) ≤ ax.df := by rw [← hax]; simp only []; omega
                    have hd2 : ax.df ≤ i * 2147483648 + 64 := by rw [← hax]; simp only []; omega
                    rw [hax] at HTURN
                    go_wp2
                    try rw [show ((V.setCell ⟨ab, 2, none⟩ (.int .i64 (a0.turns + 1))).setCell ⟨ab, 8, none⟩ (.int .i64 (i : Int))).setCell ⟨ab, 1, none⟩ (.int .i64 (a0.df + t.qu)) = X from hX]
                    go_meet
                    case rel => exact ⟨ax, HAX, HRX, HTX, HAXK, hd1, hd2, HTURN⟩
          · skip
            by_cases hop : op = t.q
            · have HTURN := Lib.hid (show turnR c l i all2 op t (getR all2 t.q) = some a0 by unfold turnR; rw [if_neg hqu, if_neg (by simpa using hop), HGE.out])
              have hopb : (op != t.q) = false := by simpa using hop
              obtain ⟨ax, hax⟩ : ∃ k, a0 = k := ⟨_, rfl⟩
              have HAX := Lib.hid (show w7.heap[ab]? = some (.cells (rArr ax (fun j => ax.may.getD j false)) 83 (0, 0)) by rw [← hax]; exact HAB2.out)
              have HRX := HRZ2
              have HTX := HTZ2
              have HAXK := Lib.hid (show ax.query = a0.query ∧ ax.may.length = 4 ∧ 0 ≤ ax.turns ∧ ax.turns ≤ i + 1 ∧ -1 ≤ ax.seen ∧ ax.seen < i + 1 by rw [← hax]; exact ⟨rfl, HT2.out.may a0 (List.mem_of_getElem? HK.out), by omega, by omega, by omega, by omega⟩)
              have hd1 : -(i * 2147483648 : Int) ≤ ax.df := by rw [← hax]; exact bd1
              have hd2 : ax.df ≤ i * 2147483648 + 64 := by rw [← hax]; omega
              rw [hax] at HTURN
              clear hax hop bd1 bd2 bd3 bd4 bd5 bd6
              go_wp2
              go_meet
              case rel => exact ⟨ax, HAX, HRX, HTX, HAXK, hd1, hd2, HTURN⟩
            · have HST := Lib.hid (show auditR c l = ((i : Int), 15) by
                rw [HAU.out, HDR.out]
                have h1 : entryR c l i all op t = none := by unfold entryR; simp only [HEN.out, HLV.out, Bool.false_eq_true, if_false]; unfold turnR; rw [if_neg hqu, if_pos hop]
                simp only [auditRGo, h1])
              have hopb : (op != t.q) = true := by simpa using hop
              clear hop
              go_wp2
              rw [HST.out]
              exact bodyPost_ret (v := .tuple #[iv (i : Int), iv 15]) (by simp [results, Try.results25, go_sem]) rfl ⟨rfl, HRZ2.out.bel⟩
        case rest =>
          obtain ⟨ax, HAX, HRX, HTX, HAXK, hd1, hd2, HTURN⟩ := hcut
          obtain ⟨X, rfl⟩ : ∃ X, X = wc := ⟨_, rfl⟩
          clear bd1 bd2 bd3 bd4 bd5 bd6 t0 t1 t2 t3 t4
          obtain ⟨t0, t1, t2, t3, t4⟩ := cells5 HTX.out
          have hax0 := (lies_cells HAX.out).1 0
          have hax1 := (lies_cells HAX.out).1 1
          have hax2 := (lies_cells HAX.out).1 2
          have hax3 := (lies_cells HAX.out).1 3
          have hax4 := (lies_cells HAX.out).1 4
          have hax5 := (lies_cells HAX.out).1 5
          have hax6 := (lies_cells HAX.out).1 6
          have hax7 := (lies_cells HAX.out).1 7
          have hax8 := (lies_cells HAX.out).1 8
          have hfa := (lies_cells HAX.out).2 1
          simp only [rArr, List.getElem?_toArray, List.getElem?_cons_zero, List.getElem?_cons_succ] at hax0 hax1 hax2 hax3 hax4 hax5 hax6 hax7 hax8
          obtain ⟨dx, hdx⟩ : ∃ b, ax.df = b := ⟨_, rfl⟩
          rw [hdx] at hax1 hd1 hd2
          have HDX := Lib.hid hdx
          clear hdx
          by_cases hr1 : 0 < t.st ∧ dx ≤ 0
          · have HST := Lib.hid (show auditR c l = ((i : Int), 15) by
              rw [HAU.out, HDR.out]
              have h1 : entryR c l i all op t = none := by unfold entryR; simp only [HEN.out, HLV.out, HTURN.out, HDX.out, Bool.false_eq_true, if_false]; rw [if_pos (.inl hr1)]
              simp only [auditRGo, h1])
            obtain ⟨r1, r2⟩ := hr1
            go_wp2
            rw [HST.out]
            exact bodyPost_ret (v := .tuple #[iv (i : Int), iv 15]) (by simp [results, Try.results25, go_sem]) rfl ⟨rfl, HRX.out.bel⟩
          by_cases hr2 : dx - t.co < -7
          · have HST := Lib.hid (show auditR c l = ((i : Int), 15) by
              rw [HAU.out, HDR.out]
              have h1 : entryR c l i all op t = none := by unfold entryR; simp only [HEN.out, HLV.out, HTURN.out, HDX.out, Bool.false_eq_true, if_false]; rw [if_pos (.inr hr2)]
              simp only [auditRGo, h1])
            by_cases r1 : 0 < t.st
            all_goals
              have r2 : ¬ (0 < t.st ∧ dx ≤ 0) := hr1
              first | (have r3 : ¬ dx ≤ 0 := fun h => hr1 ⟨r1, h⟩) | skip
              clear hr1 r2
              go_wp2
              rw [HST.out]
              exact bodyPost_ret (v := .tuple #[iv (i : Int), iv 15]) (by simp [results, Try.results25, go_sem]) rfl ⟨rfl, HRX.out.bel⟩
          have hok1 : 0 < t.st → ¬ dx ≤ 0 := fun h1 h2 => hr1 ⟨h1, h2⟩
          have hnc : ¬ (((0 < t.st ∧ dx ≤ 0) ∨ dx - t.co < -7)) := by rintro (h1 | h1); exact hr1 h1; exact hr2 h1
          obtain ⟨ay, hay⟩ : ∃ k, ({ ax with df := dx - t.co } : RAcc) = k := ⟨_, rfl⟩
          have HAYQ := Lib.hid (show ay.query = a0.query by rw [← hay]; exact HAXK.out.1)
          have HPUT := Lib.hid (show putR all2 ay = all2.set pl ay from putR_set HT2.out.nd HK.out HAYQ.out)
          have HSTEP := Lib.hid (show auditR c l = auditRGo c l (all2.set pl ay) (if t.fin = false ∧ 0 < dx - t.co then t.q else -1) (i + 1) (l.drop (i + 1)) by
              rw [HAU.out, HDR.out]
              have h1 : entryR c l i all op t = some (putR all2 ay, if t.fin = false ∧ 0 < dx - t.co then t.q else -1) := by
                rw [← hay]
                unfold entryR; simp only [HEN.out, HLV.out, HTURN.out, HDX.out, Bool.false_eq_true, if_false]; rw [if_neg hnc]
              rw [HPUT.out] at h1
              simp only [auditRGo, h1])
          have HT3 := Lib.hid (show TabR (all2.set pl ay) from HT2.out.set HK.out HAYQ.out (by rw [← hay]; exact HAXK.out.2.1))
          have HBD3 := Lib.hid (show ∀ x ∈ all2.set pl ay, BndR (i + 1) x from by
              intro x hx
              rcases List.mem_or_eq_of_mem_set hx with h1 | h1
              · exact (HBD2.out x h1).mono (Nat.le_succ i)
              · have h2 := HAXK.out
                rw [h1, ← hay]
                refine ⟨?_, ?_, h2.2.2.1, ?_, h2.2.2.2.2.1, ?_⟩
                · show _ ≤ dx - t.co; omega
                · show dx - t.co ≤ _; omega
                · show ax.turns ≤ _; omega
                · show ax.seen < _; omega)
          have HMM3 := Lib.hid (show M = (all2.set pl ay).length by rw [List.length_set, HMM.out])
          have hcab : cb ≠ ab := by omega
          have habg : ab ≠ g := Ne.symm hgab
          have hwab : w.heap.size ≤ ab := by omega
          have hzx := HRX.out.own.form
          obtain ⟨hfx, hzc⟩ : (∀ o, X.frozen? ⟨g, o, none⟩ = false) ∧ ∀ j, j < 9 → X.cell? ⟨g, pl * 9 + j, none⟩ = (rC a0)[j]? := ⟨hzx.2.2.2.2.2.1, fun j hj => hzx.2.2.2.2.2.2 pl a0 HK.out j hj⟩
          have y0 := hzc 0 (by omega)
          have y1 := hzc 1 (by omega)
          have y2 := hzc 2 (by omega)
          have y3 := hzc 3 (by omega)
          have y4 := hzc 4 (by omega)
          have y5 := hzc 5 (by omega)
          have y6 := hzc 6 (by omega)
          have y7 := hzc 7 (by omega)
          have y8 := hzc 8 (by omega)
          simp only [rC, List.getElem?_cons_zero, List.getElem?_cons_succ, Nat.add_zero] at y0 y1 y2 y3 y4 y5 y6 y7 y8
          have HRS := Lib.hid (show RAt Bs cb w c (.slice (some ⟨g, 0, none⟩) M D) (all2.set pl ay) (chain9 (X.setCell ⟨ab, 1, none⟩ (iv (dx - t.co))) g (pl * 9) ay) from (HRX.out.cell hgab hcab hwab 1 _).store hcbB hwB hgB HK.out ay)
          obtain ⟨n0, hn0⟩ : ∃ b, ax.may.getD 0 false = b := ⟨_, rfl⟩
          obtain ⟨n1, hn1⟩ : ∃ b, ax.may.getD 1 false = b := ⟨_, rfl⟩
          obtain ⟨n2, hn2⟩ : ∃ b, ax.may.getD 2 false = b := ⟨_, rfl⟩
          obtain ⟨n3, hn3⟩ : ∃ b, ax.may.getD 3 false = b := ⟨_, rfl⟩
          rw [← hay] at HRS
          unfold chain9 at HRS
          simp only [] at HRS
          rw [hn0, hn1, hn2, hn3] at HRS
          rw [hn0] at hax4
          rw [hn1] at hax5
          rw [hn2] at hax6
          rw [hn3] at hax7
          have HAY := Lib.hid hay
          have HRT := Lib.hid (show ∀ x, RAt Bs cb w c (.slice (some ⟨g, 0, none⟩) M D) (all2.set pl { ax with df := dx - t.co }) x → RAt Bs cb w c (.slice (some ⟨g, 0, none⟩) M D) (all2.set pl ay) x from fun x hx => by rw [← HAY.out]; exact hx)
          obtain ⟨fb, hfb⟩ : ∃ b, t.fin = b := ⟨_, rfl⟩
          rw [hfb] at t4 HSTEP
          clear hn0 hn1 hn2 hn3 hzx hzc hay hfb hr1 hnc
          by_cases r1 : 0 < t.st
          · have r3 := hok1 r1
            clear hok1
            cases fb with
            | true =>
              have HS2 := Lib.hid (show auditR c l = auditRGo c l (all2.set pl ay) (-1) (i + 1) (l.drop (i + 1)) by rw [HSTEP.out, if_neg (by simp)])
              go_wp2
              go_roundw
              case rel => exact ⟨i + 1, all2.set pl ay, _, some ⟨g, 0, none⟩, M, D, by omega, by go_num, rfl, rfl, HMM3, hM1, HT3, HBD3, Lib.hid (HRT.out _ HRS.out), HS2⟩
              case measure => simp [intOf]; omega
            | false =>
              by_cases hpos : 0 < dx - t.co
              · have HS2 := Lib.hid (show auditR c l = auditRGo c l (all2.set pl ay) t.q (i + 1) (l.drop (i + 1)) by rw [HSTEP.out, if_pos ⟨rfl, hpos⟩])
                go_wp2
                go_roundw
                case rel => exact ⟨i + 1, all2.set pl ay, _, some ⟨g, 0, none⟩, M, D, by omega, by go_num, rfl, rfl, HMM3, hM1, HT3, HBD3, Lib.hid (HRT.out _ HRS.out), HS2⟩
                case measure => simp [intOf]; omega
              · have HS2 := Lib.hid (show auditR c l = auditRGo c l (all2.set pl ay) (-1) (i + 1) (l.drop (i + 1)) by rw [HSTEP.out, if_neg (fun h => hpos h.2)])
                go_wp2
                go_roundw
                case rel => exact ⟨i + 1, all2.set pl ay, _, some ⟨g, 0, none⟩, M, D, by omega, by go_num, rfl, rfl, HMM3, hM1, HT3, HBD3, Lib.hid (HRT.out _ HRS.out), HS2⟩
                case measure => simp [intOf]; omega
          · clear hok1
            cases fb with
            | true =>
              have HS2 := Lib.hid (show auditR c l = auditRGo c l (all2.set pl ay) (-1) (i + 1) (l.drop (i + 1)) by rw [HSTEP.out, if_neg (by simp)])
              go_wp2
              go_roundw
              case rel => exact ⟨i + 1, all2.set pl ay, _, some ⟨g, 0, none⟩, M, D, by omega, by go_num, rfl, rfl, HMM3, hM1, HT3, HBD3, Lib.hid (HRT.out _ HRS.out), HS2⟩
              case measure => simp [intOf]; omega
            | false =>
              by_cases hpos : 0 < dx - t.co
              · have HS2 := Lib.hid (show auditR c l = auditRGo c l (all2.set pl ay) t.q (i + 1) (l.drop (i + 1)) by rw [HSTEP.out, if_pos ⟨rfl, hpos⟩])
                go_wp2
                go_roundw
                case rel => exact ⟨i + 1, all2.set pl ay, _, some ⟨g, 0, none⟩, M, D, by omega, by go_num, rfl, rfl, HMM3, hM1, HT3, HBD3, Lib.hid (HRT.out _ HRS.out), HS2⟩
                case measure => simp [intOf]; omega
              · have HS2 := Lib.hid (show auditR c l = auditRGo c l (all2.set pl ay) (-1) (i + 1) (l.drop (i + 1)) by rw [HSTEP.out, if_neg (fun h => hpos h.2)])
                go_wp2
                go_roundw
                case rel => exact ⟨i + 1, all2.set pl ay, _, some ⟨g, 0, none⟩, M, D, by omega, by go_num, rfl, rfl, HMM3, hM1, HT3, HBD3, Lib.hid (HRT.out _ HRS.out), HS2⟩
                case measure => simp [intOf]; omega
end Go.Proofs.Ytbgoogjhgeoapaa
