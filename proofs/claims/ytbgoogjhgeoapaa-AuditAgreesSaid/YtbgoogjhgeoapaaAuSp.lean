/- Walks: flqlaw30.spoil: some log comes out. Printed by wip/gen_ausp.py. -/
import Derived.Test.YtbgoogjhgeoapaaAuG6
import Derived.Test.YtbgoogjhgeoapaaInv
import Derived.Test.YtbgoogjhgeoapaaTape
set_option linter.unusedVariables false
set_option linter.unusedSimpArgs false
set_option linter.unusedSectionVars false
namespace Go.Proofs.Ytbgoogjhgeoapaa
open Go.RowKit
variable [Base]

theorem own_emptyT {w : World} {k : Nat} (h : w.heap.size = k) : (w.alloc (.cells #[] 53)).ownsRow k 53 5 (.slice (some ⟨k, 0, none⟩) 0 0) 0 [] := by
  subst h
  exact ⟨rfl, .inr ⟨w.heap.size, 0, #[], rfl, Nat.le_refl _, heap_alloc_new w _, Nat.le_refl _, Nat.zero_le _, rfl, rfl⟩⟩
theorem grown_belowT {w w' : World} {k d n : Nat} (h : w.heap.size = k) (hg : (w.alloc (.cells #[] 53)).grownBy w' (Value.slice (some ⟨k, 0, none⟩) n d).ownBlock) : Below k w w' := by
  subst h
  exact ((Below.refl _ w).alloc (Nat.le_refl _) _).trans ⟨hg.os, hg.tape, hg.output, hg.size, fun q hq => hg.block q (by simp; omega) (fun e => by simp [Value.ownBlock] at e; omega)⟩
/-- What lies in an owned log. -/
theorem OwnT.form {B : Nat} {w : World} {g n c : Nat} {l : List TV} (h : OwnT B w (.slice (some ⟨g, 0, none⟩) n c) l) : l.length = n ∧ B ≤ g ∧ g < w.heap.size ∧ n ≤ c ∧ c ≤ maxLen ∧ (∀ o, w.frozen? ⟨g, o, none⟩ = false) ∧ ∀ k x, l[k]? = some x → ∀ j, j < 5 → w.cell? ⟨g, k * 5 + j, none⟩ = (turnC x)[j]? := by
  obtain ⟨h1, h2⟩ := h
  rcases h2 with ⟨h2, _⟩ | ⟨g', cap, cur, e1, e2, e3, e4, e5, e6, e7⟩
  · cases h2
  · injection e1 with e1 e9 e8
    injection e1 with e1
    injection e1 with e1 _
    subst e1 e8
    refine ⟨e9.symm, e2, lt_heap e3, by omega, e5, (lies_cells e3).2, fun k x hk j hj => ?_⟩
    have hx : (turnsX l)[k * 5 + j]? = (turnC x)[j]? := by
      obtain ⟨q1, rfl⟩ := List.getElem?_eq_some_iff.1 hk
      rw [flatten_get 5 _ (turnC_len l) k j (by simpa using q1) hj]
      simp
    rw [(lies_cells e3).1, ← hx, ← e7, List.getElem?_take_of_lt (by have := (List.getElem?_eq_some_iff.1 hk).1; omega), Array.getElem?_toList]
theorem turnsX_set {t' : TV} : ∀ (l : List TV) (k j : Nat) (t : TV) (u : Value), l[k]? = some t → (turnC t).set j u = turnC t' → (j < 5) → (turnsX l).set (k * 5 + j) u = turnsX (l.set k t')
  | [], _, _, _, _, h, _, _ => by simp at h
  | t :: l, 0, j, s, u, h, e, hj => by
    simp at h
    subst h
    simp only [turnsX, List.map_cons, List.flatten_cons, List.set_cons_zero, Nat.zero_mul, Nat.zero_add]
    rw [List.set_append_left _ _ (by simpa [turnC] using hj), e]
  | t :: l, k + 1, j, s, u, h, e, hj => by
    have ih := turnsX_set (t' := t') l k j s u (by simpa using h) e hj
    simp only [turnsX, List.map_cons, List.flatten_cons, List.set_cons_succ] at ih ⊢
    rw [show (k + 1) * 5 + j = (turnC t).length + (k * 5 + j) by simp [turnC]; omega, List.set_append_right _ _ (by omega), Nat.add_sub_cancel_left, ih]
theorem turnsX_take (l : List TV) : ∀ k, (turnsX l).take (k * 5) = turnsX (l.take k) := by
  induction l with
  | nil => intro k; simp [turnsX]
  | cons s l ih =>
    intro k
    cases k with
    | zero => simp [turnsX]
    | succ k =>
      have := ih k
      simp only [turnsX, List.map_cons, List.flatten_cons, List.take_succ_cons] at this ⊢
      rw [show (k + 1) * 5 = (turnC s).length + k * 5 by simp [turnC]; omega, List.take_length_add_append, this]
theorem turnsX_drop (l : List TV) : ∀ k, (turnsX l).drop (k * 5) = turnsX (l.drop k) := by
  induction l with
  | nil => intro k; simp [turnsX]
  | cons s l ih =>
    intro k
    cases k with
    | zero => simp [turnsX]
    | succ k =>
      have := ih k
      simp only [turnsX, List.map_cons, List.flatten_cons, List.drop_succ_cons] at this ⊢
      rw [show (k + 1) * 5 = (turnC s).length + k * 5 by simp [turnC]; omega, List.drop_length_add_append, this]
/-- The first k elements of an owned log, owned. -/
theorem OwnT.front {B : Nat} {w : World} {g n c : Nat} {l : List TV} (h : OwnT B w (.slice (some ⟨g, 0, none⟩) n c) l) {k : Nat} (hk : k ≤ n) : w.ownsRow B 53 5 (.slice (some ⟨g, 0, none⟩) k c) k (turnsX (l.take k)) := by
  obtain ⟨hl, -⟩ := h.form
  obtain ⟨h1, h2⟩ := h
  rcases h2 with ⟨h2, _⟩ | ⟨g', cap, cur, e1, e2, e3, e4, e5, e6, e7⟩
  · cases h2
  · injection e1 with e1 e9 e8
    injection e1 with e1
    injection e1 with e1 _
    subst e1 e8
    refine ⟨by rw [turnsX_len, List.length_take]; omega, .inr ⟨g, c, cur, rfl, e2, e3, by omega, e5, e6, ?_⟩⟩
    rw [← turnsX_take, ← e7, List.take_take, Nat.min_eq_left (by have := Nat.mul_le_mul_right 5 hk; omega)]
/-- What stands in memory while the log is spoiled. -/
structure SpAt (B bt Bs : Nat) (w0 : World) (g n c : Nat) (l : List TV) (x : World) : Prop where
  tape : TapeOk B x bt
  but : But bt w0 x
  log : OwnT Bs x (.slice (some ⟨g, 0, none⟩) n c) l
theorem SpAt.next {B bt Bs g n c : Nat} {w0 x y : World} {l : List TV} (h : SpAt B bt Bs w0 g n c l x) (h1 : bt < Bs) (ht : TapeOk B y bt) (hb : But bt x y) : SpAt B bt Bs w0 g n c l y :=
  ⟨ht, h.but.trans hb, own_keep h.log fun q hq hq2 => hb.block q hq (by omega)⟩
/-- Spoil's answer. -/
def SpQ (B bt : Nat) (w : World) (l : List TV) (e : Ending) (w' : World) : Prop := ∃ l' a c, e = .returned (.slice a l'.length c) ∧ l'.length ≤ l.length + 1 ∧ OwnT w.heap.size w' (.slice a l'.length c) l' ∧ TapeOk B w' bt ∧ But bt w w'
/-- A block of the log's own has turned. -/
theorem SpAt.fin {B bt Bs g n c : Nat} {w0 x y : World} {l l' : List TV} (h : SpAt B bt Bs w0 g n c l x) (h1 : bt < Bs) (h2 : w0.heap.size ≤ Bs) (hk : Below Bs x y) {a : Option Addr} {c' n' : Nat} (hn : n' = l'.length) (ho : y.ownsRow Bs 53 5 (.slice a n' c') n' (turnsX l')) (h3 : w0.heap.size ≤ Bs) (hBs : Bs ≤ x.heap.size) :
    OwnT w0.heap.size y (.slice a l'.length c') l' ∧ TapeOk B y bt ∧ But bt w0 y := by
  subst hn
  have hge := h.tape.ge
  exact ⟨own_base ho h2, h.tape.keep (hk.block bt (by omega)) (fun q hq => hk.block q (by omega)) hk.size, ⟨hk.os.trans h.but.os, hk.tape.trans h.but.tape, hk.output.trans h.but.output, Nat.le_trans h.but.size hk.size, fun q hq hq2 => (hk.block q (by omega)).trans (h.but.block q hq hq2)⟩⟩
theorem SpAt.store {B bt Bs g n c : Nat} {w0 x : World} {l : List TV} (h : SpAt B bt Bs w0 g n c l x) {i j : Nat} {t t' : TV} (hi : l[i]? = some t) (u : Value) (he : (turnC t).set j u = turnC t') (hj : j < 5) : (x.setCell ⟨g, i * 5 + j, none⟩ u).ownsRow Bs 53 5 (.slice (some ⟨g, 0, none⟩) n c) n (turnsX (l.set i t')) := by
  have h1 := h.log
  have hl := h1.form.1
  unfold OwnT at h1
  rw [hl] at h1
  have h2 := own_set h1 (j := i * 5 + j) u
  rwa [turnsX_set l i j t u hi he hj] at h2
theorem turnsX_set5 {l : List TV} {i : Nat} {t : TV} (h : l[i]? = some t) (u : TV) : (((((turnsX l).set (i * 5) (iv u.q)).set (i * 5 + 1) (iv u.qu)).set (i * 5 + 2) (iv u.st)).set (i * 5 + 3) (iv u.co)).set (i * 5 + 4) (.bool u.fin) = turnsX (l.set i u) := by
  have hlt := (List.getElem?_eq_some_iff.1 h).1
  have e0 := turnsX_set (t' := ⟨u.q, t.qu, t.st, t.co, t.fin⟩) l i 0 t (iv u.q) h rfl (by decide)
  rw [Nat.add_zero] at e0
  rw [e0]
  rw [turnsX_set (t' := ⟨u.q, u.qu, t.st, t.co, t.fin⟩) _ i 1 ⟨u.q, t.qu, t.st, t.co, t.fin⟩ (iv u.qu) (List.getElem?_set_self hlt) rfl (by decide), List.set_set]
  rw [turnsX_set (t' := ⟨u.q, u.qu, u.st, t.co, t.fin⟩) _ i 2 ⟨u.q, u.qu, t.st, t.co, t.fin⟩ (iv u.st) (List.getElem?_set_self hlt) rfl (by decide), List.set_set]
  rw [turnsX_set (t' := ⟨u.q, u.qu, u.st, u.co, t.fin⟩) _ i 3 ⟨u.q, u.qu, u.st, t.co, t.fin⟩ (iv u.co) (List.getElem?_set_self hlt) rfl (by decide), List.set_set]
  rw [turnsX_set (t' := u) _ i 4 ⟨u.q, u.qu, u.st, u.co, t.fin⟩ (.bool u.fin) (List.getElem?_set_self hlt) rfl (by decide), List.set_set]
theorem SpAt.store5 {B bt Bs g n c : Nat} {w0 x : World} {l : List TV} (h : SpAt B bt Bs w0 g n c l x) (h1 : bt < Bs) (h2 : w0.heap.size ≤ Bs) {i : Nat} {t : TV} (hi : l[i]? = some t) (u : TV) :
    SpAt B bt Bs w0 g n c (l.set i u) (((((x.setCell ⟨g, i * 5, none⟩ (iv u.q)).setCell ⟨g, i * 5 + 1, none⟩ (iv u.qu)).setCell ⟨g, i * 5 + 2, none⟩ (iv u.st)).setCell ⟨g, i * 5 + 3, none⟩ (iv u.co)).setCell ⟨g, i * 5 + 4, none⟩ (.bool u.fin)) := by
  have hg := h.log.form
  have hgB := hg.2.1
  have hge := h.tape.ge
  have hlog := h.log
  unfold OwnT at hlog
  rw [hg.1] at hlog
  have o5 := own_set (own_set (own_set (own_set (own_set hlog (j := i * 5) (iv u.q)) (j := i * 5 + 1) (iv u.qu)) (j := i * 5 + 2) (iv u.st)) (j := i * 5 + 3) (iv u.co)) (j := i * 5 + 4) (.bool u.fin)
  rw [turnsX_set5 hi u] at o5
  have hk : ∀ q, q ≠ g → (((((x.setCell ⟨g, i * 5, none⟩ (iv u.q)).setCell ⟨g, i * 5 + 1, none⟩ (iv u.qu)).setCell ⟨g, i * 5 + 2, none⟩ (iv u.st)).setCell ⟨g, i * 5 + 3, none⟩ (iv u.co)).setCell ⟨g, i * 5 + 4, none⟩ (.bool u.fin)).heap[q]? = x.heap[q]? := fun q hq => by
    rw [Below.heap_setCell _ _ _ _ (by exact hq), Below.heap_setCell _ _ _ _ (by exact hq), Below.heap_setCell _ _ _ _ (by exact hq), Below.heap_setCell _ _ _ _ (by exact hq), Below.heap_setCell _ _ _ _ (by exact hq)]
  refine ⟨h.tape.keep (hk bt (by omega)) (fun q hq => hk q (by omega)) (by simp), ?_, ?_⟩
  · exact ((((h.but.setCell ⟨g, _, none⟩ (.inr (by show _ ≤ g; omega)) _).setCell ⟨g, _, none⟩ (.inr (by show _ ≤ g; omega)) _).setCell ⟨g, _, none⟩ (.inr (by show _ ≤ g; omega)) _).setCell ⟨g, _, none⟩ (.inr (by show _ ≤ g; omega)) _).setCell ⟨g, _, none⟩ (.inr (by show _ ≤ g; omega)) _
  · unfold OwnT
    rw [List.length_set, hg.1]
    exact o5
set_option maxRecDepth 100000 in
set_option maxHeartbeats 8000000 in
theorem spoil_any {B bt : Nat} {w : World} (ht : TapeOk B w bt) (v : Value) (l : List TV) (hv : TurnsAt w v l) (hl : l.length ≤ 100000) : Calls Try.prog 11 #[pv bt, v] w (SpQ B bt w l) := by
  obtain ⟨va, vc, rfl, hn0, -, -, -⟩ := hv.cell
  have HT := Lib.hid ht
  have HV := Lib.hid hv
  obtain ⟨n, hn⟩ : ∃ n, l.length = n := ⟨_, rfl⟩
  rw [hn] at hn0 hl HV ⊢
  have HN := Lib.hid hn
  have hlt := ht.lt
  have hbB : Base.b ≤ w.heap.size := by have h1 := ht.bs; omega
  have hud : ∀ b : Bool, (undef = Value.bool b) = False := fun b => by simp [undef]
  have LX := Lib.hid (show (turnsX l).length = n * 5 by rw [turnsX_len, hn])
  clear ht hv hn hn0
  go_enter Try.func11, Try.ntmps11
  go_upto_region 2 with (at_builtin; refine wpList_append_sl rfl _ _ 28 rfl w.heap.size 53 _ 5 40 Try.underlying28 info_turn rfl (by decide) _ 0 [] (own_emptyT (w := w) (by simp)) rfl (.slice va n vc) n (turnsX l) rfl (SliceAt.same HV.out (SameT.below ((Below.refl _ _).alloc (Nat.le_refl _) _))) LX.out (turnsX_oc _) (by unfold maxLen; omega) (by omega) (by simp) ?_; intro g1 d1 v1 own1 gr1; (try simp only [Nat.zero_add, List.nil_append] at own1); have B3 := Lib.hid (show Below w.heap.size w v1 from grown_belowT rfl gr1); have OW1 := Lib.hid own1; clear own1 gr1)
  by_cases hz : n = 0
  · subst hz
    have hl0 : l = [] := List.length_eq_zero_iff.1 HN.out
    go_wp2
    go_ret
    refine ⟨[], g1, d1, rfl, by simp, ?_, HT.out.below B3.out, (But.refl bt w).below B3.out⟩
    have h1 := OW1.out
    rw [hl0] at h1
    exact h1
  · have hnp : 0 < n := by omega
    have hnz : ((n : Int) == 0) = false := by simp; omega
    obtain ⟨g, rfl⟩ := own_some OW1.out hnp
    have HS := Lib.hid (show SpAt B bt w.heap.size w g n d1 l v1 from ⟨HT.out.below B3.out, (But.refl bt w).below B3.out, by unfold OwnT; rw [HN.out]; exact OW1.out⟩)
    have hBv : w.heap.size ≤ v1.heap.size := B3.out.size
    clear hz
    go_wp2_with fail
    refine (next_any HS.out.tape (n : Int) (by omega)).mono ?_
    rintro e wa ⟨z, z1, z2, rfl, ta, ba⟩
    have HA := Lib.hid (HS.out.next hlt ta ba)
    have hBa : w.heap.size ≤ wa.heap.size := Nat.le_trans hBv ba.size
    clear ta ba
    obtain ⟨i, rfl⟩ := Int.eq_ofNat_of_zero_le z1
    have hi : i < n := by omega
    go_wp2_with fail
    refine (next_any HA.out.tape 7 (by omega)).mono ?_
    rintro e wb ⟨k, k1, k2, rfl, tb, bb⟩
    have HB := Lib.hid (HA.out.next hlt tb bb)
    have hBb : w.heap.size ≤ wb.heap.size := Nat.le_trans hBa bb.size
    clear tb bb z1 z2
    obtain ⟨t, hti⟩ : ∃ t, l[i]? = some t := ⟨_, List.getElem?_eq_getElem (by rw [HN.out]; exact hi)⟩
    have HTI := Lib.hid hti
    have hform := HB.out.log.form
    obtain ⟨hgB, hglt, hnc, hcm, hfr, hcs⟩ : w.heap.size ≤ g ∧ g < wb.heap.size ∧ n ≤ d1 ∧ d1 ≤ maxLen ∧ (∀ o, wb.frozen? ⟨g, o, none⟩ = false) ∧ ∀ j, j < 5 → wb.cell? ⟨g, i * 5 + j, none⟩ = (turnC t)[j]? := ⟨hform.2.1, hform.2.2.1, hform.2.2.2.1, hform.2.2.2.2.1, hform.2.2.2.2.2.1, fun j hj => hform.2.2.2.2.2.2 _ t hti j hj⟩
    have c0 := hcs 0 (by omega)
    have c1 := hcs 1 (by omega)
    have c2 := hcs 2 (by omega)
    have c3 := hcs 3 (by omega)
    have c4 := hcs 4 (by omega)
    simp only [turnC, List.getElem?_cons_zero, List.getElem?_cons_succ, Nat.add_zero] at c0 c1 c2 c3 c4
    have i1 : (0 : Int) ≤ (i : Int) := Int.natCast_nonneg _
    have i2 : (i : Int) < (n : Int) := Int.ofNat_lt.2 hi
    have hgbt : g ≠ bt := by omega
    have HCM := Lib.hid hcm
    have HFM := Lib.hid hform
    clear hcs hti hform hcm
    rcases (by omega : k = 0 ∨ k = 1 ∨ k = 2 ∨ k = 3 ∨ k = 4 ∨ k = 5 ∨ k = 6) with rfl | rfl | rfl | rfl | rfl | rfl | rfl
    · obtain ⟨j, hj⟩ : ∃ j, i + 1 = j := ⟨_, rfl⟩
      have HWJ := Lib.hid (show IntKind.i64.wrap ((i : Int) + 1) = (j : Int) by rw [IntWalk.i64_in _ (by omega)]; omega)
      have HFR := Lib.hid (HB.out.log.front (show i ≤ n by omega))
      have j1 : 0 ≤ (j : Int) := by omega
      have j2 : (j : Int) ≤ (n : Int) := by omega
      have j3 : (i : Int) ≤ (d1 : Int) := by omega
      have j4 : (n : Int) ≤ (d1 : Int) := by omega
      have j5 : (j : Int) ≤ (d1 : Int) := by omega
      have hij : i + (n - j) ≤ n := by omega
      go_upto_region 8 with (fail)
      by_cases hjd : d1 = j
      · subst hjd
        have hjn : n = i + 1 := by omega
        have q1 : i ≤ d1 := by omega
        refine wp_region_D (S := fun w' => True) (st := 8) (by kernel_rfl) ?_
        have hS0 : (fun w' : World => True) (wb.drewN 1) := trivial
        refine wpAnyT_pureD 0 (some 35) ?v1 rfl (by kernel_rfl) (by kernel_rfl) (by kernel_rfl) (by kernel_rfl) (fun _ _ _ h => h) hS0 (by kernel_rfl) rfl ?run1 ?rest1
        case run1 => intro w hS; go_simp; rfl
        refine wpAnyT_pureD 1 (some 36) ?v2 rfl (by kernel_rfl) (by kernel_rfl) (by kernel_rfl) (by kernel_rfl) (fun _ _ _ h => h) hS0 (by kernel_rfl) rfl ?run2 ?rest2
        case run2 => intro w hS; go_simp; rfl
        refine wpAnyT_pureD 2 (some 37) ?v3 rfl (by kernel_rfl) (by kernel_rfl) (by kernel_rfl) (by kernel_rfl) (fun _ _ _ h => h) hS0 (by kernel_rfl) rfl ?run3 ?rest3
        case run3 => intro w hS; go_simp; rfl
        refine wpAnyT_pureD 3 (some 38) ?v4 rfl (by kernel_rfl) (by kernel_rfl) (by kernel_rfl) (by kernel_rfl) (fun _ _ _ h => h) hS0 (by kernel_rfl) rfl ?run4 ?rest4
        case run4 => intro w hS; go_simp; rfl
        refine wpAnyT_pureD 4 (some 39) ?v5 rfl (by kernel_rfl) (by kernel_rfl) (by kernel_rfl) (by kernel_rfl) (fun _ _ _ h => h) hS0 (by kernel_rfl) rfl ?run5 ?rest5
        case run5 => intro w hS; go_simp; rfl
        refine wpAnyT_pureD 5 (some 40) ?v6 rfl (by kernel_rfl) (by kernel_rfl) (by kernel_rfl) (by kernel_rfl) (fun _ _ _ h => h) hS0 (by kernel_rfl) rfl ?run6 ?rest6
        case run6 => intro w hS; have hq := HWJ.out; go_simp; rfl
        refine wpAnyT_pureD 6 (some 41) ?v7 rfl (by kernel_rfl) (by kernel_rfl) (by kernel_rfl) (by kernel_rfl) (fun _ _ _ h => h) hS0 (by kernel_rfl) rfl ?run7 ?rest7
        case run7 => intro w hS; go_simp; rfl
        refine wpAnyT_append 7 (some 42) rfl (by kernel_rfl) (by kernel_rfl) rfl _ _ 28 rfl w.heap.size 53 _ 5 40 Try.underlying28 info_turn rfl (by decide) (.slice (some ⟨g, 0, none⟩) i d1) i (turnsX (l.take i)) (show (wb.drewN 1).ownsRow w.heap.size 53 5 _ _ _ from HFR.out) (by kernel_rfl) (.slice (some ⟨g, 0, none⟩) 0 0) 0 [] (by kernel_rfl) (show SliceAt (wb.drewN 1) 53 5 (.slice (some ⟨g, 0, none⟩) 0 0) [] from ⟨0, 0, rfl, Nat.zero_le _, Nat.zero_le _, .inl ⟨⟨_, rfl⟩, rfl⟩⟩) rfl rfl (by unfold maxLen; omega) (by omega) hBb ?_
        intro g2 d2 v2 own2 gr2
        have OW2 := Lib.hid own2
        have B2 := Lib.hid (show Below w.heap.size wb v2 from by have h1 := Below.of_grown gr2 (show (wb.drewN 1).ownsRow w.heap.size 53 5 (.slice (some ⟨g, 0, none⟩) i d1) i (turnsX (l.take i)) from HFR.out) hBb; exact ⟨h1.os, h1.tape, h1.output, h1.size, h1.block⟩)
        clear own2 gr2
        refine ⟨fun _ => trivial, ?_⟩
        refine wpAnyT_value 8 (some 5) ?vv101 v2 rfl (by kernel_rfl) (by kernel_rfl) ?rv101 rfl (fun _ => trivial) ?_
        case rv101 => go_simp; rfl
        refine wpAnyT_done (by kernel_rfl) ?_ _
        generalize hA : Act.put _ _ _ = A0
        simp only [put_mk, put_no, List.setIfInBounds_toArray, List.set_cons_succ, List.set_cons_zero] at hA
        subst hA
        go_wp2
        go_ret
        have hln : (l.take i).length = i + 0 := by rw [List.length_take, HN.out]; omega
        obtain ⟨f1, f2, f3⟩ := HB.out.fin (l' := l.take i) hlt (Nat.le_refl _) B2.out hln.symm (by have h1 := OW2.out; rw [List.append_nil] at h1; exact h1) (Nat.le_refl _) hBb
        rw [hln] at f1
        exact ⟨l.take i, g2, d2, (by rw [hln]; rfl), by rw [hln, HN.out]; omega, by rw [hln]; exact f1, f2, f3⟩
      · have HBK := Lib.hid (show SliceAt wb 53 5 (.slice (some ⟨g, j * 5, none⟩) (n - j) (d1 - j)) (turnsX (l.drop j)) by
          rw [← turnsX_drop]
          have h1 := (show SliceAt wb 53 5 (.slice (some ⟨g, 0, none⟩) n d1) (turnsX l) from by have h2 := SliceAt.of_owns HB.out.log; exact h2).back j (by omega)
          rw [Nat.zero_add] at h1; exact h1)
        have HLB := Lib.hid (show (turnsX (l.drop j)).length = (n - j) * 5 by rw [turnsX_len, List.length_drop, HN.out])
        have hjd2 : ¬ d1 = j := hjd
        refine wp_region_D (S := fun w' => True) (st := 8) (by kernel_rfl) ?_
        have hS0 : (fun w' : World => True) (wb.drewN 1) := trivial
        refine wpAnyT_pureD 0 (some 35) ?v8 rfl (by kernel_rfl) (by kernel_rfl) (by kernel_rfl) (by kernel_rfl) (fun _ _ _ h => h) hS0 (by kernel_rfl) rfl ?run8 ?rest8
        case run8 => intro w hS; go_simp; rfl
        refine wpAnyT_pureD 1 (some 36) ?v9 rfl (by kernel_rfl) (by kernel_rfl) (by kernel_rfl) (by kernel_rfl) (fun _ _ _ h => h) hS0 (by kernel_rfl) rfl ?run9 ?rest9
        case run9 => intro w hS; go_simp; rfl
        refine wpAnyT_pureD 2 (some 37) ?v10 rfl (by kernel_rfl) (by kernel_rfl) (by kernel_rfl) (by kernel_rfl) (fun _ _ _ h => h) hS0 (by kernel_rfl) rfl ?run10 ?rest10
        case run10 => intro w hS; go_simp; rfl
        refine wpAnyT_pureD 3 (some 38) ?v11 rfl (by kernel_rfl) (by kernel_rfl) (by kernel_rfl) (by kernel_rfl) (fun _ _ _ h => h) hS0 (by kernel_rfl) rfl ?run11 ?rest11
        case run11 => intro w hS; go_simp; rfl
        refine wpAnyT_pureD 4 (some 39) ?v12 rfl (by kernel_rfl) (by kernel_rfl) (by kernel_rfl) (by kernel_rfl) (fun _ _ _ h => h) hS0 (by kernel_rfl) rfl ?run12 ?rest12
        case run12 => intro w hS; go_simp; rfl
        refine wpAnyT_pureD 5 (some 40) ?v13 rfl (by kernel_rfl) (by kernel_rfl) (by kernel_rfl) (by kernel_rfl) (fun _ _ _ h => h) hS0 (by kernel_rfl) rfl ?run13 ?rest13
        case run13 => intro w hS; have hq := HWJ.out; go_simp; rfl
        refine wpAnyT_pureD 6 (some 41) ?v14 rfl (by kernel_rfl) (by kernel_rfl) (by kernel_rfl) (by kernel_rfl) (fun _ _ _ h => h) hS0 (by kernel_rfl) rfl ?run14 ?rest14
        case run14 => intro w hS; go_simp; rfl
        refine wpAnyT_append 7 (some 42) rfl (by kernel_rfl) (by kernel_rfl) rfl _ _ 28 rfl w.heap.size 53 _ 5 40 Try.underlying28 info_turn rfl (by decide) (.slice (some ⟨g, 0, none⟩) i d1) i (turnsX (l.take i)) (show (wb.drewN 1).ownsRow w.heap.size 53 5 _ _ _ from HFR.out) (by kernel_rfl) (.slice (some ⟨g, j * 5, none⟩) (n - j) (d1 - j)) (n - j) (turnsX (l.drop j)) (by kernel_rfl) (show SliceAt (wb.drewN 1) 53 5 _ _ from HBK.out) HLB.out (turnsX_oc _) (by unfold maxLen; omega) (by omega) hBb ?_
        intro g2 d2 v2 own2 gr2
        have OW2 := Lib.hid own2
        have B2 := Lib.hid (show Below w.heap.size wb v2 from by have h1 := Below.of_grown gr2 (show (wb.drewN 1).ownsRow w.heap.size 53 5 (.slice (some ⟨g, 0, none⟩) i d1) i (turnsX (l.take i)) from HFR.out) hBb; exact ⟨h1.os, h1.tape, h1.output, h1.size, h1.block⟩)
        clear own2 gr2
        refine ⟨fun _ => trivial, ?_⟩
        refine wpAnyT_value 8 (some 5) ?vv102 v2 rfl (by kernel_rfl) (by kernel_rfl) ?rv102 rfl (fun _ => trivial) ?_
        case rv102 => go_simp; rfl
        refine wpAnyT_done (by kernel_rfl) ?_ _
        generalize hA : Act.put _ _ _ = A0
        simp only [put_mk, put_no, List.setIfInBounds_toArray, List.set_cons_succ, List.set_cons_zero] at hA
        subst hA
        go_wp2
        go_ret
        have hln : (l.take i ++ l.drop j).length = i + (n - j) := by simp only [List.length_append, List.length_take, List.length_drop, HN.out]; omega
        obtain ⟨f1, f2, f3⟩ := HB.out.fin (l' := l.take i ++ l.drop j) hlt (Nat.le_refl _) B2.out hln.symm (by have h1 := OW2.out; rw [← turnsX_app] at h1; exact h1) (Nat.le_refl _) hBb
        rw [hln] at f1
        exact ⟨l.take i ++ l.drop j, g2, d2, (by rw [hln]; rfl), by rw [hln, HN.out]; omega, by rw [hln]; exact f1, f2, f3⟩
    · go_wp2_with fail
      refine (next_any HB.out.tape 5 (by omega)).mono ?_
      rintro e wc ⟨z, z1, z2, rfl, tc, bc⟩
      have HC := Lib.hid (HB.out.next hlt tc bc)
      have hBc : w.heap.size ≤ wc.heap.size := Nat.le_trans hBb bc.size
      have e0 := (bc.cell g (i * 5) hglt hgbt).trans c0
      have e1 := (bc.frozen g (i * 5) hglt hgbt).trans (hfr _)
      clear tc bc
      go_wp2
      go_ret
      obtain ⟨f1, f2, f3⟩ := HC.out.fin hlt (Nat.le_refl _) ((Below.refl _ _).setCell (by show w.heap.size ≤ g; exact hgB) _) (by rw [List.length_set, HN.out]) (HC.out.store (j := 0) HTI.out (t' := ⟨z, t.qu, t.st, t.co, t.fin⟩) (iv z) rfl (by decide)) (Nat.le_refl _) hBc
      have hln : (l.set i ⟨z, t.qu, t.st, t.co, t.fin⟩).length = n := by rw [List.length_set, HN.out]
      rw [hln] at f1
      exact ⟨l.set i ⟨z, t.qu, t.st, t.co, t.fin⟩, some ⟨g, 0, none⟩, d1, (by rw [hln]; rfl), by rw [hln, HN.out]; omega, by rw [hln]; exact f1, f2, f3⟩
    · go_wp2_with fail
      refine (next_any HB.out.tape 14 (by omega)).mono ?_
      rintro e wc ⟨z, z1, z2, rfl, tc, bc⟩
      have HC := Lib.hid (HB.out.next hlt tc bc)
      have hBc : w.heap.size ≤ wc.heap.size := Nat.le_trans hBb bc.size
      have e0 := (bc.cell g (i * 5 + 1) hglt hgbt).trans c1
      have e1 := (bc.frozen g (i * 5 + 1) hglt hgbt).trans (hfr _)
      clear tc bc
      go_wp2
      go_ret
      obtain ⟨f1, f2, f3⟩ := HC.out.fin hlt (Nat.le_refl _) ((Below.refl _ _).setCell (by show w.heap.size ≤ g; exact hgB) _) (by rw [List.length_set, HN.out]) (HC.out.store (j := 1) HTI.out (t' := ⟨t.q, z, t.st, t.co, t.fin⟩) (iv z) rfl (by decide)) (Nat.le_refl _) hBc
      have hln : (l.set i ⟨t.q, z, t.st, t.co, t.fin⟩).length = n := by rw [List.length_set, HN.out]
      rw [hln] at f1
      exact ⟨l.set i ⟨t.q, z, t.st, t.co, t.fin⟩, some ⟨g, 0, none⟩, d1, (by rw [hln]; rfl), by rw [hln, HN.out]; omega, by rw [hln]; exact f1, f2, f3⟩
    · go_upto_region 14 with (fail)
      refine wp_region_D (S := fun w' => w'.cell? ⟨g, i * 5 + 2, none⟩ = some (iv t.st)) (st := 12) (by kernel_rfl) ?_
      have hS0 : (fun w' : World => w'.cell? ⟨g, i * 5 + 2, none⟩ = some (iv t.st)) (wb.drewN 1) := c2
      refine wpAnyT_pureD 0 (some 61) ?v15 rfl (by kernel_rfl) (by kernel_rfl) (by kernel_rfl) (by kernel_rfl) (fun _ _ _ h => h) hS0 (by kernel_rfl) rfl ?run15 ?rest15
      case run15 => intro w hS; obtain s2 := hS; go_simp; rfl
      refine wpAnyT_pureD 1 (some 62) ?v16 rfl (by kernel_rfl) (by kernel_rfl) (by kernel_rfl) (by kernel_rfl) (fun _ _ _ h => h) hS0 (by kernel_rfl) rfl ?run16 ?rest16
      case run16 => intro w hS; obtain s2 := hS; go_simp; rfl
      refine wpAnyT_pureD 2 (some 63) ?v17 rfl (by kernel_rfl) (by kernel_rfl) (by kernel_rfl) (by kernel_rfl) (fun _ _ _ h => h) hS0 (by kernel_rfl) rfl ?run17 ?rest17
      case run17 => intro w hS; obtain s2 := hS; go_simp; rfl
      refine wpAnyT_pureD 3 (some 64) ?v18 rfl (by kernel_rfl) (by kernel_rfl) (by kernel_rfl) (by kernel_rfl) (fun _ _ _ h => h) hS0 (by kernel_rfl) rfl ?run18 ?rest18
      case run18 => intro w hS; obtain s2 := hS; go_simp; rfl
      refine wpAnyT_pureD 4 (some 65) ?v19 rfl (by kernel_rfl) (by kernel_rfl) (by kernel_rfl) (by kernel_rfl) (fun _ _ _ h => h) hS0 (by kernel_rfl) rfl ?run19 ?rest19
      case run19 => intro w hS; obtain s2 := hS; go_simp; rfl
      refine wpAnyT_pureD 5 (some 66) ?v20 rfl (by kernel_rfl) (by kernel_rfl) (by kernel_rfl) (by kernel_rfl) (fun _ _ _ h => h) hS0 (by kernel_rfl) rfl ?run20 ?rest20
      case run20 => intro w hS; obtain s2 := hS; go_simp; rfl
      refine wpAnyT_pureD 6 (some 67) ?v21 rfl (by kernel_rfl) (by kernel_rfl) (by kernel_rfl) (by kernel_rfl) (fun _ _ _ h => h) hS0 (by kernel_rfl) rfl ?run21 ?rest21
      case run21 => intro w hS; obtain s2 := hS; go_simp; rfl
      refine wpAnyT_pureD 7 (some 68) ?v22 rfl (by kernel_rfl) (by kernel_rfl) (by kernel_rfl) (by kernel_rfl) (fun _ _ _ h => h) hS0 (by kernel_rfl) rfl ?run22 ?rest22
      case run22 => intro w hS; obtain s2 := hS; go_simp; rfl
      refine wpAnyT_call 8 (some 69) 14 #[pv bt, iv 12] rfl (by kernel_rfl) (by kernel_rfl) (by kernel_rfl) rfl ?_
      refine (next_any (HB.out.tape.drewN 1) 12 (by omega)).mono ?_
      rintro e wc ⟨z, z1, z2, rfl, tc, bc⟩
      have bc' : But bt wb wc := ((But.refl bt wb).drewN 1).trans bc
      have HC := Lib.hid (HB.out.next hlt tc bc')
      have hBc : w.heap.size ≤ wc.heap.size := Nat.le_trans hBb bc'.size
      have e2 := (bc'.cell g (i * 5 + 2) hglt hgbt).trans c2
      have e3 := (bc'.cell g (i * 5 + 3) hglt hgbt).trans c3
      have e4 := (bc'.frozen g (i * 5 + 3) hglt hgbt).trans (hfr _)
      clear tc bc bc' hS0
      have hS0 : (fun w' : World => w'.cell? ⟨g, i * 5 + 2, none⟩ = some (iv t.st)) wc := e2
      refine ⟨_, rfl, fun _ => hS0, ?_⟩
      refine wpAnyT_pureD 9 (some 70) ?v23 rfl (by kernel_rfl) (by kernel_rfl) (by kernel_rfl) (by kernel_rfl) (fun _ _ _ h => h) hS0 (by kernel_rfl) rfl ?run23 ?rest23
      case run23 => intro w hS; obtain s2 := hS; go_simp; rfl
      refine wpAnyT_pureC 10 (some 71) [11] ?v24 rfl (by kernel_rfl) (by kernel_rfl) (by kernel_rfl) (by kernel_rfl) (fun _ _ _ h => h) hS0 (by kernel_rfl) rfl ?run24 ?rest24
      case run24 => intro w hS; obtain s2 := hS; go_simp; rfl
      refine wpAnyT_pureD 11 (some 72) ?v25 rfl (by kernel_rfl) (by kernel_rfl) (by kernel_rfl) (by kernel_rfl) (fun _ _ _ h => h) hS0 (by kernel_rfl) rfl ?run25 ?rest25
      case run25 => intro w hS; obtain s2 := hS; go_simp; rfl
      refine wpAnyT_step 12 none (wc.setCell ⟨g, i * 5 + 3, none⟩ (iv (IntKind.i64.wrap (t.st + z)))) rfl (by kernel_rfl) (by kernel_rfl) ?rs3 rfl (fun h => absurd rfl h) ?_
      case rs3 => go_simp
      refine wpAnyT_done (by kernel_rfl) ?_ _
      generalize hA : Act.put _ _ _ = A0
      simp only [put_mk, put_no, List.setIfInBounds_toArray, List.set_cons_succ, List.set_cons_zero] at hA
      subst hA
      go_wp2
      go_ret
      obtain ⟨f1, f2, f3⟩ := HC.out.fin hlt (Nat.le_refl _) ((Below.refl _ _).setCell (by show w.heap.size ≤ g; exact hgB) _) (by rw [List.length_set, HN.out]) (HC.out.store (j := 3) HTI.out (t' := ⟨t.q, t.qu, t.st, IntKind.i64.wrap (t.st + z), t.fin⟩) (iv (IntKind.i64.wrap (t.st + z))) rfl (by decide)) (Nat.le_refl _) hBc
      have hln : (l.set i ⟨t.q, t.qu, t.st, IntKind.i64.wrap (t.st + z), t.fin⟩).length = n := by rw [List.length_set, HN.out]
      rw [hln] at f1
      exact ⟨l.set i ⟨t.q, t.qu, t.st, IntKind.i64.wrap (t.st + z), t.fin⟩, some ⟨g, 0, none⟩, d1, (by rw [hln]; rfl), by rw [hln, HN.out]; omega, by rw [hln]; exact f1, f2, f3⟩
    · go_wp2
      go_ret
      obtain ⟨f1, f2, f3⟩ := HB.out.fin hlt (Nat.le_refl _) ((Below.refl _ _).setCell (by show w.heap.size ≤ g; exact hgB) _) (by rw [List.length_set, HN.out]) (HB.out.store (j := 4) HTI.out (t' := ⟨t.q, t.qu, t.st, t.co, !t.fin⟩) (.bool (!t.fin)) rfl (by decide)) (Nat.le_refl _) hBb
      have hln : (l.set i ⟨t.q, t.qu, t.st, t.co, !t.fin⟩).length = n := by rw [List.length_set, HN.out]
      rw [hln] at f1
      exact ⟨l.set i ⟨t.q, t.qu, t.st, t.co, !t.fin⟩, some ⟨g, 0, none⟩, d1, (by rw [hln]; rfl), by rw [hln, HN.out]; omega, by rw [hln]; exact f1, f2, f3⟩
    · go_upto_region 18 with (fail)
      obtain ⟨t0, ht0⟩ : ∃ t0, l[0]? = some t0 := ⟨_, List.getElem?_eq_getElem (by rw [HN.out]; omega)⟩
      have hf0 := HFM.out
      have b0 := hf0.2.2.2.2.2.2 0 t0 ht0 0 (by omega)
      have b1 := hf0.2.2.2.2.2.2 0 t0 ht0 1 (by omega)
      have b2 := hf0.2.2.2.2.2.2 0 t0 ht0 2 (by omega)
      have b3 := hf0.2.2.2.2.2.2 0 t0 ht0 3 (by omega)
      have b4 := hf0.2.2.2.2.2.2 0 t0 ht0 4 (by omega)
      simp only [turnC, List.getElem?_cons_zero, List.getElem?_cons_succ, Nat.zero_mul, Nat.zero_add] at b0 b1 b2 b3 b4
      have HB5 := Lib.hid (show SpAt B bt w.heap.size w g n d1 l (wb.drewN 1) from ⟨HB.out.tape.drewN 1, HB.out.but.drewN 1, HB.out.log⟩)
      have hn0 : (0 : Int) < (n : Int) := by omega
      clear hf0 ht0
      refine wp_region_D (S := fun _ => True) (st := 13) (by kernel_rfl) ?_
      have hS0 : (fun _ : World => True) (wb.drewN 1) := trivial
      refine wpAnyT_pureD 0 (some 87) ?p0 rfl (by kernel_rfl) (by kernel_rfl) (by kernel_rfl) (by kernel_rfl) (fun _ _ _ h => h) hS0 (by kernel_rfl) rfl ?run50 ?rest50
      case run50 => intro w hS; go_simp; rfl
      refine wpAnyT_pureD 1 (some 88) ?p1 rfl (by kernel_rfl) (by kernel_rfl) (by kernel_rfl) (by kernel_rfl) (fun _ _ _ h => h) hS0 (by kernel_rfl) rfl ?run51 ?rest51
      case run51 => intro w hS; go_simp; rfl
      refine wpAnyT_pureD 2 (some 89) ?p2 rfl (by kernel_rfl) (by kernel_rfl) (by kernel_rfl) (by kernel_rfl) (fun _ _ _ h => h) hS0 (by kernel_rfl) rfl ?run52 ?rest52
      case run52 => intro w hS; go_simp; rfl
      refine wpAnyT_pureD 3 (some 90) ?p3 rfl (by kernel_rfl) (by kernel_rfl) (by kernel_rfl) (by kernel_rfl) (fun _ _ _ h => h) hS0 (by kernel_rfl) rfl ?run53 ?rest53
      case run53 => intro w hS; go_simp; rfl
      refine wpAnyT_pureD 4 (some 91) ?p4 rfl (by kernel_rfl) (by kernel_rfl) (by kernel_rfl) (by kernel_rfl) (fun _ _ _ h => h) hS0 (by kernel_rfl) rfl ?run54 ?rest54
      case run54 => intro w hS; go_simp; rfl
      refine wpAnyT_pureD 6 (some 93) ?p6 rfl (by kernel_rfl) (by kernel_rfl) (by kernel_rfl) (by kernel_rfl) (fun _ _ _ h => h) hS0 (by kernel_rfl) rfl ?run56 ?rest56
      case run56 => intro w hS; go_simp; rfl
      refine wpAnyT_pureD 7 (some 94) ?p7 rfl (by kernel_rfl) (by kernel_rfl) (by kernel_rfl) (by kernel_rfl) (fun _ _ _ h => h) hS0 (by kernel_rfl) rfl ?run57 ?rest57
      case run57 => intro w hS; go_simp; rfl
      refine wpAnyT_pureD 8 (some 95) ?p8 rfl (by kernel_rfl) (by kernel_rfl) (by kernel_rfl) (by kernel_rfl) (fun _ _ _ h => h) hS0 (by kernel_rfl) rfl ?run58 ?rest58
      case run58 => intro w hS; go_simp; rfl
      refine wpAnyT_all (rs := [5, 9]) (by kernel_rfl) (by simp) ?_
      intro q hq
      have hq2 : q = 5 ∨ q = 9 := by simpa using hq
      clear hq
      rcases hq2 with rfl | rfl
      · refine wpOp_value 5 (some 92) (.agg #[iv t0.q, iv t0.qu, iv t0.st, iv t0.co, .bool t0.fin]) (wb.drewN 1) rfl (by kernel_rfl) ?_ rfl ⟨fun _ => trivial, ?_⟩
        · go_simp
        refine wpAnyT_value 9 (some 96) (.agg #[iv t.q, iv t.qu, iv t.st, iv t.co, .bool t.fin]) (wb.drewN 1) rfl (by kernel_rfl) (by kernel_rfl) ?_ rfl (fun _ => trivial) ?_
        · go_simp
        refine wpAnyT_value 10 (some 97) (.pointer (some ⟨g, i * 5, none⟩)) (wb.drewN 1) rfl (by kernel_rfl) (by kernel_rfl) ?_ rfl (fun _ => trivial) ?_
        · go_simp
        refine wpAnyT_step 11 none ((((((wb.drewN 1).setCell ⟨g, i * 5, none⟩ (iv t0.q)).setCell ⟨g, i * 5 + 1, none⟩ (iv t0.qu)).setCell ⟨g, i * 5 + 2, none⟩ (iv t0.st)).setCell ⟨g, i * 5 + 3, none⟩ (iv t0.co)).setCell ⟨g, i * 5 + 4, none⟩ (.bool t0.fin)) rfl (by kernel_rfl) (by kernel_rfl) ?_ rfl (fun _ => trivial) ?_
        · go_simp
        obtain ⟨X, hX⟩ : ∃ X, ((((((wb.drewN 1).setCell ⟨g, i * 5, none⟩ (iv t0.q)).setCell ⟨g, i * 5 + 1, none⟩ (iv t0.qu)).setCell ⟨g, i * 5 + 2, none⟩ (iv t0.st)).setCell ⟨g, i * 5 + 3, none⟩ (iv t0.co)).setCell ⟨g, i * 5 + 4, none⟩ (.bool t0.fin)) = X := ⟨_, rfl⟩
        have HX := Lib.hid (show SpAt B bt w.heap.size w g n d1 (l.set i t0) X from by rw [← hX]; exact HB5.out.store5 hlt (Nat.le_refl _) HTI.out t0)
        rw [hX]
        clear hX c0 c1 c2 c3 c4 b0 b1 b2 b3 b4
        obtain ⟨s0, hs0⟩ : ∃ s0, (l.set i t0)[0]? = some s0 := ⟨_, List.getElem?_eq_getElem (by rw [List.length_set, HN.out]; omega)⟩
        have hfx := HX.out.log.form
        have y0 := hfx.2.2.2.2.2.2 0 s0 hs0 0 (by omega)
        have y1 := hfx.2.2.2.2.2.2 0 s0 hs0 1 (by omega)
        have y2 := hfx.2.2.2.2.2.2 0 s0 hs0 2 (by omega)
        have y3 := hfx.2.2.2.2.2.2 0 s0 hs0 3 (by omega)
        have y4 := hfx.2.2.2.2.2.2 0 s0 hs0 4 (by omega)
        have fx := hfx.2.2.2.2.2.1
        simp only [turnC, List.getElem?_cons_zero, List.getElem?_cons_succ, Nat.zero_mul, Nat.zero_add] at y0 y1 y2 y3 y4
        have HS0 := Lib.hid hs0
        clear hfx hs0
        refine wpAnyT_value 12 (some 98) (.pointer (some ⟨g, 0, none⟩)) X rfl (by kernel_rfl) (by kernel_rfl) ?_ rfl (fun _ => trivial) ?_
        · go_simp
        refine wpAnyT_step 13 none (((((X.setCell ⟨g, 0, none⟩ (iv t.q)).setCell ⟨g, 1, none⟩ (iv t.qu)).setCell ⟨g, 2, none⟩ (iv t.st)).setCell ⟨g, 3, none⟩ (iv t.co)).setCell ⟨g, 4, none⟩ (.bool t.fin)) rfl (by kernel_rfl) (by kernel_rfl) ?_ rfl (fun _ => trivial) ?_
        · go_simp
        refine wpAnyT_done (by kernel_rfl) ?_ _
        generalize hA : Act.put _ _ _ = A0
        simp only [put_mk, put_no, List.setIfInBounds_toArray, List.set_cons_succ, List.set_cons_zero] at hA
        subst hA
        have HZ := Lib.hid (show SpAt B bt w.heap.size w g n d1 ((l.set i t0).set 0 t) (((((X.setCell ⟨g, 0, none⟩ (iv t.q)).setCell ⟨g, 1, none⟩ (iv t.qu)).setCell ⟨g, 2, none⟩ (iv t.st)).setCell ⟨g, 3, none⟩ (iv t.co)).setCell ⟨g, 4, none⟩ (.bool t.fin)) from by have h1 := HX.out.store5 hlt (Nat.le_refl _) HS0.out t; simp only [Nat.zero_mul, Nat.zero_add] at h1; exact h1)
        obtain ⟨Z, hZ⟩ : ∃ Z, (((((X.setCell ⟨g, 0, none⟩ (iv t.q)).setCell ⟨g, 1, none⟩ (iv t.qu)).setCell ⟨g, 2, none⟩ (iv t.st)).setCell ⟨g, 3, none⟩ (iv t.co)).setCell ⟨g, 4, none⟩ (.bool t.fin)) = Z := ⟨_, rfl⟩
        rw [hZ] at HZ
        rw [hZ]
        clear hZ
        go_wp2
        go_ret
        have hln : ((l.set i t0).set 0 t).length = n := by rw [List.length_set, List.length_set, HN.out]
        have f1 := HZ.out.log
        exact ⟨(l.set i t0).set 0 t, some ⟨g, 0, none⟩, d1, (by rw [hln]; rfl), by rw [hln, HN.out]; omega, by rw [hln]; exact f1, HZ.out.tape, HZ.out.but⟩
      · refine wpOp_value 9 (some 96) (.agg #[iv t.q, iv t.qu, iv t.st, iv t.co, .bool t.fin]) (wb.drewN 1) rfl (by kernel_rfl) ?_ rfl ⟨fun _ => trivial, ?_⟩
        · go_simp
        refine wpAnyT_value 5 (some 92) (.agg #[iv t0.q, iv t0.qu, iv t0.st, iv t0.co, .bool t0.fin]) (wb.drewN 1) rfl (by kernel_rfl) (by kernel_rfl) ?_ rfl (fun _ => trivial) ?_
        · go_simp
        refine wpAnyT_value 10 (some 97) (.pointer (some ⟨g, i * 5, none⟩)) (wb.drewN 1) rfl (by kernel_rfl) (by kernel_rfl) ?_ rfl (fun _ => trivial) ?_
        · go_simp
        refine wpAnyT_step 11 none ((((((wb.drewN 1).setCell ⟨g, i * 5, none⟩ (iv t0.q)).setCell ⟨g, i * 5 + 1, none⟩ (iv t0.qu)).setCell ⟨g, i * 5 + 2, none⟩ (iv t0.st)).setCell ⟨g, i * 5 + 3, none⟩ (iv t0.co)).setCell ⟨g, i * 5 + 4, none⟩ (.bool t0.fin)) rfl (by kernel_rfl) (by kernel_rfl) ?_ rfl (fun _ => trivial) ?_
        · go_simp
        obtain ⟨X, hX⟩ : ∃ X, ((((((wb.drewN 1).setCell ⟨g, i * 5, none⟩ (iv t0.q)).setCell ⟨g, i * 5 + 1, none⟩ (iv t0.qu)).setCell ⟨g, i * 5 + 2, none⟩ (iv t0.st)).setCell ⟨g, i * 5 + 3, none⟩ (iv t0.co)).setCell ⟨g, i * 5 + 4, none⟩ (.bool t0.fin)) = X := ⟨_, rfl⟩
        have HX := Lib.hid (show SpAt B bt w.heap.size w g n d1 (l.set i t0) X from by rw [← hX]; exact HB5.out.store5 hlt (Nat.le_refl _) HTI.out t0)
        rw [hX]
        clear hX c0 c1 c2 c3 c4 b0 b1 b2 b3 b4
        obtain ⟨s0, hs0⟩ : ∃ s0, (l.set i t0)[0]? = some s0 := ⟨_, List.getElem?_eq_getElem (by rw [List.length_set, HN.out]; omega)⟩
        have hfx := HX.out.log.form
        have y0 := hfx.2.2.2.2.2.2 0 s0 hs0 0 (by omega)
        have y1 := hfx.2.2.2.2.2.2 0 s0 hs0 1 (by omega)
        have y2 := hfx.2.2.2.2.2.2 0 s0 hs0 2 (by omega)
        have y3 := hfx.2.2.2.2.2.2 0 s0 hs0 3 (by omega)
        have y4 := hfx.2.2.2.2.2.2 0 s0 hs0 4 (by omega)
        have fx := hfx.2.2.2.2.2.1
        simp only [turnC, List.getElem?_cons_zero, List.getElem?_cons_succ, Nat.zero_mul, Nat.zero_add] at y0 y1 y2 y3 y4
        have HS0 := Lib.hid hs0
        clear hfx hs0
        refine wpAnyT_value 12 (some 98) (.pointer (some ⟨g, 0, none⟩)) X rfl (by kernel_rfl) (by kernel_rfl) ?_ rfl (fun _ => trivial) ?_
        · go_simp
        refine wpAnyT_step 13 none (((((X.setCell ⟨g, 0, none⟩ (iv t.q)).setCell ⟨g, 1, none⟩ (iv t.qu)).setCell ⟨g, 2, none⟩ (iv t.st)).setCell ⟨g, 3, none⟩ (iv t.co)).setCell ⟨g, 4, none⟩ (.bool t.fin)) rfl (by kernel_rfl) (by kernel_rfl) ?_ rfl (fun _ => trivial) ?_
        · go_simp
        refine wpAnyT_done (by kernel_rfl) ?_ _
        generalize hA : Act.put _ _ _ = A0
        simp only [put_mk, put_no, List.setIfInBounds_toArray, List.set_cons_succ, List.set_cons_zero] at hA
        subst hA
        have HZ := Lib.hid (show SpAt B bt w.heap.size w g n d1 ((l.set i t0).set 0 t) (((((X.setCell ⟨g, 0, none⟩ (iv t.q)).setCell ⟨g, 1, none⟩ (iv t.qu)).setCell ⟨g, 2, none⟩ (iv t.st)).setCell ⟨g, 3, none⟩ (iv t.co)).setCell ⟨g, 4, none⟩ (.bool t.fin)) from by have h1 := HX.out.store5 hlt (Nat.le_refl _) HS0.out t; simp only [Nat.zero_mul, Nat.zero_add] at h1; exact h1)
        obtain ⟨Z, hZ⟩ : ∃ Z, (((((X.setCell ⟨g, 0, none⟩ (iv t.q)).setCell ⟨g, 1, none⟩ (iv t.qu)).setCell ⟨g, 2, none⟩ (iv t.st)).setCell ⟨g, 3, none⟩ (iv t.co)).setCell ⟨g, 4, none⟩ (.bool t.fin)) = Z := ⟨_, rfl⟩
        rw [hZ] at HZ
        rw [hZ]
        clear hZ
        go_wp2
        go_ret
        have hln : ((l.set i t0).set 0 t).length = n := by rw [List.length_set, List.length_set, HN.out]
        have f1 := HZ.out.log
        exact ⟨(l.set i t0).set 0 t, some ⟨g, 0, none⟩, d1, (by rw [hln]; rfl), by rw [hln, HN.out]; omega, by rw [hln]; exact f1, HZ.out.tape, HZ.out.but⟩
    · have HFR := Lib.hid (HB.out.log.front (show i ≤ n by omega))
      have j3 : (i : Int) ≤ (d1 : Int) := by omega
      have j4 : (n : Int) ≤ (d1 : Int) := by omega
      have j5 : (i : Int) ≤ (n : Int) := by omega
      have hid : ¬ d1 = i := by omega
      have HBK := Lib.hid (show SliceAt wb 53 5 (.slice (some ⟨g, i * 5, none⟩) (n - i) (d1 - i)) (turnsX (l.drop i)) by
        rw [← turnsX_drop]
        have h1 := (show SliceAt wb 53 5 (.slice (some ⟨g, 0, none⟩) n d1) (turnsX l) from by have h2 := SliceAt.of_owns HB.out.log; exact h2).back i (by omega)
        rw [Nat.zero_add] at h1; exact h1)
      have HLB := Lib.hid (show (turnsX (l.drop i)).length = (n - i) * 5 by rw [turnsX_len, List.length_drop, HN.out])
      have hin : n - i ≤ n := Nat.sub_le _ _
      go_upto_region 6 with (fail)
      refine wp_region_D (S := fun w' => True) (st := 13) (by kernel_rfl) ?_
      have hS0 : (fun w' : World => True) (wb.drewN 1) := trivial
      refine wpAnyT_pureD 0 (some 20) ?v26 rfl (by kernel_rfl) (by kernel_rfl) (by kernel_rfl) (by kernel_rfl) (fun _ _ _ h => h) hS0 (by kernel_rfl) rfl ?run26 ?rest26
      case run26 => intro w hS; go_simp; rfl
      refine wpAnyT_pureD 1 (some 21) ?v27 rfl (by kernel_rfl) (by kernel_rfl) (by kernel_rfl) (by kernel_rfl) (fun _ _ _ h => h) hS0 (by kernel_rfl) rfl ?run27 ?rest27
      case run27 => intro w hS; go_simp; rfl
      refine wpAnyT_pureD 2 (some 22) ?v28 rfl (by kernel_rfl) (by kernel_rfl) (by kernel_rfl) (by kernel_rfl) (fun _ _ _ h => h) hS0 (by kernel_rfl) rfl ?run28 ?rest28
      case run28 => intro w hS; go_simp; rfl
      refine wpAnyT_pureD 3 (some 23) ?v29 rfl (by kernel_rfl) (by kernel_rfl) (by kernel_rfl) (by kernel_rfl) (fun _ _ _ h => h) hS0 (by kernel_rfl) rfl ?run29 ?rest29
      case run29 => intro w hS; go_simp; rfl
      refine wpAnyT_pureD 4 (some 24) ?v30 rfl (by kernel_rfl) (by kernel_rfl) (by kernel_rfl) (by kernel_rfl) (fun _ _ _ h => h) hS0 (by kernel_rfl) rfl ?run30 ?rest30
      case run30 => intro w hS; go_simp; rfl
      refine wpAnyT_pureD 5 (some 25) ?v31 rfl (by kernel_rfl) (by kernel_rfl) (by kernel_rfl) (by kernel_rfl) (fun _ _ _ h => h) hS0 (by kernel_rfl) rfl ?run31 ?rest31
      case run31 => intro w hS; go_simp; rfl
      refine wpAnyT_pureD 8 (some 28) ?v32 rfl (by kernel_rfl) (by kernel_rfl) (by kernel_rfl) (by kernel_rfl) (fun _ _ _ h => h) hS0 (by kernel_rfl) rfl ?run32 ?rest32
      case run32 => intro w hS; go_simp; rfl
      refine wpAnyT_pureD 9 (some 29) ?v33 rfl (by kernel_rfl) (by kernel_rfl) (by kernel_rfl) (by kernel_rfl) (fun _ _ _ h => h) hS0 (by kernel_rfl) rfl ?run33 ?rest33
      case run33 => intro w hS; go_simp; rfl
      refine wpAnyT_pureD 10 (some 30) ?v34 rfl (by kernel_rfl) (by kernel_rfl) (by kernel_rfl) (by kernel_rfl) (fun _ _ _ h => h) hS0 (by kernel_rfl) rfl ?run34 ?rest34
      case run34 => intro w hS; go_simp; rfl
      refine wpAnyT_value 6 (some 26) ?vv103 (wb.drewN 1) rfl (by kernel_rfl) (by kernel_rfl) ?rv103 rfl (fun _ => trivial) ?_
      case rv103 => go_simp; rfl
      refine wpAnyT_value 7 (some 27) (.slice (some ⟨wb.heap.size, 0, none⟩) 1 1) ((wb.drewN 1).alloc (.cells [iv t.q, iv t.qu, iv t.st, iv t.co, .bool t.fin].toArray 53)) rfl (by kernel_rfl) (by kernel_rfl) ?ra6 rfl (fun _ => trivial) ?_
      case ra6 => go_simp
      obtain ⟨Y, hY⟩ : ∃ Y, (wb.drewN 1).alloc (.cells [iv t.q, iv t.qu, iv t.st, iv t.co, .bool t.fin].toArray 53) = Y := ⟨_, rfl⟩
      have hbY : Below wb.heap.size wb Y := by rw [← hY]; exact (below_drewQ (Below.refl _ _) 1).alloc (Nat.le_refl _) _
      have HOY := Lib.hid (show Y.ownsRow wb.heap.size 53 5 (.slice (some ⟨wb.heap.size, 0, none⟩) 1 1) 1 (turnsX [t]) from ⟨rfl, .inr ⟨wb.heap.size, 1, [iv t.q, iv t.qu, iv t.st, iv t.co, .bool t.fin].toArray, rfl, Nat.le_refl _, by rw [← hY]; exact heap_alloc_new (wb.drewN 1) _, Nat.le_refl _, by decide, rfl, by simp [turnsX, turnC]⟩⟩)
      have HBY := Lib.hid hbY
      rw [hY]
      clear hY hbY
      refine wpAnyT_append 11 (some 31) rfl (by kernel_rfl) (by kernel_rfl) rfl _ _ 28 rfl wb.heap.size 53 _ 5 40 Try.underlying28 info_turn rfl (by decide) _ 1 (turnsX [t]) HOY.out (by kernel_rfl) (.slice (some ⟨g, i * 5, none⟩) (n - i) (d1 - i)) (n - i) (turnsX (l.drop i)) (by kernel_rfl) (SliceAt.same HBK.out (SameT.below HBY.out)) HLB.out (turnsX_oc _) (by unfold maxLen; omega) (by omega) HBY.out.size ?_
      intro g2 d2 v2 own2 gr2
      have OW2 := Lib.hid own2
      have B2 := Lib.hid (show Below wb.heap.size wb v2 from HBY.out.trans (Below.of_grown gr2 HOY.out HBY.out.size))
      clear own2 gr2
      refine ⟨fun _ => trivial, ?_⟩
      have hB2 : w.heap.size ≤ v2.heap.size := Nat.le_trans hBb B2.out.size
      refine wpAnyT_append 12 (some 32) rfl (by kernel_rfl) (by kernel_rfl) rfl _ _ 28 rfl w.heap.size 53 _ 5 40 Try.underlying28 info_turn rfl (by decide) (.slice (some ⟨g, 0, none⟩) i d1) i (turnsX (l.take i)) (own_below HFR.out B2.out) (by kernel_rfl) (.slice g2 (1 + (n - i)) d2) (1 + (n - i)) (turnsX [t] ++ turnsX (l.drop i)) (by kernel_rfl) (SliceAt.of_owns OW2.out) (by rw [List.length_append, HLB.out]; simp [turnsX, turnC]; omega) (by rw [← turnsX_app]; exact turnsX_oc _) (by unfold maxLen; omega) (by omega) hB2 ?_
      intro g3 d3 v3 own3 gr3
      have OW3 := Lib.hid own3
      have B3' := Lib.hid (show Below w.heap.size wb v3 from (B2.out.mono hBb).trans (Below.of_grown gr3 (own_below HFR.out B2.out) hB2))
      clear own3 gr3
      refine ⟨fun _ => trivial, ?_⟩
      refine wpAnyT_value 13 (some 5) ?vv104 v3 rfl (by kernel_rfl) (by kernel_rfl) ?rv104 rfl (fun _ => trivial) ?_
      case rv104 => go_simp; rfl
      refine wpAnyT_done (by kernel_rfl) ?_ _
      generalize hA : Act.put _ _ _ = A0
      simp only [put_mk, put_no, List.setIfInBounds_toArray, List.set_cons_succ, List.set_cons_zero] at hA
      subst hA
      go_wp2
      go_ret
      have hln : (l.take i ++ ([t] ++ l.drop i)).length = i + (1 + (n - i)) := by simp only [List.length_append, List.length_take, List.length_drop, HN.out, List.length_singleton]; omega
      obtain ⟨f1, f2, f3⟩ := HB.out.fin (l' := l.take i ++ ([t] ++ l.drop i)) hlt (Nat.le_refl _) B3'.out hln.symm (by have h1 := OW3.out; rw [← turnsX_app, ← turnsX_app] at h1; exact h1) (Nat.le_refl _) hBb
      rw [hln] at f1
      exact ⟨l.take i ++ ([t] ++ l.drop i), g3, d3, (by rw [hln]; rfl), by rw [hln, HN.out]; omega, by rw [hln]; exact f1, f2, f3⟩
end Go.Proofs.Ytbgoogjhgeoapaa
