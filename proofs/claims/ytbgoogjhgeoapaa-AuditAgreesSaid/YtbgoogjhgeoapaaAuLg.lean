/- Walks: flqref19.Pick at an empty ring; flqlaw30.log. Printed by wip/gen_aulg.py. -/
import Derived.Test.YtbgoogjhgeoapaaAuG7
import Derived.Test.YtbgoogjhgeoapaaAuRq
import Derived.Test.YtbgoogjhgeoapaaTape
set_option linter.unusedVariables false
set_option linter.unusedSimpArgs false
set_option linter.unusedSectionVars false
namespace Go.Proofs.Ytbgoogjhgeoapaa
open Go.RowKit
variable [Base]

set_option maxRecDepth 100000 in
set_option maxHeartbeats 4000000 in
theorem pick_none (r : RV) (v : Value) (w : World) (h : SeatsAt w v r.ss) (hr : RingOk r) (hn : r.ss = []) :
    Calls Try.prog 18 #[ringV r v] w fun e w' => e = .returned (.tuple #[ringV r v, iv 0, .slice none 0 0, .bool false]) ∧ Below w.heap.size w w' := by
  have HX := Lib.hid h
  have HR := Lib.hid hr
  obtain ⟨a, c, rfl, -, -, -, -⟩ := h.cell
  rw [show r.ss.length = 0 by rw [hn]; rfl] at HX ⊢
  have HVR := Lib.hid (show ∀ w', SeatsAt w' (.slice a 0 c) r.ss → Calls Try.prog 29 #[ringV r (.slice a 0 c)] w' (BoolQ true w') from fun w' h' => vring_any r _ w' h' HR.out)
  unfold ringV at HVR ⊢
  obtain ⟨at0, hat⟩ : ∃ a, r.at_ = a := ⟨_, rfl⟩
  obtain ⟨op0, hop⟩ : ∃ a, r.op = a := ⟨_, rfl⟩
  rw [hat, hop] at HVR ⊢
  obtain ⟨W, hW⟩ : ∃ W, (w.alloc (.cells #[iv r.ba, iv r.pe, .slice a 0 c, iv at0, .bool op0] 44)).alloc (.cells #[iv 0, iv 0, .slice none 0 0, iv 0, .bool false] 44) = W := ⟨_, rfl⟩
  obtain ⟨rb, hrb⟩ : ∃ b, w.heap.size = b := ⟨_, rfl⟩
  have HB := Lib.hid (show W.heap[rb]? = some (.cells #[iv r.ba, iv r.pe, .slice a 0 c, iv at0, .bool op0] 44 (0, 0)) by rw [← hW, ← hrb]; exact lies_alloc _ (heap_alloc_new _ _))
  have HZ := Lib.hid (show W.heap[rb + 1]? = some (.cells #[iv 0, iv 0, .slice none 0 0, iv 0, .bool false] 44 (0, 0)) by rw [← hW, ← hrb]; exact lies_new2 _ _)
  have BW := Lib.hid (show Below w.heap.size w W by rw [← hW]; exact ((Below.refl _ _).alloc (Nat.le_refl _) _).alloc (by simp) _)
  have HW := Lib.hid hW
  have HRB := Lib.hid hrb
  have hud : ∀ b : Bool, (undef = Value.bool b) = False := fun b => by simp [undef]
  clear h hr hat hop hW hn
  go_enter Try.func18, Try.ntmps18
  go_wp2_with fail
  rw [show (w.alloc (.cells #[iv r.ba, iv r.pe, .slice a 0 c, iv at0, .bool op0] 44)).alloc (.cells #[iv 0, iv 0, .slice none 0 0, iv 0, .bool false] 44) = W from HW.out]
  try rw [HRB.out]
  obtain ⟨x0, x1, x2, x3, x4⟩ := cells5 HB.out
  clear hrb
  go_wp2_with (go_at_call 29; refine (HVR.out _ (HX.out.below BW.out)).mono ?_; rintro e w1 ⟨rfl, b1⟩; have B1 := Lib.hid b1; clear b1 x0 x1 x2 x3 x4; have HB1 := Lib.hid (lies_below HB.out B1.out (lt_heap HB.out)); have HZ1 := Lib.hid (lies_below HZ.out B1.out (lt_heap HZ.out)); obtain ⟨x0, x1, x2, x3, x4⟩ := cells5 HB1.out; obtain ⟨z0, z1, z2, z3, z4⟩ := cells5 HZ1.out; have fz := (lies_cells HZ1.out).2)
  show bodyPost _ _ _ _ _ (((((w1.setCell ⟨rb + 1, 0, none⟩ (iv r.ba)).setCell ⟨rb + 1, 1, none⟩ (iv r.pe)).setCell ⟨rb + 1, 2, none⟩ (.slice a 0 c)).setCell ⟨rb + 1, 3, none⟩ (iv (at0 : Nat))).setCell ⟨rb + 1, 4, none⟩ (.bool op0))
  obtain ⟨F, hF⟩ : ∃ F, (((((w1.setCell ⟨rb + 1, 0, none⟩ (iv r.ba)).setCell ⟨rb + 1, 1, none⟩ (iv r.pe)).setCell ⟨rb + 1, 2, none⟩ (.slice a 0 c)).setCell ⟨rb + 1, 3, none⟩ (iv (at0 : Nat))).setCell ⟨rb + 1, 4, none⟩ (.bool op0)) = F := ⟨_, rfl⟩
  rw [hF]
  have HFF := Lib.hid (fin_any (B := 0) (l := []) (s := .slice none 0 0) HZ1.out ⟨rfl, .inl ⟨rfl, rfl⟩⟩ (BW.out.trans (B1.out.mono BW.out.size)) HRB.out hF.symm)
  clear hF
  obtain ⟨f0, f1, f2, f3, f4⟩ := cells5 HFF.out.1
  refine bodyPost_ret (v := .tuple #[.agg #[iv r.ba, iv r.pe, .slice a 0 c, iv at0, .bool op0], iv 0, .slice none 0 0, .bool false]) (by simp [results, Try.results18, go_sem, f0, f1, f2, f3, f4]) rfl ⟨rfl, HFF.out.2.2⟩
/-- What stands in memory between the log's rounds. -/
structure LogAt (B bt Bs rb : Nat) (w0 : World) (r : RV) (rv : Value) (lv : Value) (l : List TV) (x : World) : Prop where
  tape : TapeOk B x bt
  but : But bt w0 x
  rbk : x.heap[rb]? = some (.cells #[iv r.ba, iv r.pe, rv, iv r.at_, .bool r.op] 44 (0, 0))
  own : OwnS Bs x rv r.ss
  log : OwnT Bs x lv l
theorem own_btk {w w' : World} {bt B : Nat} {e : TypeId} {size : Nat} {v : Value} {n : Nat} {xs : List Value} (h : w.ownsRow B e size v n xs) (hb : But bt w w') (hB : bt < B) : w'.ownsRow B e size v n xs :=
  own_keep h fun q hq hq2 => hb.block q hq (by omega)
theorem LogAt.next {B bt Bs rb : Nat} {w0 : World} {r : RV} {rv lv : Value} {l : List TV} {x y : World} (h : LogAt B bt Bs rb w0 r rv lv l x) (h1 : bt < rb) (h2 : rb < Bs) (ht : TapeOk B y bt) (hb : But bt x y) : LogAt B bt Bs rb w0 r rv lv l y :=
  ⟨ht, h.but.trans hb, (hb.block rb (lt_heap h.rbk) (by omega)).trans h.rbk, own_btk h.own hb (by omega), own_btk h.log hb (by omega)⟩
theorem LogAt.below {B bt Bs rb : Nat} {w0 : World} {r : RV} {rv lv : Value} {l : List TV} {x y : World} (h : LogAt B bt Bs rb w0 r rv lv l x) (hb : Below x.heap.size x y) : LogAt B bt Bs rb w0 r rv lv l y :=
  ⟨h.tape.below hb, h.but.below hb, lies_below h.rbk hb (lt_heap h.rbk), own_below h.own hb, own_below h.log hb⟩
/-- The variable r is stored. -/
theorem LogAt.ring {B bt Bs rb : Nat} {w0 : World} {r r' : RV} {rv lv rv' : Value} {l : List TV} {x : World} (h : LogAt B bt Bs rb w0 r rv lv l x) (h1 : bt < rb) (h2 : rb < Bs) (h3 : w0.heap.size ≤ rb) (ho : OwnS Bs x rv' r'.ss) :
    LogAt B bt Bs rb w0 r' rv' lv l (((((x.setCell ⟨rb, 0, none⟩ (iv r'.ba)).setCell ⟨rb, 1, none⟩ (iv r'.pe)).setCell ⟨rb, 2, none⟩ rv').setCell ⟨rb, 3, none⟩ (iv r'.at_)).setCell ⟨rb, 4, none⟩ (.bool r'.op)) := by
  have e1 := set_cells (o := 4) (u := .bool r'.op) (set_cells (o := 3) (u := iv r'.at_) (set_cells (o := 2) (u := rv') (set_cells (o := 1) (u := iv r'.pe) (set_cells (o := 0) (u := iv r'.ba) h.rbk))))
  have hk : ∀ q, q ≠ rb → (((((x.setCell ⟨rb, 0, none⟩ (iv r'.ba)).setCell ⟨rb, 1, none⟩ (iv r'.pe)).setCell ⟨rb, 2, none⟩ rv').setCell ⟨rb, 3, none⟩ (iv r'.at_)).setCell ⟨rb, 4, none⟩ (.bool r'.op)).heap[q]? = x.heap[q]? := fun q hq => by
    rw [Below.heap_setCell _ _ _ _ (by exact hq), Below.heap_setCell _ _ _ _ (by exact hq), Below.heap_setCell _ _ _ _ (by exact hq), Below.heap_setCell _ _ _ _ (by exact hq), Below.heap_setCell _ _ _ _ (by exact hq)]
  have hge := h.tape.ge
  refine ⟨h.tape.keep (hk bt (by omega)) (fun q hq => hk q (by omega)) (by simp), ?_, e1, own_keep ho fun q _ hq => hk q (by omega), own_keep h.log fun q _ hq => hk q (by omega)⟩
  exact ((((h.but.setCell ⟨rb, 0, none⟩ (.inr h3) _).setCell ⟨rb, 1, none⟩ (.inr h3) _).setCell ⟨rb, 2, none⟩ (.inr h3) _).setCell ⟨rb, 3, none⟩ (.inr h3) _).setCell ⟨rb, 4, none⟩ (.inr h3) _
/-- A block of another kind turned. -/
theorem LogAt.other {B bt Bs rb T : Nat} {w0 : World} {r : RV} {rv lv : Value} {l : List TV} {x y : World} (h : LogAt B bt Bs rb w0 r rv lv l x) (h1 : bt < rb) (h2 : rb < Bs) (hT : Bs ≤ T) (hr : rv.ownBlock ≠ some T) (hl : lv.ownBlock ≠ some T) (hk : But T x y) (h3 : w0.heap.size ≤ rb) : LogAt B bt Bs rb w0 r rv lv l y := by
  have hlt := lt_heap h.rbk
  have hge := h.tape.ge
  refine ⟨h.tape.keep (hk.block bt (by omega) (by omega)) (fun q hq => hk.block q (by omega) (by omega)) hk.size, ?_, (hk.block rb hlt (by omega)).trans h.rbk, own_but h.own hk hr, own_but h.log hk hl⟩
  exact ⟨hk.os.trans h.but.os, hk.tape.trans h.but.tape, hk.output.trans h.but.output, Nat.le_trans h.but.size hk.size, fun q hq hq2 => (hk.block q (Nat.lt_of_lt_of_le hq h.but.size) (by omega)).trans (h.but.block q hq hq2)⟩
/-- The log is appended to. -/
theorem LogAt.app {B bt Bs rb : Nat} {w0 : World} {r : RV} {rv lv : Value} {l m : List TV} {x U v : World} (h : LogAt B bt Bs rb w0 r rv lv l x) (h1 : bt < rb) (h2 : rb < Bs) (h3 : w0.heap.size ≤ rb) (hU : Below x.heap.size x U) (hUs : Bs ≤ U.heap.size) {a : Option Addr} {d n : Nat} (hn : n = (l ++ m).length)
    (ho : v.ownsRow Bs 53 5 (.slice a n d) n (turnsX l ++ turnsX m)) (hg : U.grownBy v lv.ownBlock) : LogAt B bt Bs rb w0 r rv (.slice a n d) (l ++ m) v := by
  have hge := h.tape.ge
  have hba := h.tape.base
  have hbB : Base.b ≤ Bs := by omega
  have ht : U.ownsRow Bs 53 5 lv l.length (turnsX l) := own_below h.log hU
  have s1 : SameT 49 U v := SameT.grown hg ht ST_ne_TT hbB
  have hB1 : Below Bs U v := Below.of_grown hg ht hUs
  have hrb : rb < U.heap.size := by omega
  have hUb := h.but.below hU
  refine ⟨(h.tape.below hU).keep (hB1.block bt (by omega)) (fun q hq => hB1.block q (by omega)) hB1.size, ?_, (hB1.block rb (by omega)).trans (lies_below h.rbk hU (lt_heap h.rbk)), own_same (own_below h.own hU) s1, ?_⟩
  · exact ⟨hB1.os.trans hUb.os, hB1.tape.trans hUb.tape, hB1.output.trans hUb.output, Nat.le_trans hUb.size hB1.size, fun q hq hq2 => (hB1.block q (by omega)).trans (hUb.block q hq hq2)⟩
  · subst hn
    unfold OwnT
    rw [turnsX_app]
    exact ho
/-- .. with the ring that Pick has answered. -/
structure TailAt (B bt Bs rb T : Nat) (w0 : World) (r : RV) (rv lv : Value) (l : List TV) (r1 : RV) (v1 : Value) (x : World) : Prop where
  at_ : LogAt B bt Bs rb w0 r rv lv l x
  blk : x.heap[T]? = some (.cells #[iv r1.ba, iv r1.pe, v1, iv r1.at_, .bool r1.op] 44 (0, 0))
  own : OwnS Bs x v1 r1.ss
  hT : Bs ≤ T
theorem TailAt.next {B bt Bs rb T : Nat} {w0 : World} {r r1 : RV} {rv lv v1 : Value} {l : List TV} {x y : World} (h : TailAt B bt Bs rb T w0 r rv lv l r1 v1 x) (h1 : bt < rb) (h2 : rb < Bs) (ht : TapeOk B y bt) (hb : But bt x y) : TailAt B bt Bs rb T w0 r rv lv l r1 v1 y :=
  ⟨h.at_.next h1 h2 ht hb, (hb.block T (lt_heap h.blk) (by have := h.hT; omega)).trans h.blk, own_btk h.own hb (by omega), h.hT⟩
theorem TailAt.below {B bt Bs rb T : Nat} {w0 : World} {r r1 : RV} {rv lv v1 : Value} {l : List TV} {x y : World} (h : TailAt B bt Bs rb T w0 r rv lv l r1 v1 x) (hb : Below x.heap.size x y) : TailAt B bt Bs rb T w0 r rv lv l r1 v1 y :=
  ⟨h.at_.below hb, lies_below h.blk hb (lt_heap h.blk), own_below h.own hb, h.hT⟩
theorem TailAt.app {B bt Bs rb T : Nat} {w0 : World} {r r1 : RV} {rv lv v1 : Value} {l m : List TV} {x U v : World} (h : TailAt B bt Bs rb T w0 r rv lv l r1 v1 x) (h1 : bt < rb) (h2 : rb < Bs) (h3 : w0.heap.size ≤ rb) (hU : Below x.heap.size x U) (hUs : Bs ≤ U.heap.size) {a : Option Addr} {d n : Nat} (hn : n = (l ++ m).length)
    (ho : v.ownsRow Bs 53 5 (.slice a n d) n (turnsX l ++ turnsX m)) (hg : U.grownBy v lv.ownBlock) : TailAt B bt Bs rb T w0 r rv (.slice a n d) (l ++ m) r1 v1 v := by
  have hge := h.at_.tape.ge
  have hba := h.at_.tape.base
  have hbB : Base.b ≤ Bs := by omega
  have ht : U.ownsRow Bs 53 5 lv l.length (turnsX l) := own_below h.at_.log hU
  have s1 : SameT 49 U v := SameT.grown hg ht ST_ne_TT hbB
  have s2 : SameT 44 U v := SameT.grown hg ht RT_ne_TT hbB
  exact ⟨h.at_.app h1 h2 h3 hU hUs hn ho hg, s2.own (lies_below h.blk hU (lt_heap h.blk)), own_same (own_below h.own hU) s1, h.hT⟩
theorem turnsX_set3 (l : List TV) (x : TV) (co : Int) (fin : Bool) : (((turnsX (l ++ [x])).set (l.length * 5 + 2) (iv 1)).set (l.length * 5 + 3) (iv co)).set (l.length * 5 + 4) (.bool fin) = turnsX (l ++ [⟨x.q, x.qu, 1, co, fin⟩]) := by
  have hl := turnsX_len l
  have st : ∀ (ys : List Value) (j : Nat) (u : Value), (turnsX l ++ ys).set (l.length * 5 + j) u = turnsX l ++ ys.set j u := fun ys j u => by
    rw [List.set_append_right _ _ (by omega), hl, Nat.add_sub_cancel_left]
  rw [turnsX_app, turnsX_app, st, st, st]
  rfl
/-- The last entry's steps, cost and mark are stored. -/
theorem TailAt.last {B bt Bs rb T : Nat} {w0 : World} {r r1 : RV} {rv v1 : Value} {l : List TV} {t : TV} {x : World} {g M d : Nat} (h : TailAt B bt Bs rb T w0 r rv (.slice (some ⟨g, 0, none⟩) (M + 1) d) (l ++ [t]) r1 v1 x) (h1 : bt < rb) (h2 : rb < Bs) (h3 : w0.heap.size ≤ rb) (hM : M = l.length) (co : Int) (fin : Bool) :
    TailAt B bt Bs rb T w0 r rv (.slice (some ⟨g, 0, none⟩) (M + 1) d) (l ++ [⟨t.q, t.qu, 1, co, fin⟩]) r1 v1 (((x.setCell ⟨g, M * 5 + 2, none⟩ (iv 1)).setCell ⟨g, M * 5 + 3, none⟩ (iv co)).setCell ⟨g, M * 5 + 4, none⟩ (.bool fin)) := by
  subst hM
  have hlog := h.at_.log
  unfold OwnT at hlog
  rw [List.length_append, List.length_singleton] at hlog
  obtain ⟨-, hl2⟩ := hlog
  have hgB : Bs ≤ g ∧ ∃ cur : Array Value, x.heap[g]? = some (.cells cur 53 (0, 0)) := by
    rcases hl2 with ⟨hh, _⟩ | ⟨g', cap, cur, e1, e2, e3, _⟩
    · cases hh
    · injection e1 with e1
      injection e1 with e1
      injection e1 with e1
      subst e1
      exact ⟨e2, cur, e3⟩
  obtain ⟨hgB, cur, hgc⟩ := hgB
  have hk : But g x (((x.setCell ⟨g, l.length * 5 + 2, none⟩ (iv 1)).setCell ⟨g, l.length * 5 + 3, none⟩ (iv co)).setCell ⟨g, l.length * 5 + 4, none⟩ (.bool fin)) := (((But.refl g x).setCell ⟨g, _, none⟩ (.inl rfl) _).setCell ⟨g, _, none⟩ (.inl rfl) _).setCell ⟨g, _, none⟩ (.inl rfl) _
  have hlog := h.at_.log
  unfold OwnT at hlog
  rw [List.length_append, List.length_singleton] at hlog
  have o3 := own_set (own_set (own_set hlog (j := l.length * 5 + 2) (iv 1)) (j := l.length * 5 + 3) (iv co)) (j := l.length * 5 + 4) (.bool fin)
  rw [turnsX_set3] at o3
  have hlt := lt_heap h.at_.rbk
  have hge := h.at_.tape.ge
  have hba := h.hT
  have hTg : T ≠ g := fun e => by
    have hb := h.blk
    rw [e, hgc] at hb
    injection hb with hb
    injection hb with _ hb _
    exact RT_ne_TT hb.symm
  refine ⟨⟨h.at_.tape.keep (hk.block bt (by omega) (by omega)) (fun q hq => hk.block q (by omega) (by omega)) hk.size, ?_, (hk.block rb hlt (by omega)).trans h.at_.rbk, own_but h.at_.own hk (own_ne_block h.at_.own hgc ST_ne_TT), ?_⟩, (hk.block T (lt_heap h.blk) hTg).trans h.blk, own_but h.own hk (own_ne_block h.own hgc ST_ne_TT), h.hT⟩
  · exact ⟨hk.os.trans h.at_.but.os, hk.tape.trans h.at_.but.tape, hk.output.trans h.at_.but.output, Nat.le_trans h.at_.but.size hk.size, fun q hq hq2 => (hk.block q (Nat.lt_of_lt_of_le hq h.at_.but.size) (by omega)).trans (h.at_.but.block q hq hq2)⟩
  · unfold OwnT
    rw [List.length_append, List.length_singleton]
    exact o3
theorem OwnT.slice {B : Nat} {w : World} {v : Value} {l : List TV} (h : OwnT B w v l) : ∃ a c, v = .slice a l.length c := by
  rcases h.2 with ⟨h2, h3⟩ | ⟨g, cap, cur, e1, _⟩
  · exact ⟨none, 0, by rw [h2, h3]⟩
  · exact ⟨_, _, e1⟩
/-- The cells of a log's last entry. -/
theorem OwnT.lastCells {B : Nat} {x : World} {g M d : Nat} {l : List TV} {t : TV} (h : OwnT B x (.slice (some ⟨g, 0, none⟩) (M + 1) d) (l ++ [t])) (hM : M = l.length) : (∀ o, x.frozen? ⟨g, o, none⟩ = false) ∧ g < x.heap.size ∧ ∀ j, j < 5 → x.cell? ⟨g, M * 5 + j, none⟩ = (turnC t)[j]? := by
  subst hM
  unfold OwnT at h
  obtain ⟨h1, h2⟩ := h
  rcases h2 with ⟨h2, _⟩ | ⟨g', cap, cur, e1, e2, e3, e4, e5, e6, e7⟩
  · cases h2
  · injection e1 with e1 e9 e8
    injection e1 with e1
    injection e1 with e1 _
    subst e1 e8
    refine ⟨(lies_cells e3).2, lt_heap e3, fun j hj => ?_⟩
    have hx : (turnsX (l ++ [t]))[l.length * 5 + j]? = (turnC t)[j]? := by
      have hl := turnsX_len l
      rw [turnsX_app, List.getElem?_append_right (by omega), hl, Nat.add_sub_cancel_left]
      simp [turnsX]
    rw [(lies_cells e3).1, ← hx, ← e7, List.getElem?_take_of_lt (by rw [List.length_append, List.length_singleton]; omega), Array.getElem?_toList]
theorem OwnS.sl {B : Nat} {w : World} {v : Value} {l : List SV} (h : OwnS B w v l) : ∃ a c, v = .slice a l.length c := by
  rcases h.val with ⟨h, h2⟩ | ⟨g, c, h, _⟩
  · exact ⟨none, 0, by rw [h, h2]; rfl⟩
  · exact ⟨_, _, h⟩
/-- The log's answer. -/
def LogQ (B bt : Nat) (c : CV) (w : World) (e : Ending) (w' : World) : Prop := ∃ r l n v', LogI c 25 r l n ∧ e = .returned v' ∧ TurnsAt w' v' l ∧ OwnT w.heap.size w' v' l ∧ TapeOk B w' bt ∧ But bt w w'
set_option maxRecDepth 100000 in
set_option maxHeartbeats 16000000 in
theorem log_any {B bt : Nat} {w : World} (ht : TapeOk B w bt) (c : CV) (hc : 1 ≤ c.ba ∧ c.ba ≤ 64) (hc2 : 1 ≤ c.ag ∧ c.ag ≤ 1024) : Calls Try.prog 8 #[pv bt, cfgV c] w (LogQ B bt c w) := by
  have HT := Lib.hid ht
  have HC := Lib.hid hc
  have HC2 := Lib.hid hc2
  have hlt := ht.lt
  unfold cfgV
  obtain ⟨W, hW⟩ : ∃ W, w.alloc (.cells #[iv c.p, iv c.pe, iv c.me, iv c.no, iv c.ed, iv c.ba, iv c.ag] 26) = W := ⟨_, rfl⟩
  have HB := Lib.hid (show W.heap[w.heap.size]? = some (.cells #[iv c.p, iv c.pe, iv c.me, iv c.no, iv c.ed, iv c.ba, iv c.ag] 26 (0, 0)) by rw [← hW]; exact heap_alloc_new _ _)
  have BW := Lib.hid (show Below w.heap.size w W by rw [← hW]; exact (Below.refl _ _).alloc (Nat.le_refl _) _)
  have HW := Lib.hid hW
  have x5 := (lies_cells HB.out).1 5
  have x6 := (lies_cells HB.out).1 6
  simp only [List.getElem?_toArray, List.getElem?_cons_zero, List.getElem?_cons_succ] at x5 x6
  have hud : ∀ b : Bool, (undef = Value.bool b) = False := fun b => by simp [undef]
  clear ht hc hc2 hW
  go_enter Try.func8, Try.ntmps8
  go_wp2_with fail
  rw [show w.alloc (.cells #[iv c.p, iv c.pe, iv c.me, iv c.no, iv c.ed, iv c.ba, iv c.ag] 26) = W from HW.out]
  go_wp2_with (go_at_call 15; refine (rnew_any c.ba c.ag _ HC.out HC2.out).mono ?_; rintro e w1 ⟨rfl, b1⟩; have B1 := Lib.hid b1; unfold ringV; clear b1 x5 x6)
  obtain ⟨rb, hrb⟩ : ∃ b, w1.heap.size = b := ⟨_, rfl⟩
  have hwr : w.heap.size < rb := by have h1 := B1.out.size; have h2 := lt_heap HB.out; omega
  obtain ⟨Bs, hBs⟩ : ∃ b, rb + 1 = b := ⟨_, rfl⟩
  have HL0 := Lib.hid (show LogAt B bt Bs rb w ⟨c.ba, c.ag, [], 0, false⟩ (.slice none 0 0) (.slice none 0 0) [] (w1.alloc (.cells #[iv c.ba, iv c.ag, .slice none 0 0, iv 0, .bool false] 44)) from by
    have hb1 : Below w.heap.size w w1 := BW.out.trans (B1.out.mono BW.out.size)
    exact ⟨(HT.out.below hb1).alloc _, ((But.refl bt w).below hb1).alloc _, by rw [← hrb]; exact heap_alloc_new _ _, ⟨rfl, .inl ⟨rfl, rfl⟩⟩, ⟨rfl, .inl ⟨rfl, rfl⟩⟩⟩)
  have hbr : bt < rb := by omega
  have hrB : rb < Bs := by omega
  have HBR := Lib.hid (show rb + 1 = Bs from hBs)
  have hw3 : w.heap.size ≤ rb := by omega
  have HX0 := Lib.hid (show Bs = (w1.alloc (.cells #[iv c.ba, iv c.ag, .slice none 0 0, iv 0, .bool false] 44)).heap.size by rw [← hBs, ← hrb]; simp)
  obtain ⟨X0, hX0⟩ : ∃ X, w1.alloc (.cells #[iv c.ba, iv c.ag, .slice none 0 0, iv 0, .bool false] 44) = X := ⟨_, rfl⟩
  rw [hX0] at HL0 HX0
  have HXX := Lib.hid hX0
  have hwb : Base.b ≤ B := HT.out.base
  have hBt : B ≤ bt := HT.out.ge
  clear hBs hX0 hwr
  try rw [show w1.alloc (.cells #[iv c.ba, iv c.ag, .slice none 0 0, iv 0, .bool false] 44) = X0 from HXX.out]
  try rw [hrb]
  clear hrb
  go_loopw [7, 8, 9] (fun y7 y8 y9 wr => ∃ (i : Nat) (r : RV) (rv : Value) (l : List TV) (n : Nat) (a : Option Addr) (m ct : Nat), i ≤ 25 ∧ y9 = .int .i64 i ∧ y8 = .int .i64 n ∧ y7 = .slice a m ct ∧ Hid (m = l.length) ∧ Hid (LogI c i r l n) ∧ Hid (LogAt B bt Bs rb w r rv (.slice a m ct) l wr)) (fun _ _ y _ => 25 - (intOf y).toNat)
  case atStart => exact ⟨0, _, _, [], 0, none, 0, 0, by omega, rfl, rfl, rfl, rfl, .start, HL0.out⟩
  case round =>
    obtain ⟨i, r, rv, l, nx, a, m, ct, hi, rfl, rfl, rfl, HM, HI, HLA⟩ := hrel
    by_cases hlt2 : i < 25
    rotate_left
    · obtain rfl : i = 25 := by omega
      go_wp2
      go_ret
      exact ⟨r, l, nx, _, HI.out, rfl, HLA.out.log.turns, own_base HLA.out.log (by omega), HLA.out.tape, HLA.out.but⟩
    have hf := HI.out.facts HC.out HC2.out (by omega)
    have hm : m ≤ 775 := by have h1 := hf.ll; have h2 := HM.out; omega
    have HF := Lib.hid hf
    obtain ⟨sa, sc, rfl⟩ := HLA.out.own.sl
    obtain ⟨n, hn⟩ : ∃ n, r.ss.length = n := ⟨_, rfl⟩
    have hn4 : n ≤ 4 := by rw [← hn]; exact hf.len
    have hnx : nx ≤ 25 := by have := hf.nk; omega
    have HN := Lib.hid hn
    rw [hn] at HLA
    try rw [hn]
    clear hf hn
    go_wp2_with fail
    refine (next_any HLA.out.tape 6 (by omega)).mono ?_
    rintro e wn ⟨z, z1, z2, rfl, tn, bn⟩
    have HLB := Lib.hid (HLA.out.next hbr hrB tn bn)
    clear tn bn
    obtain ⟨zn, rfl⟩ := Int.eq_ofNat_of_zero_le z1
    obtain ⟨at0, hat⟩ : ∃ a, r.at_ = a := ⟨_, rfl⟩
    obtain ⟨op0, hop⟩ : ∃ a, r.op = a := ⟨_, rfl⟩
    have HAT := Lib.hid hat
    have HOP := Lib.hid hop
    have HRB := Lib.hid HLB.out.rbk
    rw [hat, hop] at HRB
    obtain ⟨x0, x1, x2, x3, x4⟩ := cells5 HRB.out
    have hltr : rb < wn.heap.size := lt_heap HRB.out
    have HRV := Lib.hid (show ∀ v, ringV r v = .agg #[iv r.ba, iv r.pe, v, iv at0, .bool op0] from fun v => by unfold ringV; rw [hop, hat])
    clear hat hop
    rcases (by omega : zn = 0 ∨ zn = 1 ∨ 2 ≤ zn) with hz | hz | hz
    · subst hz
      go_upto_region 17 with (fail)
      obtain ⟨at2, hat2⟩ : ∃ a, (addR r nx 0).at_ = a := ⟨_, rfl⟩
      have HRC := Lib.hid (show ∀ (p : Int) v, ringV (addR r nx p) v = .agg #[iv r.ba, iv r.pe, v, iv at2, .bool op0] from fun p v => by unfold ringV; rw [← hat2, ← HOP.out]; rfl)
      have HAT2 := Lib.hid hat2
      have HADD := Lib.hid (show ∀ (p : Int) w', 0 ≤ p → p ≤ 3 → OwnS Bs w' (.slice sa n sc) r.ss → Bs ≤ w'.heap.size → Calls Try.prog 16 #[.agg #[iv r.ba, iv r.pe, .slice sa n sc, iv at0, .bool op0], iv nx, iv p] w' (RingQ Bs (addR r nx p) (iv 0) w') from fun p w' q1 q2 q3 q4 => by
        rw [← HRV.out]
        exact addseat_any r nx p w' _ q4 q3 HF.out.ok (fun s hs => by have := HF.out.ids s hs; omega) (cnB_of (by omega)) q1 q2 (by rw [HN.out]; omega))
      have hzr : rb ≠ wn.heap.size := Nat.ne_of_lt hltr
      have hzr2 : wn.heap.size ≠ rb := Ne.symm hzr
      have hzb : wn.heap.size ≠ bt := by omega
      clear hat2
      go_region_held3 (fun w' => w'.cell? ⟨rb, 0, none⟩ = some (iv r.ba) ∧ w'.cell? ⟨rb, 1, none⟩ = some (iv r.pe) ∧ w'.cell? ⟨rb, 2, none⟩ = some (.slice sa n sc) ∧ w'.cell? ⟨rb, 3, none⟩ = some (iv at0) ∧ w'.cell? ⟨rb, 4, none⟩ = some (.bool op0)) (go_keep) (first
        | (go_at_call 14; refine (next_any (by first | exact (HLB.out.below (below_drewQ (Below.refl _ _) 1)).tape | exact (HLB.out.below (below_drewQ ((Below.refl _ _).alloc (Nat.le_refl _) _) 1)).tape) 4 (by omega)).mono ?_; rintro e wp ⟨p, p1, p2, rfl, tp, bp⟩; have HLC := Lib.hid (show LogAt B bt Bs rb w r (.slice sa n sc) (.slice a m ct) l wp from by first | exact (HLB.out.below (below_drewQ (Below.refl _ _) 1)).next hbr hrB tp bp | exact (HLB.out.below (below_drewQ ((Below.refl _ _).alloc (Nat.le_refl _) _) 1)).next hbr hrB tp bp); (first | (have ORD : But bt wn.drew wp := bp) | (have HZP := Lib.hid (show wp.heap[wn.heap.size]? = some (.cells #[iv 0, iv 0, .slice none 0 0, iv 0, .bool false] 44 (0, 0)) from (bp.block wn.heap.size (by show wn.heap.size < (wn.alloc _).heap.size; simp) hzb).trans (heap_alloc_new wn _)))); clear tp bp; have HRB2 := Lib.hid HLC.out.rbk; rw [HAT.out, HOP.out] at HRB2; obtain ⟨k0, k1, k2, k3, k4⟩ := cells5 HRB2.out; have hltp : rb < wp.heap.size := lt_heap HRB2.out; have hpr : rb ≠ wp.heap.size := Nat.ne_of_lt hltp; have hpr2 : wp.heap.size ≠ rb := Ne.symm hpr)
        | (go_at_call 16; refine (HADD.out p _ p1 (by omega) (by first | exact HLC.out.own | exact (HLC.out.below ((Below.refl _ _).alloc (Nat.le_refl _) _)).own) (by rw [← HBR.out]; first | exact hltp | (show rb + 1 ≤ (wp.alloc _).heap.size; simp; omega))).mono ?_; rintro e w2 ⟨v2, rfl, own2, b2⟩; rw [HRC.out]; (obtain ⟨a2, m2, c2, rfl⟩ := own2.slice); have OW2 := Lib.hid own2; have HLE := Lib.hid (show LogAt B bt Bs rb w r (.slice sa n sc) (.slice a m ct) l w2 from by first | exact HLC.out.below b2 | exact (HLC.out.below ((Below.refl _ _).alloc (Nat.le_refl _) _)).below b2); (first | (have ORD : Below wp.heap.size wp w2 := b2; (try (have HZS := Lib.hid (show w2.heap[wn.heap.size]? = some (.cells #[iv 0, iv 0, .slice none 0 0, iv 0, .bool false] 44 (0, 0)) from lies_below HZP.out b2 (lt_heap HZP.out)); (obtain ⟨t0, t1, t2, t3, t4⟩ := cells5 HZS.out); (have ft := (lies_cells HZS.out).2)))) | (have HZS := Lib.hid (show w2.heap[wp.heap.size]? = some (.cells #[iv 0, iv 0, .slice none 0 0, iv 0, .bool false] 44 (0, 0)) from lies_below (heap_alloc_new wp _) b2 (by simp)); (obtain ⟨t0, t1, t2, t3, t4⟩ := cells5 HZS.out); (have ft := (lies_cells HZS.out).2))); clear own2 b2; have HRB3 := Lib.hid HLE.out.rbk; rw [HAT.out, HOP.out] at HRB3; obtain ⟨j0, j1, j2, j3, j4⟩ := cells5 HRB3.out; have hlt2 : rb < w2.heap.size := lt_heap HRB3.out))
      all_goals first
        | (show Exit.then _ _ _ _ (w2.alloc (.cells #[iv r.ba, iv r.pe, .slice a2 m2 c2, iv at2, .bool op0] 44)); obtain ⟨Y, hY⟩ : ∃ Y, w2.alloc (.cells #[iv r.ba, iv r.pe, .slice a2 m2 c2, iv at2, .bool op0] 44) = Y := ⟨_, rfl⟩; have HT2 := Lib.hid (show Y.heap[w2.heap.size]? = some (.cells #[iv r.ba, iv r.pe, .slice a2 m2 c2, iv at2, .bool op0] 44 (0, 0)) by rw [← hY]; exact heap_alloc_new _ _); have hbY : Below w2.heap.size w2 Y := (by rw [← hY]; exact (Below.refl _ _).alloc (Nat.le_refl _) _); have HLY := Lib.hid (HLE.out.below hbY); have OWY := Lib.hid (own_below OW2.out hbY); obtain ⟨T, hT⟩ : ∃ t, w2.heap.size = t := ⟨_, rfl⟩; rw [hY, hT]; rw [hT] at HT2; clear hbY)
        | (show Exit.then _ _ _ _ (((((w2.setCell ⟨wn.heap.size, 0, none⟩ (iv r.ba)).setCell ⟨wn.heap.size, 1, none⟩ (iv r.pe)).setCell ⟨wn.heap.size, 2, none⟩ (.slice a2 m2 c2)).setCell ⟨wn.heap.size, 3, none⟩ (iv (at2 : Nat))).setCell ⟨wn.heap.size, 4, none⟩ (.bool op0)); obtain ⟨Y, hY⟩ : ∃ Y, (((((w2.setCell ⟨wn.heap.size, 0, none⟩ (iv r.ba)).setCell ⟨wn.heap.size, 1, none⟩ (iv r.pe)).setCell ⟨wn.heap.size, 2, none⟩ (.slice a2 m2 c2)).setCell ⟨wn.heap.size, 3, none⟩ (iv (at2 : Nat))).setCell ⟨wn.heap.size, 4, none⟩ (.bool op0)) = Y := ⟨_, rfl⟩; have HT2 := Lib.hid (show Y.heap[wn.heap.size]? = some (.cells #[iv r.ba, iv r.pe, .slice a2 m2 c2, iv at2, .bool op0] 44 (0, 0)) by rw [← hY]; exact set_cells (o := 4) (u := .bool op0) (set_cells (o := 3) (u := iv (at2 : Nat)) (set_cells (o := 2) (u := .slice a2 m2 c2) (set_cells (o := 1) (u := iv r.pe) (set_cells (o := 0) (u := iv r.ba) HZS.out))))); have hk : But wn.heap.size w2 Y := (by rw [← hY]; exact (((((But.refl wn.heap.size w2).setCell ⟨_, 0, none⟩ (.inl rfl) _).setCell ⟨_, 1, none⟩ (.inl rfl) _).setCell ⟨_, 2, none⟩ (.inl rfl) _).setCell ⟨_, 3, none⟩ (.inl rfl) _).setCell ⟨_, 4, none⟩ (.inl rfl) _); have hTB : Bs ≤ wn.heap.size := (by rw [← HBR.out]; first | exact hltr | exact hltp); have HLY := Lib.hid (HLE.out.other hbr hrB hTB (fun h => own_ne_block HLE.out.own HZS.out ST_ne_RT h) (fun h => own_ne_block HLE.out.log HZS.out (Ne.symm RT_ne_TT) h) hk hw3); have OWY := Lib.hid (own_but OW2.out hk (own_ne_block OW2.out HZS.out ST_ne_RT)); obtain ⟨T, hT⟩ : ∃ t, wn.heap.size = t := ⟨_, rfl⟩; rw [hY, hT]; rw [hT] at HT2; clear hk hTB)
        | (show Exit.then _ _ _ _ (((((w2.setCell ⟨wp.heap.size, 0, none⟩ (iv r.ba)).setCell ⟨wp.heap.size, 1, none⟩ (iv r.pe)).setCell ⟨wp.heap.size, 2, none⟩ (.slice a2 m2 c2)).setCell ⟨wp.heap.size, 3, none⟩ (iv (at2 : Nat))).setCell ⟨wp.heap.size, 4, none⟩ (.bool op0)); obtain ⟨Y, hY⟩ : ∃ Y, (((((w2.setCell ⟨wp.heap.size, 0, none⟩ (iv r.ba)).setCell ⟨wp.heap.size, 1, none⟩ (iv r.pe)).setCell ⟨wp.heap.size, 2, none⟩ (.slice a2 m2 c2)).setCell ⟨wp.heap.size, 3, none⟩ (iv (at2 : Nat))).setCell ⟨wp.heap.size, 4, none⟩ (.bool op0)) = Y := ⟨_, rfl⟩; have HT2 := Lib.hid (show Y.heap[wp.heap.size]? = some (.cells #[iv r.ba, iv r.pe, .slice a2 m2 c2, iv at2, .bool op0] 44 (0, 0)) by rw [← hY]; exact set_cells (o := 4) (u := .bool op0) (set_cells (o := 3) (u := iv (at2 : Nat)) (set_cells (o := 2) (u := .slice a2 m2 c2) (set_cells (o := 1) (u := iv r.pe) (set_cells (o := 0) (u := iv r.ba) HZS.out))))); have hk : But wp.heap.size w2 Y := (by rw [← hY]; exact (((((But.refl wp.heap.size w2).setCell ⟨_, 0, none⟩ (.inl rfl) _).setCell ⟨_, 1, none⟩ (.inl rfl) _).setCell ⟨_, 2, none⟩ (.inl rfl) _).setCell ⟨_, 3, none⟩ (.inl rfl) _).setCell ⟨_, 4, none⟩ (.inl rfl) _); have hTB : Bs ≤ wp.heap.size := (by rw [← HBR.out]; first | exact hltr | exact hltp); have HLY := Lib.hid (HLE.out.other hbr hrB hTB (fun h => own_ne_block HLE.out.own HZS.out ST_ne_RT h) (fun h => own_ne_block HLE.out.log HZS.out (Ne.symm RT_ne_TT) h) hk hw3); have OWY := Lib.hid (own_but OW2.out hk (own_ne_block OW2.out HZS.out ST_ne_RT)); obtain ⟨T, hT⟩ : ∃ t, wp.heap.size = t := ⟨_, rfl⟩; rw [hY, hT]; rw [hT] at HT2; clear hk hTB)
      all_goals (
        clear hY hT j0 j1 j2 j3 j4 k0 k1 k2 k3 k4 x0 x1 x2 x3 x4
        have HRB4 := Lib.hid HLY.out.rbk
        rw [HAT.out, HOP.out] at HRB4
        obtain ⟨k0, k1, k2, k3, k4⟩ := cells5 HT2.out
        obtain ⟨x0, x1, x2, x3, x4⟩ := cells5 HRB4.out
        have fx := (lies_cells HRB4.out).2
        by_cases hn4' : n < 4
        · go_wp2
          go_roundw
          case rel =>
            refine ⟨i + 1, addR r nx p, .slice a2 m2 c2, l, nx + 1, a, m, ct, by omega, by go_num, by go_num, rfl, HM, HI.out.add (by rw [HN.out]; exact hn4') p1 (by omega), ?_⟩
            have h1 := HLY.out.ring hbr hrB hw3 OWY.out
            rw [show (addR r nx p).at_ = at2 from HAT2.out, show (addR r nx p).op = op0 from HOP.out] at h1
            exact h1
          case measure => simp [intOf]; omega
        · go_wp2
          go_roundw
          case rel => exact ⟨i + 1, r, .slice sa n sc, l, nx, a, m, ct, by omega, by go_num, rfl, rfl, HM, HI.out.skip, HLY.out⟩
          case measure => simp [intOf]; omega)
    · subst hz
      by_cases hn0 : n = 0
      · subst hn0
        go_wp2
        go_roundw
        case rel => exact ⟨i + 1, r, .slice sa 0 sc, l, nx, a, m, ct, by omega, by go_num, rfl, rfl, HM, HI.out.skip, HLB.out⟩
        case measure => simp [intOf]; omega
      · have hn1 : 0 < n := by omega
        obtain ⟨g, rfl⟩ := own_some (show wn.ownsRow Bs 49 4 (.slice sa n sc) n (seatsX r.ss) from by have h1 := HLB.out.own; unfold OwnS at h1; rw [HN.out] at h1; exact h1) hn1
        go_wp2_with fail
        refine (next_any HLB.out.tape 3 (by omega)).mono ?_
        rintro e wp ⟨p, p1, p2, rfl, tp, bp⟩
        have HLC := Lib.hid (HLB.out.next hbr hrB tp bp)
        clear tp bp x0 x1 x2 x3 x4
        have HRB2 := Lib.hid HLC.out.rbk
        rw [HAT.out, HOP.out] at HRB2
        obtain ⟨x0, x1, x2, x3, x4⟩ := cells5 HRB2.out
        by_cases hp : p = 0
        rotate_left
        · have hpb : (p == 0) = false := by simpa using hp
          clear hp
          go_wp2
          go_roundw
          case rel => exact ⟨i + 1, r, _, l, nx, a, m, ct, by omega, by go_num, rfl, rfl, HM, HI.out.skip, HLC.out⟩
          case measure => simp [intOf]; omega
        · subst hp
          go_upto_region 23 with (fail)
          refine wp_region_D (S := fun w' => w'.cell? ⟨rb, 2, none⟩ = some (.slice (some ⟨g, 0, none⟩) n sc)) (st := 10) (by kernel_rfl) ?_
          have hS0 : (fun w' : World => w'.cell? ⟨rb, 2, none⟩ = some (.slice (some ⟨g, 0, none⟩) n sc)) _ := x2
          refine wpAnyT_pureD 0 (some 119) ?v1 rfl (by kernel_rfl) (by kernel_rfl) (by kernel_rfl) (by kernel_rfl) (fun _ _ _ h => h) hS0 (by kernel_rfl) rfl ?run1 ?rest1
          case run1 => intro w hS; have hS' : w.cell? ⟨rb, 2, none⟩ = some (.slice (some ⟨g, 0, none⟩) n sc) := hS; go_simp; rfl
          refine wpAnyT_pureD 1 (some 120) ?v2 rfl (by kernel_rfl) (by kernel_rfl) (by kernel_rfl) (by kernel_rfl) (fun _ _ _ h => h) hS0 (by kernel_rfl) rfl ?run2 ?rest2
          case run2 => intro w hS; have hS' : w.cell? ⟨rb, 2, none⟩ = some (.slice (some ⟨g, 0, none⟩) n sc) := hS; go_simp; rfl
          refine wpAnyT_pureD 2 (some 121) ?v3 rfl (by kernel_rfl) (by kernel_rfl) (by kernel_rfl) (by kernel_rfl) (fun _ _ _ h => h) hS0 (by kernel_rfl) rfl ?run3 ?rest3
          case run3 => intro w hS; have hS' : w.cell? ⟨rb, 2, none⟩ = some (.slice (some ⟨g, 0, none⟩) n sc) := hS; go_simp; rfl
          refine wpAnyT_pureD 3 (some 122) ?v4 rfl (by kernel_rfl) (by kernel_rfl) (by kernel_rfl) (by kernel_rfl) (fun _ _ _ h => h) hS0 (by kernel_rfl) rfl ?run4 ?rest4
          case run4 => intro w hS; have hS' : w.cell? ⟨rb, 2, none⟩ = some (.slice (some ⟨g, 0, none⟩) n sc) := hS; go_simp; rfl
          refine wpAnyT_pureD 4 (some 123) ?v5 rfl (by kernel_rfl) (by kernel_rfl) (by kernel_rfl) (by kernel_rfl) (fun _ _ _ h => h) hS0 (by kernel_rfl) rfl ?run5 ?rest5
          case run5 => intro w hS; have hS' : w.cell? ⟨rb, 2, none⟩ = some (.slice (some ⟨g, 0, none⟩) n sc) := hS; go_simp; rfl
          refine wpAnyT_pureD 5 (some 124) ?v6 rfl (by kernel_rfl) (by kernel_rfl) (by kernel_rfl) (by kernel_rfl) (fun _ _ _ h => h) hS0 (by kernel_rfl) rfl ?run6 ?rest6
          case run6 => intro w hS; have hS' : w.cell? ⟨rb, 2, none⟩ = some (.slice (some ⟨g, 0, none⟩) n sc) := hS; go_simp; rfl
          refine wpAnyT_call 6 (some 125) 14 #[pv bt, iv (n : Nat)] rfl (by kernel_rfl) (by kernel_rfl) (by kernel_rfl) rfl ?_
          refine (next_any (HLC.out.below (below_drewQ (Below.refl _ _) 1)).tape (n : Int) (by omega)).mono ?_
          rintro e wq ⟨q, q1, q2, rfl, tq, bq⟩
          have HLD := Lib.hid ((HLC.out.below (below_drewQ (Below.refl _ _) 1)).next hbr hrB tq bq)
          clear tq bq hS0
          obtain ⟨qn, rfl⟩ := Int.eq_ofNat_of_zero_le q1
          have hqn : qn < n := by omega
          obtain ⟨s, hs⟩ : ∃ s, r.ss[qn]? = some s := ⟨_, List.getElem?_eq_getElem (by rw [HN.out]; exact hqn)⟩
          have HS := Lib.hid hs
          have gc : wq.cell? ⟨g, qn * 4, none⟩ = some (iv s.id) := by have h1 := (show OwnS Bs wq (.slice (some ⟨g, 0, none⟩) n sc) r.ss from HLD.out.own).form.2.2.2.2.2.2 _ s hs 0 (by omega); exact h1
          have hq3 : (0 : Int) ≤ (qn : Int) := Int.natCast_nonneg _
          have hq4 : (qn : Int) < (n : Int) := Int.ofNat_lt.2 hqn
          clear hs q1 q2
          have HRB3 := Lib.hid HLD.out.rbk
          rw [HAT.out, HOP.out] at HRB3
          obtain ⟨j0, j1, j2, j3, j4⟩ := cells5 HRB3.out
          have hS0 : (fun w' : World => w'.cell? ⟨rb, 2, none⟩ = some (.slice (some ⟨g, 0, none⟩) n sc)) wq := j2
          refine ⟨_, rfl, fun _ => hS0, ?_⟩
          refine wpAnyT_value 7 (some 126) ?vv7 wq rfl (by kernel_rfl) (by kernel_rfl) ?rv7 rfl (fun _ => hS0) ?_
          case rv7 => go_simp; rfl
          refine wpAnyT_value 8 (some 127) ?vv8 wq rfl (by kernel_rfl) (by kernel_rfl) ?rv8 rfl (fun _ => hS0) ?_
          case rv8 => go_simp; rfl
          refine wpAnyT_value 9 (some 128) ?vv9 wq rfl (by kernel_rfl) (by kernel_rfl) ?rv9 rfl (fun _ => hS0) ?_
          case rv9 => go_simp; rfl
          refine wpAnyT_value 10 (some 12) ?vv10 wq rfl (by kernel_rfl) (by kernel_rfl) ?rv10 rfl (fun _ => hS0) ?_
          case rv10 => go_simp; rfl
          refine wpAnyT_done (by kernel_rfl) ?_ _
          generalize hA : Act.put _ _ _ = A0
          simp only [put_mk, put_no, List.setIfInBounds_toArray, List.set_cons_succ, List.set_cons_zero] at hA
          subst hA
          clear hS0
          obtain ⟨at2, hat2⟩ : ∃ a, (remR r qn).at_ = a := ⟨_, rfl⟩
          obtain ⟨op2, hop2⟩ : ∃ a, (remR r qn).op = a := ⟨_, rfl⟩
          have HRC := Lib.hid (show ∀ v, ringV (remR r qn) v = .agg #[iv r.ba, iv r.pe, v, iv at2, .bool op2] from fun v => by unfold ringV; rw [hat2, hop2]; rfl)
          have HA2 := Lib.hid hat2
          have HO2 := Lib.hid hop2
          have HREM := Lib.hid (show Calls Try.prog 17 #[.agg #[iv r.ba, iv r.pe, .slice (some ⟨g, 0, none⟩) n sc, iv at0, .bool op0], iv s.id] wq (RingQ Bs (remR r qn) (.bool true) wq) from by
            rw [← HRV.out]
            exact remove_any r s wq _ qn (by rw [← HBR.out]; exact lt_heap HRB3.out) HLD.out.own HF.out.ok HS.out)
          clear hat2 hop2 x0 x1 x2 x3 x4
          go_upto_region 25 with (go_at_call 17; refine HREM.out.mono ?_; rintro e w2 ⟨v2, rfl, own2, b2⟩; rw [HRC.out]; (obtain ⟨a2, m2, c2, rfl⟩ := own2.slice); have OW2 := Lib.hid own2; have HLE := Lib.hid (HLD.out.below b2); clear own2 b2 j0 j1 j2 j3 j4; have HRB4 := Lib.hid HLE.out.rbk; rw [HAT.out, HOP.out] at HRB4; obtain ⟨j0, j1, j2, j3, j4⟩ := cells5 HRB4.out; have fj := (lies_cells HRB4.out).2)
          have HLR := Lib.hid (show LogAt B bt Bs rb w (remR r qn) (.slice a2 m2 c2) (.slice a m ct) l (((((w2.setCell ⟨rb, 0, none⟩ (iv r.ba)).setCell ⟨rb, 1, none⟩ (iv r.pe)).setCell ⟨rb, 2, none⟩ (.slice a2 m2 c2)).setCell ⟨rb, 3, none⟩ (iv (at2 : Nat))).setCell ⟨rb, 4, none⟩ (.bool op2)) from by
            have h1 := HLE.out.ring hbr hrB hw3 OW2.out
            rw [HA2.out, HO2.out] at h1
            exact h1)
          obtain ⟨Y, hY⟩ : ∃ Y, (((((w2.setCell ⟨rb, 0, none⟩ (iv r.ba)).setCell ⟨rb, 1, none⟩ (iv r.pe)).setCell ⟨rb, 2, none⟩ (.slice a2 m2 c2)).setCell ⟨rb, 3, none⟩ (iv (at2 : Nat))).setCell ⟨rb, 4, none⟩ (.bool op2)) = Y := ⟨_, rfl⟩
          rw [hY] at HLR
          rw [show (((((w2.setCell ⟨rb, 0, none⟩ (.int .i64 r.ba)).setCell ⟨rb, 1, none⟩ (.int .i64 r.pe)).setCell ⟨rb, 2, none⟩ (.slice a2 m2 c2)).setCell ⟨rb, 3, none⟩ (.int .i64 (at2 : Nat))).setCell ⟨rb, 4, none⟩ (.bool op2)) = Y from hY]
          have HTY := Lib.hid (show Y.ownsRow Bs 53 5 (.slice a m ct) m (turnsX l) by have h1 := HLR.out.log; unfold OwnT at h1; rw [← HM.out] at h1; exact h1)
          have HBY : Bs ≤ Y.heap.size := by rw [← HBR.out]; exact lt_heap HLR.out.rbk
          clear hY j0 j1 j2 j3 j4 fj gc
          go_wp2_with (at_builtin; refine wpList_pushH [iv s.id, iv 0, iv 0, iv 0, .bool true] rfl _ _ 28 rfl Bs 53 _ 5 40 Try.underlying28 info_turn rfl (by decide) _ m _ HTY.out rfl _ rfl rfl rfl rfl (by unfold maxLen; omega) (by omega) HBY ?_; intro g2 d2 v3 own3 gr3 q1 q2; have OW3 := Lib.hid own3; have GR3 := Lib.hid gr3; clear own3 gr3 q1 q2)
          go_roundw
          case rel =>
            refine ⟨i + 1, remR r qn, .slice a2 m2 c2, l ++ [(⟨s.id, 0, 0, 0, true⟩ : TV)], nx, some ⟨g2, 0, none⟩, m + 1, d2, by omega, by go_num, rfl, rfl, Lib.hid (by rw [List.length_append, List.length_singleton, HM.out]), Lib.hid (HI.out.leave HS.out), ?_⟩
            have h1 := OW3.out
            rw [show [iv s.id, iv 0, iv 0, iv 0, .bool true] = turnsX [(⟨s.id, 0, 0, 0, true⟩ : TV)] by simp [turnsX, turnC]] at h1
            exact HLR.out.app hbr hrB hw3 (Below.refl _ _) HBY (by rw [List.length_append, List.length_singleton, HM.out]) h1 GR3.out
          case measure => simp [intOf]; omega
    · have hz0 : ((zn : Int) == 0) = false := by simp; omega
      have hz1 : ((zn : Int) == 1) = false := by simp; omega
      clear z1 z2
      by_cases hn0 : n = 0
      · have HPK := Lib.hid (show Calls Try.prog 18 #[.agg #[iv r.ba, iv r.pe, .slice sa n sc, iv at0, .bool op0]] wn (fun e w' => e = .returned (.tuple #[.agg #[iv r.ba, iv r.pe, .slice sa n sc, iv at0, .bool op0], iv 0, .slice none 0 0, .bool false]) ∧ Below wn.heap.size wn w') from by
          rw [← HRV.out]
          exact pick_none r _ wn HLB.out.own.seats HF.out.ok (List.length_eq_zero_iff.1 (by rw [HN.out, hn0])))
        clear hn0
        go_wp2_with (go_at_call 18; refine HPK.out.mono ?_; rintro e w2 ⟨rfl, b2⟩; have HLC := Lib.hid (HLB.out.below b2); clear b2)
        go_roundw
        case rel => exact ⟨i + 1, r, _, l, nx, a, m, ct, by omega, by go_num, rfl, rfl, HM, HI.out.skip, HLC.out.below ((Below.refl _ _).alloc (Nat.le_refl _) _)⟩
        case measure => simp [intOf]; omega
      · have hn1 : 0 < n := by omega
        obtain ⟨g, rfl⟩ := own_some (show wn.ownsRow Bs 49 4 (.slice sa n sc) n (seatsX r.ss) from by have h1 := HLB.out.own; unfold OwnS at h1; rw [HN.out] at h1; exact h1) hn1
        have HPK := Lib.hid (show Calls Try.prog 18 #[.agg #[iv r.ba, iv r.pe, .slice (some ⟨g, 0, none⟩) n sc, iv at0, .bool op0]] wn (PickQ Bs r wn) from by
          rw [← HRV.out]
          exact pick_any r wn g n sc (by rw [← HBR.out]; exact hltr) (by omega) HN.out hn1 HLB.out.own HF.out.ok)
        clear hn0
        go_upto_region 10 with (go_at_call 18; refine HPK.out.mono ?_; rintro e w2 ⟨r1, ts, s, v1, tv, hpi, hop1, hs1, rfl, own1, tur1, b2⟩; have HPI := Lib.hid hpi; have HOP1 := Lib.hid hop1; have HS1 := Lib.hid hs1; (obtain ⟨a1, c1, rfl⟩ := own1.sl); (obtain ⟨ta, tc, rfl⟩ := tur1.slice); (obtain ⟨n1, hn1'⟩ : ∃ k, r1.ss.length = k := ⟨_, rfl⟩); (obtain ⟨tl, htl⟩ : ∃ k, ts.length = k := ⟨_, rfl⟩); (obtain ⟨at1, hat1⟩ : ∃ k, r1.at_ = k := ⟨_, rfl⟩); (rw [hn1'] at own1); (rw [htl] at tur1); (have HR1 := Lib.hid (show ringV r1 (.slice a1 n1 c1) = .agg #[iv r1.ba, iv r1.pe, .slice a1 n1 c1, iv at1, .bool true] by unfold ringV; rw [hat1, hop1])); rw [hn1', htl, HR1.out]; have OW1 := Lib.hid own1; have TU1 := Lib.hid tur1; have HLC := Lib.hid (HLB.out.below b2); have HTL := Lib.hid htl; have HN1 := Lib.hid hn1'; have HAT1 := Lib.hid hat1; clear own1 tur1 b2 hpi hop1 hs1 hn1' htl hat1 x0 x1 x2 x3 x4)
        obtain ⟨T, hT⟩ : ∃ t, w2.heap.size = t := ⟨_, rfl⟩
        have hTB : Bs ≤ T := by rw [← hT, ← HBR.out]; exact lt_heap HLC.out.rbk
        obtain ⟨Y, hY⟩ : ∃ Y, w2.alloc (.cells #[iv r1.ba, iv r1.pe, .slice a1 n1 c1, iv at1, .bool true] 44) = Y := ⟨_, rfl⟩
        have hbY : Below w2.heap.size w2 Y := by rw [← hY]; exact (Below.refl _ _).alloc (Nat.le_refl _) _
        have HTY0 := Lib.hid (show TailAt B bt Bs rb T w r (.slice (some ⟨g, 0, none⟩) n sc) (.slice a m ct) l r1 (.slice a1 n1 c1) Y from
          ⟨HLC.out.below hbY, by rw [← hY, ← hT, HAT1.out, HOP1.out]; exact heap_alloc_new _ _, own_below (show OwnS Bs w2 (.slice a1 n1 c1) r1.ss from OW1.out) hbY, hTB⟩)
        have HTUY := Lib.hid (show SliceAt Y 53 5 (.slice ta tl tc) (turnsX ts) from SliceAt.same (SliceAt.of_owns TU1.out) (SameT.below hbY))
        have HTLX := Lib.hid (show (turnsX ts).length = tl * 5 by rw [turnsX_len, HTL.out])
        have HTYL := Lib.hid (show Y.ownsRow Bs 53 5 (.slice a m ct) m (turnsX l) by have h1 := HTY0.out.at_.log; unfold OwnT at h1; rw [← HM.out] at h1; exact h1)
        have HBY : Bs ≤ Y.heap.size := by rw [← HBR.out]; exact lt_heap HTY0.out.at_.rbk
        have htb : tl ≤ 29 := by have h1 := (HPI.out.facts HF.out.ok).2.2.2.2.2.2; have h2 := lackS_le HF.out.ok.lows; have h3 := HN.out; have h4 := HTL.out; omega
        rw [show w2.alloc (.cells #[iv r1.ba, iv r1.pe, .slice a1 n1 c1, iv at1, .bool true] 44) = Y from hY, hT]
        clear hT hTB hY hbY
        go_upto_region 11 with (at_builtin; refine wpList_append_sl rfl _ _ 28 rfl Bs 53 _ 5 40 Try.underlying28 info_turn rfl (by decide) _ m _ HTYL.out rfl (.slice ta tl tc) tl (turnsX ts) rfl HTUY.out HTLX.out (turnsX_oc _) (by unfold maxLen; omega) (by omega) HBY ?_; intro g2 d2 v3 own3 gr3; have HTV := Lib.hid (show TailAt B bt Bs rb T w r (.slice (some ⟨g, 0, none⟩) n sc) (.slice g2 (m + tl) d2) (l ++ ts) r1 (.slice a1 n1 c1) v3 from HTY0.out.app hbr hrB hw3 (Below.refl _ _) HBY (by rw [List.length_append, ← HM.out, HTL.out]) own3 gr3); clear own3 gr3)
        by_cases ht0 : tl = 0
        · subst ht0
          have hts : ts = [] := List.length_eq_zero_iff.1 HTL.out
          have HTV2 := Lib.hid (show TailAt B bt Bs rb T w r (.slice (some ⟨g, 0, none⟩) n sc) (.slice g2 m d2) l r1 (.slice a1 n1 c1) v3 from by have h1 := HTV.out; rw [hts, List.append_nil, Nat.add_zero] at h1; exact h1)
          have HTW := Lib.hid (show v3.ownsRow Bs 53 5 (.slice g2 m d2) m (turnsX l) by have h1 := HTV2.out.at_.log; unfold OwnT at h1; rw [← HM.out] at h1; exact h1)
          have HBV : Bs ≤ v3.heap.size := by rw [← HBR.out]; exact lt_heap HTV2.out.at_.rbk
          go_upto_region 13 with (at_builtin; refine wpList_pushH [iv s.id, iv 0, iv 0, iv 0, .bool false] rfl _ _ 28 rfl Bs 53 _ 5 40 Try.underlying28 info_turn rfl (by decide) _ m _ HTW.out rfl _ rfl rfl rfl rfl (by unfold maxLen; omega) (by omega) HBV ?_; intro g3 d3 v4 own4 gr4 q1 q2; have OW4 := Lib.hid own4; have GR4 := Lib.hid gr4; clear own4 gr4 q1 q2)
          obtain ⟨M, hM⟩ : ∃ k, m = k := ⟨_, rfl⟩
          obtain ⟨L0, hL0⟩ : ∃ k, l = k := ⟨_, rfl⟩
          obtain ⟨t, ht⟩ : ∃ k, (⟨s.id, 0, 0, 0, false⟩ : TV) = k := ⟨_, rfl⟩
          have HTT := Lib.hid (show TailAt B bt Bs rb T w r (.slice (some ⟨g, 0, none⟩) n sc) (.slice (some ⟨g3, 0, none⟩) (M + 1) d3) (L0 ++ [t]) r1 (.slice a1 n1 c1) v4 from by
            have h1 := OW4.out
            rw [show [iv s.id, iv 0, iv 0, iv 0, .bool false] = turnsX [t] by rw [← ht]; simp [turnsX, turnC]] at h1
            rw [← hL0, ← hM]
            exact HTV2.out.app hbr hrB hw3 (Below.refl _ _) HBV (by rw [List.length_append, List.length_singleton, HM.out]) h1 GR4.out)
          have HML := Lib.hid (show M = L0.length by rw [← hM, ← hL0, HM.out])
          have HLL := Lib.hid (show l ++ preT s ts = L0 ++ [t] by unfold preT; rw [if_pos hts, hL0, ht])
          rw [hM]
          have hM2 : M ≤ 775 := by omega
          clear hM hL0 ht hts
          go_wp2_with fail
          refine (next_any HTT.out.at_.tape 8 (by omega)).mono ?_
          rintro e wa ⟨p, p1, p2, rfl, tpa, bpa⟩
          have HTA := Lib.hid (HTT.out.next hbr hrB tpa bpa)
          clear tpa bpa
          go_wp2_with fail
          refine (next_any HTA.out.at_.tape 9 (by omega)).mono ?_
          rintro e wb ⟨q, q1, q2, rfl, tpa, bpa⟩
          have HTB := Lib.hid (HTA.out.next hbr hrB tpa bpa)
          clear tpa bpa
          obtain ⟨fin, hfin⟩ : ∃ f, (q == 8) = f := ⟨_, rfl⟩
          obtain ⟨hfr, hg3, hlc⟩ := HTB.out.at_.log.lastCells HML.out
          have l2 := hlc 2 (by omega)
          have l3 := hlc 3 (by omega)
          have l4 := hlc 4 (by omega)
          simp only [turnC, List.getElem?_cons_zero, List.getElem?_cons_succ] at l2 l3 l4
          have hp8 : 1 ≤ 1 + p ∧ 1 + p ≤ 8 := by omega
          have HP8 := Lib.hid hp8
          clear hlc hp8
          go_upto_region 15 with (fail)
          have HTC := Lib.hid (HTB.out.last hbr hrB hw3 HML.out (1 + p) fin)
          obtain ⟨Z, hZ⟩ : ∃ Z, (((wb.setCell ⟨g3, M * 5 + 2, none⟩ (iv 1)).setCell ⟨g3, M * 5 + 3, none⟩ (iv (1 + p))).setCell ⟨g3, M * 5 + 4, none⟩ (.bool fin)) = Z := ⟨_, rfl⟩
          rw [hZ] at HTC
          rw [show (((wb.setCell ⟨g3, M * 5 + 2, none⟩ (.int .i64 1)).setCell ⟨g3, M * 5 + 3, none⟩ (.int .i64 (1 + p))).setCell ⟨g3, M * 5 + 4, none⟩ (.bool fin)) = Z from hZ]
          clear hZ l2 l3 l4 hfr hg3
          have HBT := Lib.hid HTC.out.blk
          rw [HAT1.out, HOP1.out] at HBT
          obtain ⟨x0, x1, x2, x3, x4⟩ := cells5 HBT.out
          have HRB5 := Lib.hid HTC.out.at_.rbk
          rw [HAT.out, HOP.out] at HRB5
          have hltZ : rb < Z.heap.size := lt_heap HRB5.out
          obtain ⟨at5, hat5⟩ : ∃ k, (spendR r1 s (1 + p) fin).at_ = k := ⟨_, rfl⟩
          obtain ⟨op5, hop5⟩ : ∃ k, (spendR r1 s (1 + p) fin).op = k := ⟨_, rfl⟩
          obtain ⟨ba5, hba5⟩ : ∃ k, (spendR r1 s (1 + p) fin).ba = k := ⟨_, rfl⟩
          obtain ⟨pe5, hpe5⟩ : ∃ k, (spendR r1 s (1 + p) fin).pe = k := ⟨_, rfl⟩
          have HRS := Lib.hid (show ∀ v, ringV (spendR r1 s (1 + p) fin) v = .agg #[iv ba5, iv pe5, v, iv at5, .bool op5] from fun v => by unfold ringV; rw [hat5, hop5, hba5, hpe5])
          have HE5 := Lib.hid (And.intro hat5 (And.intro hop5 (And.intro hba5 hpe5)))
          have HSP := Lib.hid (show Calls Try.prog 19 #[.agg #[iv r1.ba, iv r1.pe, .slice a1 n1 c1, iv at1, .bool true], iv (1 + p), .bool fin] Z (SpendQ Bs (spendR r1 s (1 + p) fin) Z) from by
            rw [← HR1.out]
            exact spend_any r1 s Z _ (1 + p) fin (by rw [← HBR.out]; exact hltZ) (by omega) HTC.out.own (HPI.out.facts HF.out.ok).1 HOP1.out HS1.out HP8.out.1 HP8.out.2)
          clear hat5 hop5 hba5 hpe5
          go_wp2_with (go_at_call 19; refine HSP.out.mono ?_; rintro e w5 ⟨v5, b5, rfl, own5, bl5⟩; rw [HRS.out]; (obtain ⟨a5, m5, c5, rfl⟩ := own5.slice); have OW5 := Lib.hid own5; have HL5 := Lib.hid (HTC.out.at_.below bl5); clear own5 bl5 x0 x1 x2 x3 x4; have HRB6 := Lib.hid HL5.out.rbk; rw [HAT.out, HOP.out] at HRB6; obtain ⟨x0, x1, x2, x3, x4⟩ := cells5 HRB6.out; have fx := (lies_cells HRB6.out).2)
          go_roundw
          case rel =>
            refine ⟨i + 1, spendR r1 s (1 + p) fin, .slice a5 m5 c5, L0 ++ [⟨t.q, t.qu, 1, 1 + p, fin⟩], nx, some ⟨g3, 0, none⟩, M + 1, d3, by omega, by go_num, rfl, rfl, Lib.hid (by rw [List.length_append, List.length_singleton, HML.out]), ?_, ?_⟩
            · have h1 := LogI.turn HI.out HPI.out HOP1.out HS1.out HP8.out.1 HP8.out.2 (fin := fin)
              rw [HLL.out, setLast_snoc] at h1
              exact h1
            · have h1 := HL5.out.ring hbr hrB hw3 OW5.out
              rw [HE5.out.1, HE5.out.2.1, HE5.out.2.2.1, HE5.out.2.2.2] at h1
              exact h1
          case measure => simp [intOf]; omega
        · obtain ⟨M, hM⟩ : ∃ k, m + tl = k + 1 := ⟨m + tl - 1, by omega⟩
          have htb0 : ((tl : Int) == 0) = false := by simp; omega
          have htn : 0 < tl := by omega
          obtain ⟨g3, rfl⟩ := own_some (show v3.ownsRow Bs 53 5 (.slice g2 (m + tl) d2) (l ++ ts).length (turnsX (l ++ ts)) from HTV.out.at_.log) (by rw [List.length_append, HTL.out]; omega)
          obtain ⟨d3, hd3⟩ : ∃ k, d2 = k := ⟨_, rfl⟩
          obtain ⟨T0, t, ht⟩ : ∃ T0 t, ts = T0 ++ [t] := by
            rcases List.eq_nil_or_concat ts with h | ⟨T0, t, h⟩
            · have := HTL.out; rw [h] at this; exact absurd this.symm ht0
            · exact ⟨T0, t, by rw [h, List.concat_eq_append]⟩
          obtain ⟨L0, hL0⟩ : ∃ k, l ++ T0 = k := ⟨_, rfl⟩
          have HTT := Lib.hid (show TailAt B bt Bs rb T w r (.slice (some ⟨g, 0, none⟩) n sc) (.slice (some ⟨g3, 0, none⟩) (M + 1) d3) (L0 ++ [t]) r1 (.slice a1 n1 c1) v3 from by
            have h1 := HTV.out
            rw [hM, hd3, ht, ← List.append_assoc, hL0] at h1
            exact h1)
          have HML := Lib.hid (show M = L0.length by rw [← hL0, List.length_append, ← HM.out]; have h1 := HTL.out; rw [ht, List.length_append, List.length_singleton] at h1; omega)
          have HLL := Lib.hid (show l ++ preT s ts = L0 ++ [t] by unfold preT; rw [if_neg (by rw [ht]; simp), ht, ← List.append_assoc, hL0])
          rw [hM, hd3]
          have hM2 : M ≤ 804 := by omega
          clear hM hL0 ht hd3 ht0
          go_wp2_with fail
          refine (next_any HTT.out.at_.tape 8 (by omega)).mono ?_
          rintro e wa ⟨p, p1, p2, rfl, tpa, bpa⟩
          have HTA := Lib.hid (HTT.out.next hbr hrB tpa bpa)
          clear tpa bpa
          go_wp2_with fail
          refine (next_any HTA.out.at_.tape 9 (by omega)).mono ?_
          rintro e wb ⟨q, q1, q2, rfl, tpa, bpa⟩
          have HTB := Lib.hid (HTA.out.next hbr hrB tpa bpa)
          clear tpa bpa
          obtain ⟨fin, hfin⟩ : ∃ f, (q == 8) = f := ⟨_, rfl⟩
          obtain ⟨hfr, hg3, hlc⟩ := HTB.out.at_.log.lastCells HML.out
          have l2 := hlc 2 (by omega)
          have l3 := hlc 3 (by omega)
          have l4 := hlc 4 (by omega)
          simp only [turnC, List.getElem?_cons_zero, List.getElem?_cons_succ] at l2 l3 l4
          have hp8 : 1 ≤ 1 + p ∧ 1 + p ≤ 8 := by omega
          have HP8 := Lib.hid hp8
          clear hlc hp8
          go_upto_region 15 with (fail)
          have HTC := Lib.hid (HTB.out.last hbr hrB hw3 HML.out (1 + p) fin)
          obtain ⟨Z, hZ⟩ : ∃ Z, (((wb.setCell ⟨g3, M * 5 + 2, none⟩ (iv 1)).setCell ⟨g3, M * 5 + 3, none⟩ (iv (1 + p))).setCell ⟨g3, M * 5 + 4, none⟩ (.bool fin)) = Z := ⟨_, rfl⟩
          rw [hZ] at HTC
          rw [show (((wb.setCell ⟨g3, M * 5 + 2, none⟩ (.int .i64 1)).setCell ⟨g3, M * 5 + 3, none⟩ (.int .i64 (1 + p))).setCell ⟨g3, M * 5 + 4, none⟩ (.bool fin)) = Z from hZ]
          clear hZ l2 l3 l4 hfr hg3
          have HBT := Lib.hid HTC.out.blk
          rw [HAT1.out, HOP1.out] at HBT
          obtain ⟨x0, x1, x2, x3, x4⟩ := cells5 HBT.out
          have HRB5 := Lib.hid HTC.out.at_.rbk
          rw [HAT.out, HOP.out] at HRB5
          have hltZ : rb < Z.heap.size := lt_heap HRB5.out
          obtain ⟨at5, hat5⟩ : ∃ k, (spendR r1 s (1 + p) fin).at_ = k := ⟨_, rfl⟩
          obtain ⟨op5, hop5⟩ : ∃ k, (spendR r1 s (1 + p) fin).op = k := ⟨_, rfl⟩
          obtain ⟨ba5, hba5⟩ : ∃ k, (spendR r1 s (1 + p) fin).ba = k := ⟨_, rfl⟩
          obtain ⟨pe5, hpe5⟩ : ∃ k, (spendR r1 s (1 + p) fin).pe = k := ⟨_, rfl⟩
          have HRS := Lib.hid (show ∀ v, ringV (spendR r1 s (1 + p) fin) v = .agg #[iv ba5, iv pe5, v, iv at5, .bool op5] from fun v => by unfold ringV; rw [hat5, hop5, hba5, hpe5])
          have HE5 := Lib.hid (And.intro hat5 (And.intro hop5 (And.intro hba5 hpe5)))
          have HSP := Lib.hid (show Calls Try.prog 19 #[.agg #[iv r1.ba, iv r1.pe, .slice a1 n1 c1, iv at1, .bool true], iv (1 + p), .bool fin] Z (SpendQ Bs (spendR r1 s (1 + p) fin) Z) from by
            rw [← HR1.out]
            exact spend_any r1 s Z _ (1 + p) fin (by rw [← HBR.out]; exact hltZ) (by omega) HTC.out.own (HPI.out.facts HF.out.ok).1 HOP1.out HS1.out HP8.out.1 HP8.out.2)
          clear hat5 hop5 hba5 hpe5
          go_wp2_with (go_at_call 19; refine HSP.out.mono ?_; rintro e w5 ⟨v5, b5, rfl, own5, bl5⟩; rw [HRS.out]; (obtain ⟨a5, m5, c5, rfl⟩ := own5.slice); have OW5 := Lib.hid own5; have HL5 := Lib.hid (HTC.out.at_.below bl5); clear own5 bl5 x0 x1 x2 x3 x4; have HRB6 := Lib.hid HL5.out.rbk; rw [HAT.out, HOP.out] at HRB6; obtain ⟨x0, x1, x2, x3, x4⟩ := cells5 HRB6.out; have fx := (lies_cells HRB6.out).2)
          go_roundw
          case rel =>
            refine ⟨i + 1, spendR r1 s (1 + p) fin, .slice a5 m5 c5, L0 ++ [⟨t.q, t.qu, 1, 1 + p, fin⟩], nx, some ⟨g3, 0, none⟩, M + 1, d3, by omega, by go_num, rfl, rfl, Lib.hid (by rw [List.length_append, List.length_singleton, HML.out]), ?_, ?_⟩
            · have h1 := LogI.turn HI.out HPI.out HOP1.out HS1.out HP8.out.1 HP8.out.2 (fin := fin)
              rw [HLL.out, setLast_snoc] at h1
              exact h1
            · have h1 := HL5.out.ring hbr hrB hw3 OW5.out
              rw [HE5.out.1, HE5.out.2.1, HE5.out.2.2.1, HE5.out.2.2.2] at h1
              exact h1
          case measure => simp [intOf]; omega
end Go.Proofs.Ytbgoogjhgeoapaa
