/- Walks: flqref19.Pick, at a valid ring that has a seat. Printed by wip/gen_aug6.py. -/
import Derived.Test.YtbgoogjhgeoapaaAuRp
set_option linter.unusedVariables false
set_option linter.unusedSimpArgs false
set_option linter.unusedSectionVars false
namespace Go.Proofs.Ytbgoogjhgeoapaa
open Go.RowKit
variable [Base]

theorem info_turn : (Try.prog.info? 53).map (fun i => (i.zero, i.size, i.bytes)) = some (some (Value.agg #[.int .i64 0, .int .i64 0, .int .i64 0, .int .i64 0, .bool false]), 5, 40) := by kernel_rfl
abbrev turnsX (l : List TV) : List Value := (l.map turnC).flatten
theorem turnsX_len (l : List TV) : (turnsX l).length = l.length * 5 := by rw [flatten_len 5 _ (turnC_len l), List.length_map]
theorem turnsX_oc (l : List TV) : (turnsX l).all Value.oneCell' = true := by
  rw [List.all_eq_true]
  intro x hx
  obtain ⟨y, hy, hx⟩ := List.mem_flatten.1 hx
  obtain ⟨s, _, rfl⟩ := List.mem_map.1 hy
  simp only [turnC, List.mem_cons, List.not_mem_nil, or_false] at hx
  rcases hx with rfl | rfl | rfl | rfl | rfl <;> rfl
theorem turnsX_app (a b : List TV) : turnsX (a ++ b) = turnsX a ++ turnsX b := by simp [turnsX]
/-- A log, owned. -/
def OwnT (B : Nat) (w : World) (v : Value) (l : List TV) : Prop := w.ownsRow B 53 5 v l.length (turnsX l)
theorem OwnT.turns {B : Nat} {w : World} {v : Value} {l : List TV} (h : OwnT B w v l) : TurnsAt w v l := SliceAt.of_owns h
theorem own_same {w w' : World} {B : Nat} {e : TypeId} {size : Nat} {v : Value} {n : Nat} {xs : List Value} (h : w.ownsRow B e size v n xs) (hs : SameT e w w') : w'.ownsRow B e size v n xs := by
  obtain ⟨h1, h2⟩ := h
  refine ⟨h1, ?_⟩
  rcases h2 with h2 | ⟨g, cap, cur, e1, e2, e3, e4⟩
  · exact .inl h2
  · exact .inr ⟨g, cap, cur, e1, e2, hs.own e3, e4⟩
theorem own_some {w : World} {B : Nat} {e : TypeId} {size : Nat} {a : Option Addr} {m c : Nat} {n : Nat} {xs : List Value} (h : w.ownsRow B e size (.slice a m c) n xs) (hn : 0 < n) : ∃ g, a = some ⟨g, 0, none⟩ := by
  rcases h.2 with ⟨_, h2⟩ | ⟨g, cap, cur, e1, _⟩
  · omega
  · injection e1 with e1
    exact ⟨g, e1⟩
/-- What stands in memory between Pick's rounds. -/
structure PickAt (Bs : Nat) (w0 : World) (rb : Nat) (r : RV) (g n c : Nat) (tv : Value) (ts : List TV) (x : World) : Prop where
  rbk : x.heap[rb]? = some (.cells #[iv r.ba, iv r.pe, .slice (some ⟨g, 0, none⟩) n c, iv r.at_, .bool r.op] 44 (0, 0))
  z : x.heap[rb + 1]? = some (.cells #[iv 0, iv 0, .slice none 0 0, iv 0, .bool false] 44 (0, 0))
  own : OwnS Bs x (.slice (some ⟨g, 0, none⟩) n c) r.ss
  tur : OwnT Bs x tv ts
  bel : Below w0.heap.size w0 x
theorem own_apart {w : World} {B : Nat} {e1 e2 : TypeId} {s1 s2 g n c m : Nat} {v : Value} {xs ys : List Value} (h1 : w.ownsRow B e1 s1 (.slice (some ⟨g, 0, none⟩) n c) n xs) (h2 : w.ownsRow B e2 s2 v m ys) (hne : e1 ≠ e2) : v.ownBlock ≠ some g := by
  intro h
  rcases h2.2 with ⟨rfl, _⟩ | ⟨g2, cap, cur, rfl, _, e3, _⟩
  · cases h
  · obtain rfl : g2 = g := by simpa [Value.ownBlock] using h
    rcases h1.2 with ⟨h4, _⟩ | ⟨g', cap', cur', e4, _, e5, _⟩
    · cases h4
    · injection e4 with e4
      injection e4 with e4
      injection e4 with e4
      subst e4
      rw [e3] at e5
      injection e5 with e5
      injection e5 with _ e6
      exact hne e6.symm
theorem ST_ne_TT : (49 : TypeId) ≠ 53 := by decide
theorem RT_ne_TT : (44 : TypeId) ≠ 53 := by decide
/-- A turn is written. -/
theorem PickAt.push {Bs : Nat} {w0 : World} {rb : Nat} {r : RV} {g n c : Nat} {tv : Value} {ts : List TV} {x U v : World} (h : PickAt Bs w0 rb r g n c tv ts x) (hbB : Base.b ≤ Bs) (hbs : w0.heap.size ≤ Bs) (hU : Below x.heap.size x U) (hUs : Bs ≤ U.heap.size) {a : Option Addr} {d : Nat} {t : TV}
    (ho : v.ownsRow Bs 53 5 (.slice a (ts.length + 1) d) (ts.length + 1) (turnsX ts ++ turnC t)) (hg : U.grownBy v tv.ownBlock) : PickAt Bs w0 rb r g n c (.slice a (ts.length + 1) d) (ts ++ [t]) v := by
  have ht : U.ownsRow Bs 53 5 tv ts.length (turnsX ts) := own_below h.tur hU
  have s1 : SameT 49 U v := SameT.grown hg ht ST_ne_TT hbB
  have s2 : SameT 44 U v := SameT.grown hg ht RT_ne_TT hbB
  refine ⟨s2.own (lies_below h.rbk hU (lt_heap h.rbk)), s2.own (lies_below h.z hU (lt_heap h.z)), own_same (own_below h.own hU) s1, ?_, ?_⟩
  · show v.ownsRow Bs 53 5 _ (ts ++ [t]).length (turnsX (ts ++ [t]))
    rw [List.length_append, List.length_singleton, turnsX_app]
    have e : turnsX [t] = turnC t := by simp [turnsX]
    rw [e]
    exact ho
  · have h1 : Below w0.heap.size w0 U := h.bel.trans (hU.mono h.bel.size)
    exact h1.trans ((Below.of_grown hg ht hUs).mono hbs)
/-- The seat's deficit and the ring's mark are stored. -/
theorem PickAt.opens {Bs : Nat} {w0 : World} {rb : Nat} {r : RV} {g n c : Nat} {tv : Value} {ts : List TV} {v : World} (h : PickAt Bs w0 rb r g n c tv ts v) (hrb : w0.heap.size = rb) (hb : rb + 1 < Bs) (hgB : Bs ≤ g) (hn : r.ss.length = n) {s : SV} (hs : r.ss[r.at_]? = some s) (q : Int) :
    PickAt Bs w0 rb (openR r s q) g n c tv ts ((v.setCell ⟨g, r.at_ * 4 + 3, none⟩ (iv (s.df + q))).setCell ⟨rb, 4, none⟩ (.bool true)) := by
  have hgr : rb ≠ g := by omega
  have hgr1 : rb + 1 ≠ g := by omega
  have e1 : (v.setCell ⟨g, r.at_ * 4 + 3, none⟩ (iv (s.df + q))).heap[rb]? = some (.cells #[iv r.ba, iv r.pe, .slice (some ⟨g, 0, none⟩) n c, iv r.at_, .bool r.op] 44 (0, 0)) := by rw [Below.heap_setCell _ _ _ _ hgr]; exact h.rbk
  have hown := h.own
  unfold OwnS at hown
  rw [hn] at hown
  refine ⟨set_cells e1, ?_, ?_, ?_, ?_⟩
  · rw [Below.heap_setCell _ _ _ _ (by show rb + 1 ≠ rb; omega), Below.heap_setCell _ _ _ _ hgr1]; exact h.z
  · unfold OwnS openR
    simp only [List.length_set]
    rw [hn]
    have o1 := own_set hown (j := r.at_ * 4 + 3) (iv (s.df + q))
    rw [seatsX_set (s' := upS s q) r.ss r.at_ 3 s (iv (s.df + q)) hs rfl (by omega)] at o1
    exact own_keep o1 fun k _ hk2 => Below.heap_setCell _ _ _ _ (by show k ≠ rb; omega)
  · have hne := own_apart hown h.tur ST_ne_TT
    exact own_keep (own_but h.tur ((But.refl g v).setCell ⟨g, _, none⟩ (.inl rfl) _) hne) fun k _ hk2 => Below.heap_setCell _ _ _ _ (by show k ≠ rb; omega)
  · exact (h.bel.setCell (by show w0.heap.size ≤ g; omega) _).setCell (by show w0.heap.size ≤ rb; omega) _
/-- The ring that over answers is stored. -/
theorem PickAt.over {Bs : Nat} {w0 : World} {rb : Nat} {r r' : RV} {g n c : Nat} {tv : Value} {ts : List TV} {v x : World} (h : PickAt Bs w0 rb r g n c tv ts v) (hrb : w0.heap.size = rb) (hb : rb + 1 < Bs) (hgB : Bs ≤ g) (hn : r.ss.length = n)
    (ho : OwnS Bs x (.slice (some ⟨g, 0, none⟩) n c) r'.ss) (hB : But g v x) : PickAt Bs w0 rb r' g n c tv ts (((((x.setCell ⟨rb, 0, none⟩ (iv r'.ba)).setCell ⟨rb, 1, none⟩ (iv r'.pe)).setCell ⟨rb, 2, none⟩ (.slice (some ⟨g, 0, none⟩) n c)).setCell ⟨rb, 3, none⟩ (iv r'.at_)).setCell ⟨rb, 4, none⟩ (.bool r'.op)) := by
  have hgr : rb ≠ g := by omega
  have hgr1 : rb + 1 ≠ g := by omega
  have hown := h.own
  unfold OwnS at hown
  rw [hn] at hown
  have hne := own_apart hown h.tur ST_ne_TT
  have e0 : x.heap[rb]? = _ := (hB.block rb (lt_heap h.rbk) hgr).trans h.rbk
  have e1 := set_cells (o := 4) (u := .bool r'.op) (set_cells (o := 3) (u := iv r'.at_) (set_cells (o := 2) (u := .slice (some ⟨g, 0, none⟩) n c) (set_cells (o := 1) (u := iv r'.pe) (set_cells (o := 0) (u := iv r'.ba) e0))))
  have hk : ∀ q, q ≠ rb → (((((x.setCell ⟨rb, 0, none⟩ (iv r'.ba)).setCell ⟨rb, 1, none⟩ (iv r'.pe)).setCell ⟨rb, 2, none⟩ (.slice (some ⟨g, 0, none⟩) n c)).setCell ⟨rb, 3, none⟩ (iv r'.at_)).setCell ⟨rb, 4, none⟩ (.bool r'.op)).heap[q]? = x.heap[q]? := fun q hq => by
    rw [Below.heap_setCell _ _ _ _ (by exact hq), Below.heap_setCell _ _ _ _ (by exact hq), Below.heap_setCell _ _ _ _ (by exact hq), Below.heap_setCell _ _ _ _ (by exact hq), Below.heap_setCell _ _ _ _ (by exact hq)]
  have hb1 : Below w0.heap.size w0 x := h.bel.trans (hB.toBelow (by omega) h.bel.size)
  refine ⟨e1, (hk _ (by omega)).trans ((hB.block (rb + 1) (lt_heap h.z) hgr1).trans h.z), own_keep ho fun q _ hq => hk q (by omega), own_keep (own_but h.tur hB hne) fun q _ hq => hk q (by omega), ?_⟩
  exact ((((hb1.setCell (by show w0.heap.size ≤ rb; omega) _).setCell (by show w0.heap.size ≤ rb; omega) _).setCell (by show w0.heap.size ≤ rb; omega) _).setCell (by show w0.heap.size ≤ rb; omega) _).setCell (by show w0.heap.size ≤ rb; omega) _
theorem fin_keep {v F : World} {rb : Nat} {y0 y1 y2 y3 y4 : Value} (hF : F = (((((v.setCell ⟨rb + 1, 0, none⟩ y0).setCell ⟨rb + 1, 1, none⟩ y1).setCell ⟨rb + 1, 2, none⟩ y2).setCell ⟨rb + 1, 3, none⟩ y3).setCell ⟨rb + 1, 4, none⟩ y4)) : ∀ q, q ≠ rb + 1 → F.heap[q]? = v.heap[q]? := by
  intro q hq
  subst hF
  rw [Below.heap_setCell _ _ _ _ (by exact hq), Below.heap_setCell _ _ _ _ (by exact hq), Below.heap_setCell _ _ _ _ (by exact hq), Below.heap_setCell _ _ _ _ (by exact hq), Below.heap_setCell _ _ _ _ (by exact hq)]
/-- Pick's answer. -/
def PickQ (B : Nat) (r : RV) (w : World) (e : Ending) (w' : World) : Prop := ∃ r1 ts s v' tv, PickI r r1 ts ∧ r1.op = true ∧ r1.ss[r1.at_]? = some s ∧ e = .returned (.tuple #[ringV r1 v', iv s.id, tv, .bool true]) ∧ OwnS B w' v' r1.ss ∧ OwnT B w' tv ts ∧ Below w.heap.size w w'
def lenOfT : Value → Nat | .slice _ n _ => n | _ => 0
theorem rquantum_eq {ba p ag pe r : Int} (h : qf ba p ag pe = r) (w : World) : Calls Try.prog 31 #[iv ba, iv p, iv ag, iv pe] w fun e w' => e = .returned (iv r) ∧ w' = w := h ▸ rquantum_any ba p ag pe w
set_option maxRecDepth 100000 in
set_option maxHeartbeats 4000000 in
theorem pick_any {B : Nat} (r : RV) (w : World) (g0 n c0 : Nat) (hB : B ≤ w.heap.size) (hbB : Base.b ≤ B) (hl : r.ss.length = n) (hn0 : 0 < n) (hown : OwnS B w (.slice (some ⟨g0, 0, none⟩) n c0) r.ss) (hr : RingOk r) :
    Calls Try.prog 18 #[ringV r (.slice (some ⟨g0, 0, none⟩) n c0)] w (PickQ B r w) := by
  have hx := hown.seats
  have HX := Lib.hid hx
  have HR := Lib.hid hr
  have HL := Lib.hid hl
  have HBB := Lib.hid hB
  have hn16 : n ≤ 16 := by rw [← hl]; exact hr.len
  obtain ⟨at0, hat⟩ : ∃ a, r.at_ = a := ⟨_, rfl⟩
  obtain ⟨op0, hop⟩ : ∃ a, r.op = a := ⟨_, rfl⟩
  have HRV : ∀ v, ringV r v = .agg #[iv r.ba, iv r.pe, v, iv at0, .bool op0] := fun v => by unfold ringV; rw [hop, hat]
  rw [HRV]
  have HVR := Lib.hid (show ∀ w', SeatsAt w' (.slice (some ⟨g0, 0, none⟩) n c0) r.ss → Calls Try.prog 29 #[.agg #[iv r.ba, iv r.pe, (.slice (some ⟨g0, 0, none⟩) n c0), iv at0, .bool op0]] w' (BoolQ true w') from fun w' h' => by rw [← HRV]; exact vring_any r _ w' h' HR.out)
  obtain ⟨W, hW⟩ : ∃ W, (w.alloc (.cells #[iv r.ba, iv r.pe, (.slice (some ⟨g0, 0, none⟩) n c0), iv at0, .bool op0] 44)).alloc (.cells #[iv 0, iv 0, .slice none 0 0, iv 0, .bool false] 44) = W := ⟨_, rfl⟩
  obtain ⟨rb, hrb⟩ : ∃ b, w.heap.size = b := ⟨_, rfl⟩
  have HB := Lib.hid (show W.heap[rb]? = some (.cells #[iv r.ba, iv r.pe, (.slice (some ⟨g0, 0, none⟩) n c0), iv at0, .bool op0] 44 (0, 0)) by rw [← hW, ← hrb]; exact lies_alloc _ (heap_alloc_new _ _))
  have HZ := Lib.hid (show W.heap[rb + 1]? = some (.cells #[iv 0, iv 0, .slice none 0 0, iv 0, .bool false] 44 (0, 0)) by rw [← hW, ← hrb]; exact lies_new2 _ _)
  have BW := Lib.hid (show Below w.heap.size w W by rw [← hW]; exact ((Below.refl _ _).alloc (Nat.le_refl _) _).alloc (by simp) _)
  have HW := Lib.hid hW
  have HRB := Lib.hid hrb
  have HAT := Lib.hid hat
  have HOP := Lib.hid hop
  have hud : ∀ b : Bool, (undef = Value.bool b) = False := fun b => by simp [undef]
  have hnz : ((n : Int) == 0) = false := by simp; omega
  have LX := Lib.hid (show (seatsX r.ss).length = n * 4 by rw [seatsX_len, hl])
  clear hx hown hr hl hop hat HRV hW hB
  go_enter Try.func18, Try.ntmps18
  go_wp2_with fail
  rw [show (w.alloc (.cells #[iv r.ba, iv r.pe, (.slice (some ⟨g0, 0, none⟩) n c0), iv at0, .bool op0] 44)).alloc (.cells #[iv 0, iv 0, .slice none 0 0, iv 0, .bool false] 44) = W from HW.out]
  try rw [HRB.out]
  obtain ⟨x0, x1, x2, x3, x4⟩ := cells5 HB.out
  clear hrb
  go_wp2_with first
    | (go_at_call 29; refine (HVR.out _ (HX.out.below BW.out)).mono ?_; rintro e w1 ⟨rfl, b1⟩; have B1 := Lib.hid b1; clear b1 x0 x1 x2 x3 x4; have HB1 := Lib.hid (lies_below HB.out B1.out (lt_heap HB.out)); have HZ1 := Lib.hid (lies_below HZ.out B1.out (lt_heap HZ.out)); obtain ⟨x0, x1, x2, x3, x4⟩ := cells5 HB1.out; have hlrz : rb + 1 < w1.heap.size := lt_heap HZ1.out; have hlrb : rb < w1.heap.size := lt_heap HB1.out; have BW1 := Lib.hid (show Below w.heap.size w w1 from BW.out.trans (B1.out.mono BW.out.size)))
    | (at_builtin; refine wpList_append_sl rfl _ _ 42 rfl w1.heap.size 49 _ 4 32 Try.underlying42 info_seat rfl (by decide) _ 0 [] (own_empty (w := w1) (by simp)) rfl (.slice (some ⟨g0, 0, none⟩) n c0) n (seatsX r.ss) rfl (SliceAt.same HX.out (SameT.below (BW1.out.alloc BW1.out.size _))) LX.out (seatsX_oc _) (by unfold maxLen; omega) (by omega) (by simp) ?_; intro g1 d1 v1 own1 gr1; (try simp only [Nat.zero_add, List.nil_append] at own1); have B3 := Lib.hid (show Below w1.heap.size w1 v1 from grown_below rfl gr1); (obtain ⟨g, rfl⟩ := own_some own1 hn0); have OW1 := Lib.hid own1; clear own1 gr1 x0 x1 x2 x3 x4; have HB3 := Lib.hid (lies_below HB1.out B3.out (lt_heap HB1.out)); have HZ3 := Lib.hid (lies_below HZ1.out B3.out (lt_heap HZ1.out)); obtain ⟨x0, x1, x2, x3, x4⟩ := cells5 HB3.out; have f2 := (lies_cells HB3.out).2 2)
  obtain ⟨Bs, hbs⟩ : ∃ b, w1.heap.size = b := ⟨_, rfl⟩
  have HBS := Lib.hid hbs
  have hlb : rb + 1 < Bs := by omega
  have HP0 := Lib.hid (show PickAt Bs w rb r g n d1 (.slice none 0 0) [] (v1.setCell ⟨rb, 2, none⟩ (.slice (some ⟨g, 0, none⟩) n d1)) from by
    have e1 := set_cells (o := 2) (u := .slice (some ⟨g, 0, none⟩) n d1) HB3.out
    refine ⟨by rw [e1, HAT.out, HOP.out]; rfl, by rw [Below.heap_setCell _ _ _ _ (by show rb + 1 ≠ rb; omega)]; exact HZ3.out, ?_, ⟨rfl, .inl ⟨rfl, rfl⟩⟩, ?_⟩
    · refine own_keep (show v1.ownsRow Bs 49 4 (.slice (some ⟨g, 0, none⟩) n d1) r.ss.length (seatsX r.ss) from by rw [HL.out, ← hbs]; exact OW1.out) fun q _ hq2 => Below.heap_setCell _ _ _ _ (by show q ≠ rb; omega)
    · exact (BW1.out.trans (B3.out.mono BW1.out.size)).setCell (by show w.heap.size ≤ rb; rw [HRB.out]; exact Nat.le_refl _) _)
  clear hbs hlrz x0 x1 x2 x3 x4 f2
  go_loopw [6] (fun y6 wr => ∃ (r1 : RV) (ts : List TV) (a : Option Addr) (m ct : Nat), y6 = .slice a m ct ∧ Hid (m = ts.length) ∧ Hid (PickI r r1 ts) ∧ Hid (PickAt Bs w rb r1 g n d1 (.slice a m ct) ts wr)) (fun y _ => 200 - lenOfT y)
  case atStart => exact ⟨r, [], none, 0, 0, rfl, rfl, .start, HP0.out⟩
  case round =>
    obtain ⟨r1, ts, a, m, ct, rfl, HM, HPI, HPA⟩ := hrel
    have hf := HPI.out.facts HR.out
    have HRO := Lib.hid hf.1
    have hts : m ≤ 113 := by have h1 := hf.2.2.2.2.2.2; have h2 := lackS_le HR.out.lows; have h3 := HL.out; have h4 := HM.out; omega
    have hl1 : r1.ss.length = n := hf.2.2.2.1.trans HL.out
    have HF := Lib.hid hf
    have hat1 : r1.at_ < n := by rcases HRO.out.at_ with h1 | ⟨_, h1⟩; rwa [hl1] at h1; omega
    obtain ⟨s, hs⟩ : ∃ s, r1.ss[r1.at_]? = some s := ⟨_, List.getElem?_eq_getElem (by omega)⟩
    have hform := HPA.out.own.form
    obtain ⟨hgB, hglt, hnc, hcs⟩ : Bs ≤ g ∧ g < wr.heap.size ∧ (∀ o, wr.frozen? ⟨g, o, none⟩ = false) ∧ ∀ j, j < 4 → wr.cell? ⟨g, r1.at_ * 4 + j, none⟩ = (seatC s)[j]? := ⟨hform.2.1, hform.2.2.1, hform.2.2.2.2.2.1, fun j hj => hform.2.2.2.2.2.2 _ s hs j hj⟩
    have g0c := hcs 0 (by omega)
    have g1c := hcs 1 (by omega)
    have g2c := hcs 2 (by omega)
    have g3c := hcs 3 (by omega)
    simp only [seatC, List.getElem?_cons_zero, List.getElem?_cons_succ, Nat.add_zero] at g0c g1c g2c g3c
    have gf := hnc (r1.at_ * 4 + 3)
    have HS := Lib.hid hs
    have HL1 := Lib.hid hl1
    obtain ⟨x0, x1, x2, x3, x4⟩ := cells5 HPA.out.rbk
    have fx := (lies_cells HPA.out.rbk).2
    have hlow := fun h : r1.op = false => HRO.out.low hs (.inl h)
    have hhigh := fun h : r1.op = true => HRO.out.high hs h
    obtain ⟨at1, hat⟩ : ∃ a, r1.at_ = a := ⟨_, rfl⟩
    rw [hat] at x3 g0c g1c g2c g3c gf hat1
    have HAT1 := Lib.hid hat
    have i1 : (0 : Int) ≤ (at1 : Int) := Int.natCast_nonneg _
    have i2 : (at1 : Int) < (n : Int) := Int.ofNat_lt.2 hat1
    have hgr : g ≠ rb := by omega
    have hgr2 : g ≠ rb + 1 := by omega
    have hgr3 : rb + 1 ≠ g := by omega
    have hgr4 : rb ≠ g := by omega
    clear hf hform hcs hnc hs hl1 hat
    cases ho : r1.op with
    | true =>
      rw [ho] at x4
      have HO := Lib.hid ho
      clear hlow hhigh ho
      go_upto_region 13 with (fail)
      obtain ⟨z0, z1, z2, z3, z4⟩ := cells5 HPA.out.z
      have fz := (lies_cells HPA.out.z).2
      have hrz : rb ≠ rb + 1 := Nat.ne_of_lt (Nat.lt_succ_self rb)
      go_region_held3 (fun w' => w'.cell? ⟨rb, 0, none⟩ = some (iv r1.ba) ∧ w'.cell? ⟨rb, 1, none⟩ = some (iv r1.pe) ∧ w'.cell? ⟨rb, 2, none⟩ = some (.slice (some ⟨g, 0, none⟩) n d1) ∧ w'.cell? ⟨rb, 3, none⟩ = some (iv at1) ∧ w'.cell? ⟨rb, 4, none⟩ = some (.bool true) ∧ w'.cell? ⟨g, at1 * 4, none⟩ = some (iv s.id)) (go_keep) (fail)
      go_wp2
      show bodyPost _ _ _ _ _ (World.drew (((((wr.setCell ⟨rb + 1, 0, none⟩ (iv r1.ba)).setCell ⟨rb + 1, 1, none⟩ (iv r1.pe)).setCell ⟨rb + 1, 2, none⟩ (.slice (some ⟨g, 0, none⟩) n d1)).setCell ⟨rb + 1, 3, none⟩ (iv (at1 : Nat))).setCell ⟨rb + 1, 4, none⟩ (.bool true)))
      obtain ⟨F, hF⟩ : ∃ F, (((((wr.setCell ⟨rb + 1, 0, none⟩ (iv r1.ba)).setCell ⟨rb + 1, 1, none⟩ (iv r1.pe)).setCell ⟨rb + 1, 2, none⟩ (.slice (some ⟨g, 0, none⟩) n d1)).setCell ⟨rb + 1, 3, none⟩ (iv (at1 : Nat))).setCell ⟨rb + 1, 4, none⟩ (.bool true)) = F := ⟨_, rfl⟩
      rw [hF]
      have HFF := Lib.hid (Good.fin (B := B) (Good.mk HPA.out.z HPA.out.own HPA.out.bel) HRB.out hlb HBB.out hF.symm)
      have HK := Lib.hid (fin_keep hF.symm)
      clear hF
      have hFd : F.drew.heap[rb + 1]? = _ := HFF.out.1
      obtain ⟨f0, f1, f2, f3, f4⟩ := cells5 hFd
      have HRG : ringV r1 (.slice (some ⟨g, 0, none⟩) n d1) = .agg #[iv r1.ba, iv r1.pe, .slice (some ⟨g, 0, none⟩) n d1, iv at1, .bool true] := by unfold ringV; rw [HAT1.out, HO.out]
      refine bodyPost_ret (v := .tuple #[ringV r1 (.slice (some ⟨g, 0, none⟩) n d1), iv s.id, .slice a m ct, .bool true]) (by rw [HRG]; simp [results, Try.results18, go_sem, f0, f1, f2, f3, f4]) rfl ?_
      refine ⟨r1, ts, s, _, _, HPI.out, HO.out, HS.out, rfl, ?_, ?_, ?_⟩
      · exact HFF.out.2.1
      · exact own_base (own_keep HPA.out.tur fun q _ hq => HK.out q (by omega)) (by have h1 := HBB.out; have h2 := HRB.out; omega)
      · exact ⟨HFF.out.2.2.os, HFF.out.2.2.tape, HFF.out.2.2.output, HFF.out.2.2.size, HFF.out.2.2.block⟩
    | false =>
      rw [ho] at x4
      have HO := Lib.hid ho
      obtain ⟨q, hq⟩ : ∃ q, qfR r1 s = q := ⟨_, rfl⟩
      obtain ⟨d1l, d1h⟩ := hlow ho
      have hqr : 1 ≤ q ∧ q ≤ 64 := by rw [← hq]; exact qf_range _ _ _ _
      obtain ⟨hq1, hq2⟩ := hqr
      have HQ := Lib.hid hq
      clear hlow hhigh ho hq
      obtain ⟨U, hU⟩ : ∃ U, wr.alloc (.cells #[iv s.id, iv s.pri, iv s.age, iv s.df] 49) = U := ⟨_, rfl⟩
      have HSU := Lib.hid (show U.heap[wr.heap.size]? = some (.cells #[iv s.id, iv s.pri, iv s.age, iv s.df] 49 (0, 0)) by rw [← hU]; exact heap_alloc_new _ _)
      have BU := Lib.hid (show Below wr.heap.size wr U by rw [← hU]; exact (Below.refl _ _).alloc (Nat.le_refl _) _)
      have HUU := Lib.hid hU
      obtain ⟨u0, u1, u2, u3⟩ := cells4 HSU.out
      have HRU := Lib.hid (lies_below HPA.out.rbk BU.out (lt_heap HPA.out.rbk))
      rw [HO.out, HAT1.out] at HRU
      obtain ⟨y0, y1, y2, y3, y4⟩ := cells5 HRU.out
      obtain ⟨sz, hsz⟩ : ∃ z, wr.heap.size = z := ⟨_, rfl⟩
      have HSZ := Lib.hid hsz
      have hgsz : g < sz := by omega
      have hrsz : rb < sz := by rw [← hsz]; exact lt_heap HPA.out.rbk
      rw [hsz] at HSU u0 u1 u2 u3
      clear hU hsz hglt
      go_upto_region 7 with (fail)
      rw [show wr.alloc (.cells #[iv s.id, iv s.pri, iv s.age, iv s.df] 49) = U from HUU.out]
      rw [HSZ.out]
      clear x0 x1 x2 x3 x4 fx
      have hb2 := HBB.out
      have hb3 : Bs ≤ U.heap.size := by have h1 := BU.out.size; have h2 := HSZ.out; omega
      have HBU := Lib.hid hb3
      have HBsB := Lib.hid (show Base.b ≤ Bs by have := HRB.out; omega)
      have HwB := Lib.hid (show w.heap.size ≤ Bs by have := HRB.out; omega)
      have HTU := Lib.hid (show U.ownsRow Bs 53 5 (.slice a m ct) m (turnsX ts) by have h1 := own_below HPA.out.tur BU.out; rw [← HM.out] at h1; exact h1)
      have HQE := Lib.hid (show qf r1.ba s.pri s.age r1.pe = q from HQ.out)
      clear hb2 hb3 hnz
      go_upto_region 9 with (first
        | (go_at_call 31; refine (rquantum_eq HQE.out _).mono ?_; rintro e w2 ⟨rfl, rfl⟩)
        | (at_builtin; refine wpList_pushH [iv s.id, iv q, iv 0, iv 0, .bool false] rfl _ _ 28 rfl Bs 53 _ 5 40 Try.underlying28 info_turn rfl (by decide) _ m _ HTU.out rfl _ rfl rfl rfl rfl (by unfold maxLen; omega) (by omega) HBU.out ?_; intro g2 d2 v2 own2 gr2 q1 q2; have OW2 := Lib.hid own2; have GR2 := Lib.hid gr2; clear own2 gr2 q1 q2 u0 u1 u2 u3 y0 y1 y2 y3 y4))
      have HPB := Lib.hid (show PickAt Bs w rb r1 g n d1 (.slice (some ⟨g2, 0, none⟩) (m + 1) d2) (ts ++ [turnOf s q]) v2 from by
        have h1 := PickAt.push HPA.out HBsB.out HwB.out BU.out HBU.out (v := v2) (a := some ⟨g2, 0, none⟩) (d := d2) (t := turnOf s q) (by rw [← HM.out]; exact OW2.out) (by exact GR2.out)
        rw [← HM.out] at h1; exact h1)
      have HPO := Lib.hid (show PickAt Bs w rb (openR r1 s q) g n d1 (.slice (some ⟨g2, 0, none⟩) (m + 1) d2) (ts ++ [turnOf s q]) ((v2.setCell ⟨g, at1 * 4 + 3, none⟩ (iv (s.df + q))).setCell ⟨rb, 4, none⟩ (.bool true)) from by
        have h1 := HPB.out.opens HRB.out hlb hgB HL1.out HS.out q
        rw [HAT1.out] at h1; exact h1)
      have HB2 := Lib.hid HPB.out.rbk
      rw [HAT1.out, HO.out] at HB2
      obtain ⟨y0, y1, y2, y3, y4⟩ := cells5 HB2.out
      have fy := (lies_cells HB2.out).2 4
      have hform := HPB.out.own.form
      have gc : v2.cell? ⟨g, at1 * 4 + 3, none⟩ = some (iv s.df) := by have h1 := hform.2.2.2.2.2.2 _ s HS.out 3 (by omega); rw [HAT1.out] at h1; exact h1
      have gf2 := hform.2.2.2.2.2.1 (at1 * 4 + 3)
      clear hform gf g0c g1c g2c g3c
      by_cases hpos : s.df + q ≤ 0
      · obtain ⟨at2, hat2⟩ : ∃ a, (closeR r1 s q).at_ = a := ⟨_, rfl⟩
        have HRC := Lib.hid (show ringV (closeR r1 s q) (.slice (some ⟨g, 0, none⟩) n d1) = .agg #[iv r1.ba, iv r1.pe, .slice (some ⟨g, 0, none⟩) n d1, iv at2, .bool false] by unfold ringV; rw [hat2]; rfl)
        have HAT2 := Lib.hid hat2
        have HOV := Lib.hid (show ∀ V, OwnS Bs V (.slice (some ⟨g, 0, none⟩) n d1) (openR r1 s q).ss → Calls Try.prog 32 #[.agg #[iv r1.ba, iv r1.pe, .slice (some ⟨g, 0, none⟩) n d1, iv at1, .bool true]] V (OverQ Bs (closeR r1 s q) (.slice (some ⟨g, 0, none⟩) n d1) g V) from fun V hV => by
          have h1 := over_any (openR r1 s q) (upS s q) V g n d1 hV (by show (r1.ss.set r1.at_ (upS s q))[r1.at_]? = some _; exact List.getElem?_set_self (by rw [HL1.out, HAT1.out]; exact hat1)) hn16
          have e : ringV (openR r1 s q) (.slice (some ⟨g, 0, none⟩) n d1) = .agg #[iv r1.ba, iv r1.pe, .slice (some ⟨g, 0, none⟩) n d1, iv at1, .bool true] := by unfold ringV openR; simp only []; rw [HAT1.out]
          rw [e] at h1
          exact h1)
        have HCL := Lib.hid (show PickI r (closeR r1 s q) (ts ++ [turnOf s q]) from by
          have h1 := PickI.close HPI.out HO.out HS.out (by rw [HQ.out]; exact hpos)
          rw [HQ.out] at h1; exact h1)
        clear hat2
        go_wp2_with (go_at_call 32; refine (HOV.out _ HPO.out.own).mono ?_; rintro e w3 ⟨rfl, own3, but3⟩; rw [HRC.out]; have OW3 := Lib.hid own3; have BT3 := Lib.hid but3; clear own3 but3 y0 y1 y2 y3 y4 fy gc gf2; have HB3 := Lib.hid ((BT3.out.block rb (lt_heap HPO.out.rbk) hgr4).trans HPO.out.rbk); obtain ⟨y0, y1, y2, y3, y4⟩ := cells5 HB3.out; have fy := (lies_cells HB3.out).2)
        go_roundw
        case rel =>
          refine ⟨closeR r1 s q, ts ++ [turnOf s q], some ⟨g2, 0, none⟩, m + 1, d2, rfl, ?_, HCL.out, ?_⟩
          · exact Lib.hid (by rw [List.length_append, List.length_singleton, HM.out])
          · have h1 := HPO.out.over HRB.out hlb hgB (by show (r1.ss.set _ _).length = n; rw [List.length_set]; exact HL1.out) OW3.out BT3.out
            rw [HAT2.out] at h1
            exact h1
        case measure => simp only [lenOfT]; omega
      · have HCL := Lib.hid (show PickI r (openR r1 s q) (ts ++ [turnOf s q]) from by
          have h1 := PickI.opens HPI.out HO.out HS.out (by rw [HQ.out]; omega)
          rw [HQ.out] at h1; exact h1)
        go_wp2
        go_roundw
        case rel =>
          refine ⟨openR r1 s q, ts ++ [turnOf s q], some ⟨g2, 0, none⟩, m + 1, d2, rfl, ?_, HCL.out, HPO.out⟩
          exact Lib.hid (by rw [List.length_append, List.length_singleton, HM.out])
        case measure => simp only [lenOfT]; omega
end Go.Proofs.Ytbgoogjhgeoapaa
